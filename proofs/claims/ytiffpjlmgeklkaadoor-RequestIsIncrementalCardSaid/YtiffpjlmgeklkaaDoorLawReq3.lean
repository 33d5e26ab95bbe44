/- The walk of RequestIsIncremental. -/
import Derived.Test.YtiffpjlmgeklkaaDoorLawReq
import Derived.Test.YtiffpjlmgeklkaaDoorReqE
import Derived.Test.YtiffpjlmgeklkaaDoorGenT
import Derived.Test.YtiffpjlmgeklkaaDoorLawRply2
namespace Go.Proofs.YtiffpjlmgeklkaaDoor
open Go.ChangeShapes Go.WideShapes Go.ChangeAt Go.RowKit

theorem encReq_some (c : Int) {t : Tgt} (h : okT t = true) : encReq c t = some (5 :: c :: 0 :: encT' t) := by unfold encReq; rw [if_pos h]
theorem encQ_len {c : Int} {t : Tgt} (hg : GoodT t) (h : okT t = true) : (strOfNums (5 :: c :: 0 :: encT' t)).size ≤ 300 := by
  rw [strOf_size]
  have := encT_len hg h
  simp only [List.length_cons]; omega
set_option maxRecDepth 100000 in
set_option maxHeartbeats 8000000 in
theorem requestIsIncremental_came {H : Type} {enc : TypeId × Value → H} (W : World) (args : Array Value) (ds : List (DataW H)) (_ : laidMetH Tryd.prog Rows.requestIsIncrementalRow.laid W) (h : Came enc Tryd.prog Tryd.f9 W args ds) :
    Calls Tryd.prog 9 args W fun e W' => e = .returned (.bool true) ∧ Below W.heap.size W W' := by
  obtain ⟨v0, v1, v2, v3, d0, d1, d2, d3, rfl, a0, a1, a2, a3⟩ := h.args4 rfl
  obtain ⟨A, len, cap, zs, rfl, hl, hc, hb, hr, hz⟩ := a0.ints Tryd.underlying34 Tryd.underlying5 (by kernel_rfl)
  obtain ⟨n, rfl, hn, hn'⟩ := a1.i64 Tryd.underlying3
  obtain ⟨code, rfl, hcw⟩ := a2.int Tryd.underlying5
  obtain ⟨right, rfl⟩ := a3.bool Tryd.underlying4
  obtain ⟨S, hS⟩ : ∃ S, strOfNums zs = S := ⟨_, rfl⟩
  have hcb : cap ≤ 140737488351232 := by
    have : Tryd.prog.bytesOf 5 = 1 := by kernel_rfl
    rw [this, Nat.mul_one] at hb; exact hb
  have hS1 : S.size ≤ 140737488351232 := by rw [← hS, strOf_size, hr.1]; omega
  clear h a0 a1 a2 a3 hz hb
  cases right
  · skip
    go_enter Tryd.func9, Tryd.ntmps9
    go_wp2_with (first
      | (refine wpList_strOf rfl 34 9 5 _ rfl Tryd.underlying34 Tryd.underlying5 Tryd.underlying9 A len cap W.heap.size zs rfl hr ?_; rw [hS])
      | (go_at_call 13; (with_reducible refine (genTarget _ _).mono ?_); rintro e w3 ⟨⟨u, rfl, hu, hok, hback⟩, C3⟩; have hns2 : u.1.size ≤ 255 := (by simp only [okT, Bool.and_eq_true, decide_eq_true_eq] at hok; exact hok.1.1.1); have q1 := refEncReq code u hu (by omega); rw [encReq_some code hok] at q1; have hR := encQ_len (c := code) hu hok; have Q1 : Hid (∀ w, Calls Tryd.prog 25 #[.int .u8 code, .agg (tgtC u).toArray] w fun e w' => e = .returned (.tuple #[.string (strOfNums (5 :: code :: 0 :: encT' u)), .bool true]) ∧ Ch [] w w') := q1; clear q1 hok hback)
      | (go_at_call 25; (with_reducible refine (Q1.out _).mono ?_); rintro e w4 ⟨rfl, C4⟩; clear Q1; generalize strOfNums (5 :: code :: 0 :: encT' u) = R at hR ⊢; have m1 : R.size + S.size ≤ maxLen := (by unfold maxLen; omega)))
    have CT := Ch.refl [] W
    have hZs : S.size ≤ 200000000000000 := by omega
    generalize S = Z at hZs ⊢
    have hpos : ∀ x ∈ numsOf Z, 0 ≤ x := fun x hx => (nums_bytes Z x hx).1
    obtain ⟨N, nn, st, hv, hall⟩ := req_take (numsOf Z) hpos
    rw [numsOf_length] at hall
    have HALL := hid hall
    clear hall hpos
    go_loopw [12, 13, 14] (fun was many i wr => ∃ k : Nat, i = .int .i64 k ∧ k ≤ Z.size + 1 ∧ k ≤ 60 ∧ (k ≤ N ∧ was = .int .i64 0 ∧ many = .int .i64 0 ∨ N < k ∧ was = .int .i64 st ∧ many = .int .i64 nn) ∧ Ch [] W wr) (fun _ _ i _ => 61 - (intOf i).toNat)
    case atStart => exact ⟨0, rfl, by omega, by omega, .inl ⟨by omega, rfl, rfl⟩, CT⟩
    case round =>
      obtain ⟨k, rfl, hk1, hk2, hwas, CC⟩ := hrel
      have hz := CC.size
      by_cases hks : k ≤ Z.size ∧ k < 60
      · obtain ⟨hks, hk60⟩ := hks
        have hkZ : (k : Int) ≤ Z.size := by omega
        have hp := reqP (Z.extract 0 k) (by rw [ByteArray.size_extract]; omega)
        have he : numsOf (Z.extract 0 k) = (numsOf Z).take k := by rw [nums_ext, List.drop_zero, Nat.sub_zero]
        rw [he] at hp
        have l2 := parseQ_tgt16 ((numsOf Z).take k)
        have hk3 := HALL.out k hks
        generalize parseQ ((numsOf Z).take k) = r at hp l2 hk3
        obtain ⟨t, c, m, s2⟩ := r
        have hp2 : ∀ w, Calls Tryd.prog 24 #[.string (Z.extract 0 k)] w fun e w' => e = .returned (.tuple #[.agg (tgtC t).toArray, .int .i64 c, .int .i64 m, .int .i64 s2]) ∧ Ch [] w w' := hp
        have HP := hid hp2
        have I2 := hid (tgt_inf l2)
        clear hp hp2 he
        have hk4 : m = (if k < N then (0, 0) else (nn, st)).1 ∧ s2 = (if k < N then (0, 0) else (nn, st)).2 := ⟨congrArg Prod.fst hk3, congrArg Prod.snd hk3⟩
        obtain ⟨hk5, hk6⟩ := hk4
        clear hk3
        rcases (show k < N ∨ k = N ∨ N < k by omega) with hkN | hkN | hkN
        · rw [if_pos hkN] at hk5 hk6
          obtain ⟨_, rfl, rfl⟩ : k ≤ N ∧ _ ∧ _ := by
            rcases hwas with h | h
            · exact h
            · omega
          have hk5' : m = 0 := hk5
          have hk6' : s2 = 0 := hk6
          subst hk5' hk6'
          clear hwas hk5 hk6
          go_wp2_with (first
            | (refine wpList_storeB rfl 26 _ _ rfl w6.heap.size 26 (tgtC tgt0) (tgtC t) rfl rfl (Blk.new _ _ _) I2.out ((tgt_len (t := tgt0) rfl).trans (tgt_len l2).symm) (tgt_one _) ?_; intro w7 B7 K7 Z7; have CE := ((CC.trans C6).alloc _).step K7 (fun i hi => .inr (by simp at hi; omega)))
            | (go_at_call 24; (with_reducible refine (HP.out _).mono ?_); rintro e w6 ⟨rfl, C6⟩; have z6 := (CC.trans C6).size))
          go_roundw
          case rel => exact ⟨k + 1, by go_num, by omega, by omega, .inl ⟨by omega, rfl, rfl⟩, CE⟩
          case measure => simp only [intOf]; omega
        · rw [if_neg (by omega)] at hk5 hk6
          obtain ⟨_, rfl, rfl⟩ : k ≤ N ∧ _ ∧ _ := by
            rcases hwas with h | h
            · exact h
            · omega
          rcases hv with ⟨rfl, rfl⟩ | ⟨rfl, rfl⟩
          · have hk5' : m = N := hk5
            have hk6' : s2 = 1 := hk6
            subst hkN
            subst hk5' hk6'
            clear hwas hk5 hk6
            go_wp2_with (first
              | (refine wpList_storeB rfl 26 _ _ rfl w6.heap.size 26 (tgtC tgt0) (tgtC t) rfl rfl (Blk.new _ _ _) I2.out ((tgt_len (t := tgt0) rfl).trans (tgt_len l2).symm) (tgt_one _) ?_; intro w7 B7 K7 Z7; have CE := ((CC.trans C6).alloc _).step K7 (fun i hi => .inr (by simp at hi; omega)))
              | (go_at_call 24; (with_reducible refine (HP.out _).mono ?_); rintro e w6 ⟨rfl, C6⟩; have z6 := (CC.trans C6).size))
            go_roundw
            case rel => exact ⟨k + 1, by go_num, by omega, by omega, .inr ⟨by omega, rfl, rfl⟩, CE⟩
            case measure => simp only [intOf]; omega
          · have hk5' : m = 0 := hk5
            have hk6' : s2 = 2 := hk6
            subst hkN
            subst hk5' hk6'
            clear hwas hk5 hk6
            go_wp2_with (first
              | (refine wpList_storeB rfl 26 _ _ rfl w6.heap.size 26 (tgtC tgt0) (tgtC t) rfl rfl (Blk.new _ _ _) I2.out ((tgt_len (t := tgt0) rfl).trans (tgt_len l2).symm) (tgt_one _) ?_; intro w7 B7 K7 Z7; have CE := ((CC.trans C6).alloc _).step K7 (fun i hi => .inr (by simp at hi; omega)))
              | (go_at_call 24; (with_reducible refine (HP.out _).mono ?_); rintro e w6 ⟨rfl, C6⟩; have z6 := (CC.trans C6).size))
            go_roundw
            case rel => exact ⟨k + 1, by go_num, by omega, by omega, .inr ⟨by omega, rfl, rfl⟩, CE⟩
            case measure => simp only [intOf]; omega
        · rw [if_neg (by omega)] at hk5 hk6
          obtain ⟨_, rfl, rfl⟩ : N < k ∧ _ ∧ _ := by
            rcases hwas with h | h
            · omega
            · exact h
          rcases hv with ⟨rfl, rfl⟩ | ⟨rfl, rfl⟩
          · have hk5' : m = N := hk5
            have hk6' : s2 = 1 := hk6
            subst hk5' hk6'
            clear hwas hk5 hk6
            go_wp2_with (first
              | (refine wpList_storeB rfl 26 _ _ rfl w6.heap.size 26 (tgtC tgt0) (tgtC t) rfl rfl (Blk.new _ _ _) I2.out ((tgt_len (t := tgt0) rfl).trans (tgt_len l2).symm) (tgt_one _) ?_; intro w7 B7 K7 Z7; have CE := ((CC.trans C6).alloc _).step K7 (fun i hi => .inr (by simp at hi; omega)))
              | (go_at_call 24; (with_reducible refine (HP.out _).mono ?_); rintro e w6 ⟨rfl, C6⟩; have z6 := (CC.trans C6).size))
            go_roundw
            case rel => exact ⟨k + 1, by go_num, by omega, by omega, .inr ⟨by omega, rfl, rfl⟩, CE⟩
            case measure => simp only [intOf]; omega
          · have hk5' : m = 0 := hk5
            have hk6' : s2 = 2 := hk6
            subst hk5' hk6'
            clear hwas hk5 hk6
            go_wp2_with (first
              | (refine wpList_storeB rfl 26 _ _ rfl w6.heap.size 26 (tgtC tgt0) (tgtC t) rfl rfl (Blk.new _ _ _) I2.out ((tgt_len (t := tgt0) rfl).trans (tgt_len l2).symm) (tgt_one _) ?_; intro w7 B7 K7 Z7; have CE := ((CC.trans C6).alloc _).step K7 (fun i hi => .inr (by simp at hi; omega)))
              | (go_at_call 24; (with_reducible refine (HP.out _).mono ?_); rintro e w6 ⟨rfl, C6⟩; have z6 := (CC.trans C6).size))
            go_roundw
            case rel => exact ⟨k + 1, by go_num, by omega, by omega, .inr ⟨by omega, rfl, rfl⟩, CE⟩
            case measure => simp only [intOf]; omega
      · rcases (show (¬ (k : Int) ≤ Z.size) ∨ (k : Int) ≤ Z.size ∧ ¬ (k : Int) < 60 by omega) with h1 | ⟨h1, h2⟩
        all_goals
          clear hwas
          go_wp2_with (go_at_call 20; (with_reducible refine (awake19 _).mono ?_); rintro e w8 ⟨rfl, C8⟩)
          go_ret
          exact ⟨rfl, (CC.trans C8).nil_below⟩
  · skip
    go_enter Tryd.func9, Tryd.ntmps9
    go_wp2_with (first
      | (refine wpList_strOf rfl 34 9 5 _ rfl Tryd.underlying34 Tryd.underlying5 Tryd.underlying9 A len cap W.heap.size zs rfl hr ?_; rw [hS])
      | (go_at_call 13; (with_reducible refine (genTarget _ _).mono ?_); rintro e w3 ⟨⟨u, rfl, hu, hok, hback⟩, C3⟩; have hns2 : u.1.size ≤ 255 := (by simp only [okT, Bool.and_eq_true, decide_eq_true_eq] at hok; exact hok.1.1.1); have q1 := refEncReq code u hu (by omega); rw [encReq_some code hok] at q1; have hR := encQ_len (c := code) hu hok; have Q1 : Hid (∀ w, Calls Tryd.prog 25 #[.int .u8 code, .agg (tgtC u).toArray] w fun e w' => e = .returned (.tuple #[.string (strOfNums (5 :: code :: 0 :: encT' u)), .bool true]) ∧ Ch [] w w') := q1; clear q1 hok hback)
      | (go_at_call 25; (with_reducible refine (Q1.out _).mono ?_); rintro e w4 ⟨rfl, C4⟩; clear Q1; generalize strOfNums (5 :: code :: 0 :: encT' u) = R at hR ⊢; have m1 : R.size + S.size ≤ maxLen := (by unfold maxLen; omega)))
    have CT := C3.trans C4
    have hZs : (R ++ S).size ≤ 200000000000000 := by rw [ByteArray.size_append]; omega
    generalize R ++ S = Z at hZs ⊢
    have hpos : ∀ x ∈ numsOf Z, 0 ≤ x := fun x hx => (nums_bytes Z x hx).1
    obtain ⟨N, nn, st, hv, hall⟩ := req_take (numsOf Z) hpos
    rw [numsOf_length] at hall
    have HALL := hid hall
    clear hall hpos
    go_loopw [12, 13, 14] (fun was many i wr => ∃ k : Nat, i = .int .i64 k ∧ k ≤ Z.size + 1 ∧ k ≤ 60 ∧ (k ≤ N ∧ was = .int .i64 0 ∧ many = .int .i64 0 ∨ N < k ∧ was = .int .i64 st ∧ many = .int .i64 nn) ∧ Ch [] W wr) (fun _ _ i _ => 61 - (intOf i).toNat)
    case atStart => exact ⟨0, rfl, by omega, by omega, .inl ⟨by omega, rfl, rfl⟩, CT⟩
    case round =>
      obtain ⟨k, rfl, hk1, hk2, hwas, CC⟩ := hrel
      have hz := CC.size
      by_cases hks : k ≤ Z.size ∧ k < 60
      · obtain ⟨hks, hk60⟩ := hks
        have hkZ : (k : Int) ≤ Z.size := by omega
        have hp := reqP (Z.extract 0 k) (by rw [ByteArray.size_extract]; omega)
        have he : numsOf (Z.extract 0 k) = (numsOf Z).take k := by rw [nums_ext, List.drop_zero, Nat.sub_zero]
        rw [he] at hp
        have l2 := parseQ_tgt16 ((numsOf Z).take k)
        have hk3 := HALL.out k hks
        generalize parseQ ((numsOf Z).take k) = r at hp l2 hk3
        obtain ⟨t, c, m, s2⟩ := r
        have hp2 : ∀ w, Calls Tryd.prog 24 #[.string (Z.extract 0 k)] w fun e w' => e = .returned (.tuple #[.agg (tgtC t).toArray, .int .i64 c, .int .i64 m, .int .i64 s2]) ∧ Ch [] w w' := hp
        have HP := hid hp2
        have I2 := hid (tgt_inf l2)
        clear hp hp2 he
        have hk4 : m = (if k < N then (0, 0) else (nn, st)).1 ∧ s2 = (if k < N then (0, 0) else (nn, st)).2 := ⟨congrArg Prod.fst hk3, congrArg Prod.snd hk3⟩
        obtain ⟨hk5, hk6⟩ := hk4
        clear hk3
        rcases (show k < N ∨ k = N ∨ N < k by omega) with hkN | hkN | hkN
        · rw [if_pos hkN] at hk5 hk6
          obtain ⟨_, rfl, rfl⟩ : k ≤ N ∧ _ ∧ _ := by
            rcases hwas with h | h
            · exact h
            · omega
          have hk5' : m = 0 := hk5
          have hk6' : s2 = 0 := hk6
          subst hk5' hk6'
          clear hwas hk5 hk6
          go_wp2_with (first
            | (refine wpList_storeB rfl 26 _ _ rfl w6.heap.size 26 (tgtC tgt0) (tgtC t) rfl rfl (Blk.new _ _ _) I2.out ((tgt_len (t := tgt0) rfl).trans (tgt_len l2).symm) (tgt_one _) ?_; intro w7 B7 K7 Z7; have CE := ((CC.trans C6).alloc _).step K7 (fun i hi => .inr (by simp at hi; omega)))
            | (go_at_call 24; (with_reducible refine (HP.out _).mono ?_); rintro e w6 ⟨rfl, C6⟩; have z6 := (CC.trans C6).size))
          go_roundw
          case rel => exact ⟨k + 1, by go_num, by omega, by omega, .inl ⟨by omega, rfl, rfl⟩, CE⟩
          case measure => simp only [intOf]; omega
        · rw [if_neg (by omega)] at hk5 hk6
          obtain ⟨_, rfl, rfl⟩ : k ≤ N ∧ _ ∧ _ := by
            rcases hwas with h | h
            · exact h
            · omega
          rcases hv with ⟨rfl, rfl⟩ | ⟨rfl, rfl⟩
          · have hk5' : m = N := hk5
            have hk6' : s2 = 1 := hk6
            subst hkN
            subst hk5' hk6'
            clear hwas hk5 hk6
            go_wp2_with (first
              | (refine wpList_storeB rfl 26 _ _ rfl w6.heap.size 26 (tgtC tgt0) (tgtC t) rfl rfl (Blk.new _ _ _) I2.out ((tgt_len (t := tgt0) rfl).trans (tgt_len l2).symm) (tgt_one _) ?_; intro w7 B7 K7 Z7; have CE := ((CC.trans C6).alloc _).step K7 (fun i hi => .inr (by simp at hi; omega)))
              | (go_at_call 24; (with_reducible refine (HP.out _).mono ?_); rintro e w6 ⟨rfl, C6⟩; have z6 := (CC.trans C6).size))
            go_roundw
            case rel => exact ⟨k + 1, by go_num, by omega, by omega, .inr ⟨by omega, rfl, rfl⟩, CE⟩
            case measure => simp only [intOf]; omega
          · have hk5' : m = 0 := hk5
            have hk6' : s2 = 2 := hk6
            subst hkN
            subst hk5' hk6'
            clear hwas hk5 hk6
            go_wp2_with (first
              | (refine wpList_storeB rfl 26 _ _ rfl w6.heap.size 26 (tgtC tgt0) (tgtC t) rfl rfl (Blk.new _ _ _) I2.out ((tgt_len (t := tgt0) rfl).trans (tgt_len l2).symm) (tgt_one _) ?_; intro w7 B7 K7 Z7; have CE := ((CC.trans C6).alloc _).step K7 (fun i hi => .inr (by simp at hi; omega)))
              | (go_at_call 24; (with_reducible refine (HP.out _).mono ?_); rintro e w6 ⟨rfl, C6⟩; have z6 := (CC.trans C6).size))
            go_roundw
            case rel => exact ⟨k + 1, by go_num, by omega, by omega, .inr ⟨by omega, rfl, rfl⟩, CE⟩
            case measure => simp only [intOf]; omega
        · rw [if_neg (by omega)] at hk5 hk6
          obtain ⟨_, rfl, rfl⟩ : N < k ∧ _ ∧ _ := by
            rcases hwas with h | h
            · omega
            · exact h
          rcases hv with ⟨rfl, rfl⟩ | ⟨rfl, rfl⟩
          · have hk5' : m = N := hk5
            have hk6' : s2 = 1 := hk6
            subst hk5' hk6'
            clear hwas hk5 hk6
            go_wp2_with (first
              | (refine wpList_storeB rfl 26 _ _ rfl w6.heap.size 26 (tgtC tgt0) (tgtC t) rfl rfl (Blk.new _ _ _) I2.out ((tgt_len (t := tgt0) rfl).trans (tgt_len l2).symm) (tgt_one _) ?_; intro w7 B7 K7 Z7; have CE := ((CC.trans C6).alloc _).step K7 (fun i hi => .inr (by simp at hi; omega)))
              | (go_at_call 24; (with_reducible refine (HP.out _).mono ?_); rintro e w6 ⟨rfl, C6⟩; have z6 := (CC.trans C6).size))
            go_roundw
            case rel => exact ⟨k + 1, by go_num, by omega, by omega, .inr ⟨by omega, rfl, rfl⟩, CE⟩
            case measure => simp only [intOf]; omega
          · have hk5' : m = 0 := hk5
            have hk6' : s2 = 2 := hk6
            subst hk5' hk6'
            clear hwas hk5 hk6
            go_wp2_with (first
              | (refine wpList_storeB rfl 26 _ _ rfl w6.heap.size 26 (tgtC tgt0) (tgtC t) rfl rfl (Blk.new _ _ _) I2.out ((tgt_len (t := tgt0) rfl).trans (tgt_len l2).symm) (tgt_one _) ?_; intro w7 B7 K7 Z7; have CE := ((CC.trans C6).alloc _).step K7 (fun i hi => .inr (by simp at hi; omega)))
              | (go_at_call 24; (with_reducible refine (HP.out _).mono ?_); rintro e w6 ⟨rfl, C6⟩; have z6 := (CC.trans C6).size))
            go_roundw
            case rel => exact ⟨k + 1, by go_num, by omega, by omega, .inr ⟨by omega, rfl, rfl⟩, CE⟩
            case measure => simp only [intOf]; omega
      · rcases (show (¬ (k : Int) ≤ Z.size) ∨ (k : Int) ≤ Z.size ∧ ¬ (k : Int) < 60 by omega) with h1 | ⟨h1, h2⟩
        all_goals
          clear hwas
          go_wp2_with (go_at_call 20; (with_reducible refine (awake19 _).mono ?_); rintro e w8 ⟨rfl, C8⟩)
          go_ret
          exact ⟨rfl, (CC.trans C8).nil_below⟩
end Go.Proofs.YtiffpjlmgeklkaaDoor
