/- Several texts in one: RefPfx, PPar, PPfx, BlkR, Lists, BlkW. -/
import Derived.Test.YtbmbnibamhgfmaaDoorMC
import Derived.Test.YtbmbnibamhgfmaaDoorMD
/- ginnelref07.ValidPrefix, Contains. -/
namespace Go.Proofs.YtbmbnibamhgfmaaDoor
open Go.RowKit

theorem validA_zero {bs : List Int} (hl : bs.length = 16) (h : validA false bs = true) : ∀ i, 4 ≤ i → i < 16 → at_ bs i = 0 := by
  intro i h4 h16
  by_cases h0 : at_ bs i = 0
  · exact h0
  · rw [validA_not hl h4 h16 h0] at h; cases h
set_option maxRecDepth 20000 in
set_option maxHeartbeats 4000000 in
theorem refValidPfx (six : Bool) (bs : List Int) (n : Int) (hg : GoodA bs) (w : World) :
    Calls Tryd.prog 38 #[.agg (pfxC (six, bs, n)).toArray] w fun e w' => e = .returned (.bool (validP (six, bs, n))) ∧ Ch [] w w' := by
  have hC0 : Ch [] w (w.alloc (.cells (pfxC (six, bs, n)).toArray 59)) := (Ch.refl _ _).alloc _
  have hB : Blk (w.alloc (.cells (pfxC (six, bs, n)).toArray 59)) w.heap.size 59 (pfxC (six, bs, n)) := Blk.new w _ _
  have HBL := hid (bitLenR six bs)
  have HIV := hid (refValid six bs hg.1)
  have HBT := hid (fun i hi => bitR six bs hg i hi)
  have HI := hid (addr_inf (six := six) hg.1)
  have h17 := pfx_bits (p := (six, bs, n)) hg.1
  have hrB : ∀ w', Blk w' w.heap.size 59 (pfxC (six, bs, n)) → w'.rangeAt w.heap.size 0 (addrC six bs) := fun w' h => h.rangeMid 0 _ (fun j v hj => pfx_addr (p := (six, bs, n)) hj)
  have hcB : ∀ w', Blk w' w.heap.size 59 (pfxC (six, bs, n)) → w'.cell? ⟨w.heap.size, 17, none⟩ = some (.int .i64 n) := fun w' h => (h.cell 17).trans h17
  have HRB := hid hrB
  have HCB := hid hcB
  have HR : Hid (∀ w', Ch [] (w.alloc (.cells (pfxC (six, bs, n)).toArray 59)) w' → w'.rangeAt w.heap.size 0 (addrC six bs)) := fun w' h => hrB w' (hB.ch h (by simp))
  have hcA : ∀ x : After (w.alloc (.cells (pfxC (six, bs, n)).toArray 59)), x.w.cell? ⟨w.heap.size, 17, none⟩ = some (.int .i64 n) := fun x => hcB _ (hB.ch x.ch (by simp))
  have hL : bitL six ≤ 128 := by cases six <;> decide
  obtain ⟨V, hV⟩ : ∃ V, validP (six, bs, n) = V := ⟨_, rfl⟩
  rw [hV]
  unfold validP at hV
  generalize pfxC (six, bs, n) = cs at hC0 HR hcA hB HRB HCB ⊢
  clear hrB hcB h17
  cases hva : validA six bs with
  | false =>
    rw [hva] at HIV hV
    obtain rfl : V = false := by rw [← hV]; rfl
    go_enter Tryd.func38, Tryd.ntmps38
    go_wp2_with fail
    refine wp_region_quietA (w.alloc (.cells cs.toArray 59)) (by kernel_rfl) (by kernel_rfl) (Ch.refl _ _) ?_
    repeat (first
      | (go_big_quiet_want; refine quiet_rowA 57 _ rfl w.heap.size 0 rfl (addrC six bs) _ HR.out Tryd.underlying57 rfl HI.out ?_; simp only [Act.put, List.setIfInBounds_toArray, List.set_cons_succ, List.set_cons_zero]; go_big_quiet_on)
      | go_big_quiet_step (first
        | (go_at_call 62; with_reducible exact after_of (HIV.out _))))
    refine wpQuiet_nil ?_
    intro wq hwq
    go_wp2_with fail
    go_ret
    exact ⟨rfl, hC0.trans hwq⟩
  | true =>
    have HVA := hid hva
    rw [hva] at HIV hV
    by_cases h0 : 0 ≤ n
    case neg =>
      obtain rfl : V = false := by rw [← hV]; simp [h0]
      have hd0 : decide (n < 0) = true := by simpa using h0
      go_enter Tryd.func38, Tryd.ntmps38
      go_wp2_with fail
      refine wp_region_quietA (w.alloc (.cells cs.toArray 59)) (by kernel_rfl) (by kernel_rfl) (Ch.refl _ _) ?_
      repeat (first
        | (go_big_quiet_want; refine quiet_rowA 57 _ rfl w.heap.size 0 rfl (addrC six bs) _ HR.out Tryd.underlying57 rfl HI.out ?_; simp only [Act.put, List.setIfInBounds_toArray, List.set_cons_succ, List.set_cons_zero]; go_big_quiet_on)
        | go_big_quiet_step (first
          | (go_at_call 62; with_reducible exact after_of (HIV.out _))))
      refine wpQuiet_nil ?_
      intro wq hwq
      go_wp2_with fail
      go_ret
      exact ⟨rfl, hC0.trans hwq⟩
    have hd0 : decide (n < 0) = false := by simpa using h0
    by_cases h1 : n ≤ bitL six
    case neg =>
      obtain rfl : V = false := by rw [← hV]; simp [h1]
      have hd1 : decide (bitL six < n) = true := by simpa using h1
      go_enter Tryd.func38, Tryd.ntmps38
      go_wp2_with fail
      refine wp_region_quietA (w.alloc (.cells cs.toArray 59)) (by kernel_rfl) (by kernel_rfl) (Ch.refl _ _) ?_
      repeat (first
        | (go_big_quiet_want; refine quiet_rowA 57 _ rfl w.heap.size 0 rfl (addrC six bs) _ HR.out Tryd.underlying57 rfl HI.out ?_; simp only [Act.put, List.setIfInBounds_toArray, List.set_cons_succ, List.set_cons_zero]; go_big_quiet_on)
        | go_big_quiet_step (first
          | (go_at_call 62; with_reducible exact after_of (HIV.out _))
          | (go_at_call 63; with_reducible exact after_of (HBL.out _))))
      refine wpQuiet_nil ?_
      intro wq hwq
      go_wp2_with fail
      go_ret
      exact ⟨rfl, hC0.trans hwq⟩
    have hd1 : decide (bitL six < n) = false := by simpa using h1
    have hVd : decide (truncL bs n = bs) = V := by rw [← hV]; simp [h0, h1]
    obtain ⟨N, rfl⟩ := Int.eq_ofNat_of_zero_le h0
    obtain ⟨L, hLe⟩ : ∃ L : Nat, bitL six = L := ⟨(bitL six).toNat, by cases six <;> rfl⟩
    have HIFF : Hid (truncL bs N = bs ↔ ∀ i, N ≤ i → i < L → bitA bs i = 0) := by
      refine cut_iff bs N L hg.1 hg.2 (by omega) ?_
      cases six
      · exact .inr ⟨by simp [bitL] at hLe; omega, validA_zero hg.1 HVA.out⟩
      · exact .inl (by simp [bitL] at hLe; omega)
    rw [hLe] at HBL HBT hd1 h1 hL
    clear hV
    go_enter Tryd.func38, Tryd.ntmps38
    go_wp2_with fail
    refine wp_region_quietA (w.alloc (.cells cs.toArray 59)) (by kernel_rfl) (by kernel_rfl) (Ch.refl _ _) ?_
    repeat (first
      | (go_big_quiet_want; refine quiet_rowA 57 _ rfl w.heap.size 0 rfl (addrC six bs) _ HR.out Tryd.underlying57 rfl HI.out ?_; simp only [Act.put, List.setIfInBounds_toArray, List.set_cons_succ, List.set_cons_zero]; go_big_quiet_on)
      | go_big_quiet_step (first
        | (go_at_call 62; with_reducible exact after_of (HIV.out _))
        | (go_at_call 63; with_reducible exact after_of (HBL.out _))))
    refine wpQuiet_nil ?_
    intro wq hwq
    have hBq := hB.ch hwq (by simp)
    have hcq := HCB.out _ hBq
    go_wp2_with fail
    have hdN : decide (L < N) = false := by simp; omega
    simp only [hdN]
    go_loopw [3] (fun i wr => ∃ k : Nat, N ≤ k ∧ k ≤ L ∧ i = .int .i64 k ∧ Blk wr w.heap.size 59 cs ∧ Ch [] w wr ∧ Hid (∀ i, N ≤ i → i < k → bitA bs i = 0)) (fun i _ => L - (intOf i).toNat)
    case atStart => exact ⟨N, Nat.le_refl _, by omega, rfl, hBq, hC0.trans hwq, fun i h1 h2 => absurd h2 (by omega)⟩
    case round =>
      obtain ⟨k, hNk, hkL, rfl, B, CC, HZ⟩ := hrel
      by_cases hlt : k < L
      · have hlti : (k : Int) < L := by omega
        have HB1 := hid (HBT.out k hlti)
        rcases bit_rng bs k with hb | hb
        · rw [hb] at HB1
          have HZ2 : Hid (∀ i, N ≤ i → i < k + 1 → bitA bs i = 0) := by
            intro i h1 h2
            rcases Nat.lt_or_ge i k with h3 | h3
            · exact HZ.out i h1 h3
            · obtain rfl : i = k := by omega
              exact hb
          clear hb
          go_wp2_with (first
            | (refine wpList_load_want rfl 57 _ rfl w.heap.size 0 rfl (addrC six bs) _ (HRB.out _ B2) Tryd.underlying57 rfl HI.out ?_)
            | (refine wpList_load_want rfl 57 _ rfl w.heap.size 0 rfl (addrC six bs) _ (HRB.out _ B) Tryd.underlying57 rfl HI.out ?_)
            | (go_at_call 63; (with_reducible refine (HBL.out _).mono ?_); rintro e w2 ⟨rfl, C2⟩; have B2 := B.ch C2 (by simp); have CC2 := CC.trans C2)
            | (go_at_call 64; (with_reducible refine (HB1.out _).mono ?_); rintro e w3 ⟨rfl, C3⟩; have B3 := B2.ch C3 (by simp); have CC3 := CC2.trans C3))
          go_roundw
          case rel => exact ⟨k + 1, by omega, by omega, by go_num, B3, CC3, HZ2⟩
          case measure => simp [intOf]; omega
        · rw [hb] at HB1
          have HVF : Hid (V = false) := by
            show _ = _
            rw [← hVd, decide_eq_false_iff_not, HIFF.out]
            intro h
            have := h k hNk hlt
            omega
          clear hb
          go_wp2_with (first
            | (refine wpList_load_want rfl 57 _ rfl w.heap.size 0 rfl (addrC six bs) _ (HRB.out _ B2) Tryd.underlying57 rfl HI.out ?_)
            | (refine wpList_load_want rfl 57 _ rfl w.heap.size 0 rfl (addrC six bs) _ (HRB.out _ B) Tryd.underlying57 rfl HI.out ?_)
            | (go_at_call 63; (with_reducible refine (HBL.out _).mono ?_); rintro e w2 ⟨rfl, C2⟩; have B2 := B.ch C2 (by simp); have CC2 := CC.trans C2)
            | (go_at_call 64; (with_reducible refine (HB1.out _).mono ?_); rintro e w3 ⟨rfl, C3⟩; have B3 := B2.ch C3 (by simp); have CC3 := CC2.trans C3))
          go_ret
          exact ⟨ret_bool HVF.out.symm, CC3⟩
      · obtain rfl : k = L := by omega
        have HVF : Hid (V = true) := by
          show _ = _
          rw [← hVd, decide_eq_true_iff, HIFF.out]
          exact fun i h1 h2 => HZ.out i h1 h2
        go_wp2_with (first
          | (refine wpList_load_want rfl 57 _ rfl w.heap.size 0 rfl (addrC six bs) _ (HRB.out _ B) Tryd.underlying57 rfl HI.out ?_)
          | (go_at_call 63; (with_reducible refine (HBL.out _).mono ?_); rintro e w2 ⟨rfl, C2⟩; have CC2 := CC.trans C2))
        go_ret
        exact ⟨ret_bool HVF.out.symm, CC2⟩

end Go.Proofs.YtbmbnibamhgfmaaDoor

/- ginnelref07.Parse where it succeeds. -/
namespace Go.Proofs.YtbmbnibamhgfmaaDoor
open Go.RowKit

theorem dblC_spec : ∀ (l : List Int) (k : Nat), dblC l = some k → k + 1 < l.length ∧ at_ l k = 58 ∧ at_ l (k + 1) = 58 ∧ ∀ j, j < k → ¬ (at_ l j = 58 ∧ at_ l (j + 1) = 58)
  | [], k, h => by cases h
  | x :: l, k, h => by
    unfold dblC at h
    split at h
    · rename_i hc
      obtain rfl : 0 = k := Option.some.inj h
      obtain ⟨h1, h2⟩ := hc
      cases l with
      | nil => cases h2
      | cons y l =>
        obtain rfl : y = 58 := Option.some.inj h2
        exact ⟨by simp, h1, rfl, fun j hj => absurd hj (by omega)⟩
    · rename_i hc
      cases hd : dblC l with
      | none => rw [hd] at h; cases h
      | some m =>
        rw [hd] at h
        obtain rfl : m + 1 = k := Option.some.inj h
        obtain ⟨h1, h2, h3, h4⟩ := dblC_spec l m hd
        refine ⟨by simp; omega, h2, h3, fun j hj => ?_⟩
        cases j with
        | zero =>
          rintro ⟨g1, g2⟩
          apply hc
          refine ⟨g1, ?_⟩
          cases l with
          | nil => simp at h1
          | cons y l => exact congrArg some g2
        | succ j => exact h4 j (by omega)
theorem nodot_split {l : List Int} (h : l.all (fun x => !decide (x = 46)) = true) : (splitC 46 l).length ≠ 4 := by
  rw [splitC_free 46 l]
  · simp
  · intro z hz
    have := List.all_eq_true.1 h z hz
    simpa using this
inductive AddrT (l : List Int) (six : Bool) (bs : List Int) : Prop
  | four (b : List Int) (h : ip4P l = some b) (h6 : six = false) (hb : bs = b ++ z12)
  | six (hd : (splitC 46 l).length ≠ 4) (k : Nat) (a b : List Int) (hk : dblC l = some k) (ha : grpP (l.take k) = some a) (hb : grpP (l.drop (k + 2)) = some b) (hl : a.length + b.length ≤ 7) (h6 : six = true) (hbs : bs = grpB (a ++ List.replicate (8 - (a.length + b.length)) 0 ++ b))
theorem addrT_spec {l : List Int} {six : Bool} {bs : List Int} (h : addrT l = some (six, bs)) : AddrT l six bs := by
  unfold addrT at h
  split at h
  · rename_i b hb
    have := Option.some.inj h
    exact .four b hb (congrArg Prod.fst this).symm (congrArg Prod.snd this).symm
  · split at h
    case isFalse => cases h
    rename_i hd
    split at h
    case h_1 => cases h
    rename_i k hk
    split at h
    case h_2 => cases h
    rename_i a b ha hb
    split at h
    case isFalse => cases h
    rename_i hl
    have := Option.some.inj h
    exact .six (nodot_split hd) k a b hk ha hb hl (congrArg Prod.fst this).symm (congrArg Prod.snd this).symm
theorem allO_mem {α β : Type} (f : α → Option β) (l : List α) (r : List β) (h : allO f l = some r) (p : β → Prop) (hp : ∀ x y, f x = some y → p y) : ∀ y ∈ r, p y := by
  obtain ⟨h1, h2⟩ := allO_spec f l r h
  intro y hy
  obtain ⟨i, hi⟩ := List.mem_iff_getElem?.1 hy
  have hil : i < l.length := by rw [← h1]; exact (List.getElem?_eq_some_iff.1 hi).1
  obtain ⟨z, hz, hr⟩ := h2 i _ (List.getElem?_eq_getElem hil)
  rw [hi] at hr
  obtain rfl := Option.some.inj hr
  exact hp _ _ hz
theorem grp_rng {l gs : List Int} (h : grpP l = some gs) : ∀ x ∈ gs, 0 ≤ x ∧ x ≤ 65535 := by
  unfold grpP at h
  split at h
  case isFalse => cases h
  split at h
  · obtain rfl := Option.some.inj h; intro x hx; cases hx
  · exact allO_mem hexP _ _ h _ (fun _ _ => hexP_le)
theorem ip4_rng {l bs : List Int} (h : ip4P l = some bs) : ∀ x ∈ bs, 0 ≤ x ∧ x ≤ 255 := by
  unfold ip4P at h
  split at h
  case isFalse => cases h
  exact allO_mem _ _ _ h _ (fun _ _ => decP_le)

set_option maxRecDepth 20000 in
set_option maxHeartbeats 4000000 in
theorem refParse (s : ByteArray) (six : Bool) (bs : List Int) (hs : s.size ≤ 1000000) (h : addrT (numsOf s) = some (six, bs)) (w : World) : Calls Tryd.prog 73 #[.string s] w fun e w' => e = .returned (.tuple #[.agg (addrC six bs).toArray, .bool true]) ∧ Ch [] w w' := by
  have HI := hid (addr_inf (six := false) (bs := zeros) rfl)
  have hB1 : Blk (w.alloc (.cells (addrC false zeros).toArray 57)) w.heap.size 57 (addrC false zeros) := Blk.new _ _ _
  rcases addrT_spec h with ⟨b, h4, rfl, rfl⟩ | ⟨hd, k, a, b, hk, ha, hb, hl, rfl, rfl⟩
  · have H4 := hid (refIp4 s b hs h4)
    have hl4 := (ip4_spec h4).2.1
    have hl16 : (b ++ z12).length = 16 := by rw [List.length_append, hl4]; rfl
    have HI2 := hid (addr_inf (six := false) (bs := b ++ z12) hl16)
    clear h h4
    go_enter Tryd.func73, Tryd.ntmps73
    go_wp2_with (first
      | (refine wpList_loadB rfl 57 _ rfl w1.heap.size 57 (addrC false (b ++ z12)) _ rfl B2 Tryd.underlying57 rfl HI2.out ?_)
      | (refine wpList_storeB rfl 57 _ _ rfl w.heap.size 57 (addrC false zeros) (addrC false (b ++ z12)) rfl rfl B1' HI2.out ((addr_len (six := false) (bs := zeros) rfl).trans (addr_len hl16).symm) (addr_one' _ _) ?_; intro w4 B4 C4 Z4)
      | (refine wpList_storeB rfl 57 _ _ rfl w1.heap.size 57 (addrC false zeros) (addrC false (b ++ z12)) rfl rfl (Blk.new _ _ _) HI2.out ((addr_len (six := false) (bs := zeros) rfl).trans (addr_len hl16).symm) (addr_one' _ _) ?_; intro w2 B2 C2 Z2; have CC := (CA.alloc _).step C2 (fun i hi => .inr (by simp at hi; omega)); have B1' := (B1.alloc _).ch C2 (by simp; omega))
      | (go_at_call 89; (with_reducible refine (H4.out _).mono ?_); rintro e w1 ⟨rfl, C1⟩; have B1 := hB1.ch C1 (by simp); have lt1 := B1.lt; have CA := ((Ch.refl [] w).alloc _).trans C1))
    try simp only [Exit.inBlock, Exit.then]
    refine bodyPost_ret (results_rowF2 rfl _ _ rfl B4 Tryd.underlying57 rfl HI2.out) rfl ?_
    exact ⟨rfl, CC.step C4 (fun i hi => .inr (by simp at hi; omega))⟩
  · obtain ⟨hk1, hk58, hk58b, hkn⟩ := dblC_spec _ k hk
    rw [numsOf_length] at hk1
    have H4 := hid (refIp4No s hs hd)
    have HA := hid (refGrps (s.extract 0 k) false a (by rw [ByteArray.size_extract]; omega) (by rw [nums_ext, List.drop_zero, Nat.sub_zero]; exact ha))
    have HB := hid (refGrps (s.extract (k + 2) s.size) true b (by rw [ByteArray.size_extract]; omega) (by rw [nums_tail]; exact hb))
    have HRA := hid (grp_rng ha)
    have HRB := hid (grp_rng hb)
    rw [← byt_at (by omega)] at hk58 hk58b
    have HKN : Hid (∀ j, j < k → ¬ (byt s j = 58 ∧ byt s (j + 1) = 58)) := fun j hj => by
      rw [byt_at (by omega), byt_at (by omega)]
      exact hkn j hj
    have hli : ¬ (7 : Int) < a.length + b.length := by omega
    clear h hd hk ha hb hkn
    obtain ⟨gs, hgs⟩ : ∃ gs, a ++ List.replicate (8 - (a.length + b.length)) 0 ++ b = gs := ⟨_, rfl⟩
    have hgl : gs.length = 8 := by rw [← hgs]; simp; omega
    have HGR : Hid (∀ x ∈ gs, 0 ≤ x ∧ x ≤ 65535) := by
      intro x hx
      rw [← hgs] at hx
      rcases List.mem_append.1 hx with hx | hx
      · rcases List.mem_append.1 hx with hx | hx
        · exact HRA.out x hx
        · have := List.eq_of_mem_replicate hx; omega
      · exact HRB.out x hx
    have hl16 : (grpB gs).length = 16 := by rw [grpB_len, hgl]
    have HI2 := hid (addr_inf (six := true) (bs := grpB gs) hl16)
    have HGS := hid hgs
    rw [hgs]
    clear hgs
    go_enter Tryd.func73, Tryd.ntmps73
    go_wp2_with (first
      | (refine wpList_storeB rfl 57 _ _ rfl w1.heap.size 57 (addrC false zeros) (addrC false zeros) rfl rfl (Blk.new _ _ _) HI.out rfl (addr_one' _ _) ?_; intro w2 B2 C2 Z2; have CC := (CA.alloc _).step C2 (fun i hi => .inr (by simp at hi; omega)); have B1' := (B1.alloc _).ch C2 (by simp; omega))
      | (go_at_call 89; (with_reducible refine (H4.out _).mono ?_); rintro e w1 ⟨rfl, C1⟩; have B1 := hB1.ch C1 (by simp); have lt1 := B1.lt; have CA := ((Ch.refl [] w).alloc _).trans C1))
    clear Z2 B2 C2
    go_loopw [6, 7] (fun o i wr => ∃ j : Nat, o = .int .i64 (-1) ∧ i = .int .i64 j ∧ j ≤ k ∧ Blk wr w.heap.size 57 (addrC false zeros) ∧ Ch [] w wr) (fun _ i _ => k - (intOf i).toNat)
    case atStart => exact ⟨0, rfl, rfl, Nat.zero_le _, B1', CC⟩
    case round =>
      clear B1' CC
      obtain ⟨j, rfl, rfl, hj, B1, CC⟩ := hrel
      have hj1 : j < s.size := by omega
      have hj2 : j + 1 < s.size := by omega
      have hji : (j : Int) + 1 < s.size := by omega
      have e0 : ((s[j]'hj1).toNat : Int) = byt s j := byt_get hj1
      have e1 : ((s[j + 1]'hj2).toNat : Int) = byt s (j + 1) := byt_get hj2
      by_cases hlt : j < k
      · by_cases h58 : byt s j = 58
        · have h2 : byt s (j + 1) ≠ 58 := fun h => HKN.out j hlt ⟨h58, h⟩
          have d1 : (byt s (j + 1) == 58) = false := by simpa using h2
          rw [h58] at e0
          clear h58 h2
          generalize byt s (j + 1) = y at e1 d1
          go_wp2_with fail
          go_roundw
          case rel => exact ⟨j + 1, rfl, by go_num, by omega, B1, CC⟩
          case measure => simp [intOf]; omega
        · have d0 : (byt s j == 58) = false := by simpa using h58
          clear h58 e1
          generalize byt s j = y at e0 d0
          go_wp2_with fail
          go_roundw
          case rel => exact ⟨j + 1, rfl, by go_num, by omega, B1, CC⟩
          case measure => simp [intOf]; omega
      · obtain rfl : j = k := by omega
        rw [hk58] at e0
        rw [hk58b] at e1
        have hki : (0 : Int) ≤ j := by omega
        have hk2 : (j : Int) + 2 ≤ s.size := by omega
        go_wp2_with (first
          | (go_at_call 90; (with_reducible refine (HA.out _).mono ?_); rintro e w5 ⟨A, c, rfl, ownA, C5⟩; have ownAlt := (fun x hx => (ownA.blks x hx).2); have ownAlo := (fun x hx => (ownA.blks x hx).1); have lt1 := B1.lt; have B5 := B1.ch C5 (by simp); have CC5 := CC.trans C5)
          | (go_at_call 90; (with_reducible refine (HB.out _).mono ?_); rintro e w6 ⟨M, cm, rfl, ownM, C6⟩; have B6 := B5.ch C6 (by simp); have CC6 := CC5.trans C6; have ownA6 := ownA.ch C6 (by simp)))
        have hgw5 := CC5.size
        clear B1 CC C5 B5 CC5 ownA C6
        have hgw6 := CC6.size
        have hAM : ∀ x ∈ blkOf A, ∀ y ∈ blkOf M, x ≠ y := fun x hx y hy => by
          have h1 := (ownAlt x hx)
          have h2 := (ownM.blks y hy).1
          omega
        have d1 : decide ((j : Int) < 0) = false := by simp
        have d2 : decide ((7 : Int) < (a.length : Int) + b.length) = false := by simpa using hli
        try simp only [d1]
        try simp only [d2]
        have ownM' : Own w6 w.heap.size 147 1 M b.length cm (b.map (Value.int .u16)) := ownM.base (by omega)
        have ownA' : Own w6 w.heap.size 147 1 A a.length c (a.map (Value.int .u16)) := ownA6.base (by omega)
        clear ownM ownA6
        go_loopw [10] (fun o wr => ∃ (n : Nat) (A : Option Addr) (c : Nat), o = .slice A n c ∧ a.length ≤ n ∧ n + b.length ≤ 8 ∧ Own wr w.heap.size 147 1 A n c ((a ++ List.replicate (n - a.length) 0).map (Value.int .u16)) ∧ Own wr w.heap.size 147 1 M b.length cm (b.map (Value.int .u16)) ∧ (∀ x ∈ blkOf A, ∀ y ∈ blkOf M, x ≠ y) ∧ Blk wr w.heap.size 57 (addrC false zeros) ∧ (∀ x ∈ blkOf A, x ≠ w.heap.size) ∧ Ch [] w wr) (fun o _ => 8 - (match o with | .slice _ n _ => n | _ => 0))
        case atStart => exact ⟨a.length, A, c, rfl, Nat.le_refl _, by omega, by simpa using ownA', ownM', hAM, B6, fun x hx => by have := ownAlo x hx; omega, CC6⟩
        case round =>
          rename World => wr2
          clear ownM' ownA' hAM B6 CC6
          obtain ⟨n, A2, c2, rfl, hn1, hn2, ownL, ownM2, hap, B2, hw0, CC⟩ := hrel
          have hgw := CC.size
          by_cases hlt8 : n + b.length < 8
          · have h8 : (n : Int) + b.length < 8 := by omega
            go_wp2_with (at_builtin; (refine wpList_app _ rfl (.tmp 90) (.tmp 91) _ rfl w.heap.size 147 _ 1 2 Tryd.underlying143 u16_info rfl (by omega) _ _ _ _ rfl (ownL.alloc _) _ _ _ _ [.int .u16 0] rfl (Rd.new _ 1 [.int .u16 0] 1 rfl _) (by simp [Value.oneCell']) (by unfold maxLen; omega) (by omega) (by simp only [World.size_alloc]; omega) ?_; intro A4 c4 w4 own4 ch4 at4))
            go_roundw
            case rel =>
              refine ⟨n + 1, A4, c4, rfl, by omega, by omega, ?_, (ownM2.alloc _).ch ch4 (fun y hy hy2 => hap _ hy2 _ hy rfl), ?_, (B2.alloc _).ch ch4 (fun hm => hw0 _ hm rfl), ?_, (CC.alloc _).step ch4 (fun g' hg' => .inr (ownL.blks g' hg').1)⟩
              · rw [show n + 1 - a.length = (n - a.length) + 1 by omega, List.replicate_succ', ← List.append_assoc, List.map_append]
                exact own4
              · intro x hx y hy
                rcases at4 x hx with h1 | h1
                · exact hap x h1 y hy
                · have := (ownM2.blks y hy).2
                  simp only [World.size_alloc] at h1
                  omega
              · intro x hx
                rcases at4 x hx with h1 | h1
                · exact hw0 x h1
                · simp only [World.size_alloc] at h1
                  omega
            case measure => simp; omega
          · have h8 : n + b.length = 8 := by omega
            have h8' : ¬ ((n : Int) + b.length < 8) := by omega
            have HGE : Hid ((a ++ List.replicate (n - a.length) 0).map (Value.int .u16) ++ b.map (Value.int .u16) = gs.map (Value.int .u16)) := by
              show _ = _
              rw [← HGS.out, ← List.map_append, show n - a.length = 8 - (a.length + b.length) by omega]
            have H8 := hid h8
            have hgl8 := hid hgl
            go_wp2_with (first
              | (at_builtin; (refine wpList_app _ rfl (.tmp 93) (.tmp 94) _ rfl w.heap.size 147 _ 1 2 Tryd.underlying143 u16_info rfl (by omega) _ _ _ _ rfl ownL _ _ _ _ (b.map (Value.int .u16)) rfl ownM2.rd (by intro u hu; obtain ⟨z, _, rfl⟩ := List.mem_map.1 hu; rfl) (by unfold maxLen; omega) (by omega) (by omega) ?_; intro A4 c4 w4 own4 ch4 at4; rw [H8.out, HGE.out] at own4; rw [H8.out]; have B4 := B2.ch ch4 (fun hm => hw0 _ hm rfl); have CC4 := CC.step ch4 (fun g' hg' => .inr (ownL.blks g' hg').1)))
              | (refine wpList_storeB rfl 57 _ _ rfl w.heap.size 57 (addrC false zeros) (addrC true (grpB gs)) rfl rfl B7 HI2.out ((addr_len (six := false) (bs := zeros) rfl).trans (addr_len hl16).symm) (addr_one' _ _) ?_; intro w8 B8 C8 Z8)
              | (go_at_call 91; (with_reducible refine (refV6 _ _ gs _ (Rd.ints own4.rd) hgl8.out HGR.out).mono ?_); rintro e w7 ⟨rfl, C7⟩; have B7 := B4.ch C7 (by simp); have CC7 := CC4.trans C7))
            try simp only [Exit.inBlock, Exit.then]
            refine bodyPost_ret (results_rowF2 rfl _ _ rfl B8 Tryd.underlying57 rfl HI2.out) rfl ?_
            exact ⟨rfl, CC7.step C8 (fun i hi => .inr (by simp at hi; omega))⟩
end Go.Proofs.YtbmbnibamhgfmaaDoor

/- ginnelref07.ParsePrefix where it succeeds. -/
namespace Go.Proofs.YtbmbnibamhgfmaaDoor
open Go.RowKit

theorem addrT_good {l : List Int} {six : Bool} {bs : List Int} (h : addrT l = some (six, bs)) : GoodA bs := by
  rcases addrT_spec h with ⟨b, h4, rfl, rfl⟩ | ⟨hd, k, a, b, hk, ha, hb, hl, rfl, rfl⟩
  · refine ⟨by rw [List.length_append, (ip4_spec h4).2.1]; rfl, fun x hx => ?_⟩
    rcases List.mem_append.1 hx with hx | hx
    · exact ip4_rng h4 x hx
    · simp [z12] at hx; omega
  · refine grpB_good (by simp; omega) (fun x hx => ?_)
    rcases List.mem_append.1 hx with hx | hx
    · rcases List.mem_append.1 hx with hx | hx
      · exact grp_rng ha x hx
      · have := List.eq_of_mem_replicate hx; omega
    · exact grp_rng hb x hx
theorem prefT_spec {l : List Int} {p : Pfx} (h : prefT l = some p) : ∃ x y, splitC 47 l = [x, y] ∧ addrT x = some (p.1, p.2.1) ∧ decP y 128 = some p.2.2 ∧ validP p = true := by
  unfold prefT at h
  split at h
  case h_2 => cases h
  rename_i x y hxy
  split at h
  case h_2 => cases h
  rename_i r k hr hk
  split at h
  case isFalse => cases h
  rename_i hv
  obtain rfl := Option.some.inj h
  exact ⟨x, y, hxy, hr, hk, hv⟩
theorem zpfx : pfxC (false, zeros, 0) = [.bool false, .int .u8 0, .int .u8 0, .int .u8 0, .int .u8 0, .int .u8 0, .int .u8 0, .int .u8 0, .int .u8 0, .int .u8 0, .int .u8 0, .int .u8 0, .int .u8 0, .int .u8 0, .int .u8 0, .int .u8 0, .int .u8 0, .int .i64 0] := rfl
set_option maxRecDepth 20000 in
set_option maxHeartbeats 4000000 in
theorem refPPfx (s : ByteArray) (p : Pfx) (hs : s.size ≤ 1000000) (h : prefT (numsOf s) = some p) (w : World) : Calls Tryd.prog 46 #[.string s] w fun e w' => e = .returned (.tuple #[.agg (pfxC p).toArray, .bool true]) ∧ Ch [] w w' := by
  obtain ⟨x, y, hxy, hx, hy, hv⟩ := prefT_spec h
  obtain ⟨six, bs, n⟩ := p
  have hgd := addrT_good hx
  obtain ⟨b0, b1, b2, b3, b4, b5, b6, b7, b8, b9, b10, b11, b12, b13, b14, b15, rfl⟩ := len16 hgd.1
  have hn := decP_le hy
  have HVP := hid (refValidPfx six _ n hgd)
  have hv' : validP (six, [b0, b1, b2, b3, b4, b5, b6, b7, b8, b9, b10, b11, b12, b13, b14, b15], n) = true := hv
  rw [hv'] at HVP
  have HP : Hid (∀ z : ByteArray, z.size ≤ 1000000 → numsOf z = x → ∀ w, Calls Tryd.prog 73 #[.string z] w fun e w' => e = .returned (.tuple #[.agg #[.bool six, .int .u8 b0, .int .u8 b1, .int .u8 b2, .int .u8 b3, .int .u8 b4, .int .u8 b5, .int .u8 b6, .int .u8 b7, .int .u8 b8, .int .u8 b9, .int .u8 b10, .int .u8 b11, .int .u8 b12, .int .u8 b13, .int .u8 b14, .int .u8 b15], .bool true]) ∧ Ch [] w w') := fun z hz he w => refParse z six [b0, b1, b2, b3, b4, b5, b6, b7, b8, b9, b10, b11, b12, b13, b14, b15] hz (by rw [he]; exact hx) w
  have HD : Hid (∀ z : ByteArray, numsOf z = y → ∀ w, Calls Tryd.prog 74 #[.string z, .int .i64 128] w fun e w' => e = .returned (.int .i64 n) ∧ w = w') := fun z he w => refDec z 128 n (by rw [he]; exact hy) (by omega) w
  have HSP := hid (refSplit s 47 hs)
  have HZ := hid (splitC_size 47 (numsOf s))
  have HXY := hid hxy
  have HI := hid (addr_inf (six := six) (bs := [b0, b1, b2, b3, b4, b5, b6, b7, b8, b9, b10, b11, b12, b13, b14, b15]) rfl)
  have HIP := hid (pfx_inf (p := (six, [b0, b1, b2, b3, b4, b5, b6, b7, b8, b9, b10, b11, b12, b13, b14, b15], n)) rfl)
  clear h hx hy hv hv' hxy hgd hn
  show Calls Tryd.prog _ _ w fun e w' => e = .returned (.tuple #[.agg (pfxC (six, [b0, b1, b2, b3, b4, b5, b6, b7, b8, b9, b10, b11, b12, b13, b14, b15], n)).toArray, .bool true]) ∧ Ch [] w w'
  have hB1 : Blk (w.alloc (.cells (pfxC (false, zeros, 0)).toArray 59)) w.heap.size 59 (pfxC (false, zeros, 0)) := Blk.new _ _ _
  go_enter Tryd.func46, Tryd.ntmps46
  go_wp2_with (first
    | (refine wpList_loadB rfl 59 _ rfl w3.heap.size 59 (pfxC (six, [b0, b1, b2, b3, b4, b5, b6, b7, b8, b9, b10, b11, b12, b13, b14, b15], n)) _ rfl B6 Tryd.underlying59 rfl HIP.out ?_)
    | (refine wpList_load_want rfl 59 _ rfl w3.heap.size 0 rfl (pfxC (six, [b0, b1, b2, b3, b4, b5, b6, b7, b8, b9, b10, b11, b12, b13, b14, b15], n)) _ B5.range Tryd.underlying59 rfl HIP.out ?_)
    | (refine wpList_storeB rfl 59 _ _ rfl w.heap.size 59 (pfxC (false, zeros, 0)) (pfxC (six, [b0, b1, b2, b3, b4, b5, b6, b7, b8, b9, b10, b11, b12, b13, b14, b15], n)) rfl rfl B1e HIP.out rfl (pfx_one _) ?_; intro w8 B8 C8 Z8)
    | (refine wpList_storeB rfl 59 _ _ rfl w3.heap.size 59 (pfxC (false, zeros, 0)) (pfxC (six, [b0, b1, b2, b3, b4, b5, b6, b7, b8, b9, b10, b11, b12, b13, b14, b15], n)) rfl rfl (Blk.new _ _ _) HIP.out rfl (pfx_one _) ?_; intro w5 B5 C5 Z5; have CC5 := (CC3.alloc _).step C5 (fun i hi => .inr (by simp at hi; omega)); have B1d := (B1c.alloc _).ch C5 (by simp; omega); clear Z5)
    | (refine wpList_loadB rfl 57 _ rfl w2.heap.size 57 [.bool six, .int .u8 b0, .int .u8 b1, .int .u8 b2, .int .u8 b3, .int .u8 b4, .int .u8 b5, .int .u8 b6, .int .u8 b7, .int .u8 b8, .int .u8 b9, .int .u8 b10, .int .u8 b11, .int .u8 b12, .int .u8 b13, .int .u8 b14, .int .u8 b15] _ rfl B3 Tryd.underlying57 rfl HI.out ?_)
    | (refine wpList_storeB rfl 57 _ _ rfl w2.heap.size 57 (addrC false zeros) (addrC six [b0, b1, b2, b3, b4, b5, b6, b7, b8, b9, b10, b11, b12, b13, b14, b15]) rfl rfl (Blk.new _ _ _) HI.out rfl (addr_one' _ _) ?_; intro w3 B3 C3 Z3; have CC3 := (CC2.alloc _).step C3 (fun i hi => .inr (by simp at hi; omega)); have B1c := (B1b.alloc _).ch C3 (by simp; omega); have own3 := (own2.alloc _).ch C3 (by intro q hq; have := (own2.blks q hq).2; simp; omega); have hy3 := own_str own3 rfl hp1; have lt3 := B1c.lt; clear Z3)
    | (go_at_call 65; (with_reducible refine (HSP.out _).mono ?_); rintro e w1 ⟨A, cp, ps, rfl, hps, own, C1⟩; rw [HXY.out] at hps; obtain ⟨z0, z1, rfl⟩ : ∃ z0 z1, ps = [z0, z1] := (by match ps, hps with | [z0, z1], _ => exact ⟨z0, z1, rfl⟩); have hz0 : numsOf z0 = x := List.cons.inj hps |>.1; have hz1 : numsOf z1 = y := List.cons.inj (List.cons.inj hps).2 |>.1; have hzs : z0.size ≤ 1000000 := (by have h9 := HZ.out x (by rw [HXY.out]; simp); rw [← hz0, numsOf_length, numsOf_length] at h9; omega); obtain ⟨q, rfl, hqw, hql⟩ := own.form (by simp); have hp0 : ([z0, z1] : List ByteArray)[0]? = some z0 := rfl; have hp1 : ([z0, z1] : List ByteArray)[1]? = some z1 := rfl; have hx1 := own_str own rfl hp0; have B1 := hB1.ch C1 (by simp); have lt1 := B1.lt; have CA := ((Ch.refl [] w).alloc _).trans C1; have HP0 := hid (HP.out z0 hzs hz0); have HD1 := hid (HD.out z1 hz1); clear hps hz0 hz1 hzs)
    | (go_at_call 73; (with_reducible refine (HP0.out _).mono ?_); rintro e w2 ⟨rfl, C2⟩; have own2 := own.ch C2 (by simp); have B1b := B1.ch C2 (by simp); have CC2 := CA.trans C2; have lt2 := B1b.lt)
    | (go_at_call 74; (with_reducible refine (HD1.out _).mono ?_); rintro e w4 ⟨rfl, rfl⟩)
    | (go_at_call 38; (with_reducible refine (HVP.out _).mono ?_); rintro e w6 ⟨rfl, C6⟩; have B6 := B5.ch C6 (by simp); have B1e := B1d.ch C6 (by simp); have CC6 := CC5.trans C6))
  try simp only [Exit.inBlock, Exit.then]
  refine bodyPost_ret (results_rowF2 rfl _ _ rfl B8 Tryd.underlying59 rfl HIP.out) rfl ?_
  exact ⟨rfl, CC6.step C8 (fun i hi => .inr (by simp at hi; omega))⟩
end Go.Proofs.YtbmbnibamhgfmaaDoor

/- ginnelref07.BlockedPrefixes, BlockedIndex. -/
namespace Go.Proofs.YtbmbnibamhgfmaaDoor
open Go.RowKit

theorem idx_hit {six : Bool} {a : List Int} {p : Pfx} : ∀ (l : List Pfx) (i k : Nat), (∀ j x, j < k → l[j]? = some x → contP x six a = false) → l[k]? = some p → contP p six a = true → idxP six a l i = (i + k : Nat)
  | [], _, _, _, h, _ => by simp at h
  | y :: l, i, 0, _, h, hc => by
    obtain rfl : y = p := by simpa using h
    rw [idxP, if_pos hc]; rfl
  | y :: l, i, k + 1, hn, h, hc => by
    have h0 := hn 0 y (by omega) rfl
    rw [idxP, h0, if_neg (by decide), idx_hit l (i + 1) k (fun j x hj hx => hn (j + 1) x (by omega) (by simpa using hx)) (by simpa using h) hc]
    congr 1; omega
theorem idx_miss {six : Bool} {a : List Int} : ∀ (l : List Pfx) (i : Nat), (∀ (j : Nat) (x : Pfx), l[j]? = some x → contP x six a = false) → idxP six a l i = -1
  | [], _, _ => rfl
  | y :: l, i, hn => by
    have h0 := hn 0 y rfl
    rw [idxP, h0, if_neg (by decide)]
    exact idx_miss l (i + 1) fun j x hx => hn (j + 1) x (by simpa using hx)
theorem own_rows {w : World} {B g c : Nat} {e : TypeId} (own : Own w B e 18 (some ⟨g, 0, none⟩) 15 c (blkT.flatMap pfxC)) (k : Nat) (p : Pfx) (hp : blkT[k]? = some p) : w.rangeAt g (k * 18) (pfxC p) := by
  intro j v hv
  obtain ⟨b, off, he, hb, hc⟩ := own.rd.2 (by decide)
  simp only [Option.some.injEq, Addr.mk.injEq] at he
  obtain ⟨rfl, rfl, _⟩ := he
  have := hc _ v (flat_get (f := pfxC) (size := 18) blkT blk_len18 k p hp j v hv)
  rwa [Nat.zero_add] at this

end Go.Proofs.YtbmbnibamhgfmaaDoor

/- blocklist.Prefixes, policytable.Rows. -/
namespace Go.Proofs.YtbmbnibamhgfmaaDoor
open Go.RowKit

theorem u16s_len (gs : List Int) (w : World) (t : TypeId) : RdI .u16 (w.alloc (.cells (gs.map (Value.int .u16)).toArray t)) (w.heap.size + 1) (some ⟨w.heap.size, 0, none⟩) gs.length gs := Rd.ints (Rd.new w 1 _ _ (by simp) t)
theorem pre6L (gs : List Int) (bits : Int) (w : World) (h0 : 0 < gs.length) (hn : gs.length ≤ 8) (hb : ∀ x ∈ gs, 0 ≤ x ∧ x ≤ 65535) :
    Calls Tryd.prog 121 #[.int .i64 bits, .slice (some ⟨w.heap.size, 0, none⟩) gs.length gs.length] (w.alloc (.cells (gs.map (Value.int .u16)).toArray 147)) fun e w' => e = .returned (.agg (pfxC (pf6 gs bits)).toArray) ∧ Ch [] w w' :=
  (pre6 _ gs.length gs bits (w.heap.size + 1) _ (u16s_len gs w _) (by simp) hn (fun h => absurd h (by omega)) hb).mono fun _ _ ⟨h1, h2⟩ => ⟨h1, ((Ch.refl _ _).alloc _).trans h2⟩
set_option maxRecDepth 20000 in
set_option maxHeartbeats 4000000 in
theorem pfxList (w : World) : Calls Tryd.prog 107 #[] w fun e w' => ∃ A, e = .returned (.slice A 15 15) ∧ Own w' w.heap.size 59 18 A 15 15 (blkT.flatMap pfxC) ∧ Ch [] w w' := by
  have H0 : Hid (∀ w : World, Calls Tryd.prog 121 #[.int .i64 128, .slice none 0 0] w fun e w' => e = .returned (.agg (pfxC (pf6 [] 128)).toArray) ∧ Ch [] w w') := fun w => pre6 none 0 [] 128 w.heap.size w (Rd.ints (Rd.nil w w.heap.size 1 none)) (Nat.le_refl _) (by decide) (fun _ => rfl) (by decide)
  have H1 : Hid (∀ w : World, Calls Tryd.prog 121 #[.int .i64 128, .slice (some ⟨w.heap.size, 0, none⟩) 8 8] (w.alloc (.cells #[.int .u16 0, .int .u16 0, .int .u16 0, .int .u16 0, .int .u16 0, .int .u16 0, .int .u16 0, .int .u16 1] 147)) fun e w' => e = .returned (.agg (pfxC (pf6 [0, 0, 0, 0, 0, 0, 0, 1] 128)).toArray) ∧ Ch [] w w') := fun w => pre6L [0, 0, 0, 0, 0, 0, 0, 1] 128 w (by decide) (by decide) (by decide)
  have H2 : Hid (∀ w : World, Calls Tryd.prog 121 #[.int .i64 96, .slice (some ⟨w.heap.size, 0, none⟩) 6 6] (w.alloc (.cells #[.int .u16 0, .int .u16 0, .int .u16 0, .int .u16 0, .int .u16 0, .int .u16 65535] 147)) fun e w' => e = .returned (.agg (pfxC (pf6 [0, 0, 0, 0, 0, 65535] 96)).toArray) ∧ Ch [] w w') := fun w => pre6L [0, 0, 0, 0, 0, 65535] 96 w (by decide) (by decide) (by decide)
  have H3 : Hid (∀ w : World, Calls Tryd.prog 121 #[.int .i64 96, .slice (some ⟨w.heap.size, 0, none⟩) 2 2] (w.alloc (.cells #[.int .u16 100, .int .u16 65435] 147)) fun e w' => e = .returned (.agg (pfxC (pf6 [100, 65435] 96)).toArray) ∧ Ch [] w w') := fun w => pre6L [100, 65435] 96 w (by decide) (by decide) (by decide)
  have H4 : Hid (∀ w : World, Calls Tryd.prog 121 #[.int .i64 7, .slice (some ⟨w.heap.size, 0, none⟩) 1 1] (w.alloc (.cells #[.int .u16 64512] 147)) fun e w' => e = .returned (.agg (pfxC (pf6 [64512] 7)).toArray) ∧ Ch [] w w') := fun w => pre6L [64512] 7 w (by decide) (by decide) (by decide)
  have H5 : Hid (∀ w : World, Calls Tryd.prog 121 #[.int .i64 10, .slice (some ⟨w.heap.size, 0, none⟩) 1 1] (w.alloc (.cells #[.int .u16 65152] 147)) fun e w' => e = .returned (.agg (pfxC (pf6 [65152] 10)).toArray) ∧ Ch [] w w') := fun w => pre6L [65152] 10 w (by decide) (by decide) (by decide)
  have H6 : Hid (∀ w : World, Calls Tryd.prog 121 #[.int .i64 8, .slice (some ⟨w.heap.size, 0, none⟩) 1 1] (w.alloc (.cells #[.int .u16 65280] 147)) fun e w' => e = .returned (.agg (pfxC (pf6 [65280] 8)).toArray) ∧ Ch [] w w') := fun w => pre6L [65280] 8 w (by decide) (by decide) (by decide)
  have CC := Ch.refl [] w
  go_enter Tryd.func107, Tryd.ntmps107
  go_wp2_with (first
    | (go_at_call 120; (with_reducible refine (v4P _ _ _ _ _).mono ?_); rintro e wn ⟨rfl, Cn⟩; replace CC := CC.trans Cn; clear Cn)
    | (go_at_call 121; (with_reducible refine (H0.out _).mono ?_); rintro e wn ⟨rfl, Cn⟩; replace CC := CC.trans Cn; clear Cn)
    | (go_at_call 121; (with_reducible refine (H1.out _).mono ?_); rintro e wn ⟨rfl, Cn⟩; replace CC := CC.trans Cn; clear Cn)
    | (go_at_call 121; (with_reducible refine (H2.out _).mono ?_); rintro e wn ⟨rfl, Cn⟩; replace CC := CC.trans Cn; clear Cn)
    | (go_at_call 121; (with_reducible refine (H3.out _).mono ?_); rintro e wn ⟨rfl, Cn⟩; replace CC := CC.trans Cn; clear Cn)
    | (go_at_call 121; (with_reducible refine (H4.out _).mono ?_); rintro e wn ⟨rfl, Cn⟩; replace CC := CC.trans Cn; clear Cn)
    | (go_at_call 121; (with_reducible refine (H5.out _).mono ?_); rintro e wn ⟨rfl, Cn⟩; replace CC := CC.trans Cn; clear Cn)
    | (go_at_call 121; (with_reducible refine (H6.out _).mono ?_); rintro e wn ⟨rfl, Cn⟩; replace CC := CC.trans Cn; clear Cn)
    | (refine wpList_buildRows rfl 133 59 15 _ rfl (blkT.flatMap pfxC) _ 18 _ Tryd.underlying133 pfx_infoZ (by decide) (by decide) (by kernel_rfl) ?_))
  go_ret
  exact ⟨_, rfl, Own.new _ _ _ _ _ _ CC.size (by unfold maxLen; omega) (by kernel_rfl), CC.alloc _⟩
end Go.Proofs.YtbmbnibamhgfmaaDoor

/- blocklist.Index, Contains. -/
namespace Go.Proofs.YtbmbnibamhgfmaaDoor
open Go.RowKit

theorem idxFn (p : Pfx) (hp : GoodA p.2.1) (six : Bool) (bs : List Int) (hg : GoodA bs) (r : Nat) (w : World) (hB : Blk w r 57 (addrC six bs)) :
    Calls Tryd.prog 108 #[.agg (pfxC p).toArray, .pointer (some ⟨r, 0, none⟩)] w fun e w' => e = .returned (.bool (contP p six bs)) ∧ Ch [] w w' := by
  have hB1 : Blk (w.alloc (.cells (pfxC p).toArray 59)) w.heap.size 59 (pfxC p) := Blk.new w _ _
  have hB2 := hB.alloc (.cells (pfxC p).toArray 59)
  have hC : Ch [] w (w.alloc (.cells (pfxC p).toArray 59)) := (Ch.refl _ _).alloc _
  have HI := hid (addr_inf (six := six) hg.1)
  have HIP := hid (pfx_inf (p := p) hp.1)
  have HC := hid (contPfx p.1 p.2.1 p.2.2 hp six bs hg)
  have HC2 : Hid (∀ w, Calls Tryd.prog 109 #[.agg (pfxC p).toArray, .agg (addrC six bs).toArray] w fun e w' => e = .returned (.bool (contP p six bs)) ∧ Ch [] w w') := HC
  obtain ⟨cs, hcs⟩ : ∃ cs, pfxC p = cs := ⟨_, rfl⟩
  obtain ⟨vs, hvs⟩ : ∃ vs, addrC six bs = vs := ⟨_, rfl⟩
  obtain ⟨V, hV⟩ : ∃ V, contP p six bs = V := ⟨_, rfl⟩
  rw [hcs, hvs, hV] at HC2
  rw [hcs] at hB1 hB2 hC HIP ⊢
  rw [hvs] at hB2 HI
  rw [hV]
  clear hcs hvs hV HC hB
  go_enter Tryd.func108, Tryd.ntmps108
  go_wp2_with (first
    | (refine wpList_loadB rfl 59 _ rfl w.heap.size 59 cs _ rfl hB1 Tryd.underlying59 rfl HIP.out ?_)
    | (refine wpList_loadB rfl 57 _ rfl r 57 vs _ rfl hB2 Tryd.underlying57 rfl HI.out ?_)
    | (go_at_call 109; (with_reducible refine (HC2.out _).mono ?_); rintro e w2 ⟨rfl, C2⟩))
  go_ret
  exact ⟨rfl, hC.trans C2⟩

set_option maxRecDepth 20000 in
set_option maxHeartbeats 4000000 in
theorem idxFunc (six : Bool) (bs : List Int) (hg : GoodA bs) (r g : Nat) (w : World) (hB : Blk w r 57 (addrC six bs)) (hgw : g < w.heap.size)
    (hrow : ∀ (k : Nat) (p : Pfx), blkT[k]? = some p → w.rangeAt g (k * 18) (pfxC p)) (c : Nat) :
    Calls Tryd.prog 106 #[.slice (some ⟨g, 0, none⟩) 15 c, .func (.func 108) #[] #[.pointer (some ⟨r, 0, none⟩)]] w fun e w' => e = .returned (.int .i64 (idxP six bs blkT 0)) ∧ Ch [] w w' := by
  have HROW := hid hrow
  clear hrow
  go_enter Tryd.func106, Tryd.ntmps106
  go_wp2_with fail
  go_loopw [5, 8] (fun _ i wr => ∃ k : Nat, k ≤ 15 ∧ i = .int .i64 k ∧ Hid (∀ (j : Nat) (x : Pfx), j < k → blkT[j]? = some x → contP x six bs = false) ∧ Ch [] w wr) (fun _ i _ => 15 - (intOf i).toNat)
  case atStart => exact ⟨0, by omega, rfl, fun j x hj => absurd hj (by omega), Ch.refl _ _⟩
  case round =>
    obtain ⟨k, hk, rfl, HN, CR⟩ := hrel
    by_cases hlt : k < 15
    · obtain ⟨p, hp⟩ : ∃ p, blkT[k]? = some p := ⟨blkT[k]'(by rw [blk_len]; omega), List.getElem?_eq_getElem (by rw [blk_len]; omega)⟩
      have hgp : GoodA p.2.1 := blk_good p (List.mem_of_getElem? hp)
      have HP := hid hp
      have HRP : Hid (wr.rangeAt g (k * 18) (pfxC p)) := fun j v hv => (CR.cell (p := ⟨g, k * 18 + j, none⟩) hgw (by simp)).trans (HROW.out k p hp j v hv)
      have HIP := hid (pfx_inf (p := p) hgp.1)
      have HC := hid (fun w hB => idxFn p hgp six bs hg r w hB)
      have hBr := hB.ch CR (by simp)
      clear hp hgp
      have hi0 : (0 : Int) ≤ k := by omega
      have hi1 : (k : Int) < 15 := by omega
      cases hcp : contP p six bs with
      | true =>
        rw [hcp] at HC
        have HH := hid (idx_hit blkT 0 k HN.out HP.out hcp)
        clear hcp
        obtain ⟨cs, hcs⟩ : ∃ cs, pfxC p = cs := ⟨_, rfl⟩
        rw [hcs] at HRP HIP HC
        clear hcs
        go_wp2_with (first
          | (refine wpList_load_want rfl 59 _ rfl g (k * 18) rfl cs _ HRP.out Tryd.underlying59 rfl HIP.out ?_)
          | (go_at_call 108; (with_reducible refine (HC.out _ hBr).mono ?_); rintro e w2 ⟨rfl, C2⟩))
        go_ret
        refine ⟨by (rw [HH.out, Nat.zero_add]) <;> rfl, CR.trans C2⟩
      | false =>
        rw [hcp] at HC
        have HN2 : Hid (∀ (j : Nat) (x : Pfx), j < k + 1 → blkT[j]? = some x → contP x six bs = false) := fun j x hj hx => by
          by_cases e : j = k
          · subst e
            rw [HP.out] at hx
            obtain rfl := Option.some.inj hx
            exact hcp
          · exact HN.out j x (by omega) hx
        clear hcp
        obtain ⟨cs, hcs⟩ : ∃ cs, pfxC p = cs := ⟨_, rfl⟩
        rw [hcs] at HRP HIP HC
        clear hcs
        go_wp2_with (first
          | (refine wpList_load_want rfl 59 _ rfl g (k * 18) rfl cs _ HRP.out Tryd.underlying59 rfl HIP.out ?_)
          | (go_at_call 108; (with_reducible refine (HC.out _ hBr).mono ?_); rintro e w2 ⟨rfl, C2⟩))
        go_roundw
        case rel => exact ⟨k + 1, by omega, by go_num, HN2, CR.trans C2⟩
        case measure => simp [intOf]; omega
    · obtain rfl : k = 15 := by omega
      have HH := hid (idx_miss (six := six) (a := bs) blkT 0 (fun j x hx => HN.out j x (by have := (List.getElem?_eq_some_iff.1 hx).1; rw [blk_len] at this; exact this) hx))
      go_wp2_with fail
      go_ret
      exact ⟨by (rw [HH.out]) <;> rfl, CR⟩

set_option maxRecDepth 20000 in
set_option maxHeartbeats 4000000 in
theorem blkIdx (six : Bool) (bs : List Int) (hg : GoodA bs) (w : World) : Calls Tryd.prog 92 #[.agg (addrC six bs).toArray] w fun e w' => e = .returned (.int .i64 (idxP six bs blkT 0)) ∧ Ch [] w w' := by
  have hB0 : Blk (w.alloc (.cells (addrC six bs).toArray 57)) w.heap.size 57 (addrC six bs) := Blk.new w _ _
  have hC0 : Ch [] w (w.alloc (.cells (addrC six bs).toArray 57)) := (Ch.refl _ _).alloc _
  have HF := hid (fun r g w hB hgw hrow c => idxFunc six bs hg r g w hB hgw hrow c)
  obtain ⟨vs, hvs⟩ : ∃ vs, (addrC six bs).toArray = vs := ⟨_, rfl⟩
  rw [hvs] at hB0 hC0 ⊢
  clear hvs
  go_enter Tryd.func92, Tryd.ntmps92
  go_wp2_with (first
    | (go_at_call 107; (with_reducible refine (pfxList _).mono ?_); rintro e w2 ⟨A, rfl, own, C2⟩; have B2 := hB0.ch C2 (by simp); have CC2 := hC0.trans C2; obtain ⟨g, rfl, hg0, hg1⟩ := own.form (by decide))
    | (go_at_call 106; (with_reducible refine (HF.out _ _ _ B2 hg1 (own_rows own) _).mono ?_); rintro e w3 ⟨rfl, C3⟩))
  go_ret
  exact ⟨rfl, CC2.trans C3⟩

set_option maxRecDepth 20000 in
set_option maxHeartbeats 4000000 in
theorem blkCont (six : Bool) (bs : List Int) (hg : GoodA bs) (w : World) : Calls Tryd.prog 75 #[.agg (addrC six bs).toArray] w fun e w' => e = .returned (.bool (decide (0 ≤ idxP six bs blkT 0) || !validA six bs)) ∧ Ch [] w w' := by
  have hB0 : Blk (w.alloc (.cells (addrC six bs).toArray 57)) w.heap.size 57 (addrC six bs) := Blk.new w _ _
  have hC0 : Ch [] w (w.alloc (.cells (addrC six bs).toArray 57)) := (Ch.refl _ _).alloc _
  have HX := hid (blkIdx six bs hg)
  have HV := hid (ipValid six bs hg.1 hg.2)
  have HI := hid (addr_inf (six := six) hg.1)
  obtain ⟨vs, hvs⟩ : ∃ vs, addrC six bs = vs := ⟨_, rfl⟩
  rw [hvs] at hB0 hC0 HX HV HI ⊢
  clear hvs
  generalize idxP six bs blkT 0 = x at HX ⊢
  generalize validA six bs = v at HV ⊢
  by_cases hx : 0 ≤ x
  · have hd : decide (0 ≤ x) = true := by simpa using hx
    rw [hd]
    go_enter Tryd.func75, Tryd.ntmps75
    go_wp2_with (first
      | (refine wpList_loadB rfl 57 _ rfl w.heap.size 57 vs _ rfl hB0 Tryd.underlying57 rfl HI.out ?_)
      | (go_at_call 92; (with_reducible refine (HX.out _).mono ?_); rintro e w2 ⟨rfl, C2⟩))
    go_ret
    exact ⟨rfl, hC0.trans C2⟩
  · have hd : decide (0 ≤ x) = false := by simpa using hx
    rw [hd]
    go_enter Tryd.func75, Tryd.ntmps75
    go_wp2_with (first
      | (refine wpList_loadB rfl 57 _ rfl w.heap.size 57 vs _ rfl hB0 Tryd.underlying57 rfl HI.out ?_)
      | (refine wpList_load_want rfl 57 _ rfl w.heap.size 0 rfl vs _ (hB0.ch C2 (by simp)).range Tryd.underlying57 rfl HI.out ?_)
      | (go_at_call 92; (with_reducible refine (HX.out _).mono ?_); rintro e w2 ⟨rfl, C2⟩)
      | (go_at_call 57; (with_reducible refine (HV.out _).mono ?_); rintro e w3 ⟨rfl, C3⟩))
    go_ret
    exact ⟨by cases v <;> rfl, (hC0.trans C2).trans C3⟩
end Go.Proofs.YtbmbnibamhgfmaaDoor
