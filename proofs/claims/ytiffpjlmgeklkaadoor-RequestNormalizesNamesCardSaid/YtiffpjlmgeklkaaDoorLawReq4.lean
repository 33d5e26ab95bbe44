/- The walk of RequestNormalizesNames. -/
import Derived.Test.YtiffpjlmgeklkaaDoorLawReq
import Derived.Test.YtiffpjlmgeklkaaDoorReqE
import Derived.Test.YtiffpjlmgeklkaaDoorGenN
import Derived.Test.YtiffpjlmgeklkaaDoorLawRply2
namespace Go.Proofs.YtiffpjlmgeklkaaDoor
open Go.ChangeShapes Go.WideShapes Go.ChangeAt Go.RowKit

theorem parse_req2 (nm : ByteArray) (port : Int) (hg : GoodT (nm, false, zeros, port)) (hok : okT (nm, false, zeros, port) = true) (hp : 1 ≤ port) (h0 : 0 < nm.size) (hn : namOk (numsOf (canS nm)) = true) (r : List Int) :
    parseQ (5 :: 1 :: 0 :: (encT' (nm, false, zeros, port) ++ r)) = ((canS nm, false, zeros, port), 0, 3 + ((encT' (nm, false, zeros, port)).length : Int), 1) := by
  have hpe := parse_enc (nm, false, zeros, port) hg hok r
  have hb : backT (nm, false, zeros, port) = (nm, false, zeros, port) := by unfold backT; rw [if_pos (by show nm.size ≠ 0; omega)]
  have hh : encT' (nm, false, zeros, port) ++ r = 3 :: (nm.size : Int) :: (numsOf nm ++ [port / 256, port % 256] ++ r) := by
    unfold encT' headT
    rw [if_pos (by show nm.size ≠ 0; omega)]
    rfl
  rw [hb] at hpe
  unfold parseQ
  have hd : (5 :: 1 :: 0 :: (encT' (nm, false, zeros, port) ++ r)).drop 3 = encT' (nm, false, zeros, port) ++ r := rfl
  have h3 : at_ (5 :: 1 :: 0 :: (encT' (nm, false, zeros, port) ++ r)) 3 = 3 := by rw [hh]; rfl
  have h1 : at_ (5 :: 1 :: 0 :: (encT' (nm, false, zeros, port) ++ r)) 1 = 1 := rfl
  rw [hd, hpe, h3, h1, if_neg (by
    rintro (⟨_, g⟩ | ⟨_, g⟩)
    · exact g rfl
    · exact g rfl), if_neg (by rw [hh]; simp only [List.length_cons]; omega), if_neg (by omega), if_neg (by simp), if_neg (by simp), if_neg (by rintro ⟨_, g⟩; rw [hn] at g; cases g), if_neg (by show ¬ port = 0; omega), if_pos (by show nm.size ≠ 0; omega)]
theorem can_dot (zs : List Int) (hz : ∀ x ∈ zs, 0 ≤ x ∧ x ≤ 255) (u : ByteArray) (h : zs.map lw = numsOf u) : canS (strOfNums zs ++ ⟨#[46]⟩) = u := by
  apply nums_inj'
  rw [nums_canS, nums_app, strOf_bytes _ hz, show numsOf (⟨#[46]⟩ : ByteArray) = [46] from rfl]
  unfold canN
  rw [if_pos ⟨by simp, by simp [at_, List.getD]⟩]
  simp [h]
theorem lw_dn {x : Int} (h : 97 ≤ x ∧ x ≤ 122) : lw (x - 32) = x := by unfold lw; rw [if_pos (by omega)]; omega
theorem set_low {zs us : List Int} {k : Nat} (h : zs.map lw = us) (hk : k < zs.length) (y : Int) (hy : lw y = lw (at_ zs k)) : (zs.set k y).map lw = us := by
  rw [List.map_set, hy, ← h]
  apply List.ext_getElem?
  intro j
  rw [List.getElem?_set]
  split
  · rename_i e; subst e; simp [at_, List.getD, hk]
  · rfl

set_option maxRecDepth 100000 in
set_option maxHeartbeats 8000000 in
theorem requestNormalizesNames_came {H : Type} {enc : TypeId × Value → H} (W : World) (args : Array Value) (ds : List (DataW H)) (_ : laidMetH Tryd.prog Rows.requestNormalizesNamesRow.laid W) (h : Came enc Tryd.prog Tryd.f8 W args ds) :
    Calls Tryd.prog 8 args W fun e W' => e = .returned (.bool true) ∧ Below W.heap.size W W' := by
  obtain ⟨v0, v1, v2, v3, d0, d1, d2, d3, rfl, a0, a1, a2, a3⟩ := h.args4 rfl
  obtain ⟨s, rfl, hs⟩ := a0.string Tryd.underlying9
  obtain ⟨n, rfl, hn, hn'⟩ := a1.i64 Tryd.underlying3
  obtain ⟨port, rfl, hpo, hpo'⟩ := a2.i64 Tryd.underlying3
  obtain ⟨b, rfl, hbs⟩ := a3.string Tryd.underlying9
  clear h a0 a1 a2 a3
  obtain ⟨p0, p1⟩ := modI_rng port 65536 (by omega)
  have M1 := hid (fun w => genMod port 65536 w (by omega) (by omega))
  generalize modI port 65536 = p at p0 p1 M1
  have hgz : GoodT (s, false, zeros, p) := ⟨rfl, good0.2⟩
  have hE1 := encQ (s, false, zeros, p) hgz (by show s.size ≤ _; omega)
  have hXs : ((encTgt (s, false, zeros, p)).getD []).length ≤ 259 := by
    unfold encTgt
    split
    · rename_i hk; exact encT_len hgz hk
    · exact Nat.zero_le _
  generalize encTgt (s, false, zeros, p) = o at hE1 hXs
  obtain ⟨X, hX⟩ : ∃ X, strOfNums (o.getD []) = X := ⟨_, rfl⟩
  have hXz : X.size ≤ 259 := by rw [← hX, strOf_size]; exact hXs
  obtain ⟨y, hy⟩ : ∃ y, o.isSome = y := ⟨_, rfl⟩
  have hE2 : ∀ w, Calls Tryd.prog 12 #[.agg #[.string s, .bool false, .int .u8 0, .int .u8 0, .int .u8 0, .int .u8 0, .int .u8 0, .int .u8 0, .int .u8 0, .int .u8 0, .int .u8 0, .int .u8 0, .int .u8 0, .int .u8 0, .int .u8 0, .int .u8 0, .int .u8 0, .int .u8 0, .int .i64 p]] w fun e w' => e = .returned (.tuple #[.string X, .bool y]) ∧ Ch [] w w' := by
    rw [← hX, ← hy]; exact hE1
  have HE1 := hid hE2
  have gmX : (⟨#[5, 1, 0]⟩ : ByteArray).size + X.size ≤ maxLen := by rw [show (⟨#[5, 1, 0]⟩ : ByteArray).size = 3 from rfl]; unfold maxLen; omega
  have gmX2 : (⟨#[5, 1, 0]⟩ : ByteArray).size + X.size + b.size ≤ maxLen := by rw [show (⟨#[5, 1, 0]⟩ : ByteArray).size = 3 from rfl]; unfold maxLen; omega
  have hag := agrees19 (⟨#[5, 1, 0]⟩ ++ X ++ b) (by rw [ByteArray.size_append, ByteArray.size_append, show (⟨#[5, 1, 0]⟩ : ByteArray).size = 3 from rfl]; omega)
  have HAG := hid hag
  obtain ⟨ee, hee⟩ : ∃ ee, bits .and .i64 n 1 = ee := ⟨_, rfl⟩
  clear hE1 hE2 hag hX hy hXs
  have s3 : (⟨#[5, 1, 0]⟩ : ByteArray).size = 3 := rfl
  have s1 : (⟨#[46]⟩ : ByteArray).size = 1 := rfl
  go_enter Tryd.func8, Tryd.ntmps8
  go_wp2_with (first
    | (refine wpList_bytesRow rfl 9 34 5 _ rfl Tryd.underlying9 Tryd.underlying34 Tryd.underlying5 u rfl (by unfold maxLen; omega) ?_; intro c w3 hc1 hc2 hr C3 hz3)
    | (go_at_call 22; (with_reducible refine (M1.out _).mono ?_); rintro e w1 ⟨rfl, rfl⟩)
    | (go_at_call 12; (with_reducible refine (HE1.out _).mono ?_); rintro e w2 ⟨rfl, C2⟩)
    | (go_at_call 23; (with_reducible refine (genHostN _ _).mono ?_); rintro e wh ⟨⟨u, rfl, hnm⟩, rfl⟩; obtain ⟨hu1, hu2⟩ := hnm.1; have HNM := hid hnm; clear hnm))
  have CT := C2.trans C3
  obtain ⟨g, hg⟩ : ∃ g, w2.heap.size = g := ⟨_, rfl⟩
  have hgW := C2.size
  rw [hg] at hr ⊢
  go_loopw [14] (fun i wr => ∃ (k : Nat) (zs : List Int), i = .int .i64 k ∧ k ≤ u.size ∧ BRow wr g 5 zs ∧ zs.length = u.size ∧ Hid (zs.map lw = numsOf u) ∧ Hid (∀ x ∈ zs, 0 ≤ x ∧ x ≤ 255) ∧ Ch [] W wr) (fun i _ => u.size - (intOf i).toNat)
  case atStart =>
    refine ⟨0, numsOf u, rfl, Nat.zero_le _, hr, numsOf_length u, ?_, nums_bytes u, CT⟩
    show _ = _
    conv => rhs; rw [← List.map_id (numsOf u)]
    apply List.map_congr_left
    intro x hx
    have := List.all_eq_true.1 HNM.out.2.2.2 x hx
    exact lw_no (by simp at this; omega)
  case round =>
    clear hr CT C3
    obtain ⟨k, zs, rfl, hk, hr, hl, hZ, hby, CC⟩ := hrel
    by_cases hp : k < u.size
    · have hkz : k < zs.length := by omega
      have hc := hr.cell hkz
      have hf := hr.frozen hkz
      have hglt := hr.lt
      have HB := hid (hby.out (at_ zs k) (by simp [at_, List.getD, List.getElem?_eq_getElem hkz]))
      have HST := hid (fun y => set_low (y := y) hZ.out hkz)
      obtain ⟨x0, x255⟩ := HB.out
      have HBY : Hid (∀ y, 0 ≤ y ∧ y ≤ 255 → ∀ x ∈ zs.set k y, 0 ≤ x ∧ x ≤ 255) := by
        intro y hy x hx
        rcases List.mem_or_eq_of_mem_set hx with h | h
        · exact hby.out x h
        · rw [h]; exact hy
      generalize at_ zs k = x at hc HB HST x0 x255
      have HR : Hid (¬ (97 ≤ x ∧ x ≤ 122) → True) := fun _ => trivial
      rcases (show x < 97 ∨ (97 ≤ x ∧ x ≤ 122) ∨ (97 ≤ x ∧ 122 < x) by omega) with h1 | ⟨h1, h2⟩ | ⟨h1, h2⟩
      · go_wp2_with fail
        go_roundw
        case rel => exact ⟨k + 1, zs, by go_num, by omega, hr, hl, hZ, hby, CC⟩
        case measure => simp [intOf]; omega
      · have HLD := hid (lw_dn ⟨h1, h2⟩)
        have HLN := hid (lw_no (x := x) (by omega))
        by_cases hcd : (k : Int) % 2 = ee
        · have hcd' : ((k : Int) % 2 == ee) = true := by simpa using hcd
          go_wp2_with fail
          go_roundw
          case rel => exact ⟨k + 1, zs.set k (x - 32), by go_num, by omega, hr.set hkz _, by rw [List.length_set]; exact hl, HST.out _ (by rw [HLD.out, HLN.out]), HBY.out _ (by omega), CC.setCell (p := ⟨g, k, none⟩) (.inr (by show _ ≤ g; omega)) _⟩
          case measure => simp [intOf]; omega
        · have hcd' : ((k : Int) % 2 == ee) = false := by simpa using hcd
          clear hcd
          go_wp2_with fail
          go_roundw
          case rel => exact ⟨k + 1, zs, by go_num, by omega, hr, hl, hZ, hby, CC⟩
          case measure => simp [intOf]; omega
      · have h3 : ¬ x ≤ 122 := by omega
        go_wp2_with fail
        go_roundw
        case rel => exact ⟨k + 1, zs, by go_num, by omega, hr, hl, hZ, hby, CC⟩
        case measure => simp [intOf]; omega
    · obtain rfl : k = u.size := by omega
      have hrd := hr.rd
      rw [hl] at hrd
      obtain ⟨G, hG⟩ : ∃ G, strOfNums zs = G := ⟨_, rfl⟩
      have hGs : G.size = u.size := by rw [← hG, strOf_size, hl]
      have hcan : canS (G ++ ⟨#[46]⟩) = u := by rw [← hG]; exact can_dot zs hby.out u hZ.out
      have hok : okT (G ++ ⟨#[46]⟩, false, zeros, 80) = true := by
        simp only [okT, Bool.and_eq_true, decide_eq_true_eq]
        exact ⟨⟨⟨by rw [ByteArray.size_append, s1]; omega, rfl⟩, by omega⟩, by omega⟩
      have hgd : GoodT (G ++ ⟨#[46]⟩, false, zeros, 80) := ⟨rfl, good0.2⟩
      have hE3 := encQ (G ++ ⟨#[46]⟩, false, zeros, 80) hgd (by show (G ++ ⟨#[46]⟩).size ≤ _; rw [ByteArray.size_append, s1]; omega)
      rw [encT_some hok rfl] at hE3
      have hEl := encT_len hgd hok
      have hEb := strOf_bytes _ (encT_bytes hgd hok)
      have hpq := parse_req2 (G ++ ⟨#[46]⟩) 80 hgd hok (by omega) (by rw [ByteArray.size_append, s1]; omega) (by rw [hcan]; exact HNM.out.2.1) (numsOf b)
      rw [hcan] at hpq
      generalize encT' (G ++ ⟨#[46]⟩, false, zeros, 80) = E at hE3 hEl hEb hpq
      have hEz : (strOfNums E).size = E.length := strOf_size _
      obtain ⟨Y, hY⟩ : ∃ Y, strOfNums E = Y := ⟨_, rfl⟩
      rw [hY] at hE3 hEb hEz
      have hP := reqP (⟨#[5, 1, 0]⟩ ++ Y ++ b) (by rw [ByteArray.size_append, ByteArray.size_append, s3]; omega)
      rw [nums_app, nums_app, hEb, show numsOf (⟨#[5, 1, 0]⟩ : ByteArray) ++ E ++ numsOf b = 5 :: 1 :: 0 :: (E ++ numsOf b) from rfl, hpq] at hP
      have HE3 : Hid (∀ w, Calls Tryd.prog 12 #[.agg #[.string (G ++ ⟨#[46]⟩), .bool false, .int .u8 0, .int .u8 0, .int .u8 0, .int .u8 0, .int .u8 0, .int .u8 0, .int .u8 0, .int .u8 0, .int .u8 0, .int .u8 0, .int .u8 0, .int .u8 0, .int .u8 0, .int .u8 0, .int .u8 0, .int .u8 0, .int .i64 80]] w fun e w' => e = .returned (.tuple #[.string Y, .bool true]) ∧ Ch [] w w') := hE3
      have HP : Hid (∀ w, Calls Tryd.prog 24 #[.string (⟨#[5, 1, 0]⟩ ++ Y ++ b)] w fun e w' => e = .returned (.tuple #[.agg (tgtC (u, false, zeros, 80)).toArray, .int .i64 0, .int .i64 (3 + (E.length : Int)), .int .i64 1]) ∧ Ch [] w w') := hP
      have gm0 : G.size + (⟨#[46]⟩ : ByteArray).size ≤ maxLen := by rw [s1]; unfold maxLen; omega
      have gm1 : (⟨#[5, 1, 0]⟩ : ByteArray).size + Y.size ≤ maxLen := by rw [s3]; unfold maxLen; omega
      have gm2 : (⟨#[5, 1, 0]⟩ : ByteArray).size + Y.size + b.size ≤ maxLen := by rw [s3]; unfold maxLen; omega
      have eqs : ∀ w, (Op.equalIn 10000 26 (.agg (tgtC (u, false, zeros, 80)).toArray) (.agg #[.string u, .bool false, .int .u8 0, .int .u8 0, .int .u8 0, .int .u8 0, .int .u8 0, .int .u8 0, .int .u8 0, .int .u8 0, .int .u8 0, .int .u8 0, .int .u8 0, .int .u8 0, .int .u8 0, .int .u8 0, .int .u8 0, .int .u8 0, .int .i64 80])).run Tryd.prog w = .ok true w := fun w => tgt_same (u, false, zeros, 80) rfl w
      have I2 := hid (tgt_inf (t := (u, false, zeros, 80)) rfl)
      have HG := hid hG
      clear hE3 hP hpq hEb hcan hG
      have hsz : s.size = 0 ∨ s.toList.isEmpty = false := by
        rcases Nat.eq_zero_or_pos s.size with h | h
        · exact .inl h
        · exact .inr (notEmp h)
      cases y
      · go_wp2_with (first
          | (refine wpList_load_want rfl 26 _ rfl w6.heap.size 0 rfl (tgtC (u, false, zeros, 80)) _ B8.range Tryd.underlying26 rfl I2.out ?_)
          | (go_at_call 20; (with_reducible refine (awake19 _).mono ?_); rintro e w8 ⟨rfl, C8⟩; have B8 := B7.ch C8 (by simp); have CE := C7.trans C8)
          | (refine wpList_storeB rfl 26 _ _ rfl w6.heap.size 26 (tgtC tgt0) (tgtC (u, false, zeros, 80)) rfl rfl (Blk.new _ _ _) I2.out rfl (tgt_one _) ?_; intro w7 B7 K7 Z7; have C7 := ((C5.trans C6).alloc _).step K7 (fun i hi => .inr (by simp at hi; omega)))
          | (go_at_call 24; (with_reducible refine (HP.out _).mono ?_); rintro e w6 ⟨rfl, C6⟩; have z6 := (C5.trans C6).size)
          | (go_at_call 12; (with_reducible refine (HE3.out _).mono ?_); rintro e w5 ⟨rfl, C5'⟩; have C5 := CC.trans C5')
          | (refine wpList_strOf rfl 34 9 5 _ rfl Tryd.underlying34 Tryd.underlying5 Tryd.underlying9 _ u.size c wr.heap.size zs rfl hrd ?_; rw [HG.out]))
        go_ret
        exact ⟨rfl, CE.nil_below⟩
      · rcases hsz with h0 | h0
        · obtain rfl : s = ⟨#[]⟩ := emp0 h0
          clear h0
          go_wp2_with (first
          | (refine wpList_load_want rfl 26 _ rfl w6.heap.size 0 rfl (tgtC (u, false, zeros, 80)) _ B8.range Tryd.underlying26 rfl I2.out ?_)
          | (go_at_call 20; (with_reducible refine (awake19 _).mono ?_); rintro e w8 ⟨rfl, C8⟩; have B8 := B7.ch C8 (by simp); have CE := C7.trans C8)
          | (refine wpList_storeB rfl 26 _ _ rfl w6.heap.size 26 (tgtC tgt0) (tgtC (u, false, zeros, 80)) rfl rfl (Blk.new _ _ _) I2.out rfl (tgt_one _) ?_; intro w7 B7 K7 Z7; have C7 := ((C5.trans C6).alloc _).step K7 (fun i hi => .inr (by simp at hi; omega)))
          | (go_at_call 24; (with_reducible refine (HP.out _).mono ?_); rintro e w6 ⟨rfl, C6⟩; have z6 := (C5.trans C6).size)
          | (go_at_call 12; (with_reducible refine (HE3.out _).mono ?_); rintro e w5 ⟨rfl, C5'⟩; have C5 := CC.trans C5')
          | (refine wpList_strOf rfl 34 9 5 _ rfl Tryd.underlying34 Tryd.underlying5 Tryd.underlying9 _ u.size c wr.heap.size zs rfl hrd ?_; rw [HG.out]))
          go_ret
          exact ⟨rfl, CE.nil_below⟩
        · skip
          go_wp2_with (first
          | (refine wpList_load_want rfl 26 _ rfl w6.heap.size 0 rfl (tgtC (u, false, zeros, 80)) _ B9.range Tryd.underlying26 rfl I2.out ?_)
          | (go_at_call 21; (with_reducible refine (HAG.out _).mono ?_); rintro e w9 ⟨rfl, C9⟩; have B9 := B8.ch C9 (by simp); have CE := CE8.trans C9)
          | (go_at_call 20; (with_reducible refine (awake19 _).mono ?_); rintro e w8 ⟨rfl, C8⟩; have B8 := B7.ch C8 (by simp); have CE8 := C7.trans C8)
          | (refine wpList_storeB rfl 26 _ _ rfl w6.heap.size 26 (tgtC tgt0) (tgtC (u, false, zeros, 80)) rfl rfl (Blk.new _ _ _) I2.out rfl (tgt_one _) ?_; intro w7 B7 K7 Z7; have C7 := ((C5.trans C6).alloc _).step K7 (fun i hi => .inr (by simp at hi; omega)))
          | (go_at_call 24; (with_reducible refine (HP.out _).mono ?_); rintro e w6 ⟨rfl, C6⟩; have z6 := (C5.trans C6).size)
          | (go_at_call 12; (with_reducible refine (HE3.out _).mono ?_); rintro e w5 ⟨rfl, C5'⟩; have C5 := CC.trans C5')
          | (refine wpList_strOf rfl 34 9 5 _ rfl Tryd.underlying34 Tryd.underlying5 Tryd.underlying9 _ u.size c wr.heap.size zs rfl hrd ?_; rw [HG.out]))
          go_ret
          exact ⟨rfl, CE.nil_below⟩
end Go.Proofs.YtiffpjlmgeklkaaDoor
