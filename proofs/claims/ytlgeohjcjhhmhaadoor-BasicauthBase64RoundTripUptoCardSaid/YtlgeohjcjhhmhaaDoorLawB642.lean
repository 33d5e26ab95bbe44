/- The walks of BasicauthRoundTrip and BasicauthBase64RoundTrip. -/
import Derived.Test.YtlgeohjcjhhmhaaDoorLawB64
namespace Go.Proofs.YtlgeohjcjhhmhaaDoor
open Go.ChangeShapes Go.WideShapes Go.ChangeAt Go.RowKit

theorem app_take (u v : ByteArray) : (u ++ v).extract u.size (u ++ v).size = v := by
  apply str_ext
  rw [ByteArray.data_extract, Array.toList_extract, List.extract_eq_take_drop, ByteArray.data_append, Array.toList_append, ByteArray.size_append]
  have h1 : u.data.toList.length = u.size := by rw [Array.length_toList]; rfl
  have h2 : v.data.toList.length = v.size := by rw [Array.length_toList]; rfl
  rw [← h1, List.drop_left, List.take_of_length_le (by omega)]
theorem parse_fmt (u p : ByteArray) : parseH (fmtS u p) = colon (upS u p) := by
  obtain ⟨E, hE⟩ : ∃ E, strOfNums (enc (numsOf (upS u p))) = E := ⟨_, rfl⟩
  obtain ⟨L, hL⟩ : ∃ L : ByteArray, (⟨#[66, 97, 115, 105, 99, 32]⟩ : ByteArray) = L := ⟨_, rfl⟩
  have hLs : L.size = 6 := by rw [← hL]; rfl
  have hLt : ((numsOf L).take 5).map lw = basicL := by rw [← hL]; decide +kernel
  have hL5 : byt L 5 = 32 := by rw [← hL]; decide +kernel
  have e : fmtS u p = L ++ E := by rw [← hE, ← hL]; rfl
  have hn : numsOf (L ++ E) = numsOf L ++ numsOf E := by unfold numsOf; rw [ByteArray.data_append, Array.toList_append, List.map_append]
  have hll : (numsOf L).length = 6 := by rw [numsOf_length]; exact hLs
  have hsz : (L ++ E).size = 6 + E.size := by rw [ByteArray.size_append, hLs]
  have hh : hdrB (L ++ E) = true := by
    simp only [hdrB, Bool.and_eq_true, decide_eq_true_eq]
    refine ⟨⟨by omega, ?_⟩, ?_⟩
    · rw [hn, List.take_append_of_le_length (by omega)]; exact hLt
    · rw [byt_at (by omega), hn, ← hL5, byt_at (by omega)]
      simp [at_, List.getD, List.getElem?_append_left (show 5 < (numsOf L).length by omega)]
  unfold parseH
  rw [e, if_pos hh]
  have h6 : (L ++ E).extract 6 (L ++ E).size = E := by have := app_take L E; rw [hLs] at this; exact this
  rw [h6, ← hE, decOf_enc]
  rfl
theorem up_colon (u p : ByteArray) : ∃ k : Nat, k < (upS u p).size ∧ fnd (upS u p) 58 = k ∧ byt (upS u p) k = 58 ∧ (∀ j : Nat, j < k → byt (upS u p) j ≠ 58) := by
  rcases fnd_spec (upS u p) 58 (by omega) (by omega) with ⟨_, g2⟩ | ⟨m, hm, g1, g2, g3⟩
  · have hs := up_size u p
    refine absurd ?_ (g2 u.size (by omega))
    have hn : numsOf (upS u p) = numsOf u ++ ([58] ++ numsOf p) := by unfold upS numsOf; rw [ByteArray.data_append, ByteArray.data_append, Array.toList_append, Array.toList_append, List.map_append, List.map_append, List.append_assoc]; rfl
    rw [byt_at (by omega), hn]
    have hl : (numsOf u).length = u.size := numsOf_length u
    simp [at_, List.getD, List.getElem?_append_right (show (numsOf u).length ≤ u.size by omega), hl]
  · exact ⟨m, hm, g1, g2, g3⟩

set_option maxRecDepth 100000 in
set_option maxHeartbeats 4000000 in
theorem basicauthRoundTrip_came {H : Type} {enc' : TypeId × Value → H} (W : World) (args : Array Value) (ds : List (DataW H)) (_ : laidMetH Tryd.prog Rows.basicauthRoundTripUptoRow.laid W) (hk : Rows.uptoSmall H ds = true) (h : Came enc' Tryd.prog Tryd.f11 W args ds) :
    Calls Tryd.prog 11 args W fun e W' => e = .returned (.bool true) ∧ Below W.heap.size W W' := by
  obtain ⟨v0, v1, d0, d1, rfl, a0, a1, hb⟩ := h.bulk2 rfl hk
  obtain ⟨u, rfl, hu⟩ := a0.stringU Tryd.underlying9 (Nat.le_refl _)
  obtain ⟨p, rfl, hp⟩ := a1.stringU Tryd.underlying9 (Nat.le_refl _)
  have hup : u.size + p.size ≤ 1100000 := by omega
  have hs := up_size u p
  have he := enc_size (upS u p)
  have hfs : (fmtS u p).size ≤ 1500000 := by
    unfold fmtS
    rw [ByteArray.size_append, he, show (⟨#[66, 97, 115, 105, 99, 32]⟩ : ByteArray).size = 6 from rfl]; omega
  obtain ⟨k0, hk0, f1, f2, f3⟩ := up_colon u p
  have hcol : parseH (fmtS u p) = some ((upS u p).extract 0 k0, (upS u p).extract (k0 + 1) (upS u p).size) := by
    rw [parse_fmt]; unfold colon; rw [if_neg (by omega), f1]; rfl
  have h1 : ∀ w, Calls Tryd.prog 27 #[.string (fmtS u p)] w fun e w' => e = .returned (.tuple #[.string ((upS u p).extract 0 k0), .string ((upS u p).extract (k0 + 1) (upS u p).size), .bool true]) ∧ Ch [] w w' := fun w => by
    have := headP (fmtS u p) hfs w
    rw [hcol] at this
    exact this
  have H1 := hid h1
  have h2 := fmtP u p hup
  have h3 := fmtR u p hup
  have H2 := hid h2
  have H3 := hid h3
  have F2 := hid f2
  have F3 := hid f3
  clear h1 h2 h3 hcol f1 f2 f3 he hk h a0 a1
  have g1 : u.size + 1 ≤ maxLen := by unfold maxLen; omega
  have g2 : u.size + 1 + p.size ≤ maxLen := by unfold maxLen; omega
  have s1 : (⟨#[58]⟩ : ByteArray).size = 1 := rfl
  obtain ⟨F, hF⟩ : ∃ F, fmtS u p = F := ⟨_, rfl⟩
  obtain ⟨T, hT⟩ : ∃ T, upS u p = T := ⟨_, rfl⟩
  rw [hT] at F2 F3 H1 hk0 hs
  rw [hF] at H1 H2 H3 hfs
  have hcat : u ++ (⟨#[58]⟩ : ByteArray) ++ p = T := hT
  have CT := Ch.refl [] W
  go_enter Tryd.func11, Tryd.ntmps11
  go_wp2_with (first
    | (go_at_call 29; (with_reducible refine (H2.out _).mono ?_); rintro e w1 ⟨rfl, C1⟩; replace CT := CT.trans C1)
    | (go_at_call 27; (with_reducible refine (H1.out _).mono ?_); rintro e w2 ⟨rfl, C2⟩; replace CT := CT.trans C2))
  go_loopw [9] (fun i wr => ∃ k : Nat, i = .int .i64 k ∧ k ≤ k0 ∧ w2 = wr) (fun i _ => k0 - (intOf i).toNat)
  case atStart => exact ⟨0, rfl, Nat.zero_le _, rfl⟩
  case round =>
    obtain ⟨k, rfl, hk, rfl⟩ := hrel
    have hkT : k < T.size := by omega
    have ek : ((T[k]'hkT).toNat : Int) = byt T k := byt_get hkT
    by_cases hlt : k < k0
    · have hd : (byt T k == 58) = false := by simpa using F3.out k hlt
      have hd2 : (byt T k != 58) = true := by simpa using F3.out k hlt
      generalize byt T k = x at ek hd hd2
      go_wp2_with fail
      go_roundw
      case rel => exact ⟨k + 1, by go_num, by omega, by first | trivial | rfl⟩
      case measure => simp [intOf]; omega
    · obtain rfl : k = k0 := by omega
      rw [F2.out] at ek
      have hb1 : (k : Int) + 1 ≤ T.size := by omega
      have hb2 : (k : Int) ≤ T.size := by omega
      go_wp2_with (first
        | (go_at_call 21; (with_reducible refine (awake15 _).mono ?_); rintro e w6 ⟨rfl, C6⟩; replace CT := CT.trans C6)
        | (go_at_call 29; (with_reducible refine (H2.out _).mono ?_); rintro e w7 ⟨rfl, C7⟩; replace CT := CT.trans C7)
        | (go_at_call 30; (with_reducible refine (H3.out _).mono ?_); rintro e w8 ⟨rfl, C8⟩; replace CT := CT.trans C8))
      go_ret
      exact ⟨rfl, CT.nil_below⟩

set_option maxRecDepth 100000 in
set_option maxHeartbeats 4000000 in
theorem basicauthBase64RoundTrip_came {H : Type} {enc' : TypeId × Value → H} (W : World) (args : Array Value) (ds : List (DataW H)) (_ : laidMetH Tryd.prog Rows.basicauthBase64RoundTripUptoRow.laid W) (hk : Rows.uptoSmall H ds = true) (h : Came enc' Tryd.prog Tryd.f8 W args ds) :
    Calls Tryd.prog 8 args W fun e W' => e = .returned (.bool true) ∧ Below W.heap.size W W' := by
  obtain ⟨v0, v1, v2, d0, d1, d2, rfl, a0, a1, a2, hb⟩ := h.bulk3 rfl hk
  obtain ⟨A, len, cap, zs, rfl, hl, hc, hr, hz⟩ := a0.intsU Tryd.underlying34 Tryd.underlying5 u8_cells (Nat.le_refl _)
  obtain ⟨x, rfl, hx, hx'⟩ := a1.i64 Tryd.underlying3
  obtain ⟨c, rfl, hcw⟩ := a2.int Tryd.underlying5
  obtain ⟨hc0, hc1⟩ := bounds_u8 hcw
  obtain ⟨s, hs⟩ : ∃ s, strOfNums zs = s := ⟨_, rfl⟩
  have hs1 : s.size ≤ 1048576 := by rw [← hs, strOf_size, hr.1]; omega
  have e1 := b64P s (by omega)
  have e5 := enc_size s
  have e6 := decOf_enc s
  have e7 : numsOf (strOfNums (enc (numsOf s))) = enc (numsOf s) := nums_str _ (bytes_enc _ (bytes_numsOf s))
  obtain ⟨t, ht⟩ : ∃ t, strOfNums (enc (numsOf s)) = t := ⟨_, rfl⟩
  rw [ht] at e1 e5 e6 e7
  have ht1 : t.size ≤ 1500000 := by omega
  have e2 := fun w => decP_some ht1 e6 w
  have H1 := hid e1
  have H2 := hid e2
  have H7 := hid e7
  clear e1 e2 e6 e7 h a0 a1 a2 hk hz ht hcw
  have CT := Ch.refl [] W
  by_cases h0 : t.size = 0
  case pos =>
    have et : t.toList.isEmpty = true := by
      rw [ByteArray.toList_eq]
      have : t.data.toList = [] := List.eq_nil_of_length_eq_zero (by rw [Array.length_toList]; exact h0)
      rw [this]; rfl
    have et2 : t.toList = [] := by simpa using et
    clear e5
    go_enter Tryd.func8, Tryd.ntmps8
    go_wp2_with (first
      | (refine wpList_strOf rfl 34 9 5 _ rfl Tryd.underlying34 Tryd.underlying5 Tryd.underlying9 A len cap W.heap.size zs rfl hr ?_; rw [hs])
      | (go_at_call 22; (with_reducible refine (H1.out _).mono ?_); rintro e w2 ⟨rfl, C2⟩; replace CT := CT.trans C2)
      | (go_at_call 24; (with_reducible refine (H2.out _).mono ?_); rintro e w3 ⟨rfl, C3⟩; replace CT := CT.trans C3)
      | (go_at_call 21; (with_reducible refine (awake15 _).mono ?_); rintro e w1 ⟨rfl, C1⟩; replace CT := CT.trans C1))
    go_ret
    exact ⟨rfl, CT.nil_below⟩
  have et : ¬ t.toList = [] := by
    rw [ByteArray.toList_eq]
    intro h
    have := congrArg List.length h
    rw [Array.length_toList] at this
    exact h0 this
  have et2 : t.toList.isEmpty = false := by simpa using et
  obtain ⟨q, hq⟩ : ∃ q, IntKind.u64.wrap x = q := ⟨_, rfl⟩
  have q01 : 0 ≤ q ∧ q ≤ 18446744073709551615 := by rw [← hq, IntKind.wrap_u64]; omega
  obtain ⟨q0, q1⟩ := q01
  have m0 := Int.emod_nonneg q (show (t.size : Int) ≠ 0 by omega)
  have m1 := Int.emod_lt_of_pos q (show 0 < (t.size : Int) by omega)
  obtain ⟨k, hk⟩ : ∃ k : Nat, q % (t.size : Int) = k := ⟨(q % t.size).toNat, by omega⟩
  have hkt : k < t.size := by omega
  clear m0 m1
  obtain ⟨X, hX⟩ : ∃ X, strOfNums ((numsOf t).set k c) = X := ⟨_, rfl⟩
  have hXs : X.size = t.size := by rw [← hX, strOf_size, List.length_set, numsOf_length]
  have hne : ¬ ((t.size : Int) = 0) := by omega
  -- the two answers, and why they meet
  have hfin : decOf X = some s → X = t := fun h => nums_inj ((decOf_spec h).trans H7.out.symm)
  obtain ⟨b, hbX⟩ : ∃ b, (X.toList == t.toList) = b := ⟨_, rfl⟩
  have hbb := str_beq (s := X) (t := t)
  have HX := hid hX
  obtain ⟨o, ho⟩ : ∃ o, decOf X = o := ⟨_, rfl⟩
  have h3 : ∀ w, Calls Tryd.prog 24 #[.string X] w fun e w' => e = .returned (decV o) ∧ Ch [] w w' := fun w => by rw [← ho]; exact decP X (by omega) w
  have hvs : ∀ v, o = some v → b = false → (v.toList != s.toList) = true := fun v h1 h2 => by
    have h4 : ¬ v = s := fun h5 => by
      rw [h1, h5] at ho
      have := hfin ho
      rw [← hbX, hbb, decide_eq_true this] at h2
      cases h2
    simp only [bne, str_beq, decide_eq_false h4]; rfl
  clear hfin hbb hX e5
  rcases o with _ | v
  · have h4 : ∀ w, Calls Tryd.prog 24 #[.string X] w fun e w' => e = .returned (.tuple #[.string ByteArray.empty, .bool false]) ∧ Ch [] w w' := h3
    have H3 := hid h4
    clear h3 h4 hvs ho
    go_enter Tryd.func8, Tryd.ntmps8
    go_wp2_with (first
      | (refine wpList_strOf rfl 34 9 5 _ rfl Tryd.underlying34 Tryd.underlying5 Tryd.underlying9 A len cap W.heap.size zs rfl hr ?_; rw [hs])
      | (go_at_call 22; (with_reducible refine (H1.out _).mono ?_); rintro e w2 ⟨rfl, C2⟩; replace CT := CT.trans C2)
      | (go_at_call 24; (with_reducible refine (H2.out _).mono ?_); rintro e w3 ⟨rfl, C3⟩; replace CT := CT.trans C3)
      | (refine wpList_bytesRow rfl 9 34 5 _ rfl Tryd.underlying9 Tryd.underlying34 Tryd.underlying5 t rfl (by unfold maxLen; omega) ?_; intro cx w4 hcx1 hcx2 hrow C4 hsz; have hkl : k < (numsOf t).length := (by rw [numsOf_length]; exact hkt); have ccell := hrow.cell hkl; have cfro := hrow.frozen hkl; have hrs := hrow.set hkl c; have hrd := hrs.rd; rw [List.length_set, numsOf_length] at hrd; replace CT := (CT.trans C4).setCell (p := ⟨w3.heap.size, k, none⟩) (.inr CT.size) (.int .u8 c))
      | (refine wpList_strOf rfl 34 9 5 _ rfl Tryd.underlying34 Tryd.underlying5 Tryd.underlying9 _ t.size cx _ ((numsOf t).set k c) rfl hrd ?_; rw [HX.out])
      | (go_at_call 24; (with_reducible refine (H3.out _).mono ?_); rintro e w5 ⟨rfl, C5⟩; replace CT := CT.trans C5)
      | (go_at_call 21; (with_reducible refine (awake15 _).mono ?_); rintro e w6 ⟨rfl, C6⟩; replace CT := CT.trans C6; have hrd2 := (hrs.ch (C5.trans C6) (by simp)).rd; rw [List.length_set, numsOf_length] at hrd2; have R := run_strOf (P := Tryd.prog) 34 9 5 Tryd.underlying34 Tryd.underlying5 Tryd.underlying9 _ t.size cx _ _ hrd2; rw [HX.out] at R))
    all_goals go_ret
    all_goals exact ⟨rfl, CT.nil_below⟩
  · have h4 : ∀ w, Calls Tryd.prog 24 #[.string X] w fun e w' => e = .returned (.tuple #[.string v, .bool true]) ∧ Ch [] w w' := h3
    have H3 := hid h4
    have hv2 := hvs v rfl
    clear h3 h4 hvs ho
    cases b
    · have hv3 := hv2 rfl
      have hv4 : (v.toList == s.toList) = false := by simpa [bne] using hv3
      clear hv2
      go_enter Tryd.func8, Tryd.ntmps8
      go_wp2_with (first
        | (refine wpList_strOf rfl 34 9 5 _ rfl Tryd.underlying34 Tryd.underlying5 Tryd.underlying9 A len cap W.heap.size zs rfl hr ?_; rw [hs])
        | (go_at_call 22; (with_reducible refine (H1.out _).mono ?_); rintro e w2 ⟨rfl, C2⟩; replace CT := CT.trans C2)
        | (go_at_call 24; (with_reducible refine (H2.out _).mono ?_); rintro e w3 ⟨rfl, C3⟩; replace CT := CT.trans C3)
        | (refine wpList_bytesRow rfl 9 34 5 _ rfl Tryd.underlying9 Tryd.underlying34 Tryd.underlying5 t rfl (by unfold maxLen; omega) ?_; intro cx w4 hcx1 hcx2 hrow C4 hsz; have hkl : k < (numsOf t).length := (by rw [numsOf_length]; exact hkt); have ccell := hrow.cell hkl; have cfro := hrow.frozen hkl; have hrs := hrow.set hkl c; have hrd := hrs.rd; rw [List.length_set, numsOf_length] at hrd; replace CT := (CT.trans C4).setCell (p := ⟨w3.heap.size, k, none⟩) (.inr CT.size) (.int .u8 c))
        | (refine wpList_strOf rfl 34 9 5 _ rfl Tryd.underlying34 Tryd.underlying5 Tryd.underlying9 _ t.size cx _ ((numsOf t).set k c) rfl hrd ?_; rw [HX.out])
        | (go_at_call 24; (with_reducible refine (H3.out _).mono ?_); rintro e w5 ⟨rfl, C5⟩; replace CT := CT.trans C5)
        | (go_at_call 21; (with_reducible refine (awake15 _).mono ?_); rintro e w6 ⟨rfl, C6⟩; replace CT := CT.trans C6; have hrd2 := (hrs.ch (C5.trans C6) (by simp)).rd; rw [List.length_set, numsOf_length] at hrd2; have R := run_strOf (P := Tryd.prog) 34 9 5 Tryd.underlying34 Tryd.underlying5 Tryd.underlying9 _ t.size cx _ _ hrd2; rw [HX.out] at R))
      all_goals go_ret
      all_goals exact ⟨rfl, CT.nil_below⟩
    · clear hv2
      go_enter Tryd.func8, Tryd.ntmps8
      go_wp2_with (first
        | (refine wpList_strOf rfl 34 9 5 _ rfl Tryd.underlying34 Tryd.underlying5 Tryd.underlying9 A len cap W.heap.size zs rfl hr ?_; rw [hs])
        | (go_at_call 22; (with_reducible refine (H1.out _).mono ?_); rintro e w2 ⟨rfl, C2⟩; replace CT := CT.trans C2)
        | (go_at_call 24; (with_reducible refine (H2.out _).mono ?_); rintro e w3 ⟨rfl, C3⟩; replace CT := CT.trans C3)
        | (refine wpList_bytesRow rfl 9 34 5 _ rfl Tryd.underlying9 Tryd.underlying34 Tryd.underlying5 t rfl (by unfold maxLen; omega) ?_; intro cx w4 hcx1 hcx2 hrow C4 hsz; have hkl : k < (numsOf t).length := (by rw [numsOf_length]; exact hkt); have ccell := hrow.cell hkl; have cfro := hrow.frozen hkl; have hrs := hrow.set hkl c; have hrd := hrs.rd; rw [List.length_set, numsOf_length] at hrd; replace CT := (CT.trans C4).setCell (p := ⟨w3.heap.size, k, none⟩) (.inr CT.size) (.int .u8 c))
        | (refine wpList_strOf rfl 34 9 5 _ rfl Tryd.underlying34 Tryd.underlying5 Tryd.underlying9 _ t.size cx _ ((numsOf t).set k c) rfl hrd ?_; rw [HX.out])
        | (go_at_call 24; (with_reducible refine (H3.out _).mono ?_); rintro e w5 ⟨rfl, C5⟩; replace CT := CT.trans C5)
        | (go_at_call 21; (with_reducible refine (awake15 _).mono ?_); rintro e w6 ⟨rfl, C6⟩; replace CT := CT.trans C6; have hrd2 := (hrs.ch (C5.trans C6) (by simp)).rd; rw [List.length_set, numsOf_length] at hrd2; have R := run_strOf (P := Tryd.prog) 34 9 5 Tryd.underlying34 Tryd.underlying5 Tryd.underlying9 _ t.size cx _ _ hrd2; rw [HX.out] at R))
      all_goals go_ret
      all_goals exact ⟨rfl, CT.nil_below⟩
end Go.Proofs.YtlgeohjcjhhmhaaDoor
