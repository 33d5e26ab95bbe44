/- ginnelref07.ParseName. -/
import Derived.Test.YtiffpjlmgeklkaaDoorRefNm
import Derived.Test.YtiffpjlmgeklkaaDoorHost3
namespace Go.Proofs.YtiffpjlmgeklkaaDoor
open Go.RowKit

theorem BRow.rdTake {w : World} {g m : Nat} {e : TypeId} {xs : List Int} (h : BRow w g e xs) (hm : m ≤ xs.length) : RdI .u8 w w.heap.size (some ⟨g, 0, none⟩) m (xs.take m) := by
  refine ⟨by rw [List.length_take]; omega, fun _ => ⟨g, 0, rfl, h.lt, fun i hi => ?_⟩⟩
  rw [Nat.zero_add, h.cell (by omega)]
  simp [at_, List.getD, hi]
theorem canN_all (s : ByteArray) (h : 0 < s.size → byt s (s.size - 1) ≠ 46) : canN (numsOf s) = ((numsOf s).take s.size).map lw := by
  unfold canN
  rw [numsOf_length, if_neg (by rintro ⟨h0, h1⟩; rw [← byt_at (by omega)] at h1; exact h h0 h1), List.take_of_length_le (by rw [numsOf_length]; exact Nat.le_refl _)]
theorem canN_dot (s : ByteArray) (m : Nat) (hm : s.size = m + 1) (h : byt s m = 46) : canN (numsOf s) = ((numsOf s).take m).map lw := by
  unfold canN
  rw [numsOf_length, hm, Nat.add_sub_cancel, if_pos ⟨by omega, by rw [← byt_at (by omega)]; exact h⟩]
theorem set_self (zs : List Int) (k : Nat) (h : k < zs.length) : zs.set k (at_ zs k) = zs := by
  apply List.ext_getElem?
  intro j
  rw [List.getElem?_set]
  split
  · rename_i e; subst e; simp [at_, List.getD, List.getElem?_eq_getElem h]
  · rfl
theorem low_step (s : ByteArray) (k : Nat) (zs : List Int) (hk : k < s.size) (hZ : zs = ((numsOf s).take k).map lw ++ (numsOf s).drop k) (y : Int) (hy : y = lw (at_ (numsOf s) k)) : zs.set k y = ((numsOf s).take (k + 1)).map lw ++ (numsOf s).drop (k + 1) := by
  have hlt : k < (numsOf s).length := by rw [numsOf_length]; omega
  have h1 : (((numsOf s).take k).map lw).length = k := by rw [List.length_map, List.length_take, numsOf_length]; omega
  rw [hZ, List.set_append_right _ _ (by omega), h1, Nat.sub_self, List.drop_eq_getElem_cons hlt, List.set_cons_zero, hy, List.take_succ_eq_append_getElem hlt, List.map_append, List.append_assoc]
  simp [at_, List.getD, List.getElem?_eq_getElem hlt]
set_option maxRecDepth 20000 in
set_option maxHeartbeats 4000000 in
theorem refPName (s : ByteArray) (hs : s.size ≤ 1000000) (w : World) : Calls Tryd.prog 40 #[.string s] w fun e w' => e = .returned (.tuple #[.string (if namOk (numsOf (canS s)) = true then canS s else ⟨#[]⟩), .bool (namOk (numsOf (canS s)))]) ∧ Ch [] w w' := by
  have HNM := hid (refName (canS s) (by have := canS_size s; omega))
  have HCS : Hid (canS s = strOfNums (canN (numsOf s))) := rfl
  generalize canS s = Z at HNM HCS ⊢
  obtain ⟨b, hb⟩ : ∃ b, namOk (numsOf Z) = b := ⟨_, rfl⟩
  rw [hb] at HNM ⊢
  clear hb
  obtain ⟨m, hm, HM, hcase⟩ : ∃ m : Nat, m ≤ s.size ∧ Hid (strOfNums (((numsOf s).take m).map lw) = Z) ∧ ((m = s.size ∧ s.size = 0) ∨ (m = s.size ∧ 0 < s.size ∧ byt s (s.size - 1) ≠ 46) ∨ (s.size = m + 1 ∧ byt s m = 46)) := by
    rcases (show s.size = 0 ∨ (0 < s.size ∧ byt s (s.size - 1) ≠ 46) ∨ (0 < s.size ∧ byt s (s.size - 1) = 46) by omega) with h0 | ⟨h0, hd⟩ | ⟨h0, hd⟩
    · exact ⟨s.size, Nat.le_refl _, by show _ = _; rw [HCS.out, canN_all s (fun h => by omega)], .inl ⟨rfl, h0⟩⟩
    · exact ⟨s.size, Nat.le_refl _, by show _ = _; rw [HCS.out, canN_all s (fun _ => hd)], .inr (.inl ⟨rfl, h0, hd⟩)⟩
    · exact ⟨s.size - 1, by omega, by show _ = _; rw [HCS.out, canN_dot s (s.size - 1) (by omega) hd], .inr (.inr ⟨by omega, hd⟩)⟩
  clear HCS
  obtain ⟨g, hg⟩ : ∃ g, w.heap.size = g := ⟨_, rfl⟩
  rcases hcase with ⟨rfl, h0⟩ | ⟨rfl, h0, hd⟩ | ⟨hsm, hd⟩
  all_goals cases b
  all_goals
    go_enter Tryd.func40, Tryd.ntmps40
    try (have hd2 : (at_ (numsOf s) (s.size - 1) == 46) = false := by rw [← byt_at (by omega)]; simpa using hd)
    try (have hd3 : at_ (numsOf s) m = 46 := by rw [← byt_at (by omega)]; exact hd)
    try (have hsmi : (s.size : Int) - 1 = m := by omega)
    try (have hsmj : (s.size : Int) - 1 = ((s.size - 1 : Nat) : Int) := by omega)
    go_wp2_with (refine wpList_bytesRow rfl 9 34 5 _ rfl Tryd.underlying9 Tryd.underlying34 Tryd.underlying5 s rfl (by unfold maxLen; omega) ?_; intro c w1 hc1 hc2 hr C1 hz; rw [hg] at hr; try (have hcl := hr.cell (show s.size - 1 < (numsOf s).length by rw [numsOf_length]; omega)); try (have hcm := hr.cell (show m < (numsOf s).length by rw [numsOf_length]; omega)))
  all_goals
    try clear hd hd2 hcl
    try clear hd3 hcm
  · skip
    go_loopw [5] (fun i wr => ∃ (k : Nat) (zs : List Int), i = .int .i64 k ∧ k ≤ s.size ∧ BRow wr g 5 zs ∧ zs.length = s.size ∧ Hid (zs = ((numsOf s).take k).map lw ++ (numsOf s).drop k) ∧ Ch [] w wr) (fun i _ => s.size - (intOf i).toNat)
    case atStart => exact ⟨0, numsOf s, rfl, Nat.zero_le _, hr, numsOf_length s, by show _ = _; simp, C1⟩
    case round =>
      clear hr C1
      obtain ⟨k, zs, rfl, hk, hr, hl, hZ, CC⟩ := hrel
      by_cases hp : k < s.size
      · exact absurd hp (by omega)
      · obtain rfl : k = s.size := by omega
        have hrd : RdI .u8 wr wr.heap.size (some ⟨g, 0, none⟩) 0 [] := RdI.nil _ _ _ _
        have HZ : Hid (strOfNums [] = Z) := by
          show _ = _
          rw [← HM.out, h0]
          rfl
        clear hZ
        go_wp2_with (first
          | (refine wpList_strOf rfl 34 9 5 _ rfl Tryd.underlying34 Tryd.underlying5 Tryd.underlying9 _ 0 c wr.heap.size _ rfl (hrd.ch C3 (Nat.le_refl _) (by simp)) ?_; rw [HZ.out])
          | (refine wpList_strOf rfl 34 9 5 _ rfl Tryd.underlying34 Tryd.underlying5 Tryd.underlying9 _ 0 c wr.heap.size _ rfl hrd ?_; rw [HZ.out])
          | (go_at_call 37; (with_reducible refine (HNM.out _).mono ?_); rintro e w3 ⟨rfl, C3⟩))
        go_ret2
        exact ⟨rfl, CC.trans C3⟩
  · skip
    go_loopw [5] (fun i wr => ∃ (k : Nat) (zs : List Int), i = .int .i64 k ∧ k ≤ s.size ∧ BRow wr g 5 zs ∧ zs.length = s.size ∧ Hid (zs = ((numsOf s).take k).map lw ++ (numsOf s).drop k) ∧ Ch [] w wr) (fun i _ => s.size - (intOf i).toNat)
    case atStart => exact ⟨0, numsOf s, rfl, Nat.zero_le _, hr, numsOf_length s, by show _ = _; simp, C1⟩
    case round =>
      clear hr C1
      obtain ⟨k, zs, rfl, hk, hr, hl, hZ, CC⟩ := hrel
      by_cases hp : k < s.size
      · exact absurd hp (by omega)
      · obtain rfl : k = s.size := by omega
        have hrd : RdI .u8 wr wr.heap.size (some ⟨g, 0, none⟩) 0 [] := RdI.nil _ _ _ _
        have HZ : Hid (strOfNums [] = Z) := by
          show _ = _
          rw [← HM.out, h0]
          rfl
        clear hZ
        go_wp2_with (first
          | (refine wpList_strOf rfl 34 9 5 _ rfl Tryd.underlying34 Tryd.underlying5 Tryd.underlying9 _ 0 c wr.heap.size _ rfl (hrd.ch C3 (Nat.le_refl _) (by simp)) ?_; rw [HZ.out])
          | (refine wpList_strOf rfl 34 9 5 _ rfl Tryd.underlying34 Tryd.underlying5 Tryd.underlying9 _ 0 c wr.heap.size _ rfl hrd ?_; rw [HZ.out])
          | (go_at_call 37; (with_reducible refine (HNM.out _).mono ?_); rintro e w3 ⟨rfl, C3⟩))
        go_ret2
        exact ⟨rfl, CC.trans C3⟩
  · skip
    go_loopw [5] (fun i wr => ∃ (k : Nat) (zs : List Int), i = .int .i64 k ∧ k ≤ s.size ∧ BRow wr g 5 zs ∧ zs.length = s.size ∧ Hid (zs = ((numsOf s).take k).map lw ++ (numsOf s).drop k) ∧ Ch [] w wr) (fun i _ => s.size - (intOf i).toNat)
    case atStart => exact ⟨0, numsOf s, rfl, Nat.zero_le _, hr, numsOf_length s, by show _ = _; simp, C1⟩
    case round =>
      clear hr C1
      obtain ⟨k, zs, rfl, hk, hr, hl, hZ, CC⟩ := hrel
      by_cases hp : k < s.size
      · have hkz : k < zs.length := by omega
        have hc := hr.cell hkz
        have hf := hr.frozen hkz
        have hat : at_ zs k = at_ (numsOf s) k := by
          rw [hZ.out]
          have h1 : (((numsOf s).take k).map lw).length = k := by rw [List.length_map, List.length_take, numsOf_length]; omega
          simp only [at_, List.getD]
          rw [List.getElem?_append_right (by omega), h1, Nat.sub_self, List.getElem?_drop, Nat.add_zero]
        have hrng : 0 ≤ at_ (numsOf s) k ∧ at_ (numsOf s) k ≤ 255 := by rw [← byt_at (by omega)]; exact byt_rng s k
        have HGO : Hid (∀ y, y = lw (at_ (numsOf s) k) → zs.set k y = ((numsOf s).take (k + 1)).map lw ++ (numsOf s).drop (k + 1)) := low_step s k zs (by omega) hZ.out
        have HST : Hid (zs.set k (at_ (numsOf s) k) = zs) := by
          show _ = _
          rw [← hat]
          exact set_self zs k hkz
        rw [hat] at hc
        clear hat
        have hglt := hr.lt
        generalize at_ (numsOf s) k = x at hc hrng HGO HST
        obtain ⟨hx0, hx255⟩ := hrng
        rcases (show x < 65 ∨ (65 ≤ x ∧ x ≤ 90) ∨ (65 ≤ x ∧ ¬ x ≤ 90) by omega) with hx1 | ⟨hx1, hx2⟩ | ⟨hx1, hx2⟩
        · have HL := hid (lw_no (x := x) (by omega))
          go_wp2_with fail
          go_roundw
          case rel => exact ⟨k + 1, zs, by go_num, by omega, hr, hl, by show _ = _; rw [← HGO.out x HL.out.symm]; exact HST.out.symm, CC⟩
          case measure => simp [intOf]; omega
        · have HL := hid (lw_up ⟨hx1, hx2⟩)
          go_wp2_with fail
          go_roundw
          case rel => exact ⟨k + 1, zs.set k (x + 32), by go_num, by omega, hr.set hkz _, by rw [List.length_set]; exact hl, HGO.out _ HL.out.symm, CC.setCell (p := ⟨g, k, none⟩) (.inr (by show _ ≤ g; omega)) _⟩
          case measure => simp [intOf]; omega
        · have HL := hid (lw_no (x := x) (by omega))
          go_wp2_with fail
          go_roundw
          case rel => exact ⟨k + 1, zs, by go_num, by omega, hr, hl, by show _ = _; rw [← HGO.out x HL.out.symm]; exact HST.out.symm, CC⟩
          case measure => simp [intOf]; omega
      · obtain rfl : k = s.size := by omega
        have hrd := hr.rdTake (m := s.size) (by omega)
        have HZ : Hid (strOfNums (zs.take s.size) = Z) := by
          show _ = _
          rw [← HM.out, hZ.out]
          congr 1
          have h1 : (((numsOf s).take s.size).map lw).length = s.size := by rw [List.length_map, List.length_take, numsOf_length]; omega
          conv => lhs; rw [List.take_append_of_le_length (by omega), List.take_of_length_le (by omega)]
        clear hZ
        go_wp2_with (first
          | (refine wpList_strOf rfl 34 9 5 _ rfl Tryd.underlying34 Tryd.underlying5 Tryd.underlying9 _ s.size c wr.heap.size _ rfl (hrd.ch C3 (Nat.le_refl _) (by simp)) ?_; rw [HZ.out])
          | (refine wpList_strOf rfl 34 9 5 _ rfl Tryd.underlying34 Tryd.underlying5 Tryd.underlying9 _ s.size c wr.heap.size _ rfl hrd ?_; rw [HZ.out])
          | (go_at_call 37; (with_reducible refine (HNM.out _).mono ?_); rintro e w3 ⟨rfl, C3⟩))
        go_ret2
        exact ⟨rfl, CC.trans C3⟩
  · skip
    go_loopw [5] (fun i wr => ∃ (k : Nat) (zs : List Int), i = .int .i64 k ∧ k ≤ s.size ∧ BRow wr g 5 zs ∧ zs.length = s.size ∧ Hid (zs = ((numsOf s).take k).map lw ++ (numsOf s).drop k) ∧ Ch [] w wr) (fun i _ => s.size - (intOf i).toNat)
    case atStart => exact ⟨0, numsOf s, rfl, Nat.zero_le _, hr, numsOf_length s, by show _ = _; simp, C1⟩
    case round =>
      clear hr C1
      obtain ⟨k, zs, rfl, hk, hr, hl, hZ, CC⟩ := hrel
      by_cases hp : k < s.size
      · have hkz : k < zs.length := by omega
        have hc := hr.cell hkz
        have hf := hr.frozen hkz
        have hat : at_ zs k = at_ (numsOf s) k := by
          rw [hZ.out]
          have h1 : (((numsOf s).take k).map lw).length = k := by rw [List.length_map, List.length_take, numsOf_length]; omega
          simp only [at_, List.getD]
          rw [List.getElem?_append_right (by omega), h1, Nat.sub_self, List.getElem?_drop, Nat.add_zero]
        have hrng : 0 ≤ at_ (numsOf s) k ∧ at_ (numsOf s) k ≤ 255 := by rw [← byt_at (by omega)]; exact byt_rng s k
        have HGO : Hid (∀ y, y = lw (at_ (numsOf s) k) → zs.set k y = ((numsOf s).take (k + 1)).map lw ++ (numsOf s).drop (k + 1)) := low_step s k zs (by omega) hZ.out
        have HST : Hid (zs.set k (at_ (numsOf s) k) = zs) := by
          show _ = _
          rw [← hat]
          exact set_self zs k hkz
        rw [hat] at hc
        clear hat
        have hglt := hr.lt
        generalize at_ (numsOf s) k = x at hc hrng HGO HST
        obtain ⟨hx0, hx255⟩ := hrng
        rcases (show x < 65 ∨ (65 ≤ x ∧ x ≤ 90) ∨ (65 ≤ x ∧ ¬ x ≤ 90) by omega) with hx1 | ⟨hx1, hx2⟩ | ⟨hx1, hx2⟩
        · have HL := hid (lw_no (x := x) (by omega))
          go_wp2_with fail
          go_roundw
          case rel => exact ⟨k + 1, zs, by go_num, by omega, hr, hl, by show _ = _; rw [← HGO.out x HL.out.symm]; exact HST.out.symm, CC⟩
          case measure => simp [intOf]; omega
        · have HL := hid (lw_up ⟨hx1, hx2⟩)
          go_wp2_with fail
          go_roundw
          case rel => exact ⟨k + 1, zs.set k (x + 32), by go_num, by omega, hr.set hkz _, by rw [List.length_set]; exact hl, HGO.out _ HL.out.symm, CC.setCell (p := ⟨g, k, none⟩) (.inr (by show _ ≤ g; omega)) _⟩
          case measure => simp [intOf]; omega
        · have HL := hid (lw_no (x := x) (by omega))
          go_wp2_with fail
          go_roundw
          case rel => exact ⟨k + 1, zs, by go_num, by omega, hr, hl, by show _ = _; rw [← HGO.out x HL.out.symm]; exact HST.out.symm, CC⟩
          case measure => simp [intOf]; omega
      · obtain rfl : k = s.size := by omega
        have hrd := hr.rdTake (m := s.size) (by omega)
        have HZ : Hid (strOfNums (zs.take s.size) = Z) := by
          show _ = _
          rw [← HM.out, hZ.out]
          congr 1
          have h1 : (((numsOf s).take s.size).map lw).length = s.size := by rw [List.length_map, List.length_take, numsOf_length]; omega
          conv => lhs; rw [List.take_append_of_le_length (by omega), List.take_of_length_le (by omega)]
        clear hZ
        go_wp2_with (first
          | (refine wpList_strOf rfl 34 9 5 _ rfl Tryd.underlying34 Tryd.underlying5 Tryd.underlying9 _ s.size c wr.heap.size _ rfl (hrd.ch C3 (Nat.le_refl _) (by simp)) ?_; rw [HZ.out])
          | (refine wpList_strOf rfl 34 9 5 _ rfl Tryd.underlying34 Tryd.underlying5 Tryd.underlying9 _ s.size c wr.heap.size _ rfl hrd ?_; rw [HZ.out])
          | (go_at_call 37; (with_reducible refine (HNM.out _).mono ?_); rintro e w3 ⟨rfl, C3⟩))
        go_ret2
        exact ⟨rfl, CC.trans C3⟩
  · skip
    go_loopw [5] (fun i wr => ∃ (k : Nat) (zs : List Int), i = .int .i64 k ∧ k ≤ m ∧ BRow wr g 5 zs ∧ zs.length = s.size ∧ Hid (zs = ((numsOf s).take k).map lw ++ (numsOf s).drop k) ∧ Ch [] w wr) (fun i _ => m - (intOf i).toNat)
    case atStart => exact ⟨0, numsOf s, rfl, Nat.zero_le _, hr, numsOf_length s, by show _ = _; simp, C1⟩
    case round =>
      clear hr C1
      obtain ⟨k, zs, rfl, hk, hr, hl, hZ, CC⟩ := hrel
      by_cases hp : k < m
      · have hkz : k < zs.length := by omega
        have hc := hr.cell hkz
        have hf := hr.frozen hkz
        have hat : at_ zs k = at_ (numsOf s) k := by
          rw [hZ.out]
          have h1 : (((numsOf s).take k).map lw).length = k := by rw [List.length_map, List.length_take, numsOf_length]; omega
          simp only [at_, List.getD]
          rw [List.getElem?_append_right (by omega), h1, Nat.sub_self, List.getElem?_drop, Nat.add_zero]
        have hrng : 0 ≤ at_ (numsOf s) k ∧ at_ (numsOf s) k ≤ 255 := by rw [← byt_at (by omega)]; exact byt_rng s k
        have HGO : Hid (∀ y, y = lw (at_ (numsOf s) k) → zs.set k y = ((numsOf s).take (k + 1)).map lw ++ (numsOf s).drop (k + 1)) := low_step s k zs (by omega) hZ.out
        have HST : Hid (zs.set k (at_ (numsOf s) k) = zs) := by
          show _ = _
          rw [← hat]
          exact set_self zs k hkz
        rw [hat] at hc
        clear hat
        have hglt := hr.lt
        generalize at_ (numsOf s) k = x at hc hrng HGO HST
        obtain ⟨hx0, hx255⟩ := hrng
        rcases (show x < 65 ∨ (65 ≤ x ∧ x ≤ 90) ∨ (65 ≤ x ∧ ¬ x ≤ 90) by omega) with hx1 | ⟨hx1, hx2⟩ | ⟨hx1, hx2⟩
        · have HL := hid (lw_no (x := x) (by omega))
          go_wp2_with fail
          go_roundw
          case rel => exact ⟨k + 1, zs, by go_num, by omega, hr, hl, by show _ = _; rw [← HGO.out x HL.out.symm]; exact HST.out.symm, CC⟩
          case measure => simp [intOf]; omega
        · have HL := hid (lw_up ⟨hx1, hx2⟩)
          go_wp2_with fail
          go_roundw
          case rel => exact ⟨k + 1, zs.set k (x + 32), by go_num, by omega, hr.set hkz _, by rw [List.length_set]; exact hl, HGO.out _ HL.out.symm, CC.setCell (p := ⟨g, k, none⟩) (.inr (by show _ ≤ g; omega)) _⟩
          case measure => simp [intOf]; omega
        · have HL := hid (lw_no (x := x) (by omega))
          go_wp2_with fail
          go_roundw
          case rel => exact ⟨k + 1, zs, by go_num, by omega, hr, hl, by show _ = _; rw [← HGO.out x HL.out.symm]; exact HST.out.symm, CC⟩
          case measure => simp [intOf]; omega
      · have hkm : k = m := by omega
        subst k
        have hrd := hr.rdTake (m := m) (by omega)
        have HZ : Hid (strOfNums (zs.take m) = Z) := by
          show _ = _
          rw [← HM.out, hZ.out]
          congr 1
          have h1 : (((numsOf s).take m).map lw).length = m := by rw [List.length_map, List.length_take, numsOf_length]; omega
          conv => lhs; rw [List.take_append_of_le_length (by omega), List.take_of_length_le (by omega)]
        clear hZ
        go_wp2_with (first
          | (refine wpList_strOf rfl 34 9 5 _ rfl Tryd.underlying34 Tryd.underlying5 Tryd.underlying9 _ m c wr.heap.size _ rfl (hrd.ch C3 (Nat.le_refl _) (by simp)) ?_; rw [HZ.out])
          | (refine wpList_strOf rfl 34 9 5 _ rfl Tryd.underlying34 Tryd.underlying5 Tryd.underlying9 _ m c wr.heap.size _ rfl hrd ?_; rw [HZ.out])
          | (go_at_call 37; (with_reducible refine (HNM.out _).mono ?_); rintro e w3 ⟨rfl, C3⟩))
        go_ret2
        exact ⟨rfl, CC.trans C3⟩
  · skip
    go_loopw [5] (fun i wr => ∃ (k : Nat) (zs : List Int), i = .int .i64 k ∧ k ≤ m ∧ BRow wr g 5 zs ∧ zs.length = s.size ∧ Hid (zs = ((numsOf s).take k).map lw ++ (numsOf s).drop k) ∧ Ch [] w wr) (fun i _ => m - (intOf i).toNat)
    case atStart => exact ⟨0, numsOf s, rfl, Nat.zero_le _, hr, numsOf_length s, by show _ = _; simp, C1⟩
    case round =>
      clear hr C1
      obtain ⟨k, zs, rfl, hk, hr, hl, hZ, CC⟩ := hrel
      by_cases hp : k < m
      · have hkz : k < zs.length := by omega
        have hc := hr.cell hkz
        have hf := hr.frozen hkz
        have hat : at_ zs k = at_ (numsOf s) k := by
          rw [hZ.out]
          have h1 : (((numsOf s).take k).map lw).length = k := by rw [List.length_map, List.length_take, numsOf_length]; omega
          simp only [at_, List.getD]
          rw [List.getElem?_append_right (by omega), h1, Nat.sub_self, List.getElem?_drop, Nat.add_zero]
        have hrng : 0 ≤ at_ (numsOf s) k ∧ at_ (numsOf s) k ≤ 255 := by rw [← byt_at (by omega)]; exact byt_rng s k
        have HGO : Hid (∀ y, y = lw (at_ (numsOf s) k) → zs.set k y = ((numsOf s).take (k + 1)).map lw ++ (numsOf s).drop (k + 1)) := low_step s k zs (by omega) hZ.out
        have HST : Hid (zs.set k (at_ (numsOf s) k) = zs) := by
          show _ = _
          rw [← hat]
          exact set_self zs k hkz
        rw [hat] at hc
        clear hat
        have hglt := hr.lt
        generalize at_ (numsOf s) k = x at hc hrng HGO HST
        obtain ⟨hx0, hx255⟩ := hrng
        rcases (show x < 65 ∨ (65 ≤ x ∧ x ≤ 90) ∨ (65 ≤ x ∧ ¬ x ≤ 90) by omega) with hx1 | ⟨hx1, hx2⟩ | ⟨hx1, hx2⟩
        · have HL := hid (lw_no (x := x) (by omega))
          go_wp2_with fail
          go_roundw
          case rel => exact ⟨k + 1, zs, by go_num, by omega, hr, hl, by show _ = _; rw [← HGO.out x HL.out.symm]; exact HST.out.symm, CC⟩
          case measure => simp [intOf]; omega
        · have HL := hid (lw_up ⟨hx1, hx2⟩)
          go_wp2_with fail
          go_roundw
          case rel => exact ⟨k + 1, zs.set k (x + 32), by go_num, by omega, hr.set hkz _, by rw [List.length_set]; exact hl, HGO.out _ HL.out.symm, CC.setCell (p := ⟨g, k, none⟩) (.inr (by show _ ≤ g; omega)) _⟩
          case measure => simp [intOf]; omega
        · have HL := hid (lw_no (x := x) (by omega))
          go_wp2_with fail
          go_roundw
          case rel => exact ⟨k + 1, zs, by go_num, by omega, hr, hl, by show _ = _; rw [← HGO.out x HL.out.symm]; exact HST.out.symm, CC⟩
          case measure => simp [intOf]; omega
      · have hkm : k = m := by omega
        subst k
        have hrd := hr.rdTake (m := m) (by omega)
        have HZ : Hid (strOfNums (zs.take m) = Z) := by
          show _ = _
          rw [← HM.out, hZ.out]
          congr 1
          have h1 : (((numsOf s).take m).map lw).length = m := by rw [List.length_map, List.length_take, numsOf_length]; omega
          conv => lhs; rw [List.take_append_of_le_length (by omega), List.take_of_length_le (by omega)]
        clear hZ
        go_wp2_with (first
          | (refine wpList_strOf rfl 34 9 5 _ rfl Tryd.underlying34 Tryd.underlying5 Tryd.underlying9 _ m c wr.heap.size _ rfl (hrd.ch C3 (Nat.le_refl _) (by simp)) ?_; rw [HZ.out])
          | (refine wpList_strOf rfl 34 9 5 _ rfl Tryd.underlying34 Tryd.underlying5 Tryd.underlying9 _ m c wr.heap.size _ rfl hrd ?_; rw [HZ.out])
          | (go_at_call 37; (with_reducible refine (HNM.out _).mono ?_); rintro e w3 ⟨rfl, C3⟩))
        go_ret2
        exact ⟨rfl, CC.trans C3⟩
end Go.Proofs.YtiffpjlmgeklkaaDoor
