/- ginnelref07.ParseDecimal and parseGroup where they succeed. -/
import Derived.Test.YtjabeabbaambcaaDoorPfxS
import Derived.Test.YtjabeabbaambcaaDoorNums
import Derived.Test.YtjabeabbaambcaaDoorGenA
namespace Go.Proofs.YtjabeabbaambcaaDoor
open Go.RowKit

theorem decV_le : ∀ (l : List Int) (m N : Int), 0 ≤ m → decV l m = some N → m ≤ N
  | [], m, N, _, h => by simp [decV] at h; omega
  | c :: l, m, N, h0, h => by
    unfold decV at h
    split at h
    · have := decV_le l _ N (by omega) h; omega
    · cases h
theorem decV_cons {c : Int} {l : List Int} {m N : Int} (h : decV (c :: l) m = some N) : 48 ≤ c ∧ c ≤ 57 ∧ decV l (10 * m + (c - 48)) = some N := by
  unfold decV at h
  split at h
  · rename_i hc; exact ⟨hc.1, hc.2, h⟩
  · cases h
theorem hexV_le : ∀ (l : List Int) (m N : Int), 0 ≤ m → hexV l m = some N → m ≤ N ∧ N + 1 ≤ (m + 1) * 16 ^ l.length
  | [], m, N, _, h => by simp [hexV] at h; subst h; simp
  | c :: l, m, N, h0, h => by
    unfold hexV at h
    split at h
    · rename_i d hd
      have hd2 : 0 ≤ d ∧ d ≤ 15 := by
        unfold hexD at hd
        split at hd
        · simp at hd; omega
        · split at hd
          · simp at hd; omega
          · split at hd
            · simp at hd; omega
            · cases hd
      obtain ⟨h1, h2⟩ := hexV_le l _ N (by omega) h
      refine ⟨by omega, ?_⟩
      rw [List.length_cons, Int.pow_succ, Int.mul_comm (16 ^ l.length) 16, ← Int.mul_assoc]
      refine Int.le_trans h2 (Int.mul_le_mul_of_nonneg_right (by omega) (Int.pow_nonneg (by omega)))
    · cases h
theorem hexV_cons {c : Int} {l : List Int} {m N : Int} (h : hexV (c :: l) m = some N) : ((48 ≤ c ∧ c ≤ 57) ∧ hexV l (16 * m + (c - 48)) = some N) ∨ ((97 ≤ c ∧ c ≤ 102) ∧ hexV l (16 * m + (c - 87)) = some N) ∨ ((65 ≤ c ∧ c ≤ 70) ∧ hexV l (16 * m + (c - 55)) = some N) := by
  unfold hexV hexD at h
  split at h
  · rename_i d hd
    split at hd
    · rename_i hc; simp at hd; subst hd; exact .inl ⟨hc, h⟩
    · split at hd
      · rename_i hc; simp at hd; subst hd; exact .inr (.inl ⟨hc, h⟩)
      · split at hd
        · rename_i hc; simp at hd; subst hd; exact .inr (.inr ⟨hc, h⟩)
        · cases hd
  · cases h
theorem nums_dropc (s : ByteArray) (k : Nat) (h : k < s.size) : (numsOf s).drop k = byt s k :: (numsOf s).drop (k + 1) := by
  rw [List.drop_eq_getElem_cons (by rw [numsOf_length]; exact h), byt_at h]
  simp [at_, List.getD, numsOf_length, h]

set_option maxHeartbeats 2000000 in
theorem refDec (s : ByteArray) (most n : Int) (h : decP (numsOf s) most = some n) (hm : most ≤ 100000) (w : World) : Calls Tryd.prog 89 #[.string s, .int .i64 most] w fun e w' => e = .returned (.int .i64 n) ∧ w = w' := by
  unfold decP at h
  split at h
  case isFalse => cases h
  rename_i hc
  rw [numsOf_length] at hc
  obtain ⟨hs1, hs6, hz⟩ := hc
  split at h
  case h_2 => cases h
  rename_i N hN
  split at h
  case isFalse => cases h
  rename_i hle
  obtain rfl : N = n := Option.some.inj h
  have hp0 : 0 < s.size := by omega
  rw [← byt_at hp0] at hz
  have hne : s.toList.isEmpty = false := notEmp hp0
  have hp0i : (0 : Int) < s.size := by omega
  have hs6i : ¬ (6 : Int) < s.size := by omega
  have e0 : ((s[0]'hp0).toNat : Int) = byt s 0 := byt_get hp0
  have HN := hid hN
  clear h hN
  rcases (show (byt s 0 ≠ 48) ∨ (byt s 0 = 48 ∧ s.size = 1) by omega) with h48 | ⟨h48, h1⟩
  · have d0 : (byt s 0 == 48) = false := by simpa using h48
    clear h48 hz
    generalize byt s 0 = x at e0 d0
    go_enter Tryd.func89, Tryd.ntmps89
    go_wp2_with fail
    clear e0 d0
    go_loopw [5, 6] (fun v i wr => ∃ (k : Nat) (m : Int), v = .int .i64 m ∧ i = .int .i64 k ∧ k ≤ s.size ∧ 0 ≤ m ∧ Hid (decV ((numsOf s).drop k) m = some N) ∧ w = wr) (fun _ i _ => s.size - (intOf i).toNat)
    case atStart => exact ⟨0, 0, rfl, rfl, Nat.zero_le _, by omega, HN, rfl⟩
    case round =>
      obtain ⟨k, m, rfl, rfl, hk, hm0, HD, rfl⟩ := hrel
      by_cases hp : k < s.size
      · have ec : ((s[k]'hp).toNat : Int) = byt s k := byt_get hp
        have h1 := HD.out
        rw [nums_dropc s k hp] at h1
        obtain ⟨c0, c9, h2⟩ := decV_cons h1
        have HD2 := hid h2
        have hb := decV_le _ _ _ (by omega) h2
        clear h1 h2
        generalize byt s k = c at ec c0 c9 HD2 hb
        have c9' : ¬ (57 : Int) < c := by omega
        have c0' : ¬ c < 48 := by omega
        go_wp2_with fail
        go_roundw
        case rel => exact ⟨k + 1, 10 * m + (c - 48), by go_num, by go_num, by omega, by omega, HD2, by first | trivial | rfl⟩
        case measure => simp [intOf]; omega
      · obtain rfl : k = s.size := by omega
        have h1 := HD.out
        rw [List.drop_eq_nil_of_le (by rw [numsOf_length]; exact Nat.le_refl _)] at h1
        obtain rfl : m = N := by simpa [decV] using h1
        have hle' : ¬ most < m := by omega
        go_wp2_with fail
        go_ret
        exact ⟨rfl, rfl⟩
  · rw [h48] at e0
    clear h48 hz
    have h1i : ¬ (1 : Int) < s.size := by omega
    go_enter Tryd.func89, Tryd.ntmps89
    go_wp2_with fail
    go_loopw [5, 6] (fun v i wr => ∃ (k : Nat) (m : Int), v = .int .i64 m ∧ i = .int .i64 k ∧ k ≤ s.size ∧ 0 ≤ m ∧ Hid (decV ((numsOf s).drop k) m = some N) ∧ w = wr) (fun _ i _ => s.size - (intOf i).toNat)
    case atStart => exact ⟨0, 0, rfl, rfl, Nat.zero_le _, by omega, HN, rfl⟩
    case round =>
      obtain ⟨k, m, rfl, rfl, hk, hm0, HD, rfl⟩ := hrel
      by_cases hp : k < s.size
      · have ec : ((s[k]'hp).toNat : Int) = byt s k := byt_get hp
        have h1 := HD.out
        rw [nums_dropc s k hp] at h1
        obtain ⟨c0, c9, h2⟩ := decV_cons h1
        have HD2 := hid h2
        have hb := decV_le _ _ _ (by omega) h2
        clear h1 h2
        generalize byt s k = c at ec c0 c9 HD2 hb
        have c9' : ¬ (57 : Int) < c := by omega
        have c0' : ¬ c < 48 := by omega
        go_wp2_with fail
        go_roundw
        case rel => exact ⟨k + 1, 10 * m + (c - 48), by go_num, by go_num, by omega, by omega, HD2, by first | trivial | rfl⟩
        case measure => simp [intOf]; omega
      · obtain rfl : k = s.size := by omega
        have h1 := HD.out
        rw [List.drop_eq_nil_of_le (by rw [numsOf_length]; exact Nat.le_refl _)] at h1
        obtain rfl : m = N := by simpa [decV] using h1
        have hle' : ¬ most < m := by omega
        go_wp2_with fail
        go_ret
        exact ⟨rfl, rfl⟩

theorem hexP_le {l : List Int} {n : Int} (h : hexP l = some n) : 0 ≤ n ∧ n ≤ 65535 := by
  unfold hexP at h
  split at h
  · rename_i hc
    obtain ⟨h1, h2⟩ := hexV_le l 0 n (by omega) h
    refine ⟨h1, ?_⟩
    rcases (show l.length = 1 ∨ l.length = 2 ∨ l.length = 3 ∨ l.length = 4 by omega) with e | e | e | e <;> rw [e] at h2 <;> omega
  · cases h
set_option maxHeartbeats 2000000 in
theorem refHex (s : ByteArray) (n : Int) (h : hexP (numsOf s) = some n) (w : World) : Calls Tryd.prog 110 #[.string s] w fun e w' => e = .returned (.int .i64 n) ∧ w = w' := by
  have hle := hexP_le h
  unfold hexP at h
  split at h
  case isFalse => cases h
  rename_i hc
  rw [numsOf_length] at hc
  obtain ⟨hs1, hs4⟩ := hc
  have hp0 : 0 < s.size := by omega
  have hne : s.toList.isEmpty = false := notEmp hp0
  have hs4i : ¬ (4 : Int) < s.size := by omega
  have HN := hid h
  clear h
  go_enter Tryd.func110, Tryd.ntmps110
  go_wp2_with fail
  go_loopw [3, 4] (fun v i wr => ∃ (k : Nat) (m : Int), v = .int .i64 m ∧ i = .int .i64 k ∧ k ≤ s.size ∧ 0 ≤ m ∧ Hid (hexV ((numsOf s).drop k) m = some n) ∧ w = wr) (fun _ i _ => s.size - (intOf i).toNat)
  case atStart => exact ⟨0, 0, rfl, rfl, Nat.zero_le _, by omega, HN, rfl⟩
  case round =>
    obtain ⟨k, m, rfl, rfl, hk, hm0, HD, rfl⟩ := hrel
    by_cases hp : k < s.size
    · have ec : ((s[k]'hp).toNat : Int) = byt s k := byt_get hp
      have h1 := HD.out
      rw [nums_dropc s k hp] at h1
      rcases hexV_cons h1 with ⟨⟨c0, c1⟩, h2⟩ | ⟨⟨c0, c1⟩, h2⟩ | ⟨⟨c0, c1⟩, h2⟩
      · have HD2 := hid h2
        have hb := (hexV_le _ _ _ (by omega) h2).1
        clear h1 h2
        generalize byt s k = c at ec c0 c1 HD2 hb
        go_wp2_with fail
        go_roundw
        case rel => exact ⟨k + 1, 16 * m + (c - 48), by go_num, by go_num, by omega, by omega, HD2, by first | trivial | rfl⟩
        case measure => simp [intOf]; omega
      · have HD2 := hid h2
        have hb := (hexV_le _ _ _ (by omega) h2).1
        clear h1 h2
        generalize byt s k = c at ec c0 c1 HD2 hb
        have c2 : 48 ≤ c := by omega
        have c3 : ¬ c ≤ 57 := by omega
        go_wp2_with fail
        go_roundw
        case rel => exact ⟨k + 1, 16 * m + (c - 87), by go_num, by go_num, by omega, by omega, HD2, by first | trivial | rfl⟩
        case measure => simp [intOf]; omega
      · have HD2 := hid h2
        have hb := (hexV_le _ _ _ (by omega) h2).1
        clear h1 h2
        generalize byt s k = c at ec c0 c1 HD2 hb
        have c2 : 48 ≤ c := by omega
        have c3 : ¬ c ≤ 57 := by omega
        have c4 : ¬ 97 ≤ c := by omega
        go_wp2_with fail
        go_roundw
        case rel => exact ⟨k + 1, 16 * m + (c - 55), by go_num, by go_num, by omega, by omega, HD2, by first | trivial | rfl⟩
        case measure => simp [intOf]; omega
    · obtain rfl : k = s.size := by omega
      have h1 := HD.out
      rw [List.drop_eq_nil_of_le (by rw [numsOf_length]; exact Nat.le_refl _)] at h1
      obtain rfl : m = n := by simpa [hexV] using h1
      go_wp2_with fail
      go_ret
      exact ⟨rfl, rfl⟩
end Go.Proofs.YtjabeabbaambcaaDoor
