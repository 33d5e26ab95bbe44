/- strings.Trim at a cutset of one byte: what it leaves is empty exactly where every byte is that one. -/
import Derived.Test.YtjabeabbaambcaaDoorProg
import Derived.Test.YtjabeabbaambcaaDoorStages3
import Derived.Test.YtjabeabbaambcaaDoorStr
namespace Go.Proofs.YtjabeabbaambcaaDoor
open Go.RowKit

def byt (s : ByteArray) (i : Nat) : Int := ((s.data[i]?.getD 0).toNat : Int)
theorem byt_get {s : ByteArray} {i : Nat} (h : i < s.size) : ((s[i]'h).toNat : Int) = byt s i := by
  have h' : i < s.data.size := h
  unfold byt
  rw [Array.getElem?_eq_getElem h']
  rfl
theorem byt_extract {s : ByteArray} {a b i : Nat} (h : i < b - a) (hb : b ≤ s.size) : byt (s.extract a b) i = byt s (a + i) := by
  have hb' : b ≤ s.data.size := hb
  unfold byt
  rw [ByteArray.data_extract, Array.getElem?_extract, if_pos (by omega)]
theorem byt_at {s : ByteArray} {i : Nat} (h : i < s.size) : byt s i = at_ (numsOf s) i := by
  have h' : i < s.data.size := h
  rw [numsOf_at s i h']
  unfold byt
  rw [Array.getElem?_eq_getElem h']
  rfl
theorem byt_rng (s : ByteArray) (i : Nat) : 0 ≤ byt s i ∧ byt s i ≤ 255 := by
  unfold byt
  have := (s.data[i]?.getD 0).toNat_lt
  omega
def strLen (v : Value) : Nat := match v with | .string u => u.size | _ => 0
theorem ext_ext (s : ByteArray) {m : Nat} (h : m ≤ s.size) (k : Nat) (hk : k ≤ m) : (s.extract 0 m).extract 0 k = s.extract 0 k := by
  have h' : m ≤ s.data.size := h
  apply str_ext
  rw [ByteArray.data_extract, ByteArray.data_extract, ByteArray.data_extract]
  simp only [Array.toList_extract, List.extract_eq_take_drop, List.drop_zero, Nat.sub_zero, List.take_take]
  rw [Nat.min_eq_left hk]
theorem ext_tail (s : ByteArray) {a : Nat} (h : a < s.size) : (s.extract a s.size).extract 1 (s.extract a s.size).size = s.extract (a + 1) s.size := by
  have e : (s.extract a s.size).size = s.size - a := by rw [ByteArray.size_extract]; omega
  rw [e]
  have e2 : s.size = s.data.toList.length := by rw [Array.length_toList]; rfl
  apply str_ext
  rw [ByteArray.data_extract, ByteArray.data_extract, ByteArray.data_extract]
  simp only [Array.toList_extract, List.extract_eq_take_drop, List.drop_take, List.take_take, List.drop_drop]
  congr 1
  omega

theorem trimR (s : ByteArray) (c : Int) (w : World) (hs : s.size ≤ 9223372036854775807) :
    Calls Tryd.prog 96 #[.string s, .int .u8 c] w fun e w' => (∃ m, e = .returned (.string (s.extract 0 m)) ∧ m ≤ s.size ∧ Hid (∀ i, m ≤ i → i < s.size → byt s i = c) ∧ (0 < m → byt s (m - 1) ≠ c)) ∧ w = w' := by
  go_enter Tryd.func96, Tryd.ntmps96
  go_wp2
  go_loopw [0] (fun x wr => ∃ (u : ByteArray) (m : Nat), x = .string u ∧ Hid (u = s.extract 0 m) ∧ m ≤ s.size ∧ u.size = m ∧ Hid (∀ i, m ≤ i → i < s.size → byt s i = c) ∧ w = wr) (fun x _ => strLen x)
  case atStart => exact ⟨s, s.size, rfl, by show _ = _; simp, Nat.le_refl _, rfl, fun i h1 h2 => absurd h1 (by omega), rfl⟩
  case round =>
    obtain ⟨u, m, rfl, hU, hm, hu, hall, rfl⟩ := hrel
    by_cases hp : 0 < m
    · have hlt : m - 1 < u.size := by omega
      have e1 : ((u[m - 1]'hlt).toNat : Int) = byt s (m - 1) := by rw [byt_get, hU.out, byt_extract (by omega) hm]; simp
      have hb2 : 1 ≤ (m : Int) ∧ (m : Int) - 1 < m := by omega
      by_cases hc : byt s (m - 1) = c
      · have hd : (((u[m - 1]'hlt).toNat : Int) == c) = true := by rw [e1]; simpa using hc
        have HC := hid hc
        clear hc e1
        go_wp2
        all_goals try (exfalso; omega)
        go_roundw
        case rel =>
          refine ⟨u.extract 0 (m - 1), m - 1, rfl, by show _ = _; rw [hU.out, ext_ext s hm _ (by omega)], by omega, by rw [ByteArray.size_extract]; omega, fun i h1 h2 => ?_, by first | trivial | rfl⟩
          rcases Nat.lt_or_ge i m with h3 | h3
          · obtain rfl : i = m - 1 := by omega
            exact HC.out
          · exact hall.out i h3 h2
        case measure => simp [strLen]; omega
      · have hd : (((u[m - 1]'hlt).toNat : Int) == c) = false := by rw [e1]; simpa using hc
        have HC := hid hc
        clear hc e1
        go_wp2
        all_goals try (exfalso; omega)
        go_ret
        exact ⟨⟨m, by rw [← hU.out]; rfl, hm, hall, fun _ => HC.out⟩, rfl⟩
    · obtain rfl : m = 0 := by omega
      go_wp2
      go_ret
      exact ⟨⟨0, by rw [← hU.out]; rfl, hm, hall, fun h => absurd h (by omega)⟩, rfl⟩

theorem trimL (s : ByteArray) (c : Int) (w : World) (hs : s.size ≤ 9223372036854775807) :
    Calls Tryd.prog 95 #[.string s, .int .u8 c] w fun e w' => (∃ m, e = .returned (.string (s.extract m s.size)) ∧ m ≤ s.size ∧ Hid (∀ i, i < m → byt s i = c) ∧ (m < s.size → byt s m ≠ c)) ∧ w = w' := by
  go_enter Tryd.func95, Tryd.ntmps95
  go_wp2
  go_loopw [0] (fun x wr => ∃ (u : ByteArray) (m : Nat), x = .string u ∧ Hid (u = s.extract m s.size) ∧ m ≤ s.size ∧ u.size = s.size - m ∧ Hid (∀ i, i < m → byt s i = c) ∧ w = wr) (fun x _ => strLen x)
  case atStart => exact ⟨s, 0, rfl, by show _ = _; simp, Nat.zero_le _, by omega, fun i h1 => absurd h1 (by omega), rfl⟩
  case round =>
    obtain ⟨u, m, rfl, hU, hm, hu, hall, rfl⟩ := hrel
    by_cases hp : m < s.size
    · have hlt : 0 < u.size := by omega
      have e1 : ((u[0]'hlt).toNat : Int) = byt s m := by rw [byt_get, hU.out, byt_extract (by omega) (Nat.le_refl _)]; simp
      by_cases hc : byt s m = c
      · have hd : (((u[0]'hlt).toNat : Int) == c) = true := by rw [e1]; simpa using hc
        have HC := hid hc
        clear hc e1
        have HU := hid hu
        clear hu
        go_wp2
        all_goals try (exfalso; omega)
        go_roundw
        case rel =>
          refine ⟨_, m + 1, rfl, by show _ = _; rw [hU.out, ext_tail s hp], by omega, by rw [ByteArray.size_extract, HU.out]; omega, fun i h1 => ?_, by first | trivial | rfl⟩
          rcases Nat.lt_or_ge i m with h3 | h3
          · exact hall.out i h3
          · obtain rfl : i = m := by omega
            exact HC.out
        case measure => simp [strLen]; omega
      · have hd : (((u[0]'hlt).toNat : Int) == c) = false := by rw [e1]; simpa using hc
        have HC := hid hc
        clear hc e1
        go_wp2
        all_goals try (exfalso; omega)
        go_ret
        exact ⟨⟨m, by rw [← hU.out]; rfl, hm, hall, fun _ => HC.out⟩, rfl⟩
    · obtain rfl : m = s.size := by omega
      go_wp2
      go_ret
      exact ⟨⟨s.size, by rw [← hU.out]; rfl, hm, hall, fun h => absurd h (by omega)⟩, rfl⟩

/-- strings.Trim at the byte 0: empty exactly where every byte is 0. -/
theorem trimZero (s : ByteArray) (w : World) (hs : s.size ≤ 9223372036854775807) :
    Calls Tryd.prog 85 #[.string s, .string ⟨#[0]⟩] w fun e w' => (∃ r : ByteArray, e = .returned (.string r) ∧ (r.size = 0 ↔ ∀ i, i < s.size → byt s i = 0)) ∧ ∃ n, w' = w.drewN n := by
  by_cases h0 : s.size = 0
  · have e0 : s.toList = [] := by
      rw [ByteArray.toList_eq]
      exact List.eq_nil_of_length_eq_zero (by rw [Array.length_toList]; exact h0)
    have H0 := hid h0
    clear h0
    go_enter Tryd.func85, Tryd.ntmps85
    go_wp2
    go_ret
    exact ⟨⟨s, rfl, by rw [H0.out]; exact ⟨fun _ i h => absurd h (by omega), fun _ => rfl⟩⟩, 0, rfl⟩
  · have e0 : ¬ s.toList = [] := by
      rw [ByteArray.toList_eq]
      intro h
      have := congrArg List.length h
      rw [Array.length_toList] at this
      exact h0 this
    obtain ⟨z, hz, hz1, hz0, hz3⟩ : ∃ z : ByteArray, (⟨#[0]⟩ : ByteArray) = z ∧ ¬ z.toList = [] ∧ z.size = 1 ∧ ∀ h : 0 < z.size, (z[0]'h).toNat = 0 :=
      ⟨_, rfl, by rw [ByteArray.toList_eq]; simp, rfl, fun h => rfl⟩
    rw [hz]
    have hz2 : 0 < z.size := by omega
    have hz4 := hz3 hz2
    have i0 : s.toList.isEmpty = false := by simpa using e0
    have i1 : z.toList.isEmpty = false := by simpa using hz1
    clear hz hz3
    go_enter Tryd.func85, Tryd.ntmps85
    go_wp2_with fail
    refine wp_region_stagesM [⟨0, 1, 4194304⟩, ⟨0, 2, 8388608⟩, ⟨2, 8388608, 16777216⟩, ⟨5, 20971520, 33554432⟩, ⟨0, 2, 67108864⟩, ⟨16, 67108864, 134217728⟩, ⟨40, 167772160, 268435456⟩, ⟨127, 268435456, 16⟩] [([0, 1, 2, 4, 5], 3, [4, 5]), ([], 6, [])] [7] (by kernel_rfl) (by kernel_rfl) ?_
    refine wpStages_step ?_
    simp only [pick, List.map_cons, List.map_nil, List.getD_cons_zero, List.getD_cons_succ]
    repeat (go_big_quiet_step (fail))
    refine wpQuiet_nil ?_
    intro n0
    simp only [pick, List.map_cons, List.map_nil, List.getD_cons_zero, List.getD_cons_succ]
    go_wp2_with (go_at_call 96; (with_reducible refine (trimR s 0 _ hs).mono ?_); rintro e w2 ⟨⟨m, rfl, hm, hall, hlast⟩, rfl⟩)
    obtain ⟨u, hu⟩ : ∃ u, s.extract 0 m = u := ⟨_, rfl⟩
    have hus : u.size ≤ m ∧ m ≤ u.size := by rw [← hu, ByteArray.size_extract]; omega
    have HU := hid hu
    rw [hu]
    clear hu
    refine stagePost_mk ?_ ?_
    · intro o ho
      simp only [pick, List.map_cons, List.map_nil, List.getD_cons_zero, List.getD_cons_succ, List.mem_cons, List.not_mem_nil, or_false] at ho
      rcases ho with rfl | rfl
      all_goals
        refine float_any ?_
        repeat (go_big_quiet_step (fail))
        refine wpQuiet_nil ?_
        rfl
    refine wpStages_step ?_
    simp only [pick, List.map_nil]
    refine wpQuiet_nil ?_
    intro n1
    simp only [pick, List.map_cons, List.map_nil, List.getD_cons_zero, List.getD_cons_succ]
    go_wp2_with (go_at_call 95; (with_reducible refine (trimL u 0 _ (by omega)).mono ?_); rintro e w3 ⟨⟨k, rfl, hk, hall2, hfirst⟩, rfl⟩)
    refine stagePost_mk (by simp [pick]) ?_
    refine wpStages_last ?_
    simp only [pick, List.map_cons, List.map_nil, List.getD_cons_zero, List.getD_cons_succ]
    repeat (go_big_quiet_step (fail))
    refine wpQuiet_nil ?_
    intro n2
    go_wp2
    go_ret
    refine ⟨⟨_, rfl, ?_⟩, _, World.drewN_drewN ..⟩
    rw [ByteArray.size_extract]
    constructor
    · intro h i hi
      rcases Nat.lt_or_ge i m with h3 | h3
      · have := hall2.out i (by omega)
        rw [← HU.out, byt_extract (by omega) hm] at this
        simpa using this
      · exact hall.out i h3 hi
    · intro h
      rcases Nat.eq_zero_or_pos m with h3 | h3
      · omega
      · exact absurd (h (m - 1) (by omega)) (hlast h3)
end Go.Proofs.YtjabeabbaambcaaDoor
