/- What the functions of package tick, and of its reference, compute: a contract each. -/
import Derived.Test.YtjchkjaopdhhlaaProg
import Derived.Test.YtjchkjaopdhhlaaBase
namespace Go.Proofs.Ytjchkjaopdhhlaa
open Go.RowKit

/-- The sum of two ticks, at most the largest tick. -/
def addT (a b : Int) : Int := if a + b ≤ 18446744073709551615 then a + b else 18446744073709551615
def subT (a b : Int) : Int := if b > a then 0 else a - b
def minI (a b : Int) : Int := if b < a then b else a
def minL (l : List Int) : Int := l.foldl minI 18446744073709551615
def winT (now width : Int) : Int := if width = 0 then 0 else now / width

theorem minL_snoc (l : List Int) (x : Int) : minL (l ++ [x]) = minI (minL l) x := by simp [minL, List.foldl_append]
theorem addT_rng (a b : Int) (ha : 0 ≤ a) (hb : 0 ≤ b) : 0 ≤ addT a b ∧ addT a b ≤ 18446744073709551615 := by unfold addT; split <;> omega
theorem winT_rng (a b : Int) (ha : 0 ≤ a) (ha' : a ≤ 18446744073709551615) (hb : 0 ≤ b) : 0 ≤ winT a b ∧ winT a b ≤ 18446744073709551615 := by
  unfold winT
  split
  · omega
  · have h1 := Int.ediv_nonneg ha hb
    have h2 := Int.ediv_le_self b ha
    omega
theorem foldMin_rng (l : List Int) (m : Int) (hm : 0 ≤ m ∧ m ≤ 18446744073709551615) (h : ∀ x ∈ l, 0 ≤ x ∧ x ≤ 18446744073709551615) :
    0 ≤ l.foldl minI m ∧ l.foldl minI m ≤ 18446744073709551615 := by
  induction l generalizing m with
  | nil => exact hm
  | cons x l ih =>
    refine ih _ ?_ (fun y hy => h y (List.mem_cons_of_mem _ hy))
    have := h x (List.mem_cons_self ..)
    unfold minI; split <;> omega
theorem minL_rng (l : List Int) (h : ∀ x ∈ l, 0 ≤ x ∧ x ≤ 18446744073709551615) : 0 ≤ minL l ∧ minL l ≤ 18446744073709551615 :=
  foldMin_rng l _ (by omega) h

theorem tickAdd (a b : Int) (w : World) (ha : 0 ≤ a) (ha' : a ≤ 18446744073709551615) (hb : 0 ≤ b) (hb' : b ≤ 18446744073709551615) :
    Calls Try.prog 16 #[.int .u64 a, .int .u64 b] w fun e w' => e = .returned (.int .u64 (addT a b)) ∧ w = w' := by
  by_cases h : a + b ≤ 18446744073709551615
  · have h' : ¬ (18446744073709551615 - b < a) := by omega
    go_enter Try.func16, Try.ntmps16
    go_wp2
    go_ret
    exact ⟨ret_int (by rw [addT, if_pos (by omega)]), rfl⟩
  · have h' : (18446744073709551615 - b < a) := by omega
    go_enter Try.func16, Try.ntmps16
    go_wp2
    go_ret
    exact ⟨ret_int (by rw [addT, if_neg (by omega)]), rfl⟩
theorem refAdd (a b : Int) (w : World) (ha : 0 ≤ a) (ha' : a ≤ 18446744073709551615) (hb : 0 ≤ b) (hb' : b ≤ 18446744073709551615) :
    Calls Try.prog 17 #[.int .u64 a, .int .u64 b] w fun e w' => e = .returned (.int .u64 (addT a b)) ∧ w = w' := by
  by_cases h : a + b ≤ 18446744073709551615
  · have h' : ¬ (18446744073709551615 - a < b) := by omega
    go_enter Try.func17, Try.ntmps17
    go_wp2
    go_ret
    exact ⟨ret_int (by rw [addT, if_pos (by omega)]), rfl⟩
  · have h' : (18446744073709551615 - a < b) := by omega
    go_enter Try.func17, Try.ntmps17
    go_wp2
    go_ret
    exact ⟨ret_int (by rw [addT, if_neg (by omega)]), rfl⟩
theorem tickSub (a b : Int) (w : World) (ha : 0 ≤ a) (ha' : a ≤ 18446744073709551615) (hb : 0 ≤ b) (hb' : b ≤ 18446744073709551615) :
    Calls Try.prog 18 #[.int .u64 a, .int .u64 b] w fun e w' => e = .returned (.int .u64 (subT a b)) ∧ w = w' := by
  by_cases h : a < b
  · go_enter Try.func18, Try.ntmps18
    go_wp2
    go_ret
    exact ⟨ret_int (by rw [subT, if_pos (by omega)]), rfl⟩
  · go_enter Try.func18, Try.ntmps18
    go_wp2
    go_ret
    exact ⟨ret_int (by rw [subT, if_neg (by omega)]), rfl⟩
theorem refSub (a b : Int) (w : World) (ha : 0 ≤ a) (ha' : a ≤ 18446744073709551615) (hb : 0 ≤ b) (hb' : b ≤ 18446744073709551615) :
    Calls Try.prog 19 #[.int .u64 a, .int .u64 b] w fun e w' => e = .returned (.int .u64 (subT a b)) ∧ w = w' := by
  by_cases h : a < b
  · go_enter Try.func19, Try.ntmps19
    go_wp2
    go_ret
    exact ⟨ret_int (by rw [subT, if_pos (by omega)]), rfl⟩
  · go_enter Try.func19, Try.ntmps19
    go_wp2
    go_ret
    exact ⟨ret_int (by rw [subT, if_neg (by omega)]), rfl⟩
theorem tickWindow (a b : Int) (w : World) (ha : 0 ≤ a) (ha' : a ≤ 18446744073709551615) (hb : 0 ≤ b) (hb' : b ≤ 18446744073709551615) :
    Calls Try.prog 24 #[.int .u64 a, .int .u64 b] w fun e w' => e = .returned (.int .u64 (winT a b)) ∧ w = w' := by
  by_cases h : b = 0
  · subst h
    go_enter Try.func24, Try.ntmps24
    go_wp2
    go_ret
    exact ⟨ret_int (by rw [winT, if_pos rfl]), rfl⟩
  · have h1 : 1 ≤ b := by omega
    have h2 : (b == 0) = false := by simpa using h
    go_enter Try.func24, Try.ntmps24
    go_wp2
    go_ret
    exact ⟨ret_int (by rw [winT, if_neg h]), rfl⟩
theorem refWindow (a b : Int) (w : World) (ha : 0 ≤ a) (ha' : a ≤ 18446744073709551615) (hb : 0 ≤ b) (hb' : b ≤ 18446744073709551615) :
    Calls Try.prog 51 #[.int .u64 a, .int .u64 b] w fun e w' => e = .returned (.int .u64 (winT a b)) ∧ w = w' := by
  by_cases h : b = 0
  · subst h
    go_enter Try.func51, Try.ntmps51
    go_wp2
    go_ret
    exact ⟨ret_int (by rw [winT, if_pos rfl]), rfl⟩
  · have h1 : 1 ≤ b := by omega
    have h2 : (b == 0) = false := by simpa using h
    go_enter Try.func51, Try.ntmps51
    go_wp2
    go_ret
    exact ⟨ret_int (by rw [winT, if_neg h]), rfl⟩
theorem tickMin (A : Option Addr) (len cap : Nat) (zs : List Int) (w : World) (B : Nat) (h : RdI .u64 w B A len zs) (hl : len ≤ 9223372036854775807) :
    Calls Try.prog 20 #[.slice A len cap] w fun e w' => e = .returned (.int .u64 (minL zs)) ∧ w = w' := by
  obtain ⟨hzl, hc⟩ := h
  go_enter Try.func20, Try.ntmps20
  go_wp2
  go_loop [3, 8] (fun m i => ∃ k : Nat, k ≤ len ∧ i = .int .i64 k ∧ m = .int .u64 (minL (zs.take k))) (fun _ i => len - (intOf i).toNat)
  case atStart => exact ⟨0, Nat.zero_le _, rfl, rfl⟩
  case round =>
    obtain ⟨k, hk, rfl, rfl⟩ := hrel
    by_cases hlt : k < len
    · obtain ⟨b, off, rfl, hb, hcell⟩ := hc (by omega)
      have hk' := hcell k hlt
      have HS : Hid (minL (zs.take (k + 1)) = minI (minL (zs.take k)) (at_ zs k)) := by rw [at_take_succ zs k (by omega)]; exact minL_snoc _ _
      clear hcell hc
      go_wp2
      all_goals
        go_round
        case rel => exact ⟨k + 1, by omega, by go_num, by rw [HS.out]; rfl⟩
        case measure => simp [intOf]; omega
    · go_wp2
      go_ret
      exact ⟨by rw [List.take_of_length_le (by omega)]; rfl, rfl⟩
theorem refMin (A : Option Addr) (len cap : Nat) (zs : List Int) (w : World) (B : Nat) (h : RdI .u64 w B A len zs) (hl : len ≤ 9223372036854775807) :
    Calls Try.prog 21 #[.slice A len cap] w fun e w' => e = .returned (.int .u64 (minL zs)) ∧ w = w' := by
  obtain ⟨hzl, hc⟩ := h
  go_enter Try.func21, Try.ntmps21
  go_wp2
  go_loop [3, 4] (fun m i => ∃ k : Nat, k ≤ len ∧ i = .int .i64 k ∧ m = .int .u64 (minL (zs.take k))) (fun _ i => len - (intOf i).toNat)
  case atStart => exact ⟨0, Nat.zero_le _, rfl, rfl⟩
  case round =>
    obtain ⟨k, hk, rfl, rfl⟩ := hrel
    by_cases hlt : k < len
    · obtain ⟨b, off, rfl, hb, hcell⟩ := hc (by omega)
      have hk' := hcell k hlt
      have HS : Hid (minL (zs.take (k + 1)) = minI (minL (zs.take k)) (at_ zs k)) := by rw [at_take_succ zs k (by omega)]; exact minL_snoc _ _
      clear hcell hc
      go_wp2
      all_goals
        go_round
        case rel => exact ⟨k + 1, by omega, by go_num, by rw [HS.out]; rfl⟩
        case measure => simp [intOf]; omega
    · go_wp2
      go_ret
      exact ⟨by rw [List.take_of_length_le (by omega)]; rfl, rfl⟩
theorem tickDeadline (a b : Int) (A : Option Addr) (len cap : Nat) (zs : List Int) (w : World) (B : Nat) (h : RdI .u64 w B A len zs) (hl : len ≤ 9223372036854775807)
    (ha : 0 ≤ a) (ha' : a ≤ 18446744073709551615) (hb : 0 ≤ b) (hb' : b ≤ 18446744073709551615) :
    Calls Try.prog 22 #[.int .u64 a, .int .u64 b, .slice A len cap] w fun e w' => e = .returned (.int .u64 (minI (addT a b) (minL zs))) ∧ w = w' := by
  go_enter Try.func22, Try.ntmps22
  go_wp2_with (first | (go_at_call 16; refine (tickAdd _ _ _ (by omega) (by omega) (by omega) (by omega)).mono ?_; rintro e w' ⟨rfl, rfl⟩) | (go_at_call 20; refine (tickMin _ _ _ _ _ _ h hl).mono ?_; rintro e w' ⟨rfl, rfl⟩))
  all_goals go_ret
  all_goals exact ⟨ret_int (by unfold minI; split <;> omega), rfl⟩
theorem refDeadline (a b : Int) (A : Option Addr) (len cap : Nat) (zs : List Int) (w : World) (B : Nat) (h : RdI .u64 w B A len zs) (hl : len ≤ 9223372036854775807)
    (ha : 0 ≤ a) (ha' : a ≤ 18446744073709551615) (hb : 0 ≤ b) (hb' : b ≤ 18446744073709551615) :
    Calls Try.prog 23 #[.int .u64 a, .int .u64 b, .slice A len cap] w fun e w' => e = .returned (.int .u64 (minI (addT a b) (minL zs))) ∧ w = w' := by
  go_enter Try.func23, Try.ntmps23
  go_wp2_with (first | (go_at_call 17; refine (refAdd _ _ _ (by omega) (by omega) (by omega) (by omega)).mono ?_; rintro e w' ⟨rfl, rfl⟩) | (go_at_call 21; refine (refMin _ _ _ _ _ _ h hl).mono ?_; rintro e w' ⟨rfl, rfl⟩))
  all_goals go_ret
  all_goals exact ⟨ret_int (by unfold minI; split <;> omega), rfl⟩
end Go.Proofs.Ytjchkjaopdhhlaa
