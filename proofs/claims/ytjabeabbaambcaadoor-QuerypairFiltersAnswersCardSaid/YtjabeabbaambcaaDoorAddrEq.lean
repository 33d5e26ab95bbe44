/- Two addresses compared. -/
import Derived.Test.YtjabeabbaambcaaDoorCidr
namespace Go.Proofs.YtjabeabbaambcaaDoor
open Go.RowKit

set_option maxRecDepth 100000 in
set_option maxHeartbeats 4000000 in
theorem addr_eq0 (six six' : Bool) (b0 b1 b2 b3 b4 b5 b6 b7 b8 b9 b10 b11 b12 b13 b14 b15 c0 c1 c2 c3 c4 c5 c6 c7 c8 c9 c10 c11 c12 c13 c14 c15 : Int) (w : World) :
    (Op.equalIn 10000 29 (.agg #[.bool six, .int .u8 b0, .int .u8 b1, .int .u8 b2, .int .u8 b3, .int .u8 b4, .int .u8 b5, .int .u8 b6, .int .u8 b7, .int .u8 b8, .int .u8 b9, .int .u8 b10, .int .u8 b11, .int .u8 b12, .int .u8 b13, .int .u8 b14, .int .u8 b15]) (.agg #[.bool six', .int .u8 c0, .int .u8 c1, .int .u8 c2, .int .u8 c3, .int .u8 c4, .int .u8 c5, .int .u8 c6, .int .u8 c7, .int .u8 c8, .int .u8 c9, .int .u8 c10, .int .u8 c11, .int .u8 c12, .int .u8 c13, .int .u8 c14, .int .u8 c15])).run Tryd.prog w = .ok (six == six' && decide (b0 = c0 ∧ b1 = c1 ∧ b2 = c2 ∧ b3 = c3 ∧ b4 = c4 ∧ b5 = c5 ∧ b6 = c6 ∧ b7 = c7 ∧ b8 = c8 ∧ b9 = c9 ∧ b10 = c10 ∧ b11 = c11 ∧ b12 = c12 ∧ b13 = c13 ∧ b14 = c14 ∧ b15 = c15)) w := by
  go_simp
  obtain ⟨i, hi, hc⟩ : ∃ i, Tryd.prog.info? 5 = some i ∧ Tryd.prog.cellsOf 5 = 1 := ⟨_, rfl, by kernel_rfl⟩
  rw [run_equalIn_array _ _ _ _ Tryd.underlying27 hi, hc]
  simp only [show List.range 16 = [0, 1, 2, 3, 4, 5, 6, 7, 8, 9, 10, 11, 12, 13, 14, 15] from rfl, Op.eqItems]
  go_simp
  have h (p : Prop) [Decidable p] (x : Bool) : (if p then Result.ok x w else Result.ok false w : Result Bool) = Result.ok (decide p && x) w := by
    by_cases hp : p <;> simp [hp]
  simp only [h, Bool.and_true]
  rfl
theorem addr_eq (six six' : Bool) (a b : List Int) (ha : a.length = 16) (hb : b.length = 16) (w : World) : (Op.equalIn 10000 29 (.agg (addrC six a).toArray) (.agg (addrC six' b).toArray)).run Tryd.prog w = .ok (six == six' && decide (a = b)) w := by
  obtain ⟨b0, b1, b2, b3, b4, b5, b6, b7, b8, b9, b10, b11, b12, b13, b14, b15, rfl⟩ := len16 ha
  obtain ⟨c0, c1, c2, c3, c4, c5, c6, c7, c8, c9, c10, c11, c12, c13, c14, c15, rfl⟩ := len16 hb
  have h := addr_eq0 six six' b0 b1 b2 b3 b4 b5 b6 b7 b8 b9 b10 b11 b12 b13 b14 b15 c0 c1 c2 c3 c4 c5 c6 c7 c8 c9 c10 c11 c12 c13 c14 c15 w
  have e : decide ([b0, b1, b2, b3, b4, b5, b6, b7, b8, b9, b10, b11, b12, b13, b14, b15] = [c0, c1, c2, c3, c4, c5, c6, c7, c8, c9, c10, c11, c12, c13, c14, c15]) = decide (b0 = c0 ∧ b1 = c1 ∧ b2 = c2 ∧ b3 = c3 ∧ b4 = c4 ∧ b5 = c5 ∧ b6 = c6 ∧ b7 = c7 ∧ b8 = c8 ∧ b9 = c9 ∧ b10 = c10 ∧ b11 = c11 ∧ b12 = c12 ∧ b13 = c13 ∧ b14 = c14 ∧ b15 = c15) := by
    apply decide_eq_decide.2
    simp
  rw [e]
  exact h
end Go.Proofs.YtjabeabbaambcaaDoor
