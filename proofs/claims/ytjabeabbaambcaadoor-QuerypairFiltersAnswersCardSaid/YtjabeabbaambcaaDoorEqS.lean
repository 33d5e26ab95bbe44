/- Prefixes and policy rows compared. -/
import Derived.Test.YtjabeabbaambcaaDoorPfxI
import Derived.Test.YtjabeabbaambcaaDoorPre6
import Derived.Test.YtjabeabbaambcaaDoorAddrEq
namespace Go.Proofs.YtjabeabbaambcaaDoor
open Go.RowKit

set_option maxRecDepth 100000 in
set_option maxHeartbeats 4000000 in
theorem pfx_eq0 (six six' : Bool) (b0 b1 b2 b3 b4 b5 b6 b7 b8 b9 b10 b11 b12 b13 b14 b15 x0 c0 c1 c2 c3 c4 c5 c6 c7 c8 c9 c10 c11 c12 c13 c14 c15 y0 : Int) (w : World) :
    (Op.equalIn 10000 49 (.agg #[.bool six, .int .u8 b0, .int .u8 b1, .int .u8 b2, .int .u8 b3, .int .u8 b4, .int .u8 b5, .int .u8 b6, .int .u8 b7, .int .u8 b8, .int .u8 b9, .int .u8 b10, .int .u8 b11, .int .u8 b12, .int .u8 b13, .int .u8 b14, .int .u8 b15, .int .i64 x0]) (.agg #[.bool six', .int .u8 c0, .int .u8 c1, .int .u8 c2, .int .u8 c3, .int .u8 c4, .int .u8 c5, .int .u8 c6, .int .u8 c7, .int .u8 c8, .int .u8 c9, .int .u8 c10, .int .u8 c11, .int .u8 c12, .int .u8 c13, .int .u8 c14, .int .u8 c15, .int .i64 y0])).run Tryd.prog w = .ok (six == six' && decide (b0 = c0 ∧ b1 = c1 ∧ b2 = c2 ∧ b3 = c3 ∧ b4 = c4 ∧ b5 = c5 ∧ b6 = c6 ∧ b7 = c7 ∧ b8 = c8 ∧ b9 = c9 ∧ b10 = c10 ∧ b11 = c11 ∧ b12 = c12 ∧ b13 = c13 ∧ b14 = c14 ∧ b15 = c15 ∧ x0 = y0)) w := by
  go_simp
  obtain ⟨i, hi, hc⟩ : ∃ i, Tryd.prog.info? 5 = some i ∧ Tryd.prog.cellsOf 5 = 1 := ⟨_, rfl, by kernel_rfl⟩
  rw [run_equalIn_array _ _ _ _ Tryd.underlying27 hi, hc]
  simp only [show List.range 16 = [0, 1, 2, 3, 4, 5, 6, 7, 8, 9, 10, 11, 12, 13, 14, 15] from rfl, Op.eqItems]
  go_simp
  have h (p : Prop) [Decidable p] (x : Bool) : (if p then Result.ok x w else Result.ok false w : Result Bool) = Result.ok (decide p && x) w := by
    by_cases hp : p <;> simp [hp]
  simp only [h, Bool.and_true]
  rfl
set_option maxRecDepth 100000 in
set_option maxHeartbeats 4000000 in
theorem row_eq0 (six six' : Bool) (b0 b1 b2 b3 b4 b5 b6 b7 b8 b9 b10 b11 b12 b13 b14 b15 x0 x1 x2 c0 c1 c2 c3 c4 c5 c6 c7 c8 c9 c10 c11 c12 c13 c14 c15 y0 y1 y2 : Int) (w : World) :
    (Op.equalIn 10000 75 (.agg #[.bool six, .int .u8 b0, .int .u8 b1, .int .u8 b2, .int .u8 b3, .int .u8 b4, .int .u8 b5, .int .u8 b6, .int .u8 b7, .int .u8 b8, .int .u8 b9, .int .u8 b10, .int .u8 b11, .int .u8 b12, .int .u8 b13, .int .u8 b14, .int .u8 b15, .int .i64 x0, .int .i64 x1, .int .i64 x2]) (.agg #[.bool six', .int .u8 c0, .int .u8 c1, .int .u8 c2, .int .u8 c3, .int .u8 c4, .int .u8 c5, .int .u8 c6, .int .u8 c7, .int .u8 c8, .int .u8 c9, .int .u8 c10, .int .u8 c11, .int .u8 c12, .int .u8 c13, .int .u8 c14, .int .u8 c15, .int .i64 y0, .int .i64 y1, .int .i64 y2])).run Tryd.prog w = .ok (six == six' && decide (b0 = c0 ∧ b1 = c1 ∧ b2 = c2 ∧ b3 = c3 ∧ b4 = c4 ∧ b5 = c5 ∧ b6 = c6 ∧ b7 = c7 ∧ b8 = c8 ∧ b9 = c9 ∧ b10 = c10 ∧ b11 = c11 ∧ b12 = c12 ∧ b13 = c13 ∧ b14 = c14 ∧ b15 = c15 ∧ x0 = y0 ∧ x1 = y1 ∧ x2 = y2)) w := by
  go_simp
  obtain ⟨i, hi, hc⟩ : ∃ i, Tryd.prog.info? 5 = some i ∧ Tryd.prog.cellsOf 5 = 1 := ⟨_, rfl, by kernel_rfl⟩
  rw [run_equalIn_array _ _ _ _ Tryd.underlying27 hi, hc]
  simp only [show List.range 16 = [0, 1, 2, 3, 4, 5, 6, 7, 8, 9, 10, 11, 12, 13, 14, 15] from rfl, Op.eqItems]
  go_simp
  have h (p : Prop) [Decidable p] (x : Bool) : (if p then Result.ok x w else Result.ok false w : Result Bool) = Result.ok (decide p && x) w := by
    by_cases hp : p <;> simp [hp]
  simp only [h, Bool.and_true]
  rfl
theorem pfx_eqD (p q : Pfx) (hp : p.2.1.length = 16) (hq : q.2.1.length = 16) (w : World) : (Op.equalIn 10000 49 (.agg (pfxC p).toArray) (.agg (pfxC q).toArray)).run Tryd.prog w = .ok (decide (p = q)) w := by
  obtain ⟨s, b, n⟩ := p
  obtain ⟨s', c, m⟩ := q
  obtain ⟨b0, b1, b2, b3, b4, b5, b6, b7, b8, b9, b10, b11, b12, b13, b14, b15, rfl⟩ := len16 hp
  obtain ⟨c0, c1, c2, c3, c4, c5, c6, c7, c8, c9, c10, c11, c12, c13, c14, c15, rfl⟩ := len16 hq
  have h := pfx_eq0 s s' b0 b1 b2 b3 b4 b5 b6 b7 b8 b9 b10 b11 b12 b13 b14 b15 n c0 c1 c2 c3 c4 c5 c6 c7 c8 c9 c10 c11 c12 c13 c14 c15 m w
  have e : decide ((s, [b0, b1, b2, b3, b4, b5, b6, b7, b8, b9, b10, b11, b12, b13, b14, b15], n) = (s', [c0, c1, c2, c3, c4, c5, c6, c7, c8, c9, c10, c11, c12, c13, c14, c15], m)) = (s == s' && decide (b0 = c0 ∧ b1 = c1 ∧ b2 = c2 ∧ b3 = c3 ∧ b4 = c4 ∧ b5 = c5 ∧ b6 = c6 ∧ b7 = c7 ∧ b8 = c8 ∧ b9 = c9 ∧ b10 = c10 ∧ b11 = c11 ∧ b12 = c12 ∧ b13 = c13 ∧ b14 = c14 ∧ b15 = c15 ∧ n = m)) := by
    rw [Bool.eq_iff_iff]
    simp only [decide_eq_true_eq, Prod.mk.injEq, List.cons.injEq, and_true, Bool.and_eq_true, beq_iff_eq, and_assoc]
  rw [e]
  exact h
theorem adr_same (a : Bool × List Int) (h : a.2.length = 16) (w : World) : (Op.equalIn 10000 29 (.agg (addrC a.1 a.2).toArray) (.agg (addrC a.1 a.2).toArray)).run Tryd.prog w = .ok true w := by
  rw [addr_eq a.1 a.1 a.2 a.2 h h]; simp
theorem pfx_same (p : Pfx) (h : p.2.1.length = 16) (w : World) : (Op.equalIn 10000 49 (.agg (pfxC p).toArray) (.agg (pfxC p).toArray)).run Tryd.prog w = .ok true w := by
  rw [pfx_eqD p p h h]; simp
theorem row_same (r : Pfx × Int × Int) (h : r.1.2.1.length = 16) (w : World) : (Op.equalIn 10000 75 (.agg (rowC r).toArray) (.agg (rowC r).toArray)).run Tryd.prog w = .ok true w := by
  obtain ⟨⟨s, b, n⟩, m, k⟩ := r
  obtain ⟨b0, b1, b2, b3, b4, b5, b6, b7, b8, b9, b10, b11, b12, b13, b14, b15, rfl⟩ := len16 h
  have h := row_eq0 s s b0 b1 b2 b3 b4 b5 b6 b7 b8 b9 b10 b11 b12 b13 b14 b15 n m k b0 b1 b2 b3 b4 b5 b6 b7 b8 b9 b10 b11 b12 b13 b14 b15 n m k w
  simp only [beq_self_eq_true, and_self, decide_true, Bool.and_self] at h
  exact h
end Go.Proofs.YtjabeabbaambcaaDoor
