/- The walk of PipeMatchesModel. -/
import Derived.Test.YthdjnidaahhjbaaLawPipe2
namespace Go.Proofs.Ythdjnidaahhjbaa
open Go.ChangeShapes Go.WideShapes Go.ChangeAt Go.RowKit

theorem pipeOp_four : Try.prog.cellsOf 49 = 4 := by kernel_rfl
theorem pipeOp_cells {H : Type} {enc : TypeId × Value → H} {W : World} {c : List Value} (h : Cl enc Try.prog W 49 c) :
    ∃ kd s n k, c = [.int .i64 kd, .string s, .int .u64 n, .int .i64 k] ∧ s.size ≤ 140737488351232 ∧ (0 ≤ n ∧ n ≤ 18446744073709551615) ∧ (-9223372036854775808 ≤ k ∧ k ≤ 9223372036854775807) := by
  have e1 : Try.prog.cellsOf 3 = 1 := by kernel_rfl
  have e2 : Try.prog.cellsOf 33 = 1 := by kernel_rfl
  have hl := (h.struct Try.underlying49).1
  rw [pipeOp_four] at hl
  have h0 := h.field Try.underlying49 0 3 0 1 rfl e1
  have h1 := h.field Try.underlying49 1 9 1 1 rfl str_cells
  have h2 := h.field Try.underlying49 2 33 2 1 rfl e2
  have h3 := h.field Try.underlying49 3 3 3 1 rfl e1
  obtain ⟨kd, k0, _⟩ := h0.i64 Try.underlying3
  obtain ⟨s, s0, s1⟩ := h1.string Try.underlying9
  obtain ⟨n, n0, n1⟩ := h2.u64 Try.underlying33
  obtain ⟨k, q0, q1⟩ := h3.i64 Try.underlying3
  refine ⟨kd, s, n, k, ?_, s1, n1, q1⟩
  match c, hl with
  | [x, y, z, u], _ => simp at k0 s0 n0 q0; rw [k0, s0, n0, q0]

section
variable (w : World) (p c : Nat) (D : ByteArray) (cr : Int) (cl dr : Bool) (h : refAt w p c D cr cl dr)
include h
theorem refWriteAs (s : ByteArray) (hs : s.size ≤ 140737488351232) (hcl : cl = false) (n : Nat) (hn : min s.size (c - D.size) = n) :
    Calls Try.prog 22 #[.pointer (some ⟨p, 0, none⟩), .string s] w fun e w' => e = .returned (.int .i64 n) ∧ refAt w' p c (D ++ s.extract 0 n) cr false dr ∧ Ch [p] w w' :=
  refWriteM w p c D cr cl dr h s hs hcl n (by omega)
theorem refReadAs (n : Nat) (hn : min cr.toNat D.size = n) (e : Bool) (he : (cl && decide (D.size ≤ n) && !dr) = e) :
    Calls Try.prog 24 #[.pointer (some ⟨p, 0, none⟩)] w fun r w' => r = .returned (.tuple #[.string (D.extract 0 n), .bool e]) ∧ refAt w' p c (D.extract n D.size) (cr - n) cl (dr || e) ∧ Ch [p] w w' := by
  subst he
  have hlo := h.lo
  refine refReadM w p c D cr cl dr h n (by omega) _ ?_
  by_cases e : D.size ≤ n
  · exact .inl ⟨e, by simpa using e⟩
  · exact .inr ⟨by omega, by simpa using e⟩
end
end Go.Proofs.Ythdjnidaahhjbaa
