/- Six arguments. -/
import Derived.Test.YtiffpjlmgeklkaaDoorShell
namespace Go.Proofs.YtiffpjlmgeklkaaDoor
open Go.ChangeShapes Go.WideShapes Go.ChangeAt Go.RowKit

theorem arr6 {a : Array Value} {v0 v1 v2 v3 v4 v5 : Value} (h : a.size = 6) (h0 : a[0]? = some v0) (h1 : a[1]? = some v1) (h2 : a[2]? = some v2) (h3 : a[3]? = some v3) (h4 : a[4]? = some v4) (h5 : a[5]? = some v5) : a = #[v0, v1, v2, v3, v4, v5] := by
  apply Array.ext'; rcases a with ⟨_ | ⟨x, _ | ⟨y, _ | ⟨z, _ | ⟨u, _ | ⟨q, _ | ⟨r, _ | ⟨s, l⟩⟩⟩⟩⟩⟩⟩⟩ <;> simp_all
theorem Came.args6 {H : Type} {enc : TypeId × Value → H} {P : Program} {fn : Func} {W : World} {args : Array Value} {ds : List (DataW H)} {t0 t1 t2 t3 t4 t5 : TypeId} (hp : fn.params = #[t0, t1, t2, t3, t4, t5]) (h : Came enc P fn W args ds) :
    ∃ v0 v1 v2 v3 v4 v5 d0 d1 d2 d3 d4 d5, args = #[v0, v1, v2, v3, v4, v5] ∧ Arg enc P W t0 v0 d0 ∧ Arg enc P W t1 v1 d1 ∧ Arg enc P W t2 v2 d2 ∧ Arg enc P W t3 v3 d3 ∧ Arg enc P W t4 v4 d4 ∧ Arg enc P W t5 v5 d5 := by
  obtain ⟨l1, l2, l3⟩ := h.args
  rw [hp] at l1 l3
  obtain ⟨v0, d0, h0, _, a0⟩ := l3 0 t0 rfl
  obtain ⟨v1, d1, h1, _, a1⟩ := l3 1 t1 rfl
  obtain ⟨v2, d2, h2, _, a2⟩ := l3 2 t2 rfl
  obtain ⟨v3, d3, h3, _, a3⟩ := l3 3 t3 rfl
  obtain ⟨v4, d4, h4, _, a4⟩ := l3 4 t4 rfl
  obtain ⟨v5, d5, h5, _, a5⟩ := l3 5 t5 rfl
  exact ⟨v0, v1, v2, v3, v4, v5, d0, d1, d2, d3, d4, d5, arr6 l1 h0 h1 h2 h3 h4 h5, a0, a1, a2, a3, a4, a5⟩
end Go.Proofs.YtiffpjlmgeklkaaDoor
