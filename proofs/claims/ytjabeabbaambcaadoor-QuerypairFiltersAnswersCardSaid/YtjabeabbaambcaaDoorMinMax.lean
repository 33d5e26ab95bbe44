/- The builtins min and max of two integers, given the number that comes out. -/
import Derived.Test.YtjabeabbaambcaaDoorBase
import Derived.Test.YtjabeabbaambcaaDoorStages
namespace Go.Proofs.YtjabeabbaambcaaDoor
open Go.RowKit

section
variable {P : Program} {w : World} {ops : Array Oper} {rest : List Oper} {o : Oper} {a : Act} {Q : Exit → Act → World → Prop}
theorem wpList_min (hgd : o.guard = none) (x y : Operand) (ts : Array TypeId) (ho : o.op = .call { callee := .builtin .min, args := #[x, y], argTypes := ts })
    (k k' : IntKind) (p q r : Int) (hx : a.eval x = .int k p) (hy : a.eval y = .int k' q) (hr : min p q = r) (h : wpList P ops Q rest (a.put o.dst (.int k r)) w) : wpList P ops Q (o :: rest) a w :=
  wpList_plain hgd fun K hK => by
    have e : (if q < p then q else p) = r := by rw [← hr]; by_cases h1 : q < p <;> simp [h1, Int.min_def] <;> omega
    unfold Oper.wp execOp
    simp only [ho, resolve, invoke, builtin, Sem.run_bind, Sem.run_pure, Result.andThen_ok, List.map_toArray, List.map_cons, List.map_nil, hx, hy, run_min_int2, e]
    exact hK _ _ h
theorem wpList_max (hgd : o.guard = none) (x y : Operand) (ts : Array TypeId) (ho : o.op = .call { callee := .builtin .max, args := #[x, y], argTypes := ts })
    (k k' : IntKind) (p q r : Int) (hx : a.eval x = .int k p) (hy : a.eval y = .int k' q) (hr : max p q = r) (h : wpList P ops Q rest (a.put o.dst (.int k r)) w) : wpList P ops Q (o :: rest) a w :=
  wpList_plain hgd fun K hK => by
    have e : (if q > p then q else p) = r := by rw [← hr]; by_cases h1 : q > p <;> simp [h1, Int.max_def] <;> omega
    unfold Oper.wp execOp
    simp only [ho, resolve, invoke, builtin, Sem.run_bind, Sem.run_pure, Result.andThen_ok, List.map_toArray, List.map_cons, List.map_nil, hx, hy, run_max_int2, e]
    exact hK _ _ h
end
end Go.Proofs.YtjabeabbaambcaaDoor
