/- A region that draws its order, whose operations read old memory and whose calls only make memory: one walk, at the class of worlds that still hold what the first one held. -/
import Derived.Test.YtjabeabbaambcaaDoorNums
import Derived.Test.YtjabeabbaambcaaDoorStages
import Derived.BigQuiet
import Derived.Deep.MidRow
namespace Go.Proofs.YtjabeabbaambcaaDoor
open Go.RowKit

section
variable {P : Program} {ops : Array Oper} {C : World → Prop} {Q : Act → Prop} {a : Act} {o : Oper} {rest : List Oper}
theorem wpQuiet_row (hw : Region.wanted o (yielded ops a.tmps) = true) (ty : TypeId) (x : Operand) (ho : o.op = .load ty x) (g off : Nat) (hx : a.eval x = .pointer (some ⟨g, off, none⟩)) (cs : List Value) (d : TypeDesc) (hc : ∀ w, C w → w.rangeAt g off cs)
    (hu : P.underlying ty = some d) (hd : d.isRow = true) (hi : (P.info? ty).map (·.size) = some cs.length) (h : wpQuiet P ops C Q rest (a.put o.dst (.agg cs.toArray))) : wpQuiet P ops C Q (o :: rest) a :=
  BigFrame.wpQuiet_want hw fun K hK => ⟨_, fun w hC => by
    unfold Oper.quietAt execOp
    simp only [ho, hx, Instr.loadAt, Instr.sureAddr, Sem.run_bind, Sem.run_pure, Result.andThen_ok, run_loadVar_mid w g off ty cs d (hc w hC) hu hd hi]
    exact ⟨rfl, rfl⟩, hK _ h⟩
/-- The worlds that hold what a first one held. -/
def After (w : World) : Type := { u : World // Ch [] w u }
def After.w {w : World} (x : After w) : World := x.val
instance (w : World) : Nonempty (After w) := ⟨⟨w, Ch.refl _ _⟩⟩
theorem After.ch {w : World} (x : After w) : Ch [] w x.w := x.property
theorem wp_region_quietA {id : Nat} {Q : Exit → Act → World → Prop} {a : Act} {w : World} {l : List Oper} (w0 : World) (hm : P.follows .mixedOrders = true) (hB : Region.lexB .any l.toArray = true) (hC : Ch [] w0 w)
    (h : wpQuiet P l.toArray (fun w' => ∃ x : After w0, w' = x.w) (fun a' => ∀ w', Ch [] w0 w' → Q .normal a' w') l a) : (Code.region id l.toArray true).wp P Q a w :=
  wp_region_quiet (C := fun w' => ∃ x : After w0, w' = x.w) hm hB ⟨⟨_, hC.drew⟩, rfl⟩ (by
    rw [List.toList_toArray]
    exact wpQuiet_mono (fun a' hh w' ⟨x, hx⟩ => by subst hx; exact hh _ x.ch) _ _ h)
theorem wpQuiet_rowA {w0 : World} (hw : Region.wanted o (yielded ops a.tmps) = true) (ty : TypeId) (x : Operand) (ho : o.op = .load ty x) (g off : Nat) (hx : a.eval x = .pointer (some ⟨g, off, none⟩)) (cs : List Value) (d : TypeDesc) (hc : ∀ w, Ch [] w0 w → w.rangeAt g off cs)
    (hu : P.underlying ty = some d) (hd : d.isRow = true) (hi : (P.info? ty).map (·.size) = some cs.length) (h : wpQuiet P ops (fun w' => ∃ x : After w0, w' = x.w) Q rest (a.put o.dst (.agg cs.toArray))) : wpQuiet P ops (fun w' => ∃ x : After w0, w' = x.w) Q (o :: rest) a :=
  wpQuiet_row hw ty x ho g off hx cs d (fun w ⟨y, hy⟩ => by subst hy; exact hc _ y.ch) hu hd hi h
theorem quiet_rowA {w0 : World} {K : Act → Prop} (ty : TypeId) (x : Operand) (ho : o.op = .load ty x) (g off : Nat) (hx : a.eval x = .pointer (some ⟨g, off, none⟩)) (cs : List Value) (d : TypeDesc) (hc : ∀ w, Ch [] w0 w → w.rangeAt g off cs)
    (hu : P.underlying ty = some d) (hd : d.isRow = true) (hi : (P.info? ty).map (·.size) = some cs.length) (h : K (a.put o.dst (.agg cs.toArray))) : o.quiet P a (fun w' => ∃ x : After w0, w' = x.w) K :=
  ⟨_, fun w ⟨y, hy⟩ => by
    subst hy
    unfold Oper.quietAt execOp
    simp only [ho, hx, Instr.loadAt, Instr.sureAddr, Sem.run_bind, Sem.run_pure, Result.andThen_ok, run_loadVar_mid _ g off ty cs d (hc _ y.ch) hu hd hi]
    exact ⟨rfl, rfl⟩, h⟩
theorem after_of {w0 : World} {x : After w0} {f : FuncId} {args : Array Value} {v : Value} (h : Calls P f args x.w fun e w' => e = .returned v ∧ Ch [] x.w w') : Calls P f args x.w fun e w' => e = .returned v ∧ ∃ y : After w0, w' = y.w :=
  h.mono fun _ w' ⟨he, hc⟩ => ⟨he, ⟨w', x.ch.trans hc⟩, rfl⟩
end
end Go.Proofs.YtjabeabbaambcaaDoor
