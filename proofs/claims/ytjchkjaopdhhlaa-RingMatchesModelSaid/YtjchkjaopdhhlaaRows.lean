/-
  No cell of these rows narrows 'for every input' (looked for: loops, veiled, ifaces, maps, wideKeys, modest, calm, conditions, laid).
  DERIVED. THE GIVEN ROWS OF THIS SEAT. 12 by the template 'for every input the law returns true; each argument reads behind the call as it read before'; 0 by the template 'total and deterministic' (their statements: YtjchkjaopdhhlaaTotals.lean).
  GIVEN WITH THE SEED: the statements are not yours to turn. If you find one false, say at which input.
  Laid BY PROGRAM, IN A SANDBOX (cutbox-rows.mjs): the forced cells as the released guide's own fill.sh prints them over the translation cd11b90a861074fd… (all of the seat's roots in one cut). By AI agents, Wed Nov 11 2026. No macro, syntax, notation, axiom, sorry.
-/
import Derived.Test.YtjchkjaopdhhlaaChecked
import GoSem.Claim
import GoSem.ClaimJoined
import GoSem.ClaimMapViews
import Derived.JoinedTies
import Derived.KernelRfl
namespace Go.Proofs.Ytjchkjaopdhhlaa
/- THE CELL 'sum', in the pinned program and in every row, IS THE sha256 OF THE DUMP (.gsa) THAT YtjchkjaopdhhlaaProg.lean LOADS. Nothing in Lean hashes anything: it is a label: what it is worth is what the hold of that sum in a sandbox is worth. -/
noncomputable def Try.pinned : Pinned := { name := "ytjchkjaopdhhlaa", sum := "cd11b90a861074fd3e3cee33c1a312e882bca7846e65bb220b85fd064a79ff50", checked := Try.checked }
namespace Rows
def none {H : Type} : Left H := { results := [], args := [] }

/-- 'ginnellaw01.TickSaturates': WHATEVER THE INPUT: true; the input reads as it did. -/
def tickSaturatesSpec : ChangeSpec := { name := "tickSaturates", fn := fun _ => fun
  | [d1, d2] => { results := [.lit (.bool true)], args := [d1, d2] }
  | _ => none }
def tickSaturatesRow : OpenClaim := { program := "ytjchkjaopdhhlaa", sum := "cd11b90a861074fd3e3cee33c1a312e882bca7846e65bb220b85fd064a79ff50", func := "ginnel/ginnellaw01.TickSaturates", spec := "tickSaturates", apart := false }
def TickSaturatesSaid : Prop := tickSaturatesRow.holds Try.pinned (OpenSpec.ofChange tickSaturatesSpec)

/-- ITS FALSE NEIGHBOUR: 'it returns false'. Refute it at one input. -/
def tickSaturatesWrong : ChangeSpec := { name := "tickSaturates", fn := fun _ => fun
  | [d1, d2] => { results := [.lit (.bool false)], args := [d1, d2] }
  | _ => none }
def TickSaturatesWrongFalsely : Prop := tickSaturatesRow.holds Try.pinned (OpenSpec.ofChange tickSaturatesWrong)

/-- 'ginnellaw01.TickMinAndDeadline': WHATEVER THE INPUT: true; the input reads as it did. -/
def tickMinAndDeadlineSpec : ChangeSpec := { name := "tickMinAndDeadline", fn := fun _ => fun
  | [d1, d2, d3] => { results := [.lit (.bool true)], args := [d1, d2, d3] }
  | _ => none }
def tickMinAndDeadlineRow : OpenClaim := { program := "ytjchkjaopdhhlaa", sum := "cd11b90a861074fd3e3cee33c1a312e882bca7846e65bb220b85fd064a79ff50", func := "ginnel/ginnellaw01.TickMinAndDeadline", spec := "tickMinAndDeadline", apart := false }
def TickMinAndDeadlineSaid : Prop := tickMinAndDeadlineRow.holds Try.pinned (OpenSpec.ofChange tickMinAndDeadlineSpec)

/-- ITS FALSE NEIGHBOUR: 'it returns false'. Refute it at one input. -/
def tickMinAndDeadlineWrong : ChangeSpec := { name := "tickMinAndDeadline", fn := fun _ => fun
  | [d1, d2, d3] => { results := [.lit (.bool false)], args := [d1, d2, d3] }
  | _ => none }
def TickMinAndDeadlineWrongFalsely : Prop := tickMinAndDeadlineRow.holds Try.pinned (OpenSpec.ofChange tickMinAndDeadlineWrong)

/-- 'ginnellaw01.TickDeadlineIsClamped': WHATEVER THE INPUT: true; the input reads as it did. -/
def tickDeadlineIsClampedSpec : ChangeSpec := { name := "tickDeadlineIsClamped", fn := fun _ => fun
  | [d1, d2, d3, d4] => { results := [.lit (.bool true)], args := [d1, d2, d3, d4] }
  | _ => none }
def tickDeadlineIsClampedRow : OpenClaim := { program := "ytjchkjaopdhhlaa", sum := "cd11b90a861074fd3e3cee33c1a312e882bca7846e65bb220b85fd064a79ff50", func := "ginnel/ginnellaw01.TickDeadlineIsClamped", spec := "tickDeadlineIsClamped", apart := false }
def TickDeadlineIsClampedSaid : Prop := tickDeadlineIsClampedRow.holds Try.pinned (OpenSpec.ofChange tickDeadlineIsClampedSpec)

/-- ITS FALSE NEIGHBOUR: 'it returns false'. Refute it at one input. -/
def tickDeadlineIsClampedWrong : ChangeSpec := { name := "tickDeadlineIsClamped", fn := fun _ => fun
  | [d1, d2, d3, d4] => { results := [.lit (.bool false)], args := [d1, d2, d3, d4] }
  | _ => none }
def TickDeadlineIsClampedWrongFalsely : Prop := tickDeadlineIsClampedRow.holds Try.pinned (OpenSpec.ofChange tickDeadlineIsClampedWrong)

/-- 'ginnellaw01.TickWindowNumbers': WHATEVER THE INPUT: true; the input reads as it did. -/
def tickWindowNumbersSpec : ChangeSpec := { name := "tickWindowNumbers", fn := fun _ => fun
  | [d1, d2, d3] => { results := [.lit (.bool true)], args := [d1, d2, d3] }
  | _ => none }
def tickWindowNumbersRow : OpenClaim := { program := "ytjchkjaopdhhlaa", sum := "cd11b90a861074fd3e3cee33c1a312e882bca7846e65bb220b85fd064a79ff50", func := "ginnel/ginnellaw01.TickWindowNumbers", spec := "tickWindowNumbers", apart := false }
def TickWindowNumbersSaid : Prop := tickWindowNumbersRow.holds Try.pinned (OpenSpec.ofChange tickWindowNumbersSpec)

/-- ITS FALSE NEIGHBOUR: 'it returns false'. Refute it at one input. -/
def tickWindowNumbersWrong : ChangeSpec := { name := "tickWindowNumbers", fn := fun _ => fun
  | [d1, d2, d3] => { results := [.lit (.bool false)], args := [d1, d2, d3] }
  | _ => none }
def TickWindowNumbersWrongFalsely : Prop := tickWindowNumbersRow.holds Try.pinned (OpenSpec.ofChange tickWindowNumbersWrong)

/-- 'ginnellaw13.BudgetValidatesParameters': WHATEVER THE INPUT: true; the input reads as it did. -/
def budgetValidatesParametersSpec : ChangeSpec := { name := "budgetValidatesParameters", fn := fun _ => fun
  | [d1, d2] => { results := [.lit (.bool true)], args := [d1, d2] }
  | _ => none }
def budgetValidatesParametersRow : OpenClaim := { program := "ytjchkjaopdhhlaa", sum := "cd11b90a861074fd3e3cee33c1a312e882bca7846e65bb220b85fd064a79ff50", func := "ginnel/ginnellaw13.BudgetValidatesParameters", spec := "budgetValidatesParameters", apart := false }
def BudgetValidatesParametersSaid : Prop := budgetValidatesParametersRow.holds Try.pinned (OpenSpec.ofChange budgetValidatesParametersSpec)

/-- ITS FALSE NEIGHBOUR: 'it returns false'. Refute it at one input. -/
def budgetValidatesParametersWrong : ChangeSpec := { name := "budgetValidatesParameters", fn := fun _ => fun
  | [d1, d2] => { results := [.lit (.bool false)], args := [d1, d2] }
  | _ => none }
def BudgetValidatesParametersWrongFalsely : Prop := budgetValidatesParametersRow.holds Try.pinned (OpenSpec.ofChange budgetValidatesParametersWrong)

/-- 'ginnellaw13.BudgetMatchesModel': WHATEVER THE INPUT: true; the input reads as it did. -/
def budgetMatchesModelSpec : ChangeSpec := { name := "budgetMatchesModel", fn := fun _ => fun
  | [d1, d2, d3, d4] => { results := [.lit (.bool true)], args := [d1, d2, d3, d4] }
  | _ => none }
def budgetMatchesModelRow : OpenClaim := { program := "ytjchkjaopdhhlaa", sum := "cd11b90a861074fd3e3cee33c1a312e882bca7846e65bb220b85fd064a79ff50", func := "ginnel/ginnellaw13.BudgetMatchesModel", spec := "budgetMatchesModel", apart := false }
def BudgetMatchesModelSaid : Prop := budgetMatchesModelRow.holds Try.pinned (OpenSpec.ofChange budgetMatchesModelSpec)

/-- ITS FALSE NEIGHBOUR: 'it returns false'. Refute it at one input. -/
def budgetMatchesModelWrong : ChangeSpec := { name := "budgetMatchesModel", fn := fun _ => fun
  | [d1, d2, d3, d4] => { results := [.lit (.bool false)], args := [d1, d2, d3, d4] }
  | _ => none }
def BudgetMatchesModelWrongFalsely : Prop := budgetMatchesModelRow.holds Try.pinned (OpenSpec.ofChange budgetMatchesModelWrong)

/-- 'ginnellaw13.BudgetLimitPerWindow': WHATEVER THE INPUT: true; the input reads as it did. -/
def budgetLimitPerWindowSpec : ChangeSpec := { name := "budgetLimitPerWindow", fn := fun _ => fun
  | [d1, d2, d3] => { results := [.lit (.bool true)], args := [d1, d2, d3] }
  | _ => none }
def budgetLimitPerWindowRow : OpenClaim := { program := "ytjchkjaopdhhlaa", sum := "cd11b90a861074fd3e3cee33c1a312e882bca7846e65bb220b85fd064a79ff50", func := "ginnel/ginnellaw13.BudgetLimitPerWindow", spec := "budgetLimitPerWindow", apart := false }
def BudgetLimitPerWindowSaid : Prop := budgetLimitPerWindowRow.holds Try.pinned (OpenSpec.ofChange budgetLimitPerWindowSpec)

/-- ITS FALSE NEIGHBOUR: 'it returns false'. Refute it at one input. -/
def budgetLimitPerWindowWrong : ChangeSpec := { name := "budgetLimitPerWindow", fn := fun _ => fun
  | [d1, d2, d3] => { results := [.lit (.bool false)], args := [d1, d2, d3] }
  | _ => none }
def BudgetLimitPerWindowWrongFalsely : Prop := budgetLimitPerWindowRow.holds Try.pinned (OpenSpec.ofChange budgetLimitPerWindowWrong)

/-- 'ginnellaw13.BudgetRemainingIsExact': WHATEVER THE INPUT: true; the input reads as it did. -/
def budgetRemainingIsExactSpec : ChangeSpec := { name := "budgetRemainingIsExact", fn := fun _ => fun
  | [d1, d2, d3, d4] => { results := [.lit (.bool true)], args := [d1, d2, d3, d4] }
  | _ => none }
def budgetRemainingIsExactRow : OpenClaim := { program := "ytjchkjaopdhhlaa", sum := "cd11b90a861074fd3e3cee33c1a312e882bca7846e65bb220b85fd064a79ff50", func := "ginnel/ginnellaw13.BudgetRemainingIsExact", spec := "budgetRemainingIsExact", apart := false }
def BudgetRemainingIsExactSaid : Prop := budgetRemainingIsExactRow.holds Try.pinned (OpenSpec.ofChange budgetRemainingIsExactSpec)

/-- ITS FALSE NEIGHBOUR: 'it returns false'. Refute it at one input. -/
def budgetRemainingIsExactWrong : ChangeSpec := { name := "budgetRemainingIsExact", fn := fun _ => fun
  | [d1, d2, d3, d4] => { results := [.lit (.bool false)], args := [d1, d2, d3, d4] }
  | _ => none }
def BudgetRemainingIsExactWrongFalsely : Prop := budgetRemainingIsExactRow.holds Try.pinned (OpenSpec.ofChange budgetRemainingIsExactWrong)

/-- 'ginnellaw05.RingValidatesCapacity': WHATEVER THE INPUT: true; the input reads as it did. -/
def ringValidatesCapacitySpec : ChangeSpec := { name := "ringValidatesCapacity", fn := fun _ => fun
  | [d] => { results := [.lit (.bool true)], args := [d] }
  | _ => none }
def ringValidatesCapacityRow : OpenClaim := { program := "ytjchkjaopdhhlaa", sum := "cd11b90a861074fd3e3cee33c1a312e882bca7846e65bb220b85fd064a79ff50", func := "ginnel/ginnellaw05.RingValidatesCapacity", spec := "ringValidatesCapacity", unfollowed := true, recurses := true, apart := false }
def RingValidatesCapacitySaid : Prop := ringValidatesCapacityRow.holds Try.pinned (OpenSpec.ofChange ringValidatesCapacitySpec)

/-- ITS FALSE NEIGHBOUR: 'it returns false'. Refute it at one input. -/
def ringValidatesCapacityWrong : ChangeSpec := { name := "ringValidatesCapacity", fn := fun _ => fun
  | [d] => { results := [.lit (.bool false)], args := [d] }
  | _ => none }
def RingValidatesCapacityWrongFalsely : Prop := ringValidatesCapacityRow.holds Try.pinned (OpenSpec.ofChange ringValidatesCapacityWrong)

/-- 'ginnellaw05.RingMatchesModel': WHATEVER THE INPUT: true; the input reads as it did. -/
def ringMatchesModelSpec : ChangeSpec := { name := "ringMatchesModel", fn := fun _ => fun
  | [d1, d2] => { results := [.lit (.bool true)], args := [d1, d2] }
  | _ => none }
def ringMatchesModelRow : OpenClaim := { program := "ytjchkjaopdhhlaa", sum := "cd11b90a861074fd3e3cee33c1a312e882bca7846e65bb220b85fd064a79ff50", func := "ginnel/ginnellaw05.RingMatchesModel", spec := "ringMatchesModel", unfollowed := true, recurses := true, apart := false }
def RingMatchesModelSaid : Prop := ringMatchesModelRow.holds Try.pinned (OpenSpec.ofChange ringMatchesModelSpec)

/-- ITS FALSE NEIGHBOUR: 'it returns false'. Refute it at one input. -/
def ringMatchesModelWrong : ChangeSpec := { name := "ringMatchesModel", fn := fun _ => fun
  | [d1, d2] => { results := [.lit (.bool false)], args := [d1, d2] }
  | _ => none }
def RingMatchesModelWrongFalsely : Prop := ringMatchesModelRow.holds Try.pinned (OpenSpec.ofChange ringMatchesModelWrong)

/-- 'ginnellaw05.RingIsFIFO': WHATEVER THE INPUT: true; the input reads as it did. -/
def ringIsFIFOSpec : ChangeSpec := { name := "ringIsFIFO", fn := fun _ => fun
  | [d1, d2, d3, d4] => { results := [.lit (.bool true)], args := [d1, d2, d3, d4] }
  | _ => none }
def ringIsFIFORow : OpenClaim := { program := "ytjchkjaopdhhlaa", sum := "cd11b90a861074fd3e3cee33c1a312e882bca7846e65bb220b85fd064a79ff50", func := "ginnel/ginnellaw05.RingIsFIFO", spec := "ringIsFIFO", unfollowed := true, recurses := true, apart := false }
def RingIsFIFOSaid : Prop := ringIsFIFORow.holds Try.pinned (OpenSpec.ofChange ringIsFIFOSpec)

/-- ITS FALSE NEIGHBOUR: 'it returns false'. Refute it at one input. -/
def ringIsFIFOWrong : ChangeSpec := { name := "ringIsFIFO", fn := fun _ => fun
  | [d1, d2, d3, d4] => { results := [.lit (.bool false)], args := [d1, d2, d3, d4] }
  | _ => none }
def RingIsFIFOWrongFalsely : Prop := ringIsFIFORow.holds Try.pinned (OpenSpec.ofChange ringIsFIFOWrong)

/-- 'ginnellaw05.RingDoesNotAlias': WHATEVER THE INPUT: true; the input reads as it did. -/
def ringDoesNotAliasSpec : ChangeSpec := { name := "ringDoesNotAlias", fn := fun _ => fun
  | [d1, d2] => { results := [.lit (.bool true)], args := [d1, d2] }
  | _ => none }
def ringDoesNotAliasRow : OpenClaim := { program := "ytjchkjaopdhhlaa", sum := "cd11b90a861074fd3e3cee33c1a312e882bca7846e65bb220b85fd064a79ff50", func := "ginnel/ginnellaw05.RingDoesNotAlias", spec := "ringDoesNotAlias", unfollowed := true, recurses := true, apart := false }
def RingDoesNotAliasSaid : Prop := ringDoesNotAliasRow.holds Try.pinned (OpenSpec.ofChange ringDoesNotAliasSpec)

/-- ITS FALSE NEIGHBOUR: 'it returns false'. Refute it at one input. -/
def ringDoesNotAliasWrong : ChangeSpec := { name := "ringDoesNotAlias", fn := fun _ => fun
  | [d1, d2] => { results := [.lit (.bool false)], args := [d1, d2] }
  | _ => none }
def RingDoesNotAliasWrongFalsely : Prop := ringDoesNotAliasRow.holds Try.pinned (OpenSpec.ofChange ringDoesNotAliasWrong)

/- THE SECOND FORM. 'bulk': how many values and letters a reading holds, each counted each time it is reached (what is shared counts as often as it is met; a slice's spare places count too). A statement '..UptoSaid' is the law's where the arguments, and the package variables that the reading takes, are together of bulk at most 1048576: NARROWER than '..Said'. Prove '..Said' where nothing that the law and all that it calls make is longer than what came in: it says more and counts as full. Else prove '..UptoSaid'. A law counts once. -/
mutual
def uptoBulk {H : Type} : DataW H → Nat
  | .lit (.string bytes) => bytes.length + 1
  | .lit _ => 1
  | .nil => 1
  | .ptr d => uptoBulk d + 1
  | .slice elems spare => uptoBulkAll elems + uptoBulkAll spare + 1
  | .agg parts => uptoBulkAll parts + 1
  | .iface _ d => uptoBulk d + 1
  | .map entries => uptoBulkEntries entries + 1
  | .held _ => 1
def uptoBulkAll {H : Type} : List (DataW H) → Nat
  | [] => 0
  | d :: r => uptoBulk d + uptoBulkAll r
def uptoBulkEntries {H : Type} : List (Lit × DataW H) → Nat
  | [] => 0
  | x :: r => uptoBulkEntry x + uptoBulkEntries r
def uptoBulkEntry {H : Type} : Lit × DataW H → Nat
  | (.string bytes, d) => bytes.length + uptoBulk d + 1
  | (_, d) => uptoBulk d + 1
 end
def uptoSmall : (H : Type) → List (DataW H) → Bool := fun _ ds => decide (uptoBulkAll ds ≤ 1048576)
def OpenSpec.upto (s : _root_.Go.ChangeSpec) : _root_.Go.OpenSpec := { _root_.Go.OpenSpec.ofChange s with cond := some uptoSmall }

/-- 'ginnellaw01.TickSaturates', WHERE WHAT IT READS IS OF BULK AT MOST 1048576: true; the input reads as it did. -/
def tickSaturatesUptoRow : OpenClaim := { program := "ytjchkjaopdhhlaa", sum := "cd11b90a861074fd3e3cee33c1a312e882bca7846e65bb220b85fd064a79ff50", func := "ginnel/ginnellaw01.TickSaturates", spec := "tickSaturates", apart := false, narrowed := true }
def TickSaturatesUptoSaid : Prop := tickSaturatesUptoRow.holds Try.pinned (OpenSpec.upto tickSaturatesSpec)

/-- 'ginnellaw01.TickMinAndDeadline', WHERE WHAT IT READS IS OF BULK AT MOST 1048576: true; the input reads as it did. -/
def tickMinAndDeadlineUptoRow : OpenClaim := { program := "ytjchkjaopdhhlaa", sum := "cd11b90a861074fd3e3cee33c1a312e882bca7846e65bb220b85fd064a79ff50", func := "ginnel/ginnellaw01.TickMinAndDeadline", spec := "tickMinAndDeadline", apart := false, narrowed := true }
def TickMinAndDeadlineUptoSaid : Prop := tickMinAndDeadlineUptoRow.holds Try.pinned (OpenSpec.upto tickMinAndDeadlineSpec)

/-- 'ginnellaw01.TickDeadlineIsClamped', WHERE WHAT IT READS IS OF BULK AT MOST 1048576: true; the input reads as it did. -/
def tickDeadlineIsClampedUptoRow : OpenClaim := { program := "ytjchkjaopdhhlaa", sum := "cd11b90a861074fd3e3cee33c1a312e882bca7846e65bb220b85fd064a79ff50", func := "ginnel/ginnellaw01.TickDeadlineIsClamped", spec := "tickDeadlineIsClamped", apart := false, narrowed := true }
def TickDeadlineIsClampedUptoSaid : Prop := tickDeadlineIsClampedUptoRow.holds Try.pinned (OpenSpec.upto tickDeadlineIsClampedSpec)

/-- 'ginnellaw01.TickWindowNumbers', WHERE WHAT IT READS IS OF BULK AT MOST 1048576: true; the input reads as it did. -/
def tickWindowNumbersUptoRow : OpenClaim := { program := "ytjchkjaopdhhlaa", sum := "cd11b90a861074fd3e3cee33c1a312e882bca7846e65bb220b85fd064a79ff50", func := "ginnel/ginnellaw01.TickWindowNumbers", spec := "tickWindowNumbers", apart := false, narrowed := true }
def TickWindowNumbersUptoSaid : Prop := tickWindowNumbersUptoRow.holds Try.pinned (OpenSpec.upto tickWindowNumbersSpec)

/-- 'ginnellaw13.BudgetValidatesParameters', WHERE WHAT IT READS IS OF BULK AT MOST 1048576: true; the input reads as it did. -/
def budgetValidatesParametersUptoRow : OpenClaim := { program := "ytjchkjaopdhhlaa", sum := "cd11b90a861074fd3e3cee33c1a312e882bca7846e65bb220b85fd064a79ff50", func := "ginnel/ginnellaw13.BudgetValidatesParameters", spec := "budgetValidatesParameters", apart := false, narrowed := true }
def BudgetValidatesParametersUptoSaid : Prop := budgetValidatesParametersUptoRow.holds Try.pinned (OpenSpec.upto budgetValidatesParametersSpec)

/-- 'ginnellaw13.BudgetMatchesModel', WHERE WHAT IT READS IS OF BULK AT MOST 1048576: true; the input reads as it did. -/
def budgetMatchesModelUptoRow : OpenClaim := { program := "ytjchkjaopdhhlaa", sum := "cd11b90a861074fd3e3cee33c1a312e882bca7846e65bb220b85fd064a79ff50", func := "ginnel/ginnellaw13.BudgetMatchesModel", spec := "budgetMatchesModel", apart := false, narrowed := true }
def BudgetMatchesModelUptoSaid : Prop := budgetMatchesModelUptoRow.holds Try.pinned (OpenSpec.upto budgetMatchesModelSpec)

/-- 'ginnellaw13.BudgetLimitPerWindow', WHERE WHAT IT READS IS OF BULK AT MOST 1048576: true; the input reads as it did. -/
def budgetLimitPerWindowUptoRow : OpenClaim := { program := "ytjchkjaopdhhlaa", sum := "cd11b90a861074fd3e3cee33c1a312e882bca7846e65bb220b85fd064a79ff50", func := "ginnel/ginnellaw13.BudgetLimitPerWindow", spec := "budgetLimitPerWindow", apart := false, narrowed := true }
def BudgetLimitPerWindowUptoSaid : Prop := budgetLimitPerWindowUptoRow.holds Try.pinned (OpenSpec.upto budgetLimitPerWindowSpec)

/-- 'ginnellaw13.BudgetRemainingIsExact', WHERE WHAT IT READS IS OF BULK AT MOST 1048576: true; the input reads as it did. -/
def budgetRemainingIsExactUptoRow : OpenClaim := { program := "ytjchkjaopdhhlaa", sum := "cd11b90a861074fd3e3cee33c1a312e882bca7846e65bb220b85fd064a79ff50", func := "ginnel/ginnellaw13.BudgetRemainingIsExact", spec := "budgetRemainingIsExact", apart := false, narrowed := true }
def BudgetRemainingIsExactUptoSaid : Prop := budgetRemainingIsExactUptoRow.holds Try.pinned (OpenSpec.upto budgetRemainingIsExactSpec)

/-- 'ginnellaw05.RingValidatesCapacity', WHERE WHAT IT READS IS OF BULK AT MOST 1048576: true; the input reads as it did. -/
def ringValidatesCapacityUptoRow : OpenClaim := { program := "ytjchkjaopdhhlaa", sum := "cd11b90a861074fd3e3cee33c1a312e882bca7846e65bb220b85fd064a79ff50", func := "ginnel/ginnellaw05.RingValidatesCapacity", spec := "ringValidatesCapacity", unfollowed := true, recurses := true, apart := false, narrowed := true }
def RingValidatesCapacityUptoSaid : Prop := ringValidatesCapacityUptoRow.holds Try.pinned (OpenSpec.upto ringValidatesCapacitySpec)

/-- 'ginnellaw05.RingMatchesModel', WHERE WHAT IT READS IS OF BULK AT MOST 1048576: true; the input reads as it did. -/
def ringMatchesModelUptoRow : OpenClaim := { program := "ytjchkjaopdhhlaa", sum := "cd11b90a861074fd3e3cee33c1a312e882bca7846e65bb220b85fd064a79ff50", func := "ginnel/ginnellaw05.RingMatchesModel", spec := "ringMatchesModel", unfollowed := true, recurses := true, apart := false, narrowed := true }
def RingMatchesModelUptoSaid : Prop := ringMatchesModelUptoRow.holds Try.pinned (OpenSpec.upto ringMatchesModelSpec)

/-- 'ginnellaw05.RingIsFIFO', WHERE WHAT IT READS IS OF BULK AT MOST 1048576: true; the input reads as it did. -/
def ringIsFIFOUptoRow : OpenClaim := { program := "ytjchkjaopdhhlaa", sum := "cd11b90a861074fd3e3cee33c1a312e882bca7846e65bb220b85fd064a79ff50", func := "ginnel/ginnellaw05.RingIsFIFO", spec := "ringIsFIFO", unfollowed := true, recurses := true, apart := false, narrowed := true }
def RingIsFIFOUptoSaid : Prop := ringIsFIFOUptoRow.holds Try.pinned (OpenSpec.upto ringIsFIFOSpec)

/-- 'ginnellaw05.RingDoesNotAlias', WHERE WHAT IT READS IS OF BULK AT MOST 1048576: true; the input reads as it did. -/
def ringDoesNotAliasUptoRow : OpenClaim := { program := "ytjchkjaopdhhlaa", sum := "cd11b90a861074fd3e3cee33c1a312e882bca7846e65bb220b85fd064a79ff50", func := "ginnel/ginnellaw05.RingDoesNotAlias", spec := "ringDoesNotAlias", unfollowed := true, recurses := true, apart := false, narrowed := true }
def RingDoesNotAliasUptoSaid : Prop := ringDoesNotAliasUptoRow.holds Try.pinned (OpenSpec.upto ringDoesNotAliasSpec)

end Rows
end Go.Proofs.Ytjchkjaopdhhlaa
