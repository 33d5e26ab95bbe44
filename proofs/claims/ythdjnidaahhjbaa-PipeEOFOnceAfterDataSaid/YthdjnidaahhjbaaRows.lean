/-
  No cell of these rows narrows 'for every input' (looked for: loops, veiled, ifaces, maps, wideKeys, modest, calm, conditions, laid).
  DERIVED. THE GIVEN ROWS OF THIS SEAT. 6 by the template 'for every input the law returns true; each argument reads behind the call as it read before'; 0 by the template 'total and deterministic' (their statements: YthdjnidaahhjbaaTotals.lean).
  GIVEN WITH THE SEED: the statements are not yours to turn. If you find one false, say at which input.
  Laid BY PROGRAM, IN A SANDBOX (cutbox-rows.mjs): the forced cells as the released guide's own fill.sh prints them over the translation f98ba902c7ef1f37… (all of the seat's roots in one cut). By AI agents, Wed Nov 11 2026. No macro, syntax, notation, axiom, sorry.
-/
import Derived.Test.YthdjnidaahhjbaaChecked
import GoSem.Claim
import GoSem.ClaimJoined
import GoSem.ClaimMapViews
import Derived.JoinedTies
import Derived.KernelRfl
namespace Go.Proofs.Ythdjnidaahhjbaa
/- THE CELL 'sum', in the pinned program and in every row, IS THE sha256 OF THE DUMP (.gsa) THAT YthdjnidaahhjbaaProg.lean LOADS. Nothing in Lean hashes anything: it is a label: what it is worth is what the hold of that sum in a sandbox is worth. -/
noncomputable def Try.pinned : Pinned := { name := "ythdjnidaahhjbaa", sum := "f98ba902c7ef1f37d7b5438a5b8d905548149de7fc732e7414bc57a80f8002ee", checked := Try.checked }
namespace Rows
def none {H : Type} : Left H := { results := [], args := [] }

/-- 'ginnellaw30.PipeEOFOnceAfterData': WHATEVER THE INPUT: true; the input reads as it did. -/
def pipeEOFOnceAfterDataSpec : ChangeSpec := { name := "pipeEOFOnceAfterData", fn := fun _ => fun
  | [d1, d2, d3] => { results := [.lit (.bool true)], args := [d1, d2, d3] }
  | _ => none }
def pipeEOFOnceAfterDataRow : OpenClaim := { program := "ythdjnidaahhjbaa", sum := "f98ba902c7ef1f37d7b5438a5b8d905548149de7fc732e7414bc57a80f8002ee", func := "ginnel/ginnellaw30.PipeEOFOnceAfterData", spec := "pipeEOFOnceAfterData", apart := false }
def PipeEOFOnceAfterDataSaid : Prop := pipeEOFOnceAfterDataRow.holds Try.pinned (OpenSpec.ofChange pipeEOFOnceAfterDataSpec)

/-- ITS FALSE NEIGHBOUR: 'it returns false'. Refute it at one input. -/
def pipeEOFOnceAfterDataWrong : ChangeSpec := { name := "pipeEOFOnceAfterData", fn := fun _ => fun
  | [d1, d2, d3] => { results := [.lit (.bool false)], args := [d1, d2, d3] }
  | _ => none }
def PipeEOFOnceAfterDataWrongFalsely : Prop := pipeEOFOnceAfterDataRow.holds Try.pinned (OpenSpec.ofChange pipeEOFOnceAfterDataWrong)

/-- 'ginnellaw30.PipeValidatesCapacity': WHATEVER THE INPUT: true; the input reads as it did. -/
def pipeValidatesCapacitySpec : ChangeSpec := { name := "pipeValidatesCapacity", fn := fun _ => fun
  | [d] => { results := [.lit (.bool true)], args := [d] }
  | _ => none }
def pipeValidatesCapacityRow : OpenClaim := { program := "ythdjnidaahhjbaa", sum := "f98ba902c7ef1f37d7b5438a5b8d905548149de7fc732e7414bc57a80f8002ee", func := "ginnel/ginnellaw30.PipeValidatesCapacity", spec := "pipeValidatesCapacity", apart := false }
def PipeValidatesCapacitySaid : Prop := pipeValidatesCapacityRow.holds Try.pinned (OpenSpec.ofChange pipeValidatesCapacitySpec)

/-- ITS FALSE NEIGHBOUR: 'it returns false'. Refute it at one input. -/
def pipeValidatesCapacityWrong : ChangeSpec := { name := "pipeValidatesCapacity", fn := fun _ => fun
  | [d] => { results := [.lit (.bool false)], args := [d] }
  | _ => none }
def PipeValidatesCapacityWrongFalsely : Prop := pipeValidatesCapacityRow.holds Try.pinned (OpenSpec.ofChange pipeValidatesCapacityWrong)

/-- 'ginnellaw30.PipePreservesBytes': WHATEVER THE INPUT: true; the input reads as it did. -/
def pipePreservesBytesSpec : ChangeSpec := { name := "pipePreservesBytes", fn := fun _ => fun
  | [d1, d2, d3] => { results := [.lit (.bool true)], args := [d1, d2, d3] }
  | _ => none }
def pipePreservesBytesRow : OpenClaim := { program := "ythdjnidaahhjbaa", sum := "f98ba902c7ef1f37d7b5438a5b8d905548149de7fc732e7414bc57a80f8002ee", func := "ginnel/ginnellaw30.PipePreservesBytes", spec := "pipePreservesBytes", apart := false }
def PipePreservesBytesSaid : Prop := pipePreservesBytesRow.holds Try.pinned (OpenSpec.ofChange pipePreservesBytesSpec)

/-- ITS FALSE NEIGHBOUR: 'it returns false'. Refute it at one input. -/
def pipePreservesBytesWrong : ChangeSpec := { name := "pipePreservesBytes", fn := fun _ => fun
  | [d1, d2, d3] => { results := [.lit (.bool false)], args := [d1, d2, d3] }
  | _ => none }
def PipePreservesBytesWrongFalsely : Prop := pipePreservesBytesRow.holds Try.pinned (OpenSpec.ofChange pipePreservesBytesWrong)

/-- 'ginnellaw30.PipeMatchesModel': WHATEVER THE INPUT: true; the input reads as it did. -/
def pipeMatchesModelSpec : ChangeSpec := { name := "pipeMatchesModel", fn := fun _ => fun
  | [d1, d2] => { results := [.lit (.bool true)], args := [d1, d2] }
  | _ => none }
def pipeMatchesModelRow : OpenClaim := { program := "ythdjnidaahhjbaa", sum := "f98ba902c7ef1f37d7b5438a5b8d905548149de7fc732e7414bc57a80f8002ee", func := "ginnel/ginnellaw30.PipeMatchesModel", spec := "pipeMatchesModel", apart := false }
def PipeMatchesModelSaid : Prop := pipeMatchesModelRow.holds Try.pinned (OpenSpec.ofChange pipeMatchesModelSpec)

/-- ITS FALSE NEIGHBOUR: 'it returns false'. Refute it at one input. -/
def pipeMatchesModelWrong : ChangeSpec := { name := "pipeMatchesModel", fn := fun _ => fun
  | [d1, d2] => { results := [.lit (.bool false)], args := [d1, d2] }
  | _ => none }
def PipeMatchesModelWrongFalsely : Prop := pipeMatchesModelRow.holds Try.pinned (OpenSpec.ofChange pipeMatchesModelWrong)

/-- 'ginnellaw31.RelayMatchesModel': WHATEVER THE INPUT: true; the input reads as it did. -/
def relayMatchesModelSpec : ChangeSpec := { name := "relayMatchesModel", fn := fun _ => fun
  | [d1, d2] => { results := [.lit (.bool true)], args := [d1, d2] }
  | _ => none }
def relayMatchesModelRow : OpenClaim := { program := "ythdjnidaahhjbaa", sum := "f98ba902c7ef1f37d7b5438a5b8d905548149de7fc732e7414bc57a80f8002ee", func := "ginnel/ginnellaw31.RelayMatchesModel", spec := "relayMatchesModel", unfollowed := true, recurses := true, apart := false }
def RelayMatchesModelSaid : Prop := relayMatchesModelRow.holds Try.pinned (OpenSpec.ofChange relayMatchesModelSpec)

/-- ITS FALSE NEIGHBOUR: 'it returns false'. Refute it at one input. -/
def relayMatchesModelWrong : ChangeSpec := { name := "relayMatchesModel", fn := fun _ => fun
  | [d1, d2] => { results := [.lit (.bool false)], args := [d1, d2] }
  | _ => none }
def RelayMatchesModelWrongFalsely : Prop := relayMatchesModelRow.holds Try.pinned (OpenSpec.ofChange relayMatchesModelWrong)

/-- 'ginnellaw31.RelayDirectionsIndependent': WHATEVER THE INPUT: true; the input reads as it did. -/
def relayDirectionsIndependentSpec : ChangeSpec := { name := "relayDirectionsIndependent", fn := fun _ => fun
  | [d1, d2, d3, d4] => { results := [.lit (.bool true)], args := [d1, d2, d3, d4] }
  | _ => none }
def relayDirectionsIndependentRow : OpenClaim := { program := "ythdjnidaahhjbaa", sum := "f98ba902c7ef1f37d7b5438a5b8d905548149de7fc732e7414bc57a80f8002ee", func := "ginnel/ginnellaw31.RelayDirectionsIndependent", spec := "relayDirectionsIndependent", unfollowed := true, recurses := true, apart := false }
def RelayDirectionsIndependentSaid : Prop := relayDirectionsIndependentRow.holds Try.pinned (OpenSpec.ofChange relayDirectionsIndependentSpec)

/-- ITS FALSE NEIGHBOUR: 'it returns false'. Refute it at one input. -/
def relayDirectionsIndependentWrong : ChangeSpec := { name := "relayDirectionsIndependent", fn := fun _ => fun
  | [d1, d2, d3, d4] => { results := [.lit (.bool false)], args := [d1, d2, d3, d4] }
  | _ => none }
def RelayDirectionsIndependentWrongFalsely : Prop := relayDirectionsIndependentRow.holds Try.pinned (OpenSpec.ofChange relayDirectionsIndependentWrong)

/- THE SECOND FORM. 'bulk': how many values and letters a reading holds, each counted each time it is reached (what is shared counts as often as it is met; a slice's spare places count too). A statement '..UptoSaid' is the law's where the arguments, and the package variables that the reading takes, are together of bulk at most 1048576: NARROWER than '..Said'. Prove '..Said' where nothing that the law and all that it calls make is longer than what came in: it says more and counts as full. Else prove '..UptoSaid'. A law counts once. -/
mutual
def uptoBulk {H : Type} : DataW H → Nat
  | .lit (.string bytes) => bytes.length + 1
  | .lit _ => 1
  | .nil => 1
  | .ptr d => uptoBulk d + 1
  | .slice elems spare => uptoBulkAll elems + uptoBulkAll spare + 1
  | .agg parts => uptoBulkAll parts + 1
  | .iface _ d => uptoBulk d + 1
  | .map entries => uptoBulkEntries entries + 1
  | .held _ => 1
def uptoBulkAll {H : Type} : List (DataW H) → Nat
  | [] => 0
  | d :: r => uptoBulk d + uptoBulkAll r
def uptoBulkEntries {H : Type} : List (Lit × DataW H) → Nat
  | [] => 0
  | x :: r => uptoBulkEntry x + uptoBulkEntries r
def uptoBulkEntry {H : Type} : Lit × DataW H → Nat
  | (.string bytes, d) => bytes.length + uptoBulk d + 1
  | (_, d) => uptoBulk d + 1
 end
def uptoSmall : (H : Type) → List (DataW H) → Bool := fun _ ds => decide (uptoBulkAll ds ≤ 1048576)
def OpenSpec.upto (s : _root_.Go.ChangeSpec) : _root_.Go.OpenSpec := { _root_.Go.OpenSpec.ofChange s with cond := some uptoSmall }

/-- 'ginnellaw30.PipeEOFOnceAfterData', WHERE WHAT IT READS IS OF BULK AT MOST 1048576: true; the input reads as it did. -/
def pipeEOFOnceAfterDataUptoRow : OpenClaim := { program := "ythdjnidaahhjbaa", sum := "f98ba902c7ef1f37d7b5438a5b8d905548149de7fc732e7414bc57a80f8002ee", func := "ginnel/ginnellaw30.PipeEOFOnceAfterData", spec := "pipeEOFOnceAfterData", apart := false, narrowed := true }
def PipeEOFOnceAfterDataUptoSaid : Prop := pipeEOFOnceAfterDataUptoRow.holds Try.pinned (OpenSpec.upto pipeEOFOnceAfterDataSpec)

/-- 'ginnellaw30.PipeValidatesCapacity', WHERE WHAT IT READS IS OF BULK AT MOST 1048576: true; the input reads as it did. -/
def pipeValidatesCapacityUptoRow : OpenClaim := { program := "ythdjnidaahhjbaa", sum := "f98ba902c7ef1f37d7b5438a5b8d905548149de7fc732e7414bc57a80f8002ee", func := "ginnel/ginnellaw30.PipeValidatesCapacity", spec := "pipeValidatesCapacity", apart := false, narrowed := true }
def PipeValidatesCapacityUptoSaid : Prop := pipeValidatesCapacityUptoRow.holds Try.pinned (OpenSpec.upto pipeValidatesCapacitySpec)

/-- 'ginnellaw30.PipePreservesBytes', WHERE WHAT IT READS IS OF BULK AT MOST 1048576: true; the input reads as it did. -/
def pipePreservesBytesUptoRow : OpenClaim := { program := "ythdjnidaahhjbaa", sum := "f98ba902c7ef1f37d7b5438a5b8d905548149de7fc732e7414bc57a80f8002ee", func := "ginnel/ginnellaw30.PipePreservesBytes", spec := "pipePreservesBytes", apart := false, narrowed := true }
def PipePreservesBytesUptoSaid : Prop := pipePreservesBytesUptoRow.holds Try.pinned (OpenSpec.upto pipePreservesBytesSpec)

/-- 'ginnellaw30.PipeMatchesModel', WHERE WHAT IT READS IS OF BULK AT MOST 1048576: true; the input reads as it did. -/
def pipeMatchesModelUptoRow : OpenClaim := { program := "ythdjnidaahhjbaa", sum := "f98ba902c7ef1f37d7b5438a5b8d905548149de7fc732e7414bc57a80f8002ee", func := "ginnel/ginnellaw30.PipeMatchesModel", spec := "pipeMatchesModel", apart := false, narrowed := true }
def PipeMatchesModelUptoSaid : Prop := pipeMatchesModelUptoRow.holds Try.pinned (OpenSpec.upto pipeMatchesModelSpec)

/-- 'ginnellaw31.RelayMatchesModel', WHERE WHAT IT READS IS OF BULK AT MOST 1048576: true; the input reads as it did. -/
def relayMatchesModelUptoRow : OpenClaim := { program := "ythdjnidaahhjbaa", sum := "f98ba902c7ef1f37d7b5438a5b8d905548149de7fc732e7414bc57a80f8002ee", func := "ginnel/ginnellaw31.RelayMatchesModel", spec := "relayMatchesModel", unfollowed := true, recurses := true, apart := false, narrowed := true }
def RelayMatchesModelUptoSaid : Prop := relayMatchesModelUptoRow.holds Try.pinned (OpenSpec.upto relayMatchesModelSpec)

/-- 'ginnellaw31.RelayDirectionsIndependent', WHERE WHAT IT READS IS OF BULK AT MOST 1048576: true; the input reads as it did. -/
def relayDirectionsIndependentUptoRow : OpenClaim := { program := "ythdjnidaahhjbaa", sum := "f98ba902c7ef1f37d7b5438a5b8d905548149de7fc732e7414bc57a80f8002ee", func := "ginnel/ginnellaw31.RelayDirectionsIndependent", spec := "relayDirectionsIndependent", unfollowed := true, recurses := true, apart := false, narrowed := true }
def RelayDirectionsIndependentUptoSaid : Prop := relayDirectionsIndependentUptoRow.holds Try.pinned (OpenSpec.upto relayDirectionsIndependentSpec)

end Rows
end Go.Proofs.Ythdjnidaahhjbaa
