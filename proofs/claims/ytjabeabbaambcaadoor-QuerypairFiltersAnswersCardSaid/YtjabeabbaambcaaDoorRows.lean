/-
  NARROWER THAN 'FOR EVERY INPUT', by the rows' own cells (each row's printed sentence says how): QuerypairFiltersAnswers: laid · BlocklistMatchesModel: laid · BlocklistDisjoint: laid · BlocklistCoversMapped: laid · QuerypairMatchesModel: laid · QuerypairReadyIsMonotonic: laid · PolicytableMatchesModel: laid · PolicytableRowBoundaries: laid · PolicytableIPv4AsMapped: laid · PolicytableIsTotal: laid.
  DERIVED. THE GIVEN ROWS OF THIS SEAT. 10 by the template 'for every input the law returns true; each argument reads behind the call as it read before'; 0 by the template 'total and deterministic' (their statements: YtjabeabbaambcaaDoorTotals.lean).
  GIVEN WITH THE SEED: the statements are not yours to turn. If you find one false, say at which input.
  Laid BY PROGRAM, IN A SANDBOX (cutbox-rows.mjs): the forced cells as the released guide's own fill.sh prints them over the translation e1d745019651a64a… (all of the seat's roots in one cut). By AI agents, Wed Nov 11 2026. No macro, syntax, notation, axiom, sorry.
-/
import Derived.Test.YtjabeabbaambcaaDoorChecked
import GoSem.PinnedTables
import GoSem.Claim
import GoSem.ClaimJoined
import GoSem.ClaimMapViews
import Derived.JoinedTies
import Derived.KernelRfl
namespace Go.Proofs.YtjabeabbaambcaaDoor
/- THE CELL 'sum', in the pinned program and in every row, IS THE sha256 OF THE DUMP (.gsa) THAT YtjabeabbaambcaaDoorProg.lean LOADS. Nothing in Lean hashes anything: it is a label: what it is worth is what the hold of that sum in a sandbox is worth. -/
noncomputable def Tryd.pinned : Pinned := { name := "ytjabeabbaambcaadoor", sum := "e1d745019651a64a6f9a7fc1f75ba8036299a65471131ee4b89a6270e9239593", checked := Tryd.checked }
namespace Rows
def none {H : Type} : Left H := { results := [], args := [] }

/- WHAT THE LISTED PACKAGE-LEVEL VARIABLES READ AS WHEN THE CALL BEGINS. Each datum BY PROGRAM (the guide's laid-datum.mjs) off the statement by which the dump's own 'gosem.cut.vars' lays the variable. In a bare row this is a premise. The card (YtjabeabbaambcaaDoorCards.lean) ties it to the program's text. -/
def laid_unicode_utf8_acceptRanges {H : Type} : DataW H := .agg [.agg [.lit (.int .u8 128), .lit (.int .u8 191)], .agg [.lit (.int .u8 160), .lit (.int .u8 191)], .agg [.lit (.int .u8 128), .lit (.int .u8 159)], .agg [.lit (.int .u8 144), .lit (.int .u8 191)], .agg [.lit (.int .u8 128), .lit (.int .u8 143)], .agg [.lit (.int .u8 0), .lit (.int .u8 0)], .agg [.lit (.int .u8 0), .lit (.int .u8 0)], .agg [.lit (.int .u8 0), .lit (.int .u8 0)], .agg [.lit (.int .u8 0), .lit (.int .u8 0)], .agg [.lit (.int .u8 0), .lit (.int .u8 0)], .agg [.lit (.int .u8 0), .lit (.int .u8 0)], .agg [.lit (.int .u8 0), .lit (.int .u8 0)], .agg [.lit (.int .u8 0), .lit (.int .u8 0)], .agg [.lit (.int .u8 0), .lit (.int .u8 0)], .agg [.lit (.int .u8 0), .lit (.int .u8 0)], .agg [.lit (.int .u8 0), .lit (.int .u8 0)]]
/-- One of Go's own tables, pinned by name: the form's constant. -/
def laid_unicode_utf8_first : DataW Unit := Go.Pinned.utf8First

/-- 'ginnellaw27.QuerypairFiltersAnswers': WHATEVER THE INPUT: true; the input reads as it did. -/
def querypairFiltersAnswersSpec : ChangeSpec := { name := "querypairFiltersAnswers", fn := fun _ => fun
  | [d1, d2, d3] => { results := [.lit (.bool true)], args := [d1, d2, d3] }
  | _ => none }
def querypairFiltersAnswersRow : OpenClaim := { program := "ytjabeabbaambcaadoor", sum := "e1d745019651a64a6f9a7fc1f75ba8036299a65471131ee4b89a6270e9239593", func := "ginnel/ginnellaw27.QuerypairFiltersAnswers", spec := "querypairFiltersAnswers", inPlace := ["internal/bytealg.IndexByteString", "internal/bytealg.IndexString"], unfollowed := true, recurses := true, named := ["unicode/utf8.first", "unicode/utf8.acceptRanges", "internal/bytealg.MaxLen"], apart := false, laid := [("unicode/utf8.acceptRanges", laid_unicode_utf8_acceptRanges), ("unicode/utf8.first", laid_unicode_utf8_first)] }
def QuerypairFiltersAnswersSaid : Prop := querypairFiltersAnswersRow.holds Tryd.pinned (OpenSpec.ofChange querypairFiltersAnswersSpec)

/-- ITS FALSE NEIGHBOUR: 'it returns false'. Refute it at one input. -/
def querypairFiltersAnswersWrong : ChangeSpec := { name := "querypairFiltersAnswers", fn := fun _ => fun
  | [d1, d2, d3] => { results := [.lit (.bool false)], args := [d1, d2, d3] }
  | _ => none }
def QuerypairFiltersAnswersWrongFalsely : Prop := querypairFiltersAnswersRow.holds Tryd.pinned (OpenSpec.ofChange querypairFiltersAnswersWrong)

/-- 'ginnellaw11.BlocklistMatchesModel': WHATEVER THE INPUT: true; the input reads as it did. -/
def blocklistMatchesModelSpec : ChangeSpec := { name := "blocklistMatchesModel", fn := fun _ => fun
  | [d1, d2, d3, d4] => { results := [.lit (.bool true)], args := [d1, d2, d3, d4] }
  | _ => none }
def blocklistMatchesModelRow : OpenClaim := { program := "ytjabeabbaambcaadoor", sum := "e1d745019651a64a6f9a7fc1f75ba8036299a65471131ee4b89a6270e9239593", func := "ginnel/ginnellaw11.BlocklistMatchesModel", spec := "blocklistMatchesModel", inPlace := ["internal/bytealg.IndexByteString", "internal/bytealg.IndexString"], unfollowed := true, recurses := true, named := ["unicode/utf8.first", "unicode/utf8.acceptRanges", "internal/bytealg.MaxLen"], apart := false, laid := [("unicode/utf8.acceptRanges", laid_unicode_utf8_acceptRanges), ("unicode/utf8.first", laid_unicode_utf8_first)] }
def BlocklistMatchesModelSaid : Prop := blocklistMatchesModelRow.holds Tryd.pinned (OpenSpec.ofChange blocklistMatchesModelSpec)

/-- ITS FALSE NEIGHBOUR: 'it returns false'. Refute it at one input. -/
def blocklistMatchesModelWrong : ChangeSpec := { name := "blocklistMatchesModel", fn := fun _ => fun
  | [d1, d2, d3, d4] => { results := [.lit (.bool false)], args := [d1, d2, d3, d4] }
  | _ => none }
def BlocklistMatchesModelWrongFalsely : Prop := blocklistMatchesModelRow.holds Tryd.pinned (OpenSpec.ofChange blocklistMatchesModelWrong)

/-- 'ginnellaw11.BlocklistDisjoint': WHATEVER THE INPUT: true; the input reads as it did. -/
def blocklistDisjointSpec : ChangeSpec := { name := "blocklistDisjoint", fn := fun _ => fun
  | [d1, d2] => { results := [.lit (.bool true)], args := [d1, d2] }
  | _ => none }
def blocklistDisjointRow : OpenClaim := { program := "ytjabeabbaambcaadoor", sum := "e1d745019651a64a6f9a7fc1f75ba8036299a65471131ee4b89a6270e9239593", func := "ginnel/ginnellaw11.BlocklistDisjoint", spec := "blocklistDisjoint", inPlace := ["internal/bytealg.IndexByteString", "internal/bytealg.IndexString"], unfollowed := true, recurses := true, named := ["unicode/utf8.first", "unicode/utf8.acceptRanges", "internal/bytealg.MaxLen"], apart := false, laid := [("unicode/utf8.acceptRanges", laid_unicode_utf8_acceptRanges), ("unicode/utf8.first", laid_unicode_utf8_first)] }
def BlocklistDisjointSaid : Prop := blocklistDisjointRow.holds Tryd.pinned (OpenSpec.ofChange blocklistDisjointSpec)

/-- ITS FALSE NEIGHBOUR: 'it returns false'. Refute it at one input. -/
def blocklistDisjointWrong : ChangeSpec := { name := "blocklistDisjoint", fn := fun _ => fun
  | [d1, d2] => { results := [.lit (.bool false)], args := [d1, d2] }
  | _ => none }
def BlocklistDisjointWrongFalsely : Prop := blocklistDisjointRow.holds Tryd.pinned (OpenSpec.ofChange blocklistDisjointWrong)

/-- 'ginnellaw11.BlocklistCoversMapped': WHATEVER THE INPUT: true; the input reads as it did. -/
def blocklistCoversMappedSpec : ChangeSpec := { name := "blocklistCoversMapped", fn := fun _ => fun
  | [d1, d2, d3, d4] => { results := [.lit (.bool true)], args := [d1, d2, d3, d4] }
  | _ => none }
def blocklistCoversMappedRow : OpenClaim := { program := "ytjabeabbaambcaadoor", sum := "e1d745019651a64a6f9a7fc1f75ba8036299a65471131ee4b89a6270e9239593", func := "ginnel/ginnellaw11.BlocklistCoversMapped", spec := "blocklistCoversMapped", inPlace := ["internal/bytealg.IndexByteString", "internal/bytealg.IndexString"], unfollowed := true, recurses := true, named := ["unicode/utf8.first", "unicode/utf8.acceptRanges", "internal/bytealg.MaxLen"], apart := false, laid := [("unicode/utf8.acceptRanges", laid_unicode_utf8_acceptRanges), ("unicode/utf8.first", laid_unicode_utf8_first)] }
def BlocklistCoversMappedSaid : Prop := blocklistCoversMappedRow.holds Tryd.pinned (OpenSpec.ofChange blocklistCoversMappedSpec)

/-- ITS FALSE NEIGHBOUR: 'it returns false'. Refute it at one input. -/
def blocklistCoversMappedWrong : ChangeSpec := { name := "blocklistCoversMapped", fn := fun _ => fun
  | [d1, d2, d3, d4] => { results := [.lit (.bool false)], args := [d1, d2, d3, d4] }
  | _ => none }
def BlocklistCoversMappedWrongFalsely : Prop := blocklistCoversMappedRow.holds Tryd.pinned (OpenSpec.ofChange blocklistCoversMappedWrong)

/-- 'ginnellaw27.QuerypairMatchesModel': WHATEVER THE INPUT: true; the input reads as it did. -/
def querypairMatchesModelSpec : ChangeSpec := { name := "querypairMatchesModel", fn := fun _ => fun
  | [d1, d2, d3] => { results := [.lit (.bool true)], args := [d1, d2, d3] }
  | _ => none }
def querypairMatchesModelRow : OpenClaim := { program := "ytjabeabbaambcaadoor", sum := "e1d745019651a64a6f9a7fc1f75ba8036299a65471131ee4b89a6270e9239593", func := "ginnel/ginnellaw27.QuerypairMatchesModel", spec := "querypairMatchesModel", inPlace := ["internal/bytealg.IndexByteString", "internal/bytealg.IndexString"], unfollowed := true, recurses := true, named := ["unicode/utf8.first", "unicode/utf8.acceptRanges", "internal/bytealg.MaxLen"], apart := false, laid := [("unicode/utf8.acceptRanges", laid_unicode_utf8_acceptRanges), ("unicode/utf8.first", laid_unicode_utf8_first)] }
def QuerypairMatchesModelSaid : Prop := querypairMatchesModelRow.holds Tryd.pinned (OpenSpec.ofChange querypairMatchesModelSpec)

/-- ITS FALSE NEIGHBOUR: 'it returns false'. Refute it at one input. -/
def querypairMatchesModelWrong : ChangeSpec := { name := "querypairMatchesModel", fn := fun _ => fun
  | [d1, d2, d3] => { results := [.lit (.bool false)], args := [d1, d2, d3] }
  | _ => none }
def QuerypairMatchesModelWrongFalsely : Prop := querypairMatchesModelRow.holds Tryd.pinned (OpenSpec.ofChange querypairMatchesModelWrong)

/-- 'ginnellaw27.QuerypairReadyIsMonotonic': WHATEVER THE INPUT: true; the input reads as it did. -/
def querypairReadyIsMonotonicSpec : ChangeSpec := { name := "querypairReadyIsMonotonic", fn := fun _ => fun
  | [d1, d2, d3, d4, d5, d6, d7] => { results := [.lit (.bool true)], args := [d1, d2, d3, d4, d5, d6, d7] }
  | _ => none }
def querypairReadyIsMonotonicRow : OpenClaim := { program := "ytjabeabbaambcaadoor", sum := "e1d745019651a64a6f9a7fc1f75ba8036299a65471131ee4b89a6270e9239593", func := "ginnel/ginnellaw27.QuerypairReadyIsMonotonic", spec := "querypairReadyIsMonotonic", inPlace := ["internal/bytealg.IndexByteString", "internal/bytealg.IndexString"], unfollowed := true, recurses := true, named := ["unicode/utf8.first", "unicode/utf8.acceptRanges", "internal/bytealg.MaxLen"], apart := false, laid := [("unicode/utf8.acceptRanges", laid_unicode_utf8_acceptRanges), ("unicode/utf8.first", laid_unicode_utf8_first)] }
def QuerypairReadyIsMonotonicSaid : Prop := querypairReadyIsMonotonicRow.holds Tryd.pinned (OpenSpec.ofChange querypairReadyIsMonotonicSpec)

/-- ITS FALSE NEIGHBOUR: 'it returns false'. Refute it at one input. -/
def querypairReadyIsMonotonicWrong : ChangeSpec := { name := "querypairReadyIsMonotonic", fn := fun _ => fun
  | [d1, d2, d3, d4, d5, d6, d7] => { results := [.lit (.bool false)], args := [d1, d2, d3, d4, d5, d6, d7] }
  | _ => none }
def QuerypairReadyIsMonotonicWrongFalsely : Prop := querypairReadyIsMonotonicRow.holds Tryd.pinned (OpenSpec.ofChange querypairReadyIsMonotonicWrong)

/-- 'ginnellaw24.PolicytableMatchesModel': WHATEVER THE INPUT: true; the input reads as it did. -/
def policytableMatchesModelSpec : ChangeSpec := { name := "policytableMatchesModel", fn := fun _ => fun
  | [d1, d2, d3] => { results := [.lit (.bool true)], args := [d1, d2, d3] }
  | _ => none }
def policytableMatchesModelRow : OpenClaim := { program := "ytjabeabbaambcaadoor", sum := "e1d745019651a64a6f9a7fc1f75ba8036299a65471131ee4b89a6270e9239593", func := "ginnel/ginnellaw24.PolicytableMatchesModel", spec := "policytableMatchesModel", inPlace := ["internal/bytealg.IndexByteString", "internal/bytealg.IndexString"], named := ["unicode/utf8.first", "unicode/utf8.acceptRanges", "internal/bytealg.MaxLen"], apart := false, laid := [("unicode/utf8.acceptRanges", laid_unicode_utf8_acceptRanges), ("unicode/utf8.first", laid_unicode_utf8_first)] }
def PolicytableMatchesModelSaid : Prop := policytableMatchesModelRow.holds Tryd.pinned (OpenSpec.ofChange policytableMatchesModelSpec)

/-- ITS FALSE NEIGHBOUR: 'it returns false'. Refute it at one input. -/
def policytableMatchesModelWrong : ChangeSpec := { name := "policytableMatchesModel", fn := fun _ => fun
  | [d1, d2, d3] => { results := [.lit (.bool false)], args := [d1, d2, d3] }
  | _ => none }
def PolicytableMatchesModelWrongFalsely : Prop := policytableMatchesModelRow.holds Tryd.pinned (OpenSpec.ofChange policytableMatchesModelWrong)

/-- 'ginnellaw24.PolicytableRowBoundaries': WHATEVER THE INPUT: true; the input reads as it did. -/
def policytableRowBoundariesSpec : ChangeSpec := { name := "policytableRowBoundaries", fn := fun _ => fun
  | [d1, d2, d3] => { results := [.lit (.bool true)], args := [d1, d2, d3] }
  | _ => none }
def policytableRowBoundariesRow : OpenClaim := { program := "ytjabeabbaambcaadoor", sum := "e1d745019651a64a6f9a7fc1f75ba8036299a65471131ee4b89a6270e9239593", func := "ginnel/ginnellaw24.PolicytableRowBoundaries", spec := "policytableRowBoundaries", inPlace := ["internal/bytealg.IndexByteString", "internal/bytealg.IndexString"], named := ["unicode/utf8.first", "unicode/utf8.acceptRanges", "internal/bytealg.MaxLen"], apart := false, laid := [("unicode/utf8.acceptRanges", laid_unicode_utf8_acceptRanges), ("unicode/utf8.first", laid_unicode_utf8_first)] }
def PolicytableRowBoundariesSaid : Prop := policytableRowBoundariesRow.holds Tryd.pinned (OpenSpec.ofChange policytableRowBoundariesSpec)

/-- ITS FALSE NEIGHBOUR: 'it returns false'. Refute it at one input. -/
def policytableRowBoundariesWrong : ChangeSpec := { name := "policytableRowBoundaries", fn := fun _ => fun
  | [d1, d2, d3] => { results := [.lit (.bool false)], args := [d1, d2, d3] }
  | _ => none }
def PolicytableRowBoundariesWrongFalsely : Prop := policytableRowBoundariesRow.holds Tryd.pinned (OpenSpec.ofChange policytableRowBoundariesWrong)

/-- 'ginnellaw24.PolicytableIPv4AsMapped': WHATEVER THE INPUT: true; the input reads as it did. -/
def policytableIPv4AsMappedSpec : ChangeSpec := { name := "policytableIPv4AsMapped", fn := fun _ => fun
  | [d1, d2, d3, d4] => { results := [.lit (.bool true)], args := [d1, d2, d3, d4] }
  | _ => none }
def policytableIPv4AsMappedRow : OpenClaim := { program := "ytjabeabbaambcaadoor", sum := "e1d745019651a64a6f9a7fc1f75ba8036299a65471131ee4b89a6270e9239593", func := "ginnel/ginnellaw24.PolicytableIPv4AsMapped", spec := "policytableIPv4AsMapped", inPlace := ["internal/bytealg.IndexByteString", "internal/bytealg.IndexString"], named := ["unicode/utf8.first", "unicode/utf8.acceptRanges", "internal/bytealg.MaxLen"], apart := false, laid := [("unicode/utf8.acceptRanges", laid_unicode_utf8_acceptRanges), ("unicode/utf8.first", laid_unicode_utf8_first)] }
def PolicytableIPv4AsMappedSaid : Prop := policytableIPv4AsMappedRow.holds Tryd.pinned (OpenSpec.ofChange policytableIPv4AsMappedSpec)

/-- ITS FALSE NEIGHBOUR: 'it returns false'. Refute it at one input. -/
def policytableIPv4AsMappedWrong : ChangeSpec := { name := "policytableIPv4AsMapped", fn := fun _ => fun
  | [d1, d2, d3, d4] => { results := [.lit (.bool false)], args := [d1, d2, d3, d4] }
  | _ => none }
def PolicytableIPv4AsMappedWrongFalsely : Prop := policytableIPv4AsMappedRow.holds Tryd.pinned (OpenSpec.ofChange policytableIPv4AsMappedWrong)

/-- 'ginnellaw24.PolicytableIsTotal': WHATEVER THE INPUT: true; the input reads as it did. -/
def policytableIsTotalSpec : ChangeSpec := { name := "policytableIsTotal", fn := fun _ => fun
  | [d] => { results := [.lit (.bool true)], args := [d] }
  | _ => none }
def policytableIsTotalRow : OpenClaim := { program := "ytjabeabbaambcaadoor", sum := "e1d745019651a64a6f9a7fc1f75ba8036299a65471131ee4b89a6270e9239593", func := "ginnel/ginnellaw24.PolicytableIsTotal", spec := "policytableIsTotal", inPlace := ["internal/bytealg.IndexByteString", "internal/bytealg.IndexString"], unfollowed := true, recurses := true, named := ["unicode/utf8.first", "unicode/utf8.acceptRanges", "internal/bytealg.MaxLen"], apart := false, laid := [("unicode/utf8.acceptRanges", laid_unicode_utf8_acceptRanges), ("unicode/utf8.first", laid_unicode_utf8_first)] }
def PolicytableIsTotalSaid : Prop := policytableIsTotalRow.holds Tryd.pinned (OpenSpec.ofChange policytableIsTotalSpec)

/-- ITS FALSE NEIGHBOUR: 'it returns false'. Refute it at one input. -/
def policytableIsTotalWrong : ChangeSpec := { name := "policytableIsTotal", fn := fun _ => fun
  | [d] => { results := [.lit (.bool false)], args := [d] }
  | _ => none }
def PolicytableIsTotalWrongFalsely : Prop := policytableIsTotalRow.holds Tryd.pinned (OpenSpec.ofChange policytableIsTotalWrong)

/- THE SECOND FORM. 'bulk': how many values and letters a reading holds, each counted each time it is reached (what is shared counts as often as it is met; a slice's spare places count too). A statement '..UptoSaid' is the law's where the arguments, and the package variables that the reading takes, are together of bulk at most 1048576: NARROWER than '..Said'. Prove '..Said' where nothing that the law and all that it calls make is longer than what came in: it says more and counts as full. Else prove '..UptoSaid'. A law counts once. -/
mutual
def uptoBulk {H : Type} : DataW H → Nat
  | .lit (.string bytes) => bytes.length + 1
  | .lit _ => 1
  | .nil => 1
  | .ptr d => uptoBulk d + 1
  | .slice elems spare => uptoBulkAll elems + uptoBulkAll spare + 1
  | .agg parts => uptoBulkAll parts + 1
  | .iface _ d => uptoBulk d + 1
  | .map entries => uptoBulkEntries entries + 1
  | .held _ => 1
def uptoBulkAll {H : Type} : List (DataW H) → Nat
  | [] => 0
  | d :: r => uptoBulk d + uptoBulkAll r
def uptoBulkEntries {H : Type} : List (Lit × DataW H) → Nat
  | [] => 0
  | x :: r => uptoBulkEntry x + uptoBulkEntries r
def uptoBulkEntry {H : Type} : Lit × DataW H → Nat
  | (.string bytes, d) => bytes.length + uptoBulk d + 1
  | (_, d) => uptoBulk d + 1
 end
def uptoSmall : (H : Type) → List (DataW H) → Bool := fun _ ds => decide (uptoBulkAll ds ≤ 1048576)
def OpenSpec.upto (s : _root_.Go.ChangeSpec) : _root_.Go.OpenSpec := { _root_.Go.OpenSpec.ofChange s with cond := some uptoSmall }

/-- 'ginnellaw27.QuerypairFiltersAnswers', WHERE WHAT IT READS IS OF BULK AT MOST 1048576: true; the input reads as it did. -/
def querypairFiltersAnswersUptoRow : OpenClaim := { program := "ytjabeabbaambcaadoor", sum := "e1d745019651a64a6f9a7fc1f75ba8036299a65471131ee4b89a6270e9239593", func := "ginnel/ginnellaw27.QuerypairFiltersAnswers", spec := "querypairFiltersAnswers", inPlace := ["internal/bytealg.IndexByteString", "internal/bytealg.IndexString"], unfollowed := true, recurses := true, named := ["unicode/utf8.first", "unicode/utf8.acceptRanges", "internal/bytealg.MaxLen"], apart := false, laid := [("unicode/utf8.acceptRanges", laid_unicode_utf8_acceptRanges), ("unicode/utf8.first", laid_unicode_utf8_first)], narrowed := true }
def QuerypairFiltersAnswersUptoSaid : Prop := querypairFiltersAnswersUptoRow.holds Tryd.pinned (OpenSpec.upto querypairFiltersAnswersSpec)

/-- 'ginnellaw11.BlocklistMatchesModel', WHERE WHAT IT READS IS OF BULK AT MOST 1048576: true; the input reads as it did. -/
def blocklistMatchesModelUptoRow : OpenClaim := { program := "ytjabeabbaambcaadoor", sum := "e1d745019651a64a6f9a7fc1f75ba8036299a65471131ee4b89a6270e9239593", func := "ginnel/ginnellaw11.BlocklistMatchesModel", spec := "blocklistMatchesModel", inPlace := ["internal/bytealg.IndexByteString", "internal/bytealg.IndexString"], unfollowed := true, recurses := true, named := ["unicode/utf8.first", "unicode/utf8.acceptRanges", "internal/bytealg.MaxLen"], apart := false, laid := [("unicode/utf8.acceptRanges", laid_unicode_utf8_acceptRanges), ("unicode/utf8.first", laid_unicode_utf8_first)], narrowed := true }
def BlocklistMatchesModelUptoSaid : Prop := blocklistMatchesModelUptoRow.holds Tryd.pinned (OpenSpec.upto blocklistMatchesModelSpec)

/-- 'ginnellaw11.BlocklistDisjoint', WHERE WHAT IT READS IS OF BULK AT MOST 1048576: true; the input reads as it did. -/
def blocklistDisjointUptoRow : OpenClaim := { program := "ytjabeabbaambcaadoor", sum := "e1d745019651a64a6f9a7fc1f75ba8036299a65471131ee4b89a6270e9239593", func := "ginnel/ginnellaw11.BlocklistDisjoint", spec := "blocklistDisjoint", inPlace := ["internal/bytealg.IndexByteString", "internal/bytealg.IndexString"], unfollowed := true, recurses := true, named := ["unicode/utf8.first", "unicode/utf8.acceptRanges", "internal/bytealg.MaxLen"], apart := false, laid := [("unicode/utf8.acceptRanges", laid_unicode_utf8_acceptRanges), ("unicode/utf8.first", laid_unicode_utf8_first)], narrowed := true }
def BlocklistDisjointUptoSaid : Prop := blocklistDisjointUptoRow.holds Tryd.pinned (OpenSpec.upto blocklistDisjointSpec)

/-- 'ginnellaw11.BlocklistCoversMapped', WHERE WHAT IT READS IS OF BULK AT MOST 1048576: true; the input reads as it did. -/
def blocklistCoversMappedUptoRow : OpenClaim := { program := "ytjabeabbaambcaadoor", sum := "e1d745019651a64a6f9a7fc1f75ba8036299a65471131ee4b89a6270e9239593", func := "ginnel/ginnellaw11.BlocklistCoversMapped", spec := "blocklistCoversMapped", inPlace := ["internal/bytealg.IndexByteString", "internal/bytealg.IndexString"], unfollowed := true, recurses := true, named := ["unicode/utf8.first", "unicode/utf8.acceptRanges", "internal/bytealg.MaxLen"], apart := false, laid := [("unicode/utf8.acceptRanges", laid_unicode_utf8_acceptRanges), ("unicode/utf8.first", laid_unicode_utf8_first)], narrowed := true }
def BlocklistCoversMappedUptoSaid : Prop := blocklistCoversMappedUptoRow.holds Tryd.pinned (OpenSpec.upto blocklistCoversMappedSpec)

/-- 'ginnellaw27.QuerypairMatchesModel', WHERE WHAT IT READS IS OF BULK AT MOST 1048576: true; the input reads as it did. -/
def querypairMatchesModelUptoRow : OpenClaim := { program := "ytjabeabbaambcaadoor", sum := "e1d745019651a64a6f9a7fc1f75ba8036299a65471131ee4b89a6270e9239593", func := "ginnel/ginnellaw27.QuerypairMatchesModel", spec := "querypairMatchesModel", inPlace := ["internal/bytealg.IndexByteString", "internal/bytealg.IndexString"], unfollowed := true, recurses := true, named := ["unicode/utf8.first", "unicode/utf8.acceptRanges", "internal/bytealg.MaxLen"], apart := false, laid := [("unicode/utf8.acceptRanges", laid_unicode_utf8_acceptRanges), ("unicode/utf8.first", laid_unicode_utf8_first)], narrowed := true }
def QuerypairMatchesModelUptoSaid : Prop := querypairMatchesModelUptoRow.holds Tryd.pinned (OpenSpec.upto querypairMatchesModelSpec)

/-- 'ginnellaw27.QuerypairReadyIsMonotonic', WHERE WHAT IT READS IS OF BULK AT MOST 1048576: true; the input reads as it did. -/
def querypairReadyIsMonotonicUptoRow : OpenClaim := { program := "ytjabeabbaambcaadoor", sum := "e1d745019651a64a6f9a7fc1f75ba8036299a65471131ee4b89a6270e9239593", func := "ginnel/ginnellaw27.QuerypairReadyIsMonotonic", spec := "querypairReadyIsMonotonic", inPlace := ["internal/bytealg.IndexByteString", "internal/bytealg.IndexString"], unfollowed := true, recurses := true, named := ["unicode/utf8.first", "unicode/utf8.acceptRanges", "internal/bytealg.MaxLen"], apart := false, laid := [("unicode/utf8.acceptRanges", laid_unicode_utf8_acceptRanges), ("unicode/utf8.first", laid_unicode_utf8_first)], narrowed := true }
def QuerypairReadyIsMonotonicUptoSaid : Prop := querypairReadyIsMonotonicUptoRow.holds Tryd.pinned (OpenSpec.upto querypairReadyIsMonotonicSpec)

/-- 'ginnellaw24.PolicytableMatchesModel', WHERE WHAT IT READS IS OF BULK AT MOST 1048576: true; the input reads as it did. -/
def policytableMatchesModelUptoRow : OpenClaim := { program := "ytjabeabbaambcaadoor", sum := "e1d745019651a64a6f9a7fc1f75ba8036299a65471131ee4b89a6270e9239593", func := "ginnel/ginnellaw24.PolicytableMatchesModel", spec := "policytableMatchesModel", inPlace := ["internal/bytealg.IndexByteString", "internal/bytealg.IndexString"], named := ["unicode/utf8.first", "unicode/utf8.acceptRanges", "internal/bytealg.MaxLen"], apart := false, laid := [("unicode/utf8.acceptRanges", laid_unicode_utf8_acceptRanges), ("unicode/utf8.first", laid_unicode_utf8_first)], narrowed := true }
def PolicytableMatchesModelUptoSaid : Prop := policytableMatchesModelUptoRow.holds Tryd.pinned (OpenSpec.upto policytableMatchesModelSpec)

/-- 'ginnellaw24.PolicytableRowBoundaries', WHERE WHAT IT READS IS OF BULK AT MOST 1048576: true; the input reads as it did. -/
def policytableRowBoundariesUptoRow : OpenClaim := { program := "ytjabeabbaambcaadoor", sum := "e1d745019651a64a6f9a7fc1f75ba8036299a65471131ee4b89a6270e9239593", func := "ginnel/ginnellaw24.PolicytableRowBoundaries", spec := "policytableRowBoundaries", inPlace := ["internal/bytealg.IndexByteString", "internal/bytealg.IndexString"], named := ["unicode/utf8.first", "unicode/utf8.acceptRanges", "internal/bytealg.MaxLen"], apart := false, laid := [("unicode/utf8.acceptRanges", laid_unicode_utf8_acceptRanges), ("unicode/utf8.first", laid_unicode_utf8_first)], narrowed := true }
def PolicytableRowBoundariesUptoSaid : Prop := policytableRowBoundariesUptoRow.holds Tryd.pinned (OpenSpec.upto policytableRowBoundariesSpec)

/-- 'ginnellaw24.PolicytableIPv4AsMapped', WHERE WHAT IT READS IS OF BULK AT MOST 1048576: true; the input reads as it did. -/
def policytableIPv4AsMappedUptoRow : OpenClaim := { program := "ytjabeabbaambcaadoor", sum := "e1d745019651a64a6f9a7fc1f75ba8036299a65471131ee4b89a6270e9239593", func := "ginnel/ginnellaw24.PolicytableIPv4AsMapped", spec := "policytableIPv4AsMapped", inPlace := ["internal/bytealg.IndexByteString", "internal/bytealg.IndexString"], named := ["unicode/utf8.first", "unicode/utf8.acceptRanges", "internal/bytealg.MaxLen"], apart := false, laid := [("unicode/utf8.acceptRanges", laid_unicode_utf8_acceptRanges), ("unicode/utf8.first", laid_unicode_utf8_first)], narrowed := true }
def PolicytableIPv4AsMappedUptoSaid : Prop := policytableIPv4AsMappedUptoRow.holds Tryd.pinned (OpenSpec.upto policytableIPv4AsMappedSpec)

/-- 'ginnellaw24.PolicytableIsTotal', WHERE WHAT IT READS IS OF BULK AT MOST 1048576: true; the input reads as it did. -/
def policytableIsTotalUptoRow : OpenClaim := { program := "ytjabeabbaambcaadoor", sum := "e1d745019651a64a6f9a7fc1f75ba8036299a65471131ee4b89a6270e9239593", func := "ginnel/ginnellaw24.PolicytableIsTotal", spec := "policytableIsTotal", inPlace := ["internal/bytealg.IndexByteString", "internal/bytealg.IndexString"], unfollowed := true, recurses := true, named := ["unicode/utf8.first", "unicode/utf8.acceptRanges", "internal/bytealg.MaxLen"], apart := false, laid := [("unicode/utf8.acceptRanges", laid_unicode_utf8_acceptRanges), ("unicode/utf8.first", laid_unicode_utf8_first)], narrowed := true }
def PolicytableIsTotalUptoSaid : Prop := policytableIsTotalUptoRow.holds Tryd.pinned (OpenSpec.upto policytableIsTotalSpec)

end Rows
end Go.Proofs.YtjabeabbaambcaaDoor
