/-
  NARROWER THAN 'FOR EVERY INPUT', by the rows' own cells (each row's printed sentence says how): ReplyTargetRoundTrip: laid · ReplyParses: laid · ReplyRoundTrip: laid · ReplyIsIncremental: laid · RequestParses: laid · RequestNormalizesNames: laid · RequestIsIncremental: laid · RequestRoundTrip: laid.
  DERIVED. THE GIVEN ROWS OF THIS SEAT. 8 by the template 'for every input the law returns true; each argument reads behind the call as it read before'; 0 by the template 'total and deterministic' (their statements: YtiffpjlmgeklkaaDoorTotals.lean).
  GIVEN WITH THE SEED: the statements are not yours to turn. If you find one false, say at which input.
  Laid BY PROGRAM, IN A SANDBOX (cutbox-rows.mjs): the forced cells as the released guide's own fill.sh prints them over the translation ffab3854d72bc906… (all of the seat's roots in one cut). By AI agents, Wed Nov 11 2026. No macro, syntax, notation, axiom, sorry.
-/
import Derived.Test.YtiffpjlmgeklkaaDoorChecked
import GoSem.PinnedTables
import GoSem.Claim
import GoSem.ClaimJoined
import GoSem.ClaimMapViews
import Derived.JoinedTies
import Derived.KernelRfl
namespace Go.Proofs.YtiffpjlmgeklkaaDoor
/- THE CELL 'sum', in the pinned program and in every row, IS THE sha256 OF THE DUMP (.gsa) THAT YtiffpjlmgeklkaaDoorProg.lean LOADS. Nothing in Lean hashes anything: it is a label: what it is worth is what the hold of that sum in a sandbox is worth. -/
noncomputable def Tryd.pinned : Pinned := { name := "ytiffpjlmgeklkaadoor", sum := "ffab3854d72bc9068c8446db12fb56e1d04ad977938b36e2fc83e27cd9a1af08", checked := Tryd.checked }
namespace Rows
def none {H : Type} : Left H := { results := [], args := [] }

/- WHAT THE LISTED PACKAGE-LEVEL VARIABLES READ AS WHEN THE CALL BEGINS. Each datum BY PROGRAM (the guide's laid-datum.mjs) off the statement by which the dump's own 'gosem.cut.vars' lays the variable. In a bare row this is a premise. The card (YtiffpjlmgeklkaaDoorCards.lean) ties it to the program's text. -/
def laid_unicode_utf8_acceptRanges {H : Type} : DataW H := .agg [.agg [.lit (.int .u8 128), .lit (.int .u8 191)], .agg [.lit (.int .u8 160), .lit (.int .u8 191)], .agg [.lit (.int .u8 128), .lit (.int .u8 159)], .agg [.lit (.int .u8 144), .lit (.int .u8 191)], .agg [.lit (.int .u8 128), .lit (.int .u8 143)], .agg [.lit (.int .u8 0), .lit (.int .u8 0)], .agg [.lit (.int .u8 0), .lit (.int .u8 0)], .agg [.lit (.int .u8 0), .lit (.int .u8 0)], .agg [.lit (.int .u8 0), .lit (.int .u8 0)], .agg [.lit (.int .u8 0), .lit (.int .u8 0)], .agg [.lit (.int .u8 0), .lit (.int .u8 0)], .agg [.lit (.int .u8 0), .lit (.int .u8 0)], .agg [.lit (.int .u8 0), .lit (.int .u8 0)], .agg [.lit (.int .u8 0), .lit (.int .u8 0)], .agg [.lit (.int .u8 0), .lit (.int .u8 0)], .agg [.lit (.int .u8 0), .lit (.int .u8 0)]]
/-- One of Go's own tables, pinned by name: the form's constant. -/
def laid_unicode_utf8_first : DataW Unit := Go.Pinned.utf8First

/-- 'ginnellaw18.ReplyTargetRoundTrip': WHATEVER THE INPUT: true; the input reads as it did. -/
def replyTargetRoundTripSpec : ChangeSpec := { name := "replyTargetRoundTrip", fn := fun _ => fun
  | [d1, d2, d3] => { results := [.lit (.bool true)], args := [d1, d2, d3] }
  | _ => none }
def replyTargetRoundTripRow : OpenClaim := { program := "ytiffpjlmgeklkaadoor", sum := "ffab3854d72bc9068c8446db12fb56e1d04ad977938b36e2fc83e27cd9a1af08", func := "ginnel/ginnellaw18.ReplyTargetRoundTrip", spec := "replyTargetRoundTrip", inPlace := ["internal/bytealg.IndexByteString", "internal/bytealg.IndexString"], named := ["unicode/utf8.first", "unicode/utf8.acceptRanges", "internal/bytealg.MaxLen"], apart := false, laid := [("unicode/utf8.acceptRanges", laid_unicode_utf8_acceptRanges), ("unicode/utf8.first", laid_unicode_utf8_first)] }
def ReplyTargetRoundTripSaid : Prop := replyTargetRoundTripRow.holds Tryd.pinned (OpenSpec.ofChange replyTargetRoundTripSpec)

/-- ITS FALSE NEIGHBOUR: 'it returns false'. Refute it at one input. -/
def replyTargetRoundTripWrong : ChangeSpec := { name := "replyTargetRoundTrip", fn := fun _ => fun
  | [d1, d2, d3] => { results := [.lit (.bool false)], args := [d1, d2, d3] }
  | _ => none }
def ReplyTargetRoundTripWrongFalsely : Prop := replyTargetRoundTripRow.holds Tryd.pinned (OpenSpec.ofChange replyTargetRoundTripWrong)

/-- 'ginnellaw18.ReplyParses': WHATEVER THE INPUT: true; the input reads as it did. -/
def replyParsesSpec : ChangeSpec := { name := "replyParses", fn := fun _ => fun
  | [d1, d2, d3, d4, d5] => { results := [.lit (.bool true)], args := [d1, d2, d3, d4, d5] }
  | _ => none }
def replyParsesRow : OpenClaim := { program := "ytiffpjlmgeklkaadoor", sum := "ffab3854d72bc9068c8446db12fb56e1d04ad977938b36e2fc83e27cd9a1af08", func := "ginnel/ginnellaw18.ReplyParses", spec := "replyParses", inPlace := ["internal/bytealg.IndexByteString", "internal/bytealg.IndexString"], named := ["unicode/utf8.first", "unicode/utf8.acceptRanges", "internal/bytealg.MaxLen"], apart := false, laid := [("unicode/utf8.acceptRanges", laid_unicode_utf8_acceptRanges), ("unicode/utf8.first", laid_unicode_utf8_first)] }
def ReplyParsesSaid : Prop := replyParsesRow.holds Tryd.pinned (OpenSpec.ofChange replyParsesSpec)

/-- ITS FALSE NEIGHBOUR: 'it returns false'. Refute it at one input. -/
def replyParsesWrong : ChangeSpec := { name := "replyParses", fn := fun _ => fun
  | [d1, d2, d3, d4, d5] => { results := [.lit (.bool false)], args := [d1, d2, d3, d4, d5] }
  | _ => none }
def ReplyParsesWrongFalsely : Prop := replyParsesRow.holds Tryd.pinned (OpenSpec.ofChange replyParsesWrong)

/-- 'ginnellaw18.ReplyRoundTrip': WHATEVER THE INPUT: true; the input reads as it did. -/
def replyRoundTripSpec : ChangeSpec := { name := "replyRoundTrip", fn := fun _ => fun
  | [d1, d2, d3] => { results := [.lit (.bool true)], args := [d1, d2, d3] }
  | _ => none }
def replyRoundTripRow : OpenClaim := { program := "ytiffpjlmgeklkaadoor", sum := "ffab3854d72bc9068c8446db12fb56e1d04ad977938b36e2fc83e27cd9a1af08", func := "ginnel/ginnellaw18.ReplyRoundTrip", spec := "replyRoundTrip", inPlace := ["internal/bytealg.IndexByteString", "internal/bytealg.IndexString"], named := ["unicode/utf8.first", "unicode/utf8.acceptRanges", "internal/bytealg.MaxLen"], apart := false, laid := [("unicode/utf8.acceptRanges", laid_unicode_utf8_acceptRanges), ("unicode/utf8.first", laid_unicode_utf8_first)] }
def ReplyRoundTripSaid : Prop := replyRoundTripRow.holds Tryd.pinned (OpenSpec.ofChange replyRoundTripSpec)

/-- ITS FALSE NEIGHBOUR: 'it returns false'. Refute it at one input. -/
def replyRoundTripWrong : ChangeSpec := { name := "replyRoundTrip", fn := fun _ => fun
  | [d1, d2, d3] => { results := [.lit (.bool false)], args := [d1, d2, d3] }
  | _ => none }
def ReplyRoundTripWrongFalsely : Prop := replyRoundTripRow.holds Tryd.pinned (OpenSpec.ofChange replyRoundTripWrong)

/-- 'ginnellaw18.ReplyIsIncremental': WHATEVER THE INPUT: true; the input reads as it did. -/
def replyIsIncrementalSpec : ChangeSpec := { name := "replyIsIncremental", fn := fun _ => fun
  | [d1, d2, d3, d4] => { results := [.lit (.bool true)], args := [d1, d2, d3, d4] }
  | _ => none }
def replyIsIncrementalRow : OpenClaim := { program := "ytiffpjlmgeklkaadoor", sum := "ffab3854d72bc9068c8446db12fb56e1d04ad977938b36e2fc83e27cd9a1af08", func := "ginnel/ginnellaw18.ReplyIsIncremental", spec := "replyIsIncremental", inPlace := ["internal/bytealg.IndexByteString", "internal/bytealg.IndexString"], named := ["unicode/utf8.first", "unicode/utf8.acceptRanges", "internal/bytealg.MaxLen"], apart := false, laid := [("unicode/utf8.acceptRanges", laid_unicode_utf8_acceptRanges), ("unicode/utf8.first", laid_unicode_utf8_first)] }
def ReplyIsIncrementalSaid : Prop := replyIsIncrementalRow.holds Tryd.pinned (OpenSpec.ofChange replyIsIncrementalSpec)

/-- ITS FALSE NEIGHBOUR: 'it returns false'. Refute it at one input. -/
def replyIsIncrementalWrong : ChangeSpec := { name := "replyIsIncremental", fn := fun _ => fun
  | [d1, d2, d3, d4] => { results := [.lit (.bool false)], args := [d1, d2, d3, d4] }
  | _ => none }
def ReplyIsIncrementalWrongFalsely : Prop := replyIsIncrementalRow.holds Tryd.pinned (OpenSpec.ofChange replyIsIncrementalWrong)

/-- 'ginnellaw19.RequestParses': WHATEVER THE INPUT: true; the input reads as it did. -/
def requestParsesSpec : ChangeSpec := { name := "requestParses", fn := fun _ => fun
  | [d1, d2, d3, d4, d5, d6] => { results := [.lit (.bool true)], args := [d1, d2, d3, d4, d5, d6] }
  | _ => none }
def requestParsesRow : OpenClaim := { program := "ytiffpjlmgeklkaadoor", sum := "ffab3854d72bc9068c8446db12fb56e1d04ad977938b36e2fc83e27cd9a1af08", func := "ginnel/ginnellaw19.RequestParses", spec := "requestParses", inPlace := ["internal/bytealg.CountString", "internal/bytealg.IndexByteString", "internal/bytealg.IndexString"], named := ["unicode/utf8.first", "unicode/utf8.acceptRanges", "internal/bytealg.MaxLen"], apart := false, laid := [("unicode/utf8.acceptRanges", laid_unicode_utf8_acceptRanges), ("unicode/utf8.first", laid_unicode_utf8_first)] }
def RequestParsesSaid : Prop := requestParsesRow.holds Tryd.pinned (OpenSpec.ofChange requestParsesSpec)

/-- ITS FALSE NEIGHBOUR: 'it returns false'. Refute it at one input. -/
def requestParsesWrong : ChangeSpec := { name := "requestParses", fn := fun _ => fun
  | [d1, d2, d3, d4, d5, d6] => { results := [.lit (.bool false)], args := [d1, d2, d3, d4, d5, d6] }
  | _ => none }
def RequestParsesWrongFalsely : Prop := requestParsesRow.holds Tryd.pinned (OpenSpec.ofChange requestParsesWrong)

/-- 'ginnellaw19.RequestNormalizesNames': WHATEVER THE INPUT: true; the input reads as it did. -/
def requestNormalizesNamesSpec : ChangeSpec := { name := "requestNormalizesNames", fn := fun _ => fun
  | [d1, d2, d3, d4] => { results := [.lit (.bool true)], args := [d1, d2, d3, d4] }
  | _ => none }
def requestNormalizesNamesRow : OpenClaim := { program := "ytiffpjlmgeklkaadoor", sum := "ffab3854d72bc9068c8446db12fb56e1d04ad977938b36e2fc83e27cd9a1af08", func := "ginnel/ginnellaw19.RequestNormalizesNames", spec := "requestNormalizesNames", inPlace := ["internal/bytealg.CountString", "internal/bytealg.IndexByteString", "internal/bytealg.IndexString"], named := ["unicode/utf8.first", "unicode/utf8.acceptRanges", "internal/bytealg.MaxLen"], apart := false, laid := [("unicode/utf8.acceptRanges", laid_unicode_utf8_acceptRanges), ("unicode/utf8.first", laid_unicode_utf8_first)] }
def RequestNormalizesNamesSaid : Prop := requestNormalizesNamesRow.holds Tryd.pinned (OpenSpec.ofChange requestNormalizesNamesSpec)

/-- ITS FALSE NEIGHBOUR: 'it returns false'. Refute it at one input. -/
def requestNormalizesNamesWrong : ChangeSpec := { name := "requestNormalizesNames", fn := fun _ => fun
  | [d1, d2, d3, d4] => { results := [.lit (.bool false)], args := [d1, d2, d3, d4] }
  | _ => none }
def RequestNormalizesNamesWrongFalsely : Prop := requestNormalizesNamesRow.holds Tryd.pinned (OpenSpec.ofChange requestNormalizesNamesWrong)

/-- 'ginnellaw19.RequestIsIncremental': WHATEVER THE INPUT: true; the input reads as it did. -/
def requestIsIncrementalSpec : ChangeSpec := { name := "requestIsIncremental", fn := fun _ => fun
  | [d1, d2, d3, d4] => { results := [.lit (.bool true)], args := [d1, d2, d3, d4] }
  | _ => none }
def requestIsIncrementalRow : OpenClaim := { program := "ytiffpjlmgeklkaadoor", sum := "ffab3854d72bc9068c8446db12fb56e1d04ad977938b36e2fc83e27cd9a1af08", func := "ginnel/ginnellaw19.RequestIsIncremental", spec := "requestIsIncremental", inPlace := ["internal/bytealg.CountString", "internal/bytealg.IndexByteString", "internal/bytealg.IndexString"], named := ["unicode/utf8.first", "unicode/utf8.acceptRanges", "internal/bytealg.MaxLen"], apart := false, laid := [("unicode/utf8.acceptRanges", laid_unicode_utf8_acceptRanges), ("unicode/utf8.first", laid_unicode_utf8_first)] }
def RequestIsIncrementalSaid : Prop := requestIsIncrementalRow.holds Tryd.pinned (OpenSpec.ofChange requestIsIncrementalSpec)

/-- ITS FALSE NEIGHBOUR: 'it returns false'. Refute it at one input. -/
def requestIsIncrementalWrong : ChangeSpec := { name := "requestIsIncremental", fn := fun _ => fun
  | [d1, d2, d3, d4] => { results := [.lit (.bool false)], args := [d1, d2, d3, d4] }
  | _ => none }
def RequestIsIncrementalWrongFalsely : Prop := requestIsIncrementalRow.holds Tryd.pinned (OpenSpec.ofChange requestIsIncrementalWrong)

/-- 'ginnellaw19.RequestRoundTrip': WHATEVER THE INPUT: true; the input reads as it did. -/
def requestRoundTripSpec : ChangeSpec := { name := "requestRoundTrip", fn := fun _ => fun
  | [d1, d2, d3, d4] => { results := [.lit (.bool true)], args := [d1, d2, d3, d4] }
  | _ => none }
def requestRoundTripRow : OpenClaim := { program := "ytiffpjlmgeklkaadoor", sum := "ffab3854d72bc9068c8446db12fb56e1d04ad977938b36e2fc83e27cd9a1af08", func := "ginnel/ginnellaw19.RequestRoundTrip", spec := "requestRoundTrip", inPlace := ["internal/bytealg.IndexByteString", "internal/bytealg.IndexString", "internal/bytealg.CountString"], named := ["unicode/utf8.first", "unicode/utf8.acceptRanges", "internal/bytealg.MaxLen"], apart := false, laid := [("unicode/utf8.acceptRanges", laid_unicode_utf8_acceptRanges), ("unicode/utf8.first", laid_unicode_utf8_first)] }
def RequestRoundTripSaid : Prop := requestRoundTripRow.holds Tryd.pinned (OpenSpec.ofChange requestRoundTripSpec)

/-- ITS FALSE NEIGHBOUR: 'it returns false'. Refute it at one input. -/
def requestRoundTripWrong : ChangeSpec := { name := "requestRoundTrip", fn := fun _ => fun
  | [d1, d2, d3, d4] => { results := [.lit (.bool false)], args := [d1, d2, d3, d4] }
  | _ => none }
def RequestRoundTripWrongFalsely : Prop := requestRoundTripRow.holds Tryd.pinned (OpenSpec.ofChange requestRoundTripWrong)

/- THE SECOND FORM. 'bulk': how many values and letters a reading holds, each counted each time it is reached (what is shared counts as often as it is met; a slice's spare places count too). A statement '..UptoSaid' is the law's where the arguments, and the package variables that the reading takes, are together of bulk at most 1048576: NARROWER than '..Said'. Prove '..Said' where nothing that the law and all that it calls make is longer than what came in: it says more and counts as full. Else prove '..UptoSaid'. A law counts once. -/
mutual
def uptoBulk {H : Type} : DataW H → Nat
  | .lit (.string bytes) => bytes.length + 1
  | .lit _ => 1
  | .nil => 1
  | .ptr d => uptoBulk d + 1
  | .slice elems spare => uptoBulkAll elems + uptoBulkAll spare + 1
  | .agg parts => uptoBulkAll parts + 1
  | .iface _ d => uptoBulk d + 1
  | .map entries => uptoBulkEntries entries + 1
  | .held _ => 1
def uptoBulkAll {H : Type} : List (DataW H) → Nat
  | [] => 0
  | d :: r => uptoBulk d + uptoBulkAll r
def uptoBulkEntries {H : Type} : List (Lit × DataW H) → Nat
  | [] => 0
  | x :: r => uptoBulkEntry x + uptoBulkEntries r
def uptoBulkEntry {H : Type} : Lit × DataW H → Nat
  | (.string bytes, d) => bytes.length + uptoBulk d + 1
  | (_, d) => uptoBulk d + 1
 end
def uptoSmall : (H : Type) → List (DataW H) → Bool := fun _ ds => decide (uptoBulkAll ds ≤ 1048576)
def OpenSpec.upto (s : _root_.Go.ChangeSpec) : _root_.Go.OpenSpec := { _root_.Go.OpenSpec.ofChange s with cond := some uptoSmall }

/-- 'ginnellaw18.ReplyTargetRoundTrip', WHERE WHAT IT READS IS OF BULK AT MOST 1048576: true; the input reads as it did. -/
def replyTargetRoundTripUptoRow : OpenClaim := { program := "ytiffpjlmgeklkaadoor", sum := "ffab3854d72bc9068c8446db12fb56e1d04ad977938b36e2fc83e27cd9a1af08", func := "ginnel/ginnellaw18.ReplyTargetRoundTrip", spec := "replyTargetRoundTrip", inPlace := ["internal/bytealg.IndexByteString", "internal/bytealg.IndexString"], named := ["unicode/utf8.first", "unicode/utf8.acceptRanges", "internal/bytealg.MaxLen"], apart := false, laid := [("unicode/utf8.acceptRanges", laid_unicode_utf8_acceptRanges), ("unicode/utf8.first", laid_unicode_utf8_first)], narrowed := true }
def ReplyTargetRoundTripUptoSaid : Prop := replyTargetRoundTripUptoRow.holds Tryd.pinned (OpenSpec.upto replyTargetRoundTripSpec)

/-- 'ginnellaw18.ReplyParses', WHERE WHAT IT READS IS OF BULK AT MOST 1048576: true; the input reads as it did. -/
def replyParsesUptoRow : OpenClaim := { program := "ytiffpjlmgeklkaadoor", sum := "ffab3854d72bc9068c8446db12fb56e1d04ad977938b36e2fc83e27cd9a1af08", func := "ginnel/ginnellaw18.ReplyParses", spec := "replyParses", inPlace := ["internal/bytealg.IndexByteString", "internal/bytealg.IndexString"], named := ["unicode/utf8.first", "unicode/utf8.acceptRanges", "internal/bytealg.MaxLen"], apart := false, laid := [("unicode/utf8.acceptRanges", laid_unicode_utf8_acceptRanges), ("unicode/utf8.first", laid_unicode_utf8_first)], narrowed := true }
def ReplyParsesUptoSaid : Prop := replyParsesUptoRow.holds Tryd.pinned (OpenSpec.upto replyParsesSpec)

/-- 'ginnellaw18.ReplyRoundTrip', WHERE WHAT IT READS IS OF BULK AT MOST 1048576: true; the input reads as it did. -/
def replyRoundTripUptoRow : OpenClaim := { program := "ytiffpjlmgeklkaadoor", sum := "ffab3854d72bc9068c8446db12fb56e1d04ad977938b36e2fc83e27cd9a1af08", func := "ginnel/ginnellaw18.ReplyRoundTrip", spec := "replyRoundTrip", inPlace := ["internal/bytealg.IndexByteString", "internal/bytealg.IndexString"], named := ["unicode/utf8.first", "unicode/utf8.acceptRanges", "internal/bytealg.MaxLen"], apart := false, laid := [("unicode/utf8.acceptRanges", laid_unicode_utf8_acceptRanges), ("unicode/utf8.first", laid_unicode_utf8_first)], narrowed := true }
def ReplyRoundTripUptoSaid : Prop := replyRoundTripUptoRow.holds Tryd.pinned (OpenSpec.upto replyRoundTripSpec)

/-- 'ginnellaw18.ReplyIsIncremental', WHERE WHAT IT READS IS OF BULK AT MOST 1048576: true; the input reads as it did. -/
def replyIsIncrementalUptoRow : OpenClaim := { program := "ytiffpjlmgeklkaadoor", sum := "ffab3854d72bc9068c8446db12fb56e1d04ad977938b36e2fc83e27cd9a1af08", func := "ginnel/ginnellaw18.ReplyIsIncremental", spec := "replyIsIncremental", inPlace := ["internal/bytealg.IndexByteString", "internal/bytealg.IndexString"], named := ["unicode/utf8.first", "unicode/utf8.acceptRanges", "internal/bytealg.MaxLen"], apart := false, laid := [("unicode/utf8.acceptRanges", laid_unicode_utf8_acceptRanges), ("unicode/utf8.first", laid_unicode_utf8_first)], narrowed := true }
def ReplyIsIncrementalUptoSaid : Prop := replyIsIncrementalUptoRow.holds Tryd.pinned (OpenSpec.upto replyIsIncrementalSpec)

/-- 'ginnellaw19.RequestParses', WHERE WHAT IT READS IS OF BULK AT MOST 1048576: true; the input reads as it did. -/
def requestParsesUptoRow : OpenClaim := { program := "ytiffpjlmgeklkaadoor", sum := "ffab3854d72bc9068c8446db12fb56e1d04ad977938b36e2fc83e27cd9a1af08", func := "ginnel/ginnellaw19.RequestParses", spec := "requestParses", inPlace := ["internal/bytealg.CountString", "internal/bytealg.IndexByteString", "internal/bytealg.IndexString"], named := ["unicode/utf8.first", "unicode/utf8.acceptRanges", "internal/bytealg.MaxLen"], apart := false, laid := [("unicode/utf8.acceptRanges", laid_unicode_utf8_acceptRanges), ("unicode/utf8.first", laid_unicode_utf8_first)], narrowed := true }
def RequestParsesUptoSaid : Prop := requestParsesUptoRow.holds Tryd.pinned (OpenSpec.upto requestParsesSpec)

/-- 'ginnellaw19.RequestNormalizesNames', WHERE WHAT IT READS IS OF BULK AT MOST 1048576: true; the input reads as it did. -/
def requestNormalizesNamesUptoRow : OpenClaim := { program := "ytiffpjlmgeklkaadoor", sum := "ffab3854d72bc9068c8446db12fb56e1d04ad977938b36e2fc83e27cd9a1af08", func := "ginnel/ginnellaw19.RequestNormalizesNames", spec := "requestNormalizesNames", inPlace := ["internal/bytealg.CountString", "internal/bytealg.IndexByteString", "internal/bytealg.IndexString"], named := ["unicode/utf8.first", "unicode/utf8.acceptRanges", "internal/bytealg.MaxLen"], apart := false, laid := [("unicode/utf8.acceptRanges", laid_unicode_utf8_acceptRanges), ("unicode/utf8.first", laid_unicode_utf8_first)], narrowed := true }
def RequestNormalizesNamesUptoSaid : Prop := requestNormalizesNamesUptoRow.holds Tryd.pinned (OpenSpec.upto requestNormalizesNamesSpec)

/-- 'ginnellaw19.RequestIsIncremental', WHERE WHAT IT READS IS OF BULK AT MOST 1048576: true; the input reads as it did. -/
def requestIsIncrementalUptoRow : OpenClaim := { program := "ytiffpjlmgeklkaadoor", sum := "ffab3854d72bc9068c8446db12fb56e1d04ad977938b36e2fc83e27cd9a1af08", func := "ginnel/ginnellaw19.RequestIsIncremental", spec := "requestIsIncremental", inPlace := ["internal/bytealg.CountString", "internal/bytealg.IndexByteString", "internal/bytealg.IndexString"], named := ["unicode/utf8.first", "unicode/utf8.acceptRanges", "internal/bytealg.MaxLen"], apart := false, laid := [("unicode/utf8.acceptRanges", laid_unicode_utf8_acceptRanges), ("unicode/utf8.first", laid_unicode_utf8_first)], narrowed := true }
def RequestIsIncrementalUptoSaid : Prop := requestIsIncrementalUptoRow.holds Tryd.pinned (OpenSpec.upto requestIsIncrementalSpec)

/-- 'ginnellaw19.RequestRoundTrip', WHERE WHAT IT READS IS OF BULK AT MOST 1048576: true; the input reads as it did. -/
def requestRoundTripUptoRow : OpenClaim := { program := "ytiffpjlmgeklkaadoor", sum := "ffab3854d72bc9068c8446db12fb56e1d04ad977938b36e2fc83e27cd9a1af08", func := "ginnel/ginnellaw19.RequestRoundTrip", spec := "requestRoundTrip", inPlace := ["internal/bytealg.IndexByteString", "internal/bytealg.IndexString", "internal/bytealg.CountString"], named := ["unicode/utf8.first", "unicode/utf8.acceptRanges", "internal/bytealg.MaxLen"], apart := false, laid := [("unicode/utf8.acceptRanges", laid_unicode_utf8_acceptRanges), ("unicode/utf8.first", laid_unicode_utf8_first)], narrowed := true }
def RequestRoundTripUptoSaid : Prop := requestRoundTripUptoRow.holds Tryd.pinned (OpenSpec.upto requestRoundTripSpec)

end Rows
end Go.Proofs.YtiffpjlmgeklkaaDoor
