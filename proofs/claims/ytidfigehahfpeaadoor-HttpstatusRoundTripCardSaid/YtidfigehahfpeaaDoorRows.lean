/-
  NARROWER THAN 'FOR EVERY INPUT', by the rows' own cells (each row's printed sentence says how): HttpstatusFormats: laid · HttpstatusRoundTrip: laid · BasicauthBase64Encoding: laid · BasicauthBase64RoundTrip: laid · BasicauthBase64IsStrict: laid · BasicauthParsesHeader: laid · BasicauthRoundTrip: laid · ReasonCodes: laid · ReasonReplies: laid · ReasonPrimaryIsOrderFree: laid.
  DERIVED. THE GIVEN ROWS OF THIS SEAT. 10 by the template 'for every input the law returns true; each argument reads behind the call as it read before'; 0 by the template 'total and deterministic' (their statements: YtidfigehahfpeaaDoorTotals.lean).
  GIVEN WITH THE SEED: the statements are not yours to turn. If you find one false, say at which input.
  Laid BY PROGRAM, IN A SANDBOX (cutbox-rows.mjs): the forced cells as the released guide's own fill.sh prints them over the translation fd92088b2d307aa8… (all of the seat's roots in one cut). By AI agents, Wed Nov 11 2026. No macro, syntax, notation, axiom, sorry.
-/
import Derived.Test.YtidfigehahfpeaaDoorChecked
import GoSem.PinnedTables
import GoSem.Claim
import GoSem.ClaimJoined
import GoSem.ClaimMapViews
import Derived.JoinedTies
import Derived.KernelRfl
namespace Go.Proofs.YtidfigehahfpeaaDoor
/- THE CELL 'sum', in the pinned program and in every row, IS THE sha256 OF THE DUMP (.gsa) THAT YtidfigehahfpeaaDoorProg.lean LOADS. Nothing in Lean hashes anything: it is a label: what it is worth is what the hold of that sum in a sandbox is worth. -/
noncomputable def Tryd.pinned : Pinned := { name := "ytidfigehahfpeaadoor", sum := "fd92088b2d307aa88f8d59bf52f3ebc5f16272dd8d4a6e62818349b59ae0ad0e", checked := Tryd.checked }
namespace Rows
def none {H : Type} : Left H := { results := [], args := [] }

/- WHAT THE LISTED PACKAGE-LEVEL VARIABLES READ AS WHEN THE CALL BEGINS. Each datum BY PROGRAM (the guide's laid-datum.mjs) off the statement by which the dump's own 'gosem.cut.vars' lays the variable. In a bare row this is a premise. The card (YtidfigehahfpeaaDoorCards.lean) ties it to the program's text. -/
def laid_math_bits_deBruijn32tab {H : Type} : DataW H := .agg [.lit (.int .u8 0), .lit (.int .u8 1), .lit (.int .u8 28), .lit (.int .u8 2), .lit (.int .u8 29), .lit (.int .u8 14), .lit (.int .u8 24), .lit (.int .u8 3), .lit (.int .u8 30), .lit (.int .u8 22), .lit (.int .u8 20), .lit (.int .u8 15), .lit (.int .u8 25), .lit (.int .u8 17), .lit (.int .u8 4), .lit (.int .u8 8), .lit (.int .u8 31), .lit (.int .u8 27), .lit (.int .u8 13), .lit (.int .u8 23), .lit (.int .u8 21), .lit (.int .u8 19), .lit (.int .u8 16), .lit (.int .u8 7), .lit (.int .u8 26), .lit (.int .u8 12), .lit (.int .u8 18), .lit (.int .u8 6), .lit (.int .u8 11), .lit (.int .u8 5), .lit (.int .u8 10), .lit (.int .u8 9)]
def laid_math_bits_deBruijn64tab {H : Type} : DataW H := .agg [.lit (.int .u8 0), .lit (.int .u8 1), .lit (.int .u8 56), .lit (.int .u8 2), .lit (.int .u8 57), .lit (.int .u8 49), .lit (.int .u8 28), .lit (.int .u8 3), .lit (.int .u8 61), .lit (.int .u8 58), .lit (.int .u8 42), .lit (.int .u8 50), .lit (.int .u8 38), .lit (.int .u8 29), .lit (.int .u8 17), .lit (.int .u8 4), .lit (.int .u8 62), .lit (.int .u8 47), .lit (.int .u8 59), .lit (.int .u8 36), .lit (.int .u8 45), .lit (.int .u8 43), .lit (.int .u8 51), .lit (.int .u8 22), .lit (.int .u8 53), .lit (.int .u8 39), .lit (.int .u8 33), .lit (.int .u8 30), .lit (.int .u8 24), .lit (.int .u8 18), .lit (.int .u8 12), .lit (.int .u8 5), .lit (.int .u8 63), .lit (.int .u8 55), .lit (.int .u8 48), .lit (.int .u8 27), .lit (.int .u8 60), .lit (.int .u8 41), .lit (.int .u8 37), .lit (.int .u8 16), .lit (.int .u8 46), .lit (.int .u8 35), .lit (.int .u8 44), .lit (.int .u8 21), .lit (.int .u8 52), .lit (.int .u8 32), .lit (.int .u8 23), .lit (.int .u8 11), .lit (.int .u8 54), .lit (.int .u8 26), .lit (.int .u8 40), .lit (.int .u8 15), .lit (.int .u8 34), .lit (.int .u8 20), .lit (.int .u8 31), .lit (.int .u8 10), .lit (.int .u8 25), .lit (.int .u8 14), .lit (.int .u8 19), .lit (.int .u8 9), .lit (.int .u8 13), .lit (.int .u8 8), .lit (.int .u8 7), .lit (.int .u8 6)]
def laid_internal_strconv_uint64pow10 {H : Type} : DataW H := .agg [.lit (.int .u64 1), .lit (.int .u64 10), .lit (.int .u64 100), .lit (.int .u64 1000), .lit (.int .u64 10000), .lit (.int .u64 100000), .lit (.int .u64 1000000), .lit (.int .u64 10000000), .lit (.int .u64 100000000), .lit (.int .u64 1000000000), .lit (.int .u64 10000000000), .lit (.int .u64 100000000000), .lit (.int .u64 1000000000000), .lit (.int .u64 10000000000000), .lit (.int .u64 100000000000000), .lit (.int .u64 1000000000000000), .lit (.int .u64 10000000000000000), .lit (.int .u64 100000000000000000), .lit (.int .u64 1000000000000000000), .lit (.int .u64 10000000000000000000)]
def laid_unicode_utf8_acceptRanges {H : Type} : DataW H := .agg [.agg [.lit (.int .u8 128), .lit (.int .u8 191)], .agg [.lit (.int .u8 160), .lit (.int .u8 191)], .agg [.lit (.int .u8 128), .lit (.int .u8 159)], .agg [.lit (.int .u8 144), .lit (.int .u8 191)], .agg [.lit (.int .u8 128), .lit (.int .u8 143)], .agg [.lit (.int .u8 0), .lit (.int .u8 0)], .agg [.lit (.int .u8 0), .lit (.int .u8 0)], .agg [.lit (.int .u8 0), .lit (.int .u8 0)], .agg [.lit (.int .u8 0), .lit (.int .u8 0)], .agg [.lit (.int .u8 0), .lit (.int .u8 0)], .agg [.lit (.int .u8 0), .lit (.int .u8 0)], .agg [.lit (.int .u8 0), .lit (.int .u8 0)], .agg [.lit (.int .u8 0), .lit (.int .u8 0)], .agg [.lit (.int .u8 0), .lit (.int .u8 0)], .agg [.lit (.int .u8 0), .lit (.int .u8 0)], .agg [.lit (.int .u8 0), .lit (.int .u8 0)]]
/-- One of Go's own tables, pinned by name: the form's constant. -/
def laid_unicode_utf8_first : DataW Unit := Go.Pinned.utf8First

/-- 'ginnellaw21.HttpstatusFormats': WHATEVER THE INPUT: true; the input reads as it did. -/
def httpstatusFormatsSpec : ChangeSpec := { name := "httpstatusFormats", fn := fun _ => fun
  | [d] => { results := [.lit (.bool true)], args := [d] }
  | _ => none }
def httpstatusFormatsRow : OpenClaim := { program := "ytidfigehahfpeaadoor", sum := "fd92088b2d307aa88f8d59bf52f3ebc5f16272dd8d4a6e62818349b59ae0ad0e", func := "ginnel/ginnellaw21.HttpstatusFormats", spec := "httpstatusFormats", recurses := true, named := ["internal/strconv.uint64pow10", "math/bits.deBruijn32tab", "math/bits.deBruijn64tab"], apart := false, laid := [("math/bits.deBruijn32tab", laid_math_bits_deBruijn32tab), ("math/bits.deBruijn64tab", laid_math_bits_deBruijn64tab), ("internal/strconv.uint64pow10", laid_internal_strconv_uint64pow10)] }
def HttpstatusFormatsSaid : Prop := httpstatusFormatsRow.holds Tryd.pinned (OpenSpec.ofChange httpstatusFormatsSpec)

/-- ITS FALSE NEIGHBOUR: 'it returns false'. Refute it at one input. -/
def httpstatusFormatsWrong : ChangeSpec := { name := "httpstatusFormats", fn := fun _ => fun
  | [d] => { results := [.lit (.bool false)], args := [d] }
  | _ => none }
def HttpstatusFormatsWrongFalsely : Prop := httpstatusFormatsRow.holds Tryd.pinned (OpenSpec.ofChange httpstatusFormatsWrong)

/-- 'ginnellaw21.HttpstatusRoundTrip': WHATEVER THE INPUT: true; the input reads as it did. -/
def httpstatusRoundTripSpec : ChangeSpec := { name := "httpstatusRoundTrip", fn := fun _ => fun
  | [d1, d2, d3] => { results := [.lit (.bool true)], args := [d1, d2, d3] }
  | _ => none }
def httpstatusRoundTripRow : OpenClaim := { program := "ytidfigehahfpeaadoor", sum := "fd92088b2d307aa88f8d59bf52f3ebc5f16272dd8d4a6e62818349b59ae0ad0e", func := "ginnel/ginnellaw21.HttpstatusRoundTrip", spec := "httpstatusRoundTrip", recurses := true, named := ["internal/strconv.uint64pow10", "math/bits.deBruijn32tab", "math/bits.deBruijn64tab"], apart := false, laid := [("math/bits.deBruijn32tab", laid_math_bits_deBruijn32tab), ("math/bits.deBruijn64tab", laid_math_bits_deBruijn64tab), ("internal/strconv.uint64pow10", laid_internal_strconv_uint64pow10)] }
def HttpstatusRoundTripSaid : Prop := httpstatusRoundTripRow.holds Tryd.pinned (OpenSpec.ofChange httpstatusRoundTripSpec)

/-- ITS FALSE NEIGHBOUR: 'it returns false'. Refute it at one input. -/
def httpstatusRoundTripWrong : ChangeSpec := { name := "httpstatusRoundTrip", fn := fun _ => fun
  | [d1, d2, d3] => { results := [.lit (.bool false)], args := [d1, d2, d3] }
  | _ => none }
def HttpstatusRoundTripWrongFalsely : Prop := httpstatusRoundTripRow.holds Tryd.pinned (OpenSpec.ofChange httpstatusRoundTripWrong)

/-- 'ginnellaw15.BasicauthBase64Encoding': WHATEVER THE INPUT: true; the input reads as it did. -/
def basicauthBase64EncodingSpec : ChangeSpec := { name := "basicauthBase64Encoding", fn := fun _ => fun
  | [d1, d2] => { results := [.lit (.bool true)], args := [d1, d2] }
  | _ => none }
def basicauthBase64EncodingRow : OpenClaim := { program := "ytidfigehahfpeaadoor", sum := "fd92088b2d307aa88f8d59bf52f3ebc5f16272dd8d4a6e62818349b59ae0ad0e", func := "ginnel/ginnellaw15.BasicauthBase64Encoding", spec := "basicauthBase64Encoding", inPlace := ["internal/bytealg.IndexByteString", "internal/bytealg.IndexString"], named := ["unicode/utf8.first", "unicode/utf8.acceptRanges", "internal/bytealg.MaxLen"], apart := false, laid := [("unicode/utf8.acceptRanges", laid_unicode_utf8_acceptRanges), ("unicode/utf8.first", laid_unicode_utf8_first)] }
def BasicauthBase64EncodingSaid : Prop := basicauthBase64EncodingRow.holds Tryd.pinned (OpenSpec.ofChange basicauthBase64EncodingSpec)

/-- ITS FALSE NEIGHBOUR: 'it returns false'. Refute it at one input. -/
def basicauthBase64EncodingWrong : ChangeSpec := { name := "basicauthBase64Encoding", fn := fun _ => fun
  | [d1, d2] => { results := [.lit (.bool false)], args := [d1, d2] }
  | _ => none }
def BasicauthBase64EncodingWrongFalsely : Prop := basicauthBase64EncodingRow.holds Tryd.pinned (OpenSpec.ofChange basicauthBase64EncodingWrong)

/-- 'ginnellaw15.BasicauthBase64RoundTrip': WHATEVER THE INPUT: true; the input reads as it did. -/
def basicauthBase64RoundTripSpec : ChangeSpec := { name := "basicauthBase64RoundTrip", fn := fun _ => fun
  | [d1, d2, d3] => { results := [.lit (.bool true)], args := [d1, d2, d3] }
  | _ => none }
def basicauthBase64RoundTripRow : OpenClaim := { program := "ytidfigehahfpeaadoor", sum := "fd92088b2d307aa88f8d59bf52f3ebc5f16272dd8d4a6e62818349b59ae0ad0e", func := "ginnel/ginnellaw15.BasicauthBase64RoundTrip", spec := "basicauthBase64RoundTrip", inPlace := ["internal/bytealg.IndexByteString", "internal/bytealg.IndexString"], named := ["unicode/utf8.first", "unicode/utf8.acceptRanges", "internal/bytealg.MaxLen"], apart := false, laid := [("unicode/utf8.acceptRanges", laid_unicode_utf8_acceptRanges), ("unicode/utf8.first", laid_unicode_utf8_first)] }
def BasicauthBase64RoundTripSaid : Prop := basicauthBase64RoundTripRow.holds Tryd.pinned (OpenSpec.ofChange basicauthBase64RoundTripSpec)

/-- ITS FALSE NEIGHBOUR: 'it returns false'. Refute it at one input. -/
def basicauthBase64RoundTripWrong : ChangeSpec := { name := "basicauthBase64RoundTrip", fn := fun _ => fun
  | [d1, d2, d3] => { results := [.lit (.bool false)], args := [d1, d2, d3] }
  | _ => none }
def BasicauthBase64RoundTripWrongFalsely : Prop := basicauthBase64RoundTripRow.holds Tryd.pinned (OpenSpec.ofChange basicauthBase64RoundTripWrong)

/-- 'ginnellaw15.BasicauthBase64IsStrict': WHATEVER THE INPUT: true; the input reads as it did. -/
def basicauthBase64IsStrictSpec : ChangeSpec := { name := "basicauthBase64IsStrict", fn := fun _ => fun
  | [d1, d2] => { results := [.lit (.bool true)], args := [d1, d2] }
  | _ => none }
def basicauthBase64IsStrictRow : OpenClaim := { program := "ytidfigehahfpeaadoor", sum := "fd92088b2d307aa88f8d59bf52f3ebc5f16272dd8d4a6e62818349b59ae0ad0e", func := "ginnel/ginnellaw15.BasicauthBase64IsStrict", spec := "basicauthBase64IsStrict", inPlace := ["internal/bytealg.IndexByteString", "internal/bytealg.IndexString"], named := ["unicode/utf8.first", "unicode/utf8.acceptRanges", "internal/bytealg.MaxLen"], apart := false, laid := [("unicode/utf8.acceptRanges", laid_unicode_utf8_acceptRanges), ("unicode/utf8.first", laid_unicode_utf8_first)] }
def BasicauthBase64IsStrictSaid : Prop := basicauthBase64IsStrictRow.holds Tryd.pinned (OpenSpec.ofChange basicauthBase64IsStrictSpec)

/-- ITS FALSE NEIGHBOUR: 'it returns false'. Refute it at one input. -/
def basicauthBase64IsStrictWrong : ChangeSpec := { name := "basicauthBase64IsStrict", fn := fun _ => fun
  | [d1, d2] => { results := [.lit (.bool false)], args := [d1, d2] }
  | _ => none }
def BasicauthBase64IsStrictWrongFalsely : Prop := basicauthBase64IsStrictRow.holds Tryd.pinned (OpenSpec.ofChange basicauthBase64IsStrictWrong)

/-- 'ginnellaw15.BasicauthParsesHeader': WHATEVER THE INPUT: true; the input reads as it did. -/
def basicauthParsesHeaderSpec : ChangeSpec := { name := "basicauthParsesHeader", fn := fun _ => fun
  | [d1, d2, d3, d4] => { results := [.lit (.bool true)], args := [d1, d2, d3, d4] }
  | _ => none }
def basicauthParsesHeaderRow : OpenClaim := { program := "ytidfigehahfpeaadoor", sum := "fd92088b2d307aa88f8d59bf52f3ebc5f16272dd8d4a6e62818349b59ae0ad0e", func := "ginnel/ginnellaw15.BasicauthParsesHeader", spec := "basicauthParsesHeader", inPlace := ["internal/bytealg.IndexByteString", "internal/bytealg.IndexString"], named := ["internal/bytealg.MaxLen", "unicode/utf8.first", "unicode/utf8.acceptRanges"], apart := false, laid := [("unicode/utf8.acceptRanges", laid_unicode_utf8_acceptRanges), ("unicode/utf8.first", laid_unicode_utf8_first)] }
def BasicauthParsesHeaderSaid : Prop := basicauthParsesHeaderRow.holds Tryd.pinned (OpenSpec.ofChange basicauthParsesHeaderSpec)

/-- ITS FALSE NEIGHBOUR: 'it returns false'. Refute it at one input. -/
def basicauthParsesHeaderWrong : ChangeSpec := { name := "basicauthParsesHeader", fn := fun _ => fun
  | [d1, d2, d3, d4] => { results := [.lit (.bool false)], args := [d1, d2, d3, d4] }
  | _ => none }
def BasicauthParsesHeaderWrongFalsely : Prop := basicauthParsesHeaderRow.holds Tryd.pinned (OpenSpec.ofChange basicauthParsesHeaderWrong)

/-- 'ginnellaw15.BasicauthRoundTrip': WHATEVER THE INPUT: true; the input reads as it did. -/
def basicauthRoundTripSpec : ChangeSpec := { name := "basicauthRoundTrip", fn := fun _ => fun
  | [d1, d2] => { results := [.lit (.bool true)], args := [d1, d2] }
  | _ => none }
def basicauthRoundTripRow : OpenClaim := { program := "ytidfigehahfpeaadoor", sum := "fd92088b2d307aa88f8d59bf52f3ebc5f16272dd8d4a6e62818349b59ae0ad0e", func := "ginnel/ginnellaw15.BasicauthRoundTrip", spec := "basicauthRoundTrip", inPlace := ["internal/bytealg.IndexByteString", "internal/bytealg.IndexString"], named := ["internal/bytealg.MaxLen", "unicode/utf8.first", "unicode/utf8.acceptRanges"], apart := false, laid := [("unicode/utf8.acceptRanges", laid_unicode_utf8_acceptRanges), ("unicode/utf8.first", laid_unicode_utf8_first)] }
def BasicauthRoundTripSaid : Prop := basicauthRoundTripRow.holds Tryd.pinned (OpenSpec.ofChange basicauthRoundTripSpec)

/-- ITS FALSE NEIGHBOUR: 'it returns false'. Refute it at one input. -/
def basicauthRoundTripWrong : ChangeSpec := { name := "basicauthRoundTrip", fn := fun _ => fun
  | [d1, d2] => { results := [.lit (.bool false)], args := [d1, d2] }
  | _ => none }
def BasicauthRoundTripWrongFalsely : Prop := basicauthRoundTripRow.holds Tryd.pinned (OpenSpec.ofChange basicauthRoundTripWrong)

/-- 'ginnellaw22.ReasonCodes': WHATEVER THE INPUT: true; the input reads as it did. -/
def reasonCodesSpec : ChangeSpec := { name := "reasonCodes", fn := fun _ => fun
  | [d] => { results := [.lit (.bool true)], args := [d] }
  | _ => none }
def reasonCodesRow : OpenClaim := { program := "ytidfigehahfpeaadoor", sum := "fd92088b2d307aa88f8d59bf52f3ebc5f16272dd8d4a6e62818349b59ae0ad0e", func := "ginnel/ginnellaw22.ReasonCodes", spec := "reasonCodes", inPlace := ["internal/bytealg.IndexByteString", "internal/bytealg.IndexString"], named := ["unicode/utf8.first", "unicode/utf8.acceptRanges", "internal/strconv.uint64pow10", "math/bits.deBruijn32tab", "math/bits.deBruijn64tab", "internal/bytealg.MaxLen"], apart := false, laid := [("math/bits.deBruijn32tab", laid_math_bits_deBruijn32tab), ("math/bits.deBruijn64tab", laid_math_bits_deBruijn64tab), ("internal/strconv.uint64pow10", laid_internal_strconv_uint64pow10), ("unicode/utf8.acceptRanges", laid_unicode_utf8_acceptRanges), ("unicode/utf8.first", laid_unicode_utf8_first)] }
def ReasonCodesSaid : Prop := reasonCodesRow.holds Tryd.pinned (OpenSpec.ofChange reasonCodesSpec)

/-- ITS FALSE NEIGHBOUR: 'it returns false'. Refute it at one input. -/
def reasonCodesWrong : ChangeSpec := { name := "reasonCodes", fn := fun _ => fun
  | [d] => { results := [.lit (.bool false)], args := [d] }
  | _ => none }
def ReasonCodesWrongFalsely : Prop := reasonCodesRow.holds Tryd.pinned (OpenSpec.ofChange reasonCodesWrong)

/-- 'ginnellaw22.ReasonReplies': WHATEVER THE INPUT: true; the input reads as it did. -/
def reasonRepliesSpec : ChangeSpec := { name := "reasonReplies", fn := fun _ => fun
  | [d1, d2] => { results := [.lit (.bool true)], args := [d1, d2] }
  | _ => none }
def reasonRepliesRow : OpenClaim := { program := "ytidfigehahfpeaadoor", sum := "fd92088b2d307aa88f8d59bf52f3ebc5f16272dd8d4a6e62818349b59ae0ad0e", func := "ginnel/ginnellaw22.ReasonReplies", spec := "reasonReplies", inPlace := ["internal/bytealg.IndexByteString", "internal/bytealg.IndexString"], recurses := true, named := ["unicode/utf8.first", "unicode/utf8.acceptRanges", "internal/strconv.uint64pow10", "math/bits.deBruijn32tab", "math/bits.deBruijn64tab", "internal/bytealg.MaxLen"], apart := false, laid := [("math/bits.deBruijn32tab", laid_math_bits_deBruijn32tab), ("math/bits.deBruijn64tab", laid_math_bits_deBruijn64tab), ("internal/strconv.uint64pow10", laid_internal_strconv_uint64pow10), ("unicode/utf8.acceptRanges", laid_unicode_utf8_acceptRanges), ("unicode/utf8.first", laid_unicode_utf8_first)] }
def ReasonRepliesSaid : Prop := reasonRepliesRow.holds Tryd.pinned (OpenSpec.ofChange reasonRepliesSpec)

/-- ITS FALSE NEIGHBOUR: 'it returns false'. Refute it at one input. -/
def reasonRepliesWrong : ChangeSpec := { name := "reasonReplies", fn := fun _ => fun
  | [d1, d2] => { results := [.lit (.bool false)], args := [d1, d2] }
  | _ => none }
def ReasonRepliesWrongFalsely : Prop := reasonRepliesRow.holds Tryd.pinned (OpenSpec.ofChange reasonRepliesWrong)

/-- 'ginnellaw22.ReasonPrimaryIsOrderFree': WHATEVER THE INPUT: true; the input reads as it did. -/
def reasonPrimaryIsOrderFreeSpec : ChangeSpec := { name := "reasonPrimaryIsOrderFree", fn := fun _ => fun
  | [d1, d2] => { results := [.lit (.bool true)], args := [d1, d2] }
  | _ => none }
def reasonPrimaryIsOrderFreeRow : OpenClaim := { program := "ytidfigehahfpeaadoor", sum := "fd92088b2d307aa88f8d59bf52f3ebc5f16272dd8d4a6e62818349b59ae0ad0e", func := "ginnel/ginnellaw22.ReasonPrimaryIsOrderFree", spec := "reasonPrimaryIsOrderFree", inPlace := ["internal/bytealg.IndexByteString", "internal/bytealg.IndexString"], named := ["unicode/utf8.first", "unicode/utf8.acceptRanges", "internal/strconv.uint64pow10", "math/bits.deBruijn32tab", "math/bits.deBruijn64tab", "internal/bytealg.MaxLen"], apart := false, laid := [("math/bits.deBruijn32tab", laid_math_bits_deBruijn32tab), ("math/bits.deBruijn64tab", laid_math_bits_deBruijn64tab), ("internal/strconv.uint64pow10", laid_internal_strconv_uint64pow10), ("unicode/utf8.acceptRanges", laid_unicode_utf8_acceptRanges), ("unicode/utf8.first", laid_unicode_utf8_first)] }
def ReasonPrimaryIsOrderFreeSaid : Prop := reasonPrimaryIsOrderFreeRow.holds Tryd.pinned (OpenSpec.ofChange reasonPrimaryIsOrderFreeSpec)

/-- ITS FALSE NEIGHBOUR: 'it returns false'. Refute it at one input. -/
def reasonPrimaryIsOrderFreeWrong : ChangeSpec := { name := "reasonPrimaryIsOrderFree", fn := fun _ => fun
  | [d1, d2] => { results := [.lit (.bool false)], args := [d1, d2] }
  | _ => none }
def ReasonPrimaryIsOrderFreeWrongFalsely : Prop := reasonPrimaryIsOrderFreeRow.holds Tryd.pinned (OpenSpec.ofChange reasonPrimaryIsOrderFreeWrong)

/- THE SECOND FORM. 'bulk': how many values and letters a reading holds, each counted each time it is reached (what is shared counts as often as it is met; a slice's spare places count too). A statement '..UptoSaid' is the law's where the arguments, and the package variables that the reading takes, are together of bulk at most 1048576: NARROWER than '..Said'. Prove '..Said' where nothing that the law and all that it calls make is longer than what came in: it says more and counts as full. Else prove '..UptoSaid'. A law counts once. -/
mutual
def uptoBulk {H : Type} : DataW H → Nat
  | .lit (.string bytes) => bytes.length + 1
  | .lit _ => 1
  | .nil => 1
  | .ptr d => uptoBulk d + 1
  | .slice elems spare => uptoBulkAll elems + uptoBulkAll spare + 1
  | .agg parts => uptoBulkAll parts + 1
  | .iface _ d => uptoBulk d + 1
  | .map entries => uptoBulkEntries entries + 1
  | .held _ => 1
def uptoBulkAll {H : Type} : List (DataW H) → Nat
  | [] => 0
  | d :: r => uptoBulk d + uptoBulkAll r
def uptoBulkEntries {H : Type} : List (Lit × DataW H) → Nat
  | [] => 0
  | x :: r => uptoBulkEntry x + uptoBulkEntries r
def uptoBulkEntry {H : Type} : Lit × DataW H → Nat
  | (.string bytes, d) => bytes.length + uptoBulk d + 1
  | (_, d) => uptoBulk d + 1
 end
def uptoSmall : (H : Type) → List (DataW H) → Bool := fun _ ds => decide (uptoBulkAll ds ≤ 1048576)
def OpenSpec.upto (s : _root_.Go.ChangeSpec) : _root_.Go.OpenSpec := { _root_.Go.OpenSpec.ofChange s with cond := some uptoSmall }

/-- 'ginnellaw21.HttpstatusFormats', WHERE WHAT IT READS IS OF BULK AT MOST 1048576: true; the input reads as it did. -/
def httpstatusFormatsUptoRow : OpenClaim := { program := "ytidfigehahfpeaadoor", sum := "fd92088b2d307aa88f8d59bf52f3ebc5f16272dd8d4a6e62818349b59ae0ad0e", func := "ginnel/ginnellaw21.HttpstatusFormats", spec := "httpstatusFormats", recurses := true, named := ["internal/strconv.uint64pow10", "math/bits.deBruijn32tab", "math/bits.deBruijn64tab"], apart := false, laid := [("math/bits.deBruijn32tab", laid_math_bits_deBruijn32tab), ("math/bits.deBruijn64tab", laid_math_bits_deBruijn64tab), ("internal/strconv.uint64pow10", laid_internal_strconv_uint64pow10)], narrowed := true }
def HttpstatusFormatsUptoSaid : Prop := httpstatusFormatsUptoRow.holds Tryd.pinned (OpenSpec.upto httpstatusFormatsSpec)

/-- 'ginnellaw21.HttpstatusRoundTrip', WHERE WHAT IT READS IS OF BULK AT MOST 1048576: true; the input reads as it did. -/
def httpstatusRoundTripUptoRow : OpenClaim := { program := "ytidfigehahfpeaadoor", sum := "fd92088b2d307aa88f8d59bf52f3ebc5f16272dd8d4a6e62818349b59ae0ad0e", func := "ginnel/ginnellaw21.HttpstatusRoundTrip", spec := "httpstatusRoundTrip", recurses := true, named := ["internal/strconv.uint64pow10", "math/bits.deBruijn32tab", "math/bits.deBruijn64tab"], apart := false, laid := [("math/bits.deBruijn32tab", laid_math_bits_deBruijn32tab), ("math/bits.deBruijn64tab", laid_math_bits_deBruijn64tab), ("internal/strconv.uint64pow10", laid_internal_strconv_uint64pow10)], narrowed := true }
def HttpstatusRoundTripUptoSaid : Prop := httpstatusRoundTripUptoRow.holds Tryd.pinned (OpenSpec.upto httpstatusRoundTripSpec)

/-- 'ginnellaw15.BasicauthBase64Encoding', WHERE WHAT IT READS IS OF BULK AT MOST 1048576: true; the input reads as it did. -/
def basicauthBase64EncodingUptoRow : OpenClaim := { program := "ytidfigehahfpeaadoor", sum := "fd92088b2d307aa88f8d59bf52f3ebc5f16272dd8d4a6e62818349b59ae0ad0e", func := "ginnel/ginnellaw15.BasicauthBase64Encoding", spec := "basicauthBase64Encoding", inPlace := ["internal/bytealg.IndexByteString", "internal/bytealg.IndexString"], named := ["unicode/utf8.first", "unicode/utf8.acceptRanges", "internal/bytealg.MaxLen"], apart := false, laid := [("unicode/utf8.acceptRanges", laid_unicode_utf8_acceptRanges), ("unicode/utf8.first", laid_unicode_utf8_first)], narrowed := true }
def BasicauthBase64EncodingUptoSaid : Prop := basicauthBase64EncodingUptoRow.holds Tryd.pinned (OpenSpec.upto basicauthBase64EncodingSpec)

/-- 'ginnellaw15.BasicauthBase64RoundTrip', WHERE WHAT IT READS IS OF BULK AT MOST 1048576: true; the input reads as it did. -/
def basicauthBase64RoundTripUptoRow : OpenClaim := { program := "ytidfigehahfpeaadoor", sum := "fd92088b2d307aa88f8d59bf52f3ebc5f16272dd8d4a6e62818349b59ae0ad0e", func := "ginnel/ginnellaw15.BasicauthBase64RoundTrip", spec := "basicauthBase64RoundTrip", inPlace := ["internal/bytealg.IndexByteString", "internal/bytealg.IndexString"], named := ["unicode/utf8.first", "unicode/utf8.acceptRanges", "internal/bytealg.MaxLen"], apart := false, laid := [("unicode/utf8.acceptRanges", laid_unicode_utf8_acceptRanges), ("unicode/utf8.first", laid_unicode_utf8_first)], narrowed := true }
def BasicauthBase64RoundTripUptoSaid : Prop := basicauthBase64RoundTripUptoRow.holds Tryd.pinned (OpenSpec.upto basicauthBase64RoundTripSpec)

/-- 'ginnellaw15.BasicauthBase64IsStrict', WHERE WHAT IT READS IS OF BULK AT MOST 1048576: true; the input reads as it did. -/
def basicauthBase64IsStrictUptoRow : OpenClaim := { program := "ytidfigehahfpeaadoor", sum := "fd92088b2d307aa88f8d59bf52f3ebc5f16272dd8d4a6e62818349b59ae0ad0e", func := "ginnel/ginnellaw15.BasicauthBase64IsStrict", spec := "basicauthBase64IsStrict", inPlace := ["internal/bytealg.IndexByteString", "internal/bytealg.IndexString"], named := ["unicode/utf8.first", "unicode/utf8.acceptRanges", "internal/bytealg.MaxLen"], apart := false, laid := [("unicode/utf8.acceptRanges", laid_unicode_utf8_acceptRanges), ("unicode/utf8.first", laid_unicode_utf8_first)], narrowed := true }
def BasicauthBase64IsStrictUptoSaid : Prop := basicauthBase64IsStrictUptoRow.holds Tryd.pinned (OpenSpec.upto basicauthBase64IsStrictSpec)

/-- 'ginnellaw15.BasicauthParsesHeader', WHERE WHAT IT READS IS OF BULK AT MOST 1048576: true; the input reads as it did. -/
def basicauthParsesHeaderUptoRow : OpenClaim := { program := "ytidfigehahfpeaadoor", sum := "fd92088b2d307aa88f8d59bf52f3ebc5f16272dd8d4a6e62818349b59ae0ad0e", func := "ginnel/ginnellaw15.BasicauthParsesHeader", spec := "basicauthParsesHeader", inPlace := ["internal/bytealg.IndexByteString", "internal/bytealg.IndexString"], named := ["internal/bytealg.MaxLen", "unicode/utf8.first", "unicode/utf8.acceptRanges"], apart := false, laid := [("unicode/utf8.acceptRanges", laid_unicode_utf8_acceptRanges), ("unicode/utf8.first", laid_unicode_utf8_first)], narrowed := true }
def BasicauthParsesHeaderUptoSaid : Prop := basicauthParsesHeaderUptoRow.holds Tryd.pinned (OpenSpec.upto basicauthParsesHeaderSpec)

/-- 'ginnellaw15.BasicauthRoundTrip', WHERE WHAT IT READS IS OF BULK AT MOST 1048576: true; the input reads as it did. -/
def basicauthRoundTripUptoRow : OpenClaim := { program := "ytidfigehahfpeaadoor", sum := "fd92088b2d307aa88f8d59bf52f3ebc5f16272dd8d4a6e62818349b59ae0ad0e", func := "ginnel/ginnellaw15.BasicauthRoundTrip", spec := "basicauthRoundTrip", inPlace := ["internal/bytealg.IndexByteString", "internal/bytealg.IndexString"], named := ["internal/bytealg.MaxLen", "unicode/utf8.first", "unicode/utf8.acceptRanges"], apart := false, laid := [("unicode/utf8.acceptRanges", laid_unicode_utf8_acceptRanges), ("unicode/utf8.first", laid_unicode_utf8_first)], narrowed := true }
def BasicauthRoundTripUptoSaid : Prop := basicauthRoundTripUptoRow.holds Tryd.pinned (OpenSpec.upto basicauthRoundTripSpec)

/-- 'ginnellaw22.ReasonCodes', WHERE WHAT IT READS IS OF BULK AT MOST 1048576: true; the input reads as it did. -/
def reasonCodesUptoRow : OpenClaim := { program := "ytidfigehahfpeaadoor", sum := "fd92088b2d307aa88f8d59bf52f3ebc5f16272dd8d4a6e62818349b59ae0ad0e", func := "ginnel/ginnellaw22.ReasonCodes", spec := "reasonCodes", inPlace := ["internal/bytealg.IndexByteString", "internal/bytealg.IndexString"], named := ["unicode/utf8.first", "unicode/utf8.acceptRanges", "internal/strconv.uint64pow10", "math/bits.deBruijn32tab", "math/bits.deBruijn64tab", "internal/bytealg.MaxLen"], apart := false, laid := [("math/bits.deBruijn32tab", laid_math_bits_deBruijn32tab), ("math/bits.deBruijn64tab", laid_math_bits_deBruijn64tab), ("internal/strconv.uint64pow10", laid_internal_strconv_uint64pow10), ("unicode/utf8.acceptRanges", laid_unicode_utf8_acceptRanges), ("unicode/utf8.first", laid_unicode_utf8_first)], narrowed := true }
def ReasonCodesUptoSaid : Prop := reasonCodesUptoRow.holds Tryd.pinned (OpenSpec.upto reasonCodesSpec)

/-- 'ginnellaw22.ReasonReplies', WHERE WHAT IT READS IS OF BULK AT MOST 1048576: true; the input reads as it did. -/
def reasonRepliesUptoRow : OpenClaim := { program := "ytidfigehahfpeaadoor", sum := "fd92088b2d307aa88f8d59bf52f3ebc5f16272dd8d4a6e62818349b59ae0ad0e", func := "ginnel/ginnellaw22.ReasonReplies", spec := "reasonReplies", inPlace := ["internal/bytealg.IndexByteString", "internal/bytealg.IndexString"], recurses := true, named := ["unicode/utf8.first", "unicode/utf8.acceptRanges", "internal/strconv.uint64pow10", "math/bits.deBruijn32tab", "math/bits.deBruijn64tab", "internal/bytealg.MaxLen"], apart := false, laid := [("math/bits.deBruijn32tab", laid_math_bits_deBruijn32tab), ("math/bits.deBruijn64tab", laid_math_bits_deBruijn64tab), ("internal/strconv.uint64pow10", laid_internal_strconv_uint64pow10), ("unicode/utf8.acceptRanges", laid_unicode_utf8_acceptRanges), ("unicode/utf8.first", laid_unicode_utf8_first)], narrowed := true }
def ReasonRepliesUptoSaid : Prop := reasonRepliesUptoRow.holds Tryd.pinned (OpenSpec.upto reasonRepliesSpec)

/-- 'ginnellaw22.ReasonPrimaryIsOrderFree', WHERE WHAT IT READS IS OF BULK AT MOST 1048576: true; the input reads as it did. -/
def reasonPrimaryIsOrderFreeUptoRow : OpenClaim := { program := "ytidfigehahfpeaadoor", sum := "fd92088b2d307aa88f8d59bf52f3ebc5f16272dd8d4a6e62818349b59ae0ad0e", func := "ginnel/ginnellaw22.ReasonPrimaryIsOrderFree", spec := "reasonPrimaryIsOrderFree", inPlace := ["internal/bytealg.IndexByteString", "internal/bytealg.IndexString"], named := ["unicode/utf8.first", "unicode/utf8.acceptRanges", "internal/strconv.uint64pow10", "math/bits.deBruijn32tab", "math/bits.deBruijn64tab", "internal/bytealg.MaxLen"], apart := false, laid := [("math/bits.deBruijn32tab", laid_math_bits_deBruijn32tab), ("math/bits.deBruijn64tab", laid_math_bits_deBruijn64tab), ("internal/strconv.uint64pow10", laid_internal_strconv_uint64pow10), ("unicode/utf8.acceptRanges", laid_unicode_utf8_acceptRanges), ("unicode/utf8.first", laid_unicode_utf8_first)], narrowed := true }
def ReasonPrimaryIsOrderFreeUptoSaid : Prop := reasonPrimaryIsOrderFreeUptoRow.holds Tryd.pinned (OpenSpec.upto reasonPrimaryIsOrderFreeSpec)

end Rows
end Go.Proofs.YtidfigehahfpeaaDoor
