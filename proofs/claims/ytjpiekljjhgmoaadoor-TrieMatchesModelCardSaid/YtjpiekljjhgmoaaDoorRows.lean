/-
  NARROWER THAN 'FOR EVERY INPUT', by the rows' own cells (each row's printed sentence says how): TrieLongestMatch: laid · TrieDoesNotAlias: laid · TrieSeparatesFamilies: laid · TrieMatchesModel: laid.
  DERIVED. THE GIVEN ROWS OF THIS SEAT. 4 by the template 'for every input the law returns true; each argument reads behind the call as it read before'; 0 by the template 'total and deterministic' (their statements: YtjpiekljjhgmoaaDoorTotals.lean).
  GIVEN WITH THE SEED: the statements are not yours to turn. If you find one false, say at which input.
  Laid BY PROGRAM, IN A SANDBOX (cutbox-rows.mjs): the forced cells as the released guide's own fill.sh prints them over the translation cb3e34442e0b34ff… (all of the seat's roots in one cut). By AI agents, Wed Nov 11 2026. No macro, syntax, notation, axiom, sorry.
-/
import Derived.Test.YtjpiekljjhgmoaaDoorChecked
import GoSem.PinnedTables
import GoSem.Claim
import GoSem.ClaimJoined
import GoSem.ClaimMapViews
import Derived.JoinedTies
import Derived.KernelRfl
namespace Go.Proofs.YtjpiekljjhgmoaaDoor
/- THE CELL 'sum', in the pinned program and in every row, IS THE sha256 OF THE DUMP (.gsa) THAT YtjpiekljjhgmoaaDoorProg.lean LOADS. Nothing in Lean hashes anything: it is a label: what it is worth is what the hold of that sum in a sandbox is worth. -/
noncomputable def Tryd.pinned : Pinned := { name := "ytjpiekljjhgmoaadoor", sum := "cb3e34442e0b34ff4afabd9fa46d9b7eaa47e420e671e1e086d1c49919adce83", checked := Tryd.checked }
namespace Rows
def none {H : Type} : Left H := { results := [], args := [] }

/- WHAT THE LISTED PACKAGE-LEVEL VARIABLES READ AS WHEN THE CALL BEGINS. Each datum BY PROGRAM (the guide's laid-datum.mjs) off the statement by which the dump's own 'gosem.cut.vars' lays the variable. In a bare row this is a premise. The card (YtjpiekljjhgmoaaDoorCards.lean) ties it to the program's text. -/
def laid_unicode_utf8_acceptRanges {H : Type} : DataW H := .agg [.agg [.lit (.int .u8 128), .lit (.int .u8 191)], .agg [.lit (.int .u8 160), .lit (.int .u8 191)], .agg [.lit (.int .u8 128), .lit (.int .u8 159)], .agg [.lit (.int .u8 144), .lit (.int .u8 191)], .agg [.lit (.int .u8 128), .lit (.int .u8 143)], .agg [.lit (.int .u8 0), .lit (.int .u8 0)], .agg [.lit (.int .u8 0), .lit (.int .u8 0)], .agg [.lit (.int .u8 0), .lit (.int .u8 0)], .agg [.lit (.int .u8 0), .lit (.int .u8 0)], .agg [.lit (.int .u8 0), .lit (.int .u8 0)], .agg [.lit (.int .u8 0), .lit (.int .u8 0)], .agg [.lit (.int .u8 0), .lit (.int .u8 0)], .agg [.lit (.int .u8 0), .lit (.int .u8 0)], .agg [.lit (.int .u8 0), .lit (.int .u8 0)], .agg [.lit (.int .u8 0), .lit (.int .u8 0)], .agg [.lit (.int .u8 0), .lit (.int .u8 0)]]
/-- One of Go's own tables, pinned by name: the form's constant. -/
def laid_unicode_utf8_first : DataW Unit := Go.Pinned.utf8First

/-- 'ginnellaw10.TrieLongestMatch': WHATEVER THE INPUT: true; the input reads as it did. -/
def trieLongestMatchSpec : ChangeSpec := { name := "trieLongestMatch", fn := fun _ => fun
  | [d1, d2, d3] => { results := [.lit (.bool true)], args := [d1, d2, d3] }
  | _ => none }
def trieLongestMatchRow : OpenClaim := { program := "ytjpiekljjhgmoaadoor", sum := "cb3e34442e0b34ff4afabd9fa46d9b7eaa47e420e671e1e086d1c49919adce83", func := "ginnel/ginnellaw10.TrieLongestMatch", spec := "trieLongestMatch", inPlace := ["internal/bytealg.IndexByteString", "internal/bytealg.IndexString"], unfollowed := true, recurses := true, named := ["unicode/utf8.first", "unicode/utf8.acceptRanges", "internal/bytealg.MaxLen"], apart := false, laid := [("unicode/utf8.acceptRanges", laid_unicode_utf8_acceptRanges), ("unicode/utf8.first", laid_unicode_utf8_first)] }
def TrieLongestMatchSaid : Prop := trieLongestMatchRow.holds Tryd.pinned (OpenSpec.ofChange trieLongestMatchSpec)

/-- ITS FALSE NEIGHBOUR: 'it returns false'. Refute it at one input. -/
def trieLongestMatchWrong : ChangeSpec := { name := "trieLongestMatch", fn := fun _ => fun
  | [d1, d2, d3] => { results := [.lit (.bool false)], args := [d1, d2, d3] }
  | _ => none }
def TrieLongestMatchWrongFalsely : Prop := trieLongestMatchRow.holds Tryd.pinned (OpenSpec.ofChange trieLongestMatchWrong)

/-- 'ginnellaw10.TrieDoesNotAlias': WHATEVER THE INPUT: true; the input reads as it did. -/
def trieDoesNotAliasSpec : ChangeSpec := { name := "trieDoesNotAlias", fn := fun _ => fun
  | [d] => { results := [.lit (.bool true)], args := [d] }
  | _ => none }
def trieDoesNotAliasRow : OpenClaim := { program := "ytjpiekljjhgmoaadoor", sum := "cb3e34442e0b34ff4afabd9fa46d9b7eaa47e420e671e1e086d1c49919adce83", func := "ginnel/ginnellaw10.TrieDoesNotAlias", spec := "trieDoesNotAlias", inPlace := ["internal/bytealg.IndexByteString", "internal/bytealg.IndexString"], unfollowed := true, recurses := true, named := ["unicode/utf8.first", "unicode/utf8.acceptRanges", "internal/bytealg.MaxLen"], apart := false, laid := [("unicode/utf8.acceptRanges", laid_unicode_utf8_acceptRanges), ("unicode/utf8.first", laid_unicode_utf8_first)] }
def TrieDoesNotAliasSaid : Prop := trieDoesNotAliasRow.holds Tryd.pinned (OpenSpec.ofChange trieDoesNotAliasSpec)

/-- ITS FALSE NEIGHBOUR: 'it returns false'. Refute it at one input. -/
def trieDoesNotAliasWrong : ChangeSpec := { name := "trieDoesNotAlias", fn := fun _ => fun
  | [d] => { results := [.lit (.bool false)], args := [d] }
  | _ => none }
def TrieDoesNotAliasWrongFalsely : Prop := trieDoesNotAliasRow.holds Tryd.pinned (OpenSpec.ofChange trieDoesNotAliasWrong)

/-- 'ginnellaw10.TrieSeparatesFamilies': WHATEVER THE INPUT: true; the input reads as it did. -/
def trieSeparatesFamiliesSpec : ChangeSpec := { name := "trieSeparatesFamilies", fn := fun _ => fun
  | [d1, d2] => { results := [.lit (.bool true)], args := [d1, d2] }
  | _ => none }
def trieSeparatesFamiliesRow : OpenClaim := { program := "ytjpiekljjhgmoaadoor", sum := "cb3e34442e0b34ff4afabd9fa46d9b7eaa47e420e671e1e086d1c49919adce83", func := "ginnel/ginnellaw10.TrieSeparatesFamilies", spec := "trieSeparatesFamilies", inPlace := ["internal/bytealg.IndexByteString", "internal/bytealg.IndexString"], unfollowed := true, recurses := true, named := ["unicode/utf8.first", "unicode/utf8.acceptRanges", "internal/bytealg.MaxLen"], apart := false, laid := [("unicode/utf8.acceptRanges", laid_unicode_utf8_acceptRanges), ("unicode/utf8.first", laid_unicode_utf8_first)] }
def TrieSeparatesFamiliesSaid : Prop := trieSeparatesFamiliesRow.holds Tryd.pinned (OpenSpec.ofChange trieSeparatesFamiliesSpec)

/-- ITS FALSE NEIGHBOUR: 'it returns false'. Refute it at one input. -/
def trieSeparatesFamiliesWrong : ChangeSpec := { name := "trieSeparatesFamilies", fn := fun _ => fun
  | [d1, d2] => { results := [.lit (.bool false)], args := [d1, d2] }
  | _ => none }
def TrieSeparatesFamiliesWrongFalsely : Prop := trieSeparatesFamiliesRow.holds Tryd.pinned (OpenSpec.ofChange trieSeparatesFamiliesWrong)

/-- 'ginnellaw10.TrieMatchesModel': WHATEVER THE INPUT: true; the input reads as it did. -/
def trieMatchesModelSpec : ChangeSpec := { name := "trieMatchesModel", fn := fun _ => fun
  | [d1, d2] => { results := [.lit (.bool true)], args := [d1, d2] }
  | _ => none }
def trieMatchesModelRow : OpenClaim := { program := "ytjpiekljjhgmoaadoor", sum := "cb3e34442e0b34ff4afabd9fa46d9b7eaa47e420e671e1e086d1c49919adce83", func := "ginnel/ginnellaw10.TrieMatchesModel", spec := "trieMatchesModel", inPlace := ["internal/bytealg.IndexByteString", "internal/bytealg.IndexString"], unfollowed := true, recurses := true, named := ["unicode/utf8.first", "unicode/utf8.acceptRanges", "internal/bytealg.MaxLen"], apart := false, laid := [("unicode/utf8.acceptRanges", laid_unicode_utf8_acceptRanges), ("unicode/utf8.first", laid_unicode_utf8_first)] }
def TrieMatchesModelSaid : Prop := trieMatchesModelRow.holds Tryd.pinned (OpenSpec.ofChange trieMatchesModelSpec)

/-- ITS FALSE NEIGHBOUR: 'it returns false'. Refute it at one input. -/
def trieMatchesModelWrong : ChangeSpec := { name := "trieMatchesModel", fn := fun _ => fun
  | [d1, d2] => { results := [.lit (.bool false)], args := [d1, d2] }
  | _ => none }
def TrieMatchesModelWrongFalsely : Prop := trieMatchesModelRow.holds Tryd.pinned (OpenSpec.ofChange trieMatchesModelWrong)

/- THE SECOND FORM. 'bulk': how many values and letters a reading holds, each counted each time it is reached (what is shared counts as often as it is met; a slice's spare places count too). A statement '..UptoSaid' is the law's where the arguments, and the package variables that the reading takes, are together of bulk at most 1048576: NARROWER than '..Said'. Prove '..Said' where nothing that the law and all that it calls make is longer than what came in: it says more and counts as full. Else prove '..UptoSaid'. A law counts once. -/
mutual
def uptoBulk {H : Type} : DataW H → Nat
  | .lit (.string bytes) => bytes.length + 1
  | .lit _ => 1
  | .nil => 1
  | .ptr d => uptoBulk d + 1
  | .slice elems spare => uptoBulkAll elems + uptoBulkAll spare + 1
  | .agg parts => uptoBulkAll parts + 1
  | .iface _ d => uptoBulk d + 1
  | .map entries => uptoBulkEntries entries + 1
  | .held _ => 1
def uptoBulkAll {H : Type} : List (DataW H) → Nat
  | [] => 0
  | d :: r => uptoBulk d + uptoBulkAll r
def uptoBulkEntries {H : Type} : List (Lit × DataW H) → Nat
  | [] => 0
  | x :: r => uptoBulkEntry x + uptoBulkEntries r
def uptoBulkEntry {H : Type} : Lit × DataW H → Nat
  | (.string bytes, d) => bytes.length + uptoBulk d + 1
  | (_, d) => uptoBulk d + 1
 end
def uptoSmall : (H : Type) → List (DataW H) → Bool := fun _ ds => decide (uptoBulkAll ds ≤ 1048576)
def OpenSpec.upto (s : _root_.Go.ChangeSpec) : _root_.Go.OpenSpec := { _root_.Go.OpenSpec.ofChange s with cond := some uptoSmall }

/-- 'ginnellaw10.TrieLongestMatch', WHERE WHAT IT READS IS OF BULK AT MOST 1048576: true; the input reads as it did. -/
def trieLongestMatchUptoRow : OpenClaim := { program := "ytjpiekljjhgmoaadoor", sum := "cb3e34442e0b34ff4afabd9fa46d9b7eaa47e420e671e1e086d1c49919adce83", func := "ginnel/ginnellaw10.TrieLongestMatch", spec := "trieLongestMatch", inPlace := ["internal/bytealg.IndexByteString", "internal/bytealg.IndexString"], unfollowed := true, recurses := true, named := ["unicode/utf8.first", "unicode/utf8.acceptRanges", "internal/bytealg.MaxLen"], apart := false, laid := [("unicode/utf8.acceptRanges", laid_unicode_utf8_acceptRanges), ("unicode/utf8.first", laid_unicode_utf8_first)], narrowed := true }
def TrieLongestMatchUptoSaid : Prop := trieLongestMatchUptoRow.holds Tryd.pinned (OpenSpec.upto trieLongestMatchSpec)

/-- 'ginnellaw10.TrieDoesNotAlias', WHERE WHAT IT READS IS OF BULK AT MOST 1048576: true; the input reads as it did. -/
def trieDoesNotAliasUptoRow : OpenClaim := { program := "ytjpiekljjhgmoaadoor", sum := "cb3e34442e0b34ff4afabd9fa46d9b7eaa47e420e671e1e086d1c49919adce83", func := "ginnel/ginnellaw10.TrieDoesNotAlias", spec := "trieDoesNotAlias", inPlace := ["internal/bytealg.IndexByteString", "internal/bytealg.IndexString"], unfollowed := true, recurses := true, named := ["unicode/utf8.first", "unicode/utf8.acceptRanges", "internal/bytealg.MaxLen"], apart := false, laid := [("unicode/utf8.acceptRanges", laid_unicode_utf8_acceptRanges), ("unicode/utf8.first", laid_unicode_utf8_first)], narrowed := true }
def TrieDoesNotAliasUptoSaid : Prop := trieDoesNotAliasUptoRow.holds Tryd.pinned (OpenSpec.upto trieDoesNotAliasSpec)

/-- 'ginnellaw10.TrieSeparatesFamilies', WHERE WHAT IT READS IS OF BULK AT MOST 1048576: true; the input reads as it did. -/
def trieSeparatesFamiliesUptoRow : OpenClaim := { program := "ytjpiekljjhgmoaadoor", sum := "cb3e34442e0b34ff4afabd9fa46d9b7eaa47e420e671e1e086d1c49919adce83", func := "ginnel/ginnellaw10.TrieSeparatesFamilies", spec := "trieSeparatesFamilies", inPlace := ["internal/bytealg.IndexByteString", "internal/bytealg.IndexString"], unfollowed := true, recurses := true, named := ["unicode/utf8.first", "unicode/utf8.acceptRanges", "internal/bytealg.MaxLen"], apart := false, laid := [("unicode/utf8.acceptRanges", laid_unicode_utf8_acceptRanges), ("unicode/utf8.first", laid_unicode_utf8_first)], narrowed := true }
def TrieSeparatesFamiliesUptoSaid : Prop := trieSeparatesFamiliesUptoRow.holds Tryd.pinned (OpenSpec.upto trieSeparatesFamiliesSpec)

/-- 'ginnellaw10.TrieMatchesModel', WHERE WHAT IT READS IS OF BULK AT MOST 1048576: true; the input reads as it did. -/
def trieMatchesModelUptoRow : OpenClaim := { program := "ytjpiekljjhgmoaadoor", sum := "cb3e34442e0b34ff4afabd9fa46d9b7eaa47e420e671e1e086d1c49919adce83", func := "ginnel/ginnellaw10.TrieMatchesModel", spec := "trieMatchesModel", inPlace := ["internal/bytealg.IndexByteString", "internal/bytealg.IndexString"], unfollowed := true, recurses := true, named := ["unicode/utf8.first", "unicode/utf8.acceptRanges", "internal/bytealg.MaxLen"], apart := false, laid := [("unicode/utf8.acceptRanges", laid_unicode_utf8_acceptRanges), ("unicode/utf8.first", laid_unicode_utf8_first)], narrowed := true }
def TrieMatchesModelUptoSaid : Prop := trieMatchesModelUptoRow.holds Tryd.pinned (OpenSpec.upto trieMatchesModelSpec)

end Rows
end Go.Proofs.YtjpiekljjhgmoaaDoor
