/-
  NARROWER THAN 'FOR EVERY INPUT', by the rows' own cells (each row's printed sentence says how): AclAddressDecision: laid · AclNameDecision: laid · AclTargetDecision: laid · AclNeverAllowsBlocked: laid · AclCopiesRules: laid · TenantOwnResources: laid.
  DERIVED. THE GIVEN ROWS OF THIS SEAT. 6 by the template 'for every input the law returns true; each argument reads behind the call as it read before'; 0 by the template 'total and deterministic' (their statements: YtbmbnibamhgfmaaGreatDoorTotals.lean).
  GIVEN WITH THE SEED: the statements are not yours to turn. If you find one false, say at which input.
  Laid BY PROGRAM, IN A SANDBOX (cutbox-rows.mjs): the forced cells as the released guide's own fill.sh prints them over the translation 17f53607d4a37493… (all of the seat's roots in one cut). By AI agents, Wed Nov 11 2026. No macro, syntax, notation, axiom, sorry.
-/
import Derived.Test.YtbmbnibamhgfmaaGreatDoorChecked
import GoSem.PinnedTables
import GoSem.Claim
import GoSem.ClaimJoined
import GoSem.ClaimMapViews
import Derived.JoinedTies
import Derived.KernelRfl
namespace Go.Proofs.YtbmbnibamhgfmaaGreatDoor
/- THE CELL 'sum', in the pinned program and in every row, IS THE sha256 OF THE DUMP (.gsa) THAT YtbmbnibamhgfmaaGreatDoorProg.lean LOADS. Nothing in Lean hashes anything: it is a label: what it is worth is what the hold of that sum in a sandbox is worth. -/
noncomputable def Tryz.pinned : Pinned := { name := "ytbmbnibamhgfmaagreatdoor", sum := "17f53607d4a374930c1ff00215f84cc110e0f158ac70b28374802b1f93689c31", checked := Tryz.checked }
namespace Rows
def none {H : Type} : Left H := { results := [], args := [] }

/- WHAT THE LISTED PACKAGE-LEVEL VARIABLES READ AS WHEN THE CALL BEGINS. Each datum BY PROGRAM (the guide's laid-datum.mjs) off the statement by which the dump's own 'gosem.cut.vars' lays the variable. In a bare row this is a premise. The card (YtbmbnibamhgfmaaGreatDoorCards.lean) ties it to the program's text. -/
def laid_unicode_utf8_acceptRanges {H : Type} : DataW H := .agg [.agg [.lit (.int .u8 128), .lit (.int .u8 191)], .agg [.lit (.int .u8 160), .lit (.int .u8 191)], .agg [.lit (.int .u8 128), .lit (.int .u8 159)], .agg [.lit (.int .u8 144), .lit (.int .u8 191)], .agg [.lit (.int .u8 128), .lit (.int .u8 143)], .agg [.lit (.int .u8 0), .lit (.int .u8 0)], .agg [.lit (.int .u8 0), .lit (.int .u8 0)], .agg [.lit (.int .u8 0), .lit (.int .u8 0)], .agg [.lit (.int .u8 0), .lit (.int .u8 0)], .agg [.lit (.int .u8 0), .lit (.int .u8 0)], .agg [.lit (.int .u8 0), .lit (.int .u8 0)], .agg [.lit (.int .u8 0), .lit (.int .u8 0)], .agg [.lit (.int .u8 0), .lit (.int .u8 0)], .agg [.lit (.int .u8 0), .lit (.int .u8 0)], .agg [.lit (.int .u8 0), .lit (.int .u8 0)], .agg [.lit (.int .u8 0), .lit (.int .u8 0)]]
/-- One of Go's own tables, pinned by name: the form's constant. -/
def laid_unicode_utf8_first : DataW Unit := Go.Pinned.utf8First

/-- 'ginnellaw12.AclAddressDecision': WHATEVER THE INPUT: true; the input reads as it did. -/
def aclAddressDecisionSpec : ChangeSpec := { name := "aclAddressDecision", fn := fun _ => fun
  | [d1, d2, d3, d4] => { results := [.lit (.bool true)], args := [d1, d2, d3, d4] }
  | _ => none }
def aclAddressDecisionRow : OpenClaim := { program := "ytbmbnibamhgfmaagreatdoor", sum := "17f53607d4a374930c1ff00215f84cc110e0f158ac70b28374802b1f93689c31", func := "ginnel/ginnellaw12.AclAddressDecision", spec := "aclAddressDecision", inPlace := ["internal/bytealg.IndexByteString", "internal/bytealg.IndexString", "internal/bytealg.CountString"], unfollowed := true, recurses := true, named := ["unicode/utf8.first", "unicode/utf8.acceptRanges", "internal/bytealg.MaxLen"], apart := false, laid := [("unicode/utf8.acceptRanges", laid_unicode_utf8_acceptRanges), ("unicode/utf8.first", laid_unicode_utf8_first)] }
def AclAddressDecisionSaid : Prop := aclAddressDecisionRow.holds Tryz.pinned (OpenSpec.ofChange aclAddressDecisionSpec)

/-- ITS FALSE NEIGHBOUR: 'it returns false'. Refute it at one input. -/
def aclAddressDecisionWrong : ChangeSpec := { name := "aclAddressDecision", fn := fun _ => fun
  | [d1, d2, d3, d4] => { results := [.lit (.bool false)], args := [d1, d2, d3, d4] }
  | _ => none }
def AclAddressDecisionWrongFalsely : Prop := aclAddressDecisionRow.holds Tryz.pinned (OpenSpec.ofChange aclAddressDecisionWrong)

/-- 'ginnellaw12.AclNameDecision': WHATEVER THE INPUT: true; the input reads as it did. -/
def aclNameDecisionSpec : ChangeSpec := { name := "aclNameDecision", fn := fun _ => fun
  | [d1, d2, d3, d4] => { results := [.lit (.bool true)], args := [d1, d2, d3, d4] }
  | _ => none }
def aclNameDecisionRow : OpenClaim := { program := "ytbmbnibamhgfmaagreatdoor", sum := "17f53607d4a374930c1ff00215f84cc110e0f158ac70b28374802b1f93689c31", func := "ginnel/ginnellaw12.AclNameDecision", spec := "aclNameDecision", inPlace := ["internal/bytealg.IndexByteString", "internal/bytealg.IndexString", "internal/bytealg.CountString"], unfollowed := true, recurses := true, named := ["unicode/utf8.first", "unicode/utf8.acceptRanges", "internal/bytealg.MaxLen"], apart := false, laid := [("unicode/utf8.acceptRanges", laid_unicode_utf8_acceptRanges), ("unicode/utf8.first", laid_unicode_utf8_first)] }
def AclNameDecisionSaid : Prop := aclNameDecisionRow.holds Tryz.pinned (OpenSpec.ofChange aclNameDecisionSpec)

/-- ITS FALSE NEIGHBOUR: 'it returns false'. Refute it at one input. -/
def aclNameDecisionWrong : ChangeSpec := { name := "aclNameDecision", fn := fun _ => fun
  | [d1, d2, d3, d4] => { results := [.lit (.bool false)], args := [d1, d2, d3, d4] }
  | _ => none }
def AclNameDecisionWrongFalsely : Prop := aclNameDecisionRow.holds Tryz.pinned (OpenSpec.ofChange aclNameDecisionWrong)

/-- 'ginnellaw12.AclTargetDecision': WHATEVER THE INPUT: true; the input reads as it did. -/
def aclTargetDecisionSpec : ChangeSpec := { name := "aclTargetDecision", fn := fun _ => fun
  | [d1, d2, d3, d4] => { results := [.lit (.bool true)], args := [d1, d2, d3, d4] }
  | _ => none }
def aclTargetDecisionRow : OpenClaim := { program := "ytbmbnibamhgfmaagreatdoor", sum := "17f53607d4a374930c1ff00215f84cc110e0f158ac70b28374802b1f93689c31", func := "ginnel/ginnellaw12.AclTargetDecision", spec := "aclTargetDecision", inPlace := ["internal/bytealg.IndexByteString", "internal/bytealg.IndexString", "internal/bytealg.CountString"], unfollowed := true, recurses := true, named := ["unicode/utf8.first", "unicode/utf8.acceptRanges", "internal/bytealg.MaxLen"], apart := false, laid := [("unicode/utf8.acceptRanges", laid_unicode_utf8_acceptRanges), ("unicode/utf8.first", laid_unicode_utf8_first)] }
def AclTargetDecisionSaid : Prop := aclTargetDecisionRow.holds Tryz.pinned (OpenSpec.ofChange aclTargetDecisionSpec)

/-- ITS FALSE NEIGHBOUR: 'it returns false'. Refute it at one input. -/
def aclTargetDecisionWrong : ChangeSpec := { name := "aclTargetDecision", fn := fun _ => fun
  | [d1, d2, d3, d4] => { results := [.lit (.bool false)], args := [d1, d2, d3, d4] }
  | _ => none }
def AclTargetDecisionWrongFalsely : Prop := aclTargetDecisionRow.holds Tryz.pinned (OpenSpec.ofChange aclTargetDecisionWrong)

/-- 'ginnellaw12.AclNeverAllowsBlocked': WHATEVER THE INPUT: true; the input reads as it did. -/
def aclNeverAllowsBlockedSpec : ChangeSpec := { name := "aclNeverAllowsBlocked", fn := fun _ => fun
  | [d1, d2, d3] => { results := [.lit (.bool true)], args := [d1, d2, d3] }
  | _ => none }
def aclNeverAllowsBlockedRow : OpenClaim := { program := "ytbmbnibamhgfmaagreatdoor", sum := "17f53607d4a374930c1ff00215f84cc110e0f158ac70b28374802b1f93689c31", func := "ginnel/ginnellaw12.AclNeverAllowsBlocked", spec := "aclNeverAllowsBlocked", inPlace := ["internal/bytealg.IndexByteString", "internal/bytealg.IndexString", "internal/bytealg.CountString"], unfollowed := true, recurses := true, named := ["unicode/utf8.first", "unicode/utf8.acceptRanges", "internal/bytealg.MaxLen"], apart := false, laid := [("unicode/utf8.acceptRanges", laid_unicode_utf8_acceptRanges), ("unicode/utf8.first", laid_unicode_utf8_first)] }
def AclNeverAllowsBlockedSaid : Prop := aclNeverAllowsBlockedRow.holds Tryz.pinned (OpenSpec.ofChange aclNeverAllowsBlockedSpec)

/-- ITS FALSE NEIGHBOUR: 'it returns false'. Refute it at one input. -/
def aclNeverAllowsBlockedWrong : ChangeSpec := { name := "aclNeverAllowsBlocked", fn := fun _ => fun
  | [d1, d2, d3] => { results := [.lit (.bool false)], args := [d1, d2, d3] }
  | _ => none }
def AclNeverAllowsBlockedWrongFalsely : Prop := aclNeverAllowsBlockedRow.holds Tryz.pinned (OpenSpec.ofChange aclNeverAllowsBlockedWrong)

/-- 'ginnellaw12.AclCopiesRules': WHATEVER THE INPUT: true; the input reads as it did. -/
def aclCopiesRulesSpec : ChangeSpec := { name := "aclCopiesRules", fn := fun _ => fun
  | [d1, d2, d3] => { results := [.lit (.bool true)], args := [d1, d2, d3] }
  | _ => none }
def aclCopiesRulesRow : OpenClaim := { program := "ytbmbnibamhgfmaagreatdoor", sum := "17f53607d4a374930c1ff00215f84cc110e0f158ac70b28374802b1f93689c31", func := "ginnel/ginnellaw12.AclCopiesRules", spec := "aclCopiesRules", inPlace := ["internal/bytealg.IndexByteString", "internal/bytealg.IndexString", "internal/bytealg.CountString"], unfollowed := true, recurses := true, named := ["unicode/utf8.first", "unicode/utf8.acceptRanges", "internal/bytealg.MaxLen"], apart := false, laid := [("unicode/utf8.acceptRanges", laid_unicode_utf8_acceptRanges), ("unicode/utf8.first", laid_unicode_utf8_first)] }
def AclCopiesRulesSaid : Prop := aclCopiesRulesRow.holds Tryz.pinned (OpenSpec.ofChange aclCopiesRulesSpec)

/-- ITS FALSE NEIGHBOUR: 'it returns false'. Refute it at one input. -/
def aclCopiesRulesWrong : ChangeSpec := { name := "aclCopiesRules", fn := fun _ => fun
  | [d1, d2, d3] => { results := [.lit (.bool false)], args := [d1, d2, d3] }
  | _ => none }
def AclCopiesRulesWrongFalsely : Prop := aclCopiesRulesRow.holds Tryz.pinned (OpenSpec.ofChange aclCopiesRulesWrong)

/-- 'ginnellaw14.TenantOwnResources': WHATEVER THE INPUT: true; the input reads as it did. -/
def tenantOwnResourcesSpec : ChangeSpec := { name := "tenantOwnResources", fn := fun _ => fun
  | [d1, d2, d3] => { results := [.lit (.bool true)], args := [d1, d2, d3] }
  | _ => none }
def tenantOwnResourcesRow : OpenClaim := { program := "ytbmbnibamhgfmaagreatdoor", sum := "17f53607d4a374930c1ff00215f84cc110e0f158ac70b28374802b1f93689c31", func := "ginnel/ginnellaw14.TenantOwnResources", spec := "tenantOwnResources", inPlace := ["internal/bytealg.IndexByteString", "internal/bytealg.IndexString", "internal/bytealg.CountString"], unfollowed := true, recurses := true, named := ["internal/bytealg.MaxLen", "unicode/utf8.first", "unicode/utf8.acceptRanges"], apart := false, laid := [("unicode/utf8.acceptRanges", laid_unicode_utf8_acceptRanges), ("unicode/utf8.first", laid_unicode_utf8_first)] }
def TenantOwnResourcesSaid : Prop := tenantOwnResourcesRow.holds Tryz.pinned (OpenSpec.ofChange tenantOwnResourcesSpec)

/-- ITS FALSE NEIGHBOUR: 'it returns false'. Refute it at one input. -/
def tenantOwnResourcesWrong : ChangeSpec := { name := "tenantOwnResources", fn := fun _ => fun
  | [d1, d2, d3] => { results := [.lit (.bool false)], args := [d1, d2, d3] }
  | _ => none }
def TenantOwnResourcesWrongFalsely : Prop := tenantOwnResourcesRow.holds Tryz.pinned (OpenSpec.ofChange tenantOwnResourcesWrong)

/- THE SECOND FORM. 'bulk': how many values and letters a reading holds, each counted each time it is reached (what is shared counts as often as it is met; a slice's spare places count too). A statement '..UptoSaid' is the law's where the arguments, and the package variables that the reading takes, are together of bulk at most 1048576: NARROWER than '..Said'. Prove '..Said' where nothing that the law and all that it calls make is longer than what came in: it says more and counts as full. Else prove '..UptoSaid'. A law counts once. -/
mutual
def uptoBulk {H : Type} : DataW H → Nat
  | .lit (.string bytes) => bytes.length + 1
  | .lit _ => 1
  | .nil => 1
  | .ptr d => uptoBulk d + 1
  | .slice elems spare => uptoBulkAll elems + uptoBulkAll spare + 1
  | .agg parts => uptoBulkAll parts + 1
  | .iface _ d => uptoBulk d + 1
  | .map entries => uptoBulkEntries entries + 1
  | .held _ => 1
def uptoBulkAll {H : Type} : List (DataW H) → Nat
  | [] => 0
  | d :: r => uptoBulk d + uptoBulkAll r
def uptoBulkEntries {H : Type} : List (Lit × DataW H) → Nat
  | [] => 0
  | x :: r => uptoBulkEntry x + uptoBulkEntries r
def uptoBulkEntry {H : Type} : Lit × DataW H → Nat
  | (.string bytes, d) => bytes.length + uptoBulk d + 1
  | (_, d) => uptoBulk d + 1
 end
def uptoSmall : (H : Type) → List (DataW H) → Bool := fun _ ds => decide (uptoBulkAll ds ≤ 1048576)
def OpenSpec.upto (s : _root_.Go.ChangeSpec) : _root_.Go.OpenSpec := { _root_.Go.OpenSpec.ofChange s with cond := some uptoSmall }

/-- 'ginnellaw12.AclAddressDecision', WHERE WHAT IT READS IS OF BULK AT MOST 1048576: true; the input reads as it did. -/
def aclAddressDecisionUptoRow : OpenClaim := { program := "ytbmbnibamhgfmaagreatdoor", sum := "17f53607d4a374930c1ff00215f84cc110e0f158ac70b28374802b1f93689c31", func := "ginnel/ginnellaw12.AclAddressDecision", spec := "aclAddressDecision", inPlace := ["internal/bytealg.IndexByteString", "internal/bytealg.IndexString", "internal/bytealg.CountString"], unfollowed := true, recurses := true, named := ["unicode/utf8.first", "unicode/utf8.acceptRanges", "internal/bytealg.MaxLen"], apart := false, laid := [("unicode/utf8.acceptRanges", laid_unicode_utf8_acceptRanges), ("unicode/utf8.first", laid_unicode_utf8_first)], narrowed := true }
def AclAddressDecisionUptoSaid : Prop := aclAddressDecisionUptoRow.holds Tryz.pinned (OpenSpec.upto aclAddressDecisionSpec)

/-- 'ginnellaw12.AclNameDecision', WHERE WHAT IT READS IS OF BULK AT MOST 1048576: true; the input reads as it did. -/
def aclNameDecisionUptoRow : OpenClaim := { program := "ytbmbnibamhgfmaagreatdoor", sum := "17f53607d4a374930c1ff00215f84cc110e0f158ac70b28374802b1f93689c31", func := "ginnel/ginnellaw12.AclNameDecision", spec := "aclNameDecision", inPlace := ["internal/bytealg.IndexByteString", "internal/bytealg.IndexString", "internal/bytealg.CountString"], unfollowed := true, recurses := true, named := ["unicode/utf8.first", "unicode/utf8.acceptRanges", "internal/bytealg.MaxLen"], apart := false, laid := [("unicode/utf8.acceptRanges", laid_unicode_utf8_acceptRanges), ("unicode/utf8.first", laid_unicode_utf8_first)], narrowed := true }
def AclNameDecisionUptoSaid : Prop := aclNameDecisionUptoRow.holds Tryz.pinned (OpenSpec.upto aclNameDecisionSpec)

/-- 'ginnellaw12.AclTargetDecision', WHERE WHAT IT READS IS OF BULK AT MOST 1048576: true; the input reads as it did. -/
def aclTargetDecisionUptoRow : OpenClaim := { program := "ytbmbnibamhgfmaagreatdoor", sum := "17f53607d4a374930c1ff00215f84cc110e0f158ac70b28374802b1f93689c31", func := "ginnel/ginnellaw12.AclTargetDecision", spec := "aclTargetDecision", inPlace := ["internal/bytealg.IndexByteString", "internal/bytealg.IndexString", "internal/bytealg.CountString"], unfollowed := true, recurses := true, named := ["unicode/utf8.first", "unicode/utf8.acceptRanges", "internal/bytealg.MaxLen"], apart := false, laid := [("unicode/utf8.acceptRanges", laid_unicode_utf8_acceptRanges), ("unicode/utf8.first", laid_unicode_utf8_first)], narrowed := true }
def AclTargetDecisionUptoSaid : Prop := aclTargetDecisionUptoRow.holds Tryz.pinned (OpenSpec.upto aclTargetDecisionSpec)

/-- 'ginnellaw12.AclNeverAllowsBlocked', WHERE WHAT IT READS IS OF BULK AT MOST 1048576: true; the input reads as it did. -/
def aclNeverAllowsBlockedUptoRow : OpenClaim := { program := "ytbmbnibamhgfmaagreatdoor", sum := "17f53607d4a374930c1ff00215f84cc110e0f158ac70b28374802b1f93689c31", func := "ginnel/ginnellaw12.AclNeverAllowsBlocked", spec := "aclNeverAllowsBlocked", inPlace := ["internal/bytealg.IndexByteString", "internal/bytealg.IndexString", "internal/bytealg.CountString"], unfollowed := true, recurses := true, named := ["unicode/utf8.first", "unicode/utf8.acceptRanges", "internal/bytealg.MaxLen"], apart := false, laid := [("unicode/utf8.acceptRanges", laid_unicode_utf8_acceptRanges), ("unicode/utf8.first", laid_unicode_utf8_first)], narrowed := true }
def AclNeverAllowsBlockedUptoSaid : Prop := aclNeverAllowsBlockedUptoRow.holds Tryz.pinned (OpenSpec.upto aclNeverAllowsBlockedSpec)

/-- 'ginnellaw12.AclCopiesRules', WHERE WHAT IT READS IS OF BULK AT MOST 1048576: true; the input reads as it did. -/
def aclCopiesRulesUptoRow : OpenClaim := { program := "ytbmbnibamhgfmaagreatdoor", sum := "17f53607d4a374930c1ff00215f84cc110e0f158ac70b28374802b1f93689c31", func := "ginnel/ginnellaw12.AclCopiesRules", spec := "aclCopiesRules", inPlace := ["internal/bytealg.IndexByteString", "internal/bytealg.IndexString", "internal/bytealg.CountString"], unfollowed := true, recurses := true, named := ["unicode/utf8.first", "unicode/utf8.acceptRanges", "internal/bytealg.MaxLen"], apart := false, laid := [("unicode/utf8.acceptRanges", laid_unicode_utf8_acceptRanges), ("unicode/utf8.first", laid_unicode_utf8_first)], narrowed := true }
def AclCopiesRulesUptoSaid : Prop := aclCopiesRulesUptoRow.holds Tryz.pinned (OpenSpec.upto aclCopiesRulesSpec)

/-- 'ginnellaw14.TenantOwnResources', WHERE WHAT IT READS IS OF BULK AT MOST 1048576: true; the input reads as it did. -/
def tenantOwnResourcesUptoRow : OpenClaim := { program := "ytbmbnibamhgfmaagreatdoor", sum := "17f53607d4a374930c1ff00215f84cc110e0f158ac70b28374802b1f93689c31", func := "ginnel/ginnellaw14.TenantOwnResources", spec := "tenantOwnResources", inPlace := ["internal/bytealg.IndexByteString", "internal/bytealg.IndexString", "internal/bytealg.CountString"], unfollowed := true, recurses := true, named := ["internal/bytealg.MaxLen", "unicode/utf8.first", "unicode/utf8.acceptRanges"], apart := false, laid := [("unicode/utf8.acceptRanges", laid_unicode_utf8_acceptRanges), ("unicode/utf8.first", laid_unicode_utf8_first)], narrowed := true }
def TenantOwnResourcesUptoSaid : Prop := tenantOwnResourcesUptoRow.holds Tryz.pinned (OpenSpec.upto tenantOwnResourcesSpec)

end Rows
end Go.Proofs.YtbmbnibamhgfmaaGreatDoor
