/-
  DERIVED. GIVEN WITH THE SEED: THE CARDS: each row of YtbmbnibamhgfmaaGreatDoorRows.lean that lists a variable, with what it lists TIED to the program's text (the seventh form; the later family's looks); each row that meets fmt, with fmt's text TOLD by the authors' own Lean function (tested against real Go, not proved from fmt's source: count such statements apart). THE CARD IS WHAT COUNTS. Prove the row's statement (the work); the ties are given (YtbmbnibamhgfmaaGreatDoorTie.lean); close each card by the builder's one call (the guide's Derived/Test/ToyasCard.lean, 'card_holds'). Laid BY PROGRAM, IN A SANDBOX (cutbox-door.mjs). By AI agents, Wed Nov 11 2026. No macro, syntax, notation, axiom, sorry.
-/
import Derived.Test.YtbmbnibamhgfmaaGreatDoorRows
import GoSem.ClaimSeven
namespace Go.Proofs.YtbmbnibamhgfmaaGreatDoor
namespace Rows

/-- THE TIED CARD OF 'ginnellaw12.AclAddressDecision'. -/
def aclAddressDecisionCard : Claim7 := { stood := { row := aclAddressDecisionRow, standIns := [], harness := (true, "e10b129e09d93acf807922aa72feedf06f50644f4922f879a64f7dd0fa0b77cc"), looks := false }, kinds := [], alts := [], laidByText := true, laidKinds := [.data, .pinned], laidTests := true, laidLooks := .later }
def AclAddressDecisionCardSaid : Prop := Claim7.holds Tryz.pinned (.plain (OpenSpec.ofChange aclAddressDecisionSpec)) aclAddressDecisionCard

/-- THE TIED CARD OF 'ginnellaw12.AclNameDecision'. -/
def aclNameDecisionCard : Claim7 := { stood := { row := aclNameDecisionRow, standIns := [], harness := (true, "e10b129e09d93acf807922aa72feedf06f50644f4922f879a64f7dd0fa0b77cc"), looks := false }, kinds := [], alts := [], laidByText := true, laidKinds := [.data, .pinned], laidTests := true, laidLooks := .later }
def AclNameDecisionCardSaid : Prop := Claim7.holds Tryz.pinned (.plain (OpenSpec.ofChange aclNameDecisionSpec)) aclNameDecisionCard

/-- THE TIED CARD OF 'ginnellaw12.AclTargetDecision'. -/
def aclTargetDecisionCard : Claim7 := { stood := { row := aclTargetDecisionRow, standIns := [], harness := (true, "e10b129e09d93acf807922aa72feedf06f50644f4922f879a64f7dd0fa0b77cc"), looks := false }, kinds := [], alts := [], laidByText := true, laidKinds := [.data, .pinned], laidTests := true, laidLooks := .later }
def AclTargetDecisionCardSaid : Prop := Claim7.holds Tryz.pinned (.plain (OpenSpec.ofChange aclTargetDecisionSpec)) aclTargetDecisionCard

/-- THE TIED CARD OF 'ginnellaw12.AclNeverAllowsBlocked'. -/
def aclNeverAllowsBlockedCard : Claim7 := { stood := { row := aclNeverAllowsBlockedRow, standIns := [], harness := (true, "e10b129e09d93acf807922aa72feedf06f50644f4922f879a64f7dd0fa0b77cc"), looks := false }, kinds := [], alts := [], laidByText := true, laidKinds := [.data, .pinned], laidTests := true, laidLooks := .later }
def AclNeverAllowsBlockedCardSaid : Prop := Claim7.holds Tryz.pinned (.plain (OpenSpec.ofChange aclNeverAllowsBlockedSpec)) aclNeverAllowsBlockedCard

/-- THE TIED CARD OF 'ginnellaw12.AclCopiesRules'. -/
def aclCopiesRulesCard : Claim7 := { stood := { row := aclCopiesRulesRow, standIns := [], harness := (true, "e10b129e09d93acf807922aa72feedf06f50644f4922f879a64f7dd0fa0b77cc"), looks := false }, kinds := [], alts := [], laidByText := true, laidKinds := [.data, .pinned], laidTests := true, laidLooks := .later }
def AclCopiesRulesCardSaid : Prop := Claim7.holds Tryz.pinned (.plain (OpenSpec.ofChange aclCopiesRulesSpec)) aclCopiesRulesCard

/-- THE TIED CARD OF 'ginnellaw14.TenantOwnResources'. -/
def tenantOwnResourcesCard : Claim7 := { stood := { row := tenantOwnResourcesRow, standIns := [], harness := (true, "e10b129e09d93acf807922aa72feedf06f50644f4922f879a64f7dd0fa0b77cc"), looks := false }, kinds := [], alts := [], laidByText := true, laidKinds := [.data, .pinned], laidTests := true, laidLooks := .later }
def TenantOwnResourcesCardSaid : Prop := Claim7.holds Tryz.pinned (.plain (OpenSpec.ofChange tenantOwnResourcesSpec)) tenantOwnResourcesCard

/-- THE SECOND FORM's CARD OF 'ginnellaw12.AclAddressDecision'. -/
def aclAddressDecisionUptoCard : Claim7 := { stood := { row := aclAddressDecisionUptoRow, standIns := [], harness := (true, "e10b129e09d93acf807922aa72feedf06f50644f4922f879a64f7dd0fa0b77cc"), looks := false }, kinds := [], alts := [], laidByText := true, laidKinds := [.data, .pinned], laidTests := true, laidLooks := .later }
def AclAddressDecisionUptoCardSaid : Prop := Claim7.holds Tryz.pinned (.plain (OpenSpec.upto aclAddressDecisionSpec)) aclAddressDecisionUptoCard

/-- THE SECOND FORM's CARD OF 'ginnellaw12.AclNameDecision'. -/
def aclNameDecisionUptoCard : Claim7 := { stood := { row := aclNameDecisionUptoRow, standIns := [], harness := (true, "e10b129e09d93acf807922aa72feedf06f50644f4922f879a64f7dd0fa0b77cc"), looks := false }, kinds := [], alts := [], laidByText := true, laidKinds := [.data, .pinned], laidTests := true, laidLooks := .later }
def AclNameDecisionUptoCardSaid : Prop := Claim7.holds Tryz.pinned (.plain (OpenSpec.upto aclNameDecisionSpec)) aclNameDecisionUptoCard

/-- THE SECOND FORM's CARD OF 'ginnellaw12.AclTargetDecision'. -/
def aclTargetDecisionUptoCard : Claim7 := { stood := { row := aclTargetDecisionUptoRow, standIns := [], harness := (true, "e10b129e09d93acf807922aa72feedf06f50644f4922f879a64f7dd0fa0b77cc"), looks := false }, kinds := [], alts := [], laidByText := true, laidKinds := [.data, .pinned], laidTests := true, laidLooks := .later }
def AclTargetDecisionUptoCardSaid : Prop := Claim7.holds Tryz.pinned (.plain (OpenSpec.upto aclTargetDecisionSpec)) aclTargetDecisionUptoCard

/-- THE SECOND FORM's CARD OF 'ginnellaw12.AclNeverAllowsBlocked'. -/
def aclNeverAllowsBlockedUptoCard : Claim7 := { stood := { row := aclNeverAllowsBlockedUptoRow, standIns := [], harness := (true, "e10b129e09d93acf807922aa72feedf06f50644f4922f879a64f7dd0fa0b77cc"), looks := false }, kinds := [], alts := [], laidByText := true, laidKinds := [.data, .pinned], laidTests := true, laidLooks := .later }
def AclNeverAllowsBlockedUptoCardSaid : Prop := Claim7.holds Tryz.pinned (.plain (OpenSpec.upto aclNeverAllowsBlockedSpec)) aclNeverAllowsBlockedUptoCard

/-- THE SECOND FORM's CARD OF 'ginnellaw12.AclCopiesRules'. -/
def aclCopiesRulesUptoCard : Claim7 := { stood := { row := aclCopiesRulesUptoRow, standIns := [], harness := (true, "e10b129e09d93acf807922aa72feedf06f50644f4922f879a64f7dd0fa0b77cc"), looks := false }, kinds := [], alts := [], laidByText := true, laidKinds := [.data, .pinned], laidTests := true, laidLooks := .later }
def AclCopiesRulesUptoCardSaid : Prop := Claim7.holds Tryz.pinned (.plain (OpenSpec.upto aclCopiesRulesSpec)) aclCopiesRulesUptoCard

/-- THE SECOND FORM's CARD OF 'ginnellaw14.TenantOwnResources'. -/
def tenantOwnResourcesUptoCard : Claim7 := { stood := { row := tenantOwnResourcesUptoRow, standIns := [], harness := (true, "e10b129e09d93acf807922aa72feedf06f50644f4922f879a64f7dd0fa0b77cc"), looks := false }, kinds := [], alts := [], laidByText := true, laidKinds := [.data, .pinned], laidTests := true, laidLooks := .later }
def TenantOwnResourcesUptoCardSaid : Prop := Claim7.holds Tryz.pinned (.plain (OpenSpec.upto tenantOwnResourcesSpec)) tenantOwnResourcesUptoCard
end Rows
end Go.Proofs.YtbmbnibamhgfmaaGreatDoor
