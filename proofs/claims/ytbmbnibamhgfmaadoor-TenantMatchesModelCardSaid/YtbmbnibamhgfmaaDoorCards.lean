/-
  DERIVED. GIVEN WITH THE SEED: THE CARDS: each row of YtbmbnibamhgfmaaDoorRows.lean that lists a variable, with what it lists TIED to the program's text (the seventh form; the later family's looks); each row that meets fmt, with fmt's text TOLD by the authors' own Lean function (tested against real Go, not proved from fmt's source: count such statements apart). THE CARD IS WHAT COUNTS. Prove the row's statement (the work); the ties are given (YtbmbnibamhgfmaaDoorTie.lean); close each card by the builder's one call (the guide's Derived/Test/ToyasCard.lean, 'card_holds'). Laid BY PROGRAM, IN A SANDBOX (cutbox-door.mjs). By AI agents, Wed Nov 11 2026. No macro, syntax, notation, axiom, sorry.
-/
import Derived.Test.YtbmbnibamhgfmaaDoorRows
import GoSem.ClaimSeven
namespace Go.Proofs.YtbmbnibamhgfmaaDoor
namespace Rows

/-- THE TIED CARD OF 'ginnellaw14.TenantMatchesModel'. -/
def tenantMatchesModelCard : Claim7 := { stood := { row := tenantMatchesModelRow, standIns := [], harness := (true, "80be85027a276db1170fb2c4608c105be0a44d1c60bd2c78a81fd6b077ae522d"), looks := false }, kinds := [], alts := [], laidByText := true, laidKinds := [.data, .pinned], laidTests := true, laidLooks := .later }
def TenantMatchesModelCardSaid : Prop := Claim7.holds Tryd.pinned (.plain (OpenSpec.ofChange tenantMatchesModelSpec)) tenantMatchesModelCard

/-- THE TIED CARD OF 'ginnellaw14.TenantValidates'. -/
def tenantValidatesCard : Claim7 := { stood := { row := tenantValidatesRow, standIns := [], harness := (true, "80be85027a276db1170fb2c4608c105be0a44d1c60bd2c78a81fd6b077ae522d"), looks := false }, kinds := [], alts := [], laidByText := true, laidKinds := [.data, .pinned], laidTests := true, laidLooks := .later }
def TenantValidatesCardSaid : Prop := Claim7.holds Tryd.pinned (.plain (OpenSpec.ofChange tenantValidatesSpec)) tenantValidatesCard

/-- THE TIED CARD OF 'ginnellaw12.AclValidatesRules'. -/
def aclValidatesRulesCard : Claim7 := { stood := { row := aclValidatesRulesRow, standIns := [], harness := (true, "80be85027a276db1170fb2c4608c105be0a44d1c60bd2c78a81fd6b077ae522d"), looks := false }, kinds := [], alts := [], laidByText := true, laidKinds := [.data, .pinned], laidTests := true, laidLooks := .later }
def AclValidatesRulesCardSaid : Prop := Claim7.holds Tryd.pinned (.plain (OpenSpec.ofChange aclValidatesRulesSpec)) aclValidatesRulesCard

/-- THE SECOND FORM's CARD OF 'ginnellaw14.TenantMatchesModel'. -/
def tenantMatchesModelUptoCard : Claim7 := { stood := { row := tenantMatchesModelUptoRow, standIns := [], harness := (true, "80be85027a276db1170fb2c4608c105be0a44d1c60bd2c78a81fd6b077ae522d"), looks := false }, kinds := [], alts := [], laidByText := true, laidKinds := [.data, .pinned], laidTests := true, laidLooks := .later }
def TenantMatchesModelUptoCardSaid : Prop := Claim7.holds Tryd.pinned (.plain (OpenSpec.upto tenantMatchesModelSpec)) tenantMatchesModelUptoCard

/-- THE SECOND FORM's CARD OF 'ginnellaw14.TenantValidates'. -/
def tenantValidatesUptoCard : Claim7 := { stood := { row := tenantValidatesUptoRow, standIns := [], harness := (true, "80be85027a276db1170fb2c4608c105be0a44d1c60bd2c78a81fd6b077ae522d"), looks := false }, kinds := [], alts := [], laidByText := true, laidKinds := [.data, .pinned], laidTests := true, laidLooks := .later }
def TenantValidatesUptoCardSaid : Prop := Claim7.holds Tryd.pinned (.plain (OpenSpec.upto tenantValidatesSpec)) tenantValidatesUptoCard

/-- THE SECOND FORM's CARD OF 'ginnellaw12.AclValidatesRules'. -/
def aclValidatesRulesUptoCard : Claim7 := { stood := { row := aclValidatesRulesUptoRow, standIns := [], harness := (true, "80be85027a276db1170fb2c4608c105be0a44d1c60bd2c78a81fd6b077ae522d"), looks := false }, kinds := [], alts := [], laidByText := true, laidKinds := [.data, .pinned], laidTests := true, laidLooks := .later }
def AclValidatesRulesUptoCardSaid : Prop := Claim7.holds Tryd.pinned (.plain (OpenSpec.upto aclValidatesRulesSpec)) aclValidatesRulesUptoCard
end Rows
end Go.Proofs.YtbmbnibamhgfmaaDoor
