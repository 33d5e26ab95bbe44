/-
  DERIVED. GIVEN WITH THE SEED: THE CARDS: each row of YtjabeabbaambcaaDoorRows.lean that lists a variable, with what it lists TIED to the program's text (the seventh form; the later family's looks); each row that meets fmt, with fmt's text TOLD by the authors' own Lean function (tested against real Go, not proved from fmt's source: count such statements apart). THE CARD IS WHAT COUNTS. Prove the row's statement (the work); the ties are given (YtjabeabbaambcaaDoorTie.lean); close each card by the builder's one call (the guide's Derived/Test/ToyasCard.lean, 'card_holds'). Laid BY PROGRAM, IN A SANDBOX (cutbox-door.mjs). By AI agents, Wed Nov 11 2026. No macro, syntax, notation, axiom, sorry.
-/
import Derived.Test.YtjabeabbaambcaaDoorRows
import GoSem.ClaimSeven
namespace Go.Proofs.YtjabeabbaambcaaDoor
namespace Rows

/-- THE TIED CARD OF 'ginnellaw27.QuerypairFiltersAnswers'. -/
def querypairFiltersAnswersCard : Claim7 := { stood := { row := querypairFiltersAnswersRow, standIns := [], harness := (true, "0f6f24373a7442102c946cf4e8d48fc6f69239621b60ce9659ca90ea52919f28"), looks := false }, kinds := [], alts := [], laidByText := true, laidKinds := [.data, .pinned], laidTests := true, laidLooks := .later }
def QuerypairFiltersAnswersCardSaid : Prop := Claim7.holds Tryd.pinned (.plain (OpenSpec.ofChange querypairFiltersAnswersSpec)) querypairFiltersAnswersCard

/-- THE TIED CARD OF 'ginnellaw11.BlocklistMatchesModel'. -/
def blocklistMatchesModelCard : Claim7 := { stood := { row := blocklistMatchesModelRow, standIns := [], harness := (true, "0f6f24373a7442102c946cf4e8d48fc6f69239621b60ce9659ca90ea52919f28"), looks := false }, kinds := [], alts := [], laidByText := true, laidKinds := [.data, .pinned], laidTests := true, laidLooks := .later }
def BlocklistMatchesModelCardSaid : Prop := Claim7.holds Tryd.pinned (.plain (OpenSpec.ofChange blocklistMatchesModelSpec)) blocklistMatchesModelCard

/-- THE TIED CARD OF 'ginnellaw11.BlocklistDisjoint'. -/
def blocklistDisjointCard : Claim7 := { stood := { row := blocklistDisjointRow, standIns := [], harness := (true, "0f6f24373a7442102c946cf4e8d48fc6f69239621b60ce9659ca90ea52919f28"), looks := false }, kinds := [], alts := [], laidByText := true, laidKinds := [.data, .pinned], laidTests := true, laidLooks := .later }
def BlocklistDisjointCardSaid : Prop := Claim7.holds Tryd.pinned (.plain (OpenSpec.ofChange blocklistDisjointSpec)) blocklistDisjointCard

/-- THE TIED CARD OF 'ginnellaw11.BlocklistCoversMapped'. -/
def blocklistCoversMappedCard : Claim7 := { stood := { row := blocklistCoversMappedRow, standIns := [], harness := (true, "0f6f24373a7442102c946cf4e8d48fc6f69239621b60ce9659ca90ea52919f28"), looks := false }, kinds := [], alts := [], laidByText := true, laidKinds := [.data, .pinned], laidTests := true, laidLooks := .later }
def BlocklistCoversMappedCardSaid : Prop := Claim7.holds Tryd.pinned (.plain (OpenSpec.ofChange blocklistCoversMappedSpec)) blocklistCoversMappedCard

/-- THE TIED CARD OF 'ginnellaw27.QuerypairMatchesModel'. -/
def querypairMatchesModelCard : Claim7 := { stood := { row := querypairMatchesModelRow, standIns := [], harness := (true, "0f6f24373a7442102c946cf4e8d48fc6f69239621b60ce9659ca90ea52919f28"), looks := false }, kinds := [], alts := [], laidByText := true, laidKinds := [.data, .pinned], laidTests := true, laidLooks := .later }
def QuerypairMatchesModelCardSaid : Prop := Claim7.holds Tryd.pinned (.plain (OpenSpec.ofChange querypairMatchesModelSpec)) querypairMatchesModelCard

/-- THE TIED CARD OF 'ginnellaw27.QuerypairReadyIsMonotonic'. -/
def querypairReadyIsMonotonicCard : Claim7 := { stood := { row := querypairReadyIsMonotonicRow, standIns := [], harness := (true, "0f6f24373a7442102c946cf4e8d48fc6f69239621b60ce9659ca90ea52919f28"), looks := false }, kinds := [], alts := [], laidByText := true, laidKinds := [.data, .pinned], laidTests := true, laidLooks := .later }
def QuerypairReadyIsMonotonicCardSaid : Prop := Claim7.holds Tryd.pinned (.plain (OpenSpec.ofChange querypairReadyIsMonotonicSpec)) querypairReadyIsMonotonicCard

/-- THE TIED CARD OF 'ginnellaw24.PolicytableMatchesModel'. -/
def policytableMatchesModelCard : Claim7 := { stood := { row := policytableMatchesModelRow, standIns := [], harness := (true, "0f6f24373a7442102c946cf4e8d48fc6f69239621b60ce9659ca90ea52919f28"), looks := false }, kinds := [], alts := [], laidByText := true, laidKinds := [.data, .pinned], laidTests := true, laidLooks := .later }
def PolicytableMatchesModelCardSaid : Prop := Claim7.holds Tryd.pinned (.plain (OpenSpec.ofChange policytableMatchesModelSpec)) policytableMatchesModelCard

/-- THE TIED CARD OF 'ginnellaw24.PolicytableRowBoundaries'. -/
def policytableRowBoundariesCard : Claim7 := { stood := { row := policytableRowBoundariesRow, standIns := [], harness := (true, "0f6f24373a7442102c946cf4e8d48fc6f69239621b60ce9659ca90ea52919f28"), looks := false }, kinds := [], alts := [], laidByText := true, laidKinds := [.data, .pinned], laidTests := true, laidLooks := .later }
def PolicytableRowBoundariesCardSaid : Prop := Claim7.holds Tryd.pinned (.plain (OpenSpec.ofChange policytableRowBoundariesSpec)) policytableRowBoundariesCard

/-- THE TIED CARD OF 'ginnellaw24.PolicytableIPv4AsMapped'. -/
def policytableIPv4AsMappedCard : Claim7 := { stood := { row := policytableIPv4AsMappedRow, standIns := [], harness := (true, "0f6f24373a7442102c946cf4e8d48fc6f69239621b60ce9659ca90ea52919f28"), looks := false }, kinds := [], alts := [], laidByText := true, laidKinds := [.data, .pinned], laidTests := true, laidLooks := .later }
def PolicytableIPv4AsMappedCardSaid : Prop := Claim7.holds Tryd.pinned (.plain (OpenSpec.ofChange policytableIPv4AsMappedSpec)) policytableIPv4AsMappedCard

/-- THE TIED CARD OF 'ginnellaw24.PolicytableIsTotal'. -/
def policytableIsTotalCard : Claim7 := { stood := { row := policytableIsTotalRow, standIns := [], harness := (true, "0f6f24373a7442102c946cf4e8d48fc6f69239621b60ce9659ca90ea52919f28"), looks := false }, kinds := [], alts := [], laidByText := true, laidKinds := [.data, .pinned], laidTests := true, laidLooks := .later }
def PolicytableIsTotalCardSaid : Prop := Claim7.holds Tryd.pinned (.plain (OpenSpec.ofChange policytableIsTotalSpec)) policytableIsTotalCard

/-- THE SECOND FORM's CARD OF 'ginnellaw27.QuerypairFiltersAnswers'. -/
def querypairFiltersAnswersUptoCard : Claim7 := { stood := { row := querypairFiltersAnswersUptoRow, standIns := [], harness := (true, "0f6f24373a7442102c946cf4e8d48fc6f69239621b60ce9659ca90ea52919f28"), looks := false }, kinds := [], alts := [], laidByText := true, laidKinds := [.data, .pinned], laidTests := true, laidLooks := .later }
def QuerypairFiltersAnswersUptoCardSaid : Prop := Claim7.holds Tryd.pinned (.plain (OpenSpec.upto querypairFiltersAnswersSpec)) querypairFiltersAnswersUptoCard

/-- THE SECOND FORM's CARD OF 'ginnellaw11.BlocklistMatchesModel'. -/
def blocklistMatchesModelUptoCard : Claim7 := { stood := { row := blocklistMatchesModelUptoRow, standIns := [], harness := (true, "0f6f24373a7442102c946cf4e8d48fc6f69239621b60ce9659ca90ea52919f28"), looks := false }, kinds := [], alts := [], laidByText := true, laidKinds := [.data, .pinned], laidTests := true, laidLooks := .later }
def BlocklistMatchesModelUptoCardSaid : Prop := Claim7.holds Tryd.pinned (.plain (OpenSpec.upto blocklistMatchesModelSpec)) blocklistMatchesModelUptoCard

/-- THE SECOND FORM's CARD OF 'ginnellaw11.BlocklistDisjoint'. -/
def blocklistDisjointUptoCard : Claim7 := { stood := { row := blocklistDisjointUptoRow, standIns := [], harness := (true, "0f6f24373a7442102c946cf4e8d48fc6f69239621b60ce9659ca90ea52919f28"), looks := false }, kinds := [], alts := [], laidByText := true, laidKinds := [.data, .pinned], laidTests := true, laidLooks := .later }
def BlocklistDisjointUptoCardSaid : Prop := Claim7.holds Tryd.pinned (.plain (OpenSpec.upto blocklistDisjointSpec)) blocklistDisjointUptoCard

/-- THE SECOND FORM's CARD OF 'ginnellaw11.BlocklistCoversMapped'. -/
def blocklistCoversMappedUptoCard : Claim7 := { stood := { row := blocklistCoversMappedUptoRow, standIns := [], harness := (true, "0f6f24373a7442102c946cf4e8d48fc6f69239621b60ce9659ca90ea52919f28"), looks := false }, kinds := [], alts := [], laidByText := true, laidKinds := [.data, .pinned], laidTests := true, laidLooks := .later }
def BlocklistCoversMappedUptoCardSaid : Prop := Claim7.holds Tryd.pinned (.plain (OpenSpec.upto blocklistCoversMappedSpec)) blocklistCoversMappedUptoCard

/-- THE SECOND FORM's CARD OF 'ginnellaw27.QuerypairMatchesModel'. -/
def querypairMatchesModelUptoCard : Claim7 := { stood := { row := querypairMatchesModelUptoRow, standIns := [], harness := (true, "0f6f24373a7442102c946cf4e8d48fc6f69239621b60ce9659ca90ea52919f28"), looks := false }, kinds := [], alts := [], laidByText := true, laidKinds := [.data, .pinned], laidTests := true, laidLooks := .later }
def QuerypairMatchesModelUptoCardSaid : Prop := Claim7.holds Tryd.pinned (.plain (OpenSpec.upto querypairMatchesModelSpec)) querypairMatchesModelUptoCard

/-- THE SECOND FORM's CARD OF 'ginnellaw27.QuerypairReadyIsMonotonic'. -/
def querypairReadyIsMonotonicUptoCard : Claim7 := { stood := { row := querypairReadyIsMonotonicUptoRow, standIns := [], harness := (true, "0f6f24373a7442102c946cf4e8d48fc6f69239621b60ce9659ca90ea52919f28"), looks := false }, kinds := [], alts := [], laidByText := true, laidKinds := [.data, .pinned], laidTests := true, laidLooks := .later }
def QuerypairReadyIsMonotonicUptoCardSaid : Prop := Claim7.holds Tryd.pinned (.plain (OpenSpec.upto querypairReadyIsMonotonicSpec)) querypairReadyIsMonotonicUptoCard

/-- THE SECOND FORM's CARD OF 'ginnellaw24.PolicytableMatchesModel'. -/
def policytableMatchesModelUptoCard : Claim7 := { stood := { row := policytableMatchesModelUptoRow, standIns := [], harness := (true, "0f6f24373a7442102c946cf4e8d48fc6f69239621b60ce9659ca90ea52919f28"), looks := false }, kinds := [], alts := [], laidByText := true, laidKinds := [.data, .pinned], laidTests := true, laidLooks := .later }
def PolicytableMatchesModelUptoCardSaid : Prop := Claim7.holds Tryd.pinned (.plain (OpenSpec.upto policytableMatchesModelSpec)) policytableMatchesModelUptoCard

/-- THE SECOND FORM's CARD OF 'ginnellaw24.PolicytableRowBoundaries'. -/
def policytableRowBoundariesUptoCard : Claim7 := { stood := { row := policytableRowBoundariesUptoRow, standIns := [], harness := (true, "0f6f24373a7442102c946cf4e8d48fc6f69239621b60ce9659ca90ea52919f28"), looks := false }, kinds := [], alts := [], laidByText := true, laidKinds := [.data, .pinned], laidTests := true, laidLooks := .later }
def PolicytableRowBoundariesUptoCardSaid : Prop := Claim7.holds Tryd.pinned (.plain (OpenSpec.upto policytableRowBoundariesSpec)) policytableRowBoundariesUptoCard

/-- THE SECOND FORM's CARD OF 'ginnellaw24.PolicytableIPv4AsMapped'. -/
def policytableIPv4AsMappedUptoCard : Claim7 := { stood := { row := policytableIPv4AsMappedUptoRow, standIns := [], harness := (true, "0f6f24373a7442102c946cf4e8d48fc6f69239621b60ce9659ca90ea52919f28"), looks := false }, kinds := [], alts := [], laidByText := true, laidKinds := [.data, .pinned], laidTests := true, laidLooks := .later }
def PolicytableIPv4AsMappedUptoCardSaid : Prop := Claim7.holds Tryd.pinned (.plain (OpenSpec.upto policytableIPv4AsMappedSpec)) policytableIPv4AsMappedUptoCard

/-- THE SECOND FORM's CARD OF 'ginnellaw24.PolicytableIsTotal'. -/
def policytableIsTotalUptoCard : Claim7 := { stood := { row := policytableIsTotalUptoRow, standIns := [], harness := (true, "0f6f24373a7442102c946cf4e8d48fc6f69239621b60ce9659ca90ea52919f28"), looks := false }, kinds := [], alts := [], laidByText := true, laidKinds := [.data, .pinned], laidTests := true, laidLooks := .later }
def PolicytableIsTotalUptoCardSaid : Prop := Claim7.holds Tryd.pinned (.plain (OpenSpec.upto policytableIsTotalSpec)) policytableIsTotalUptoCard
end Rows
end Go.Proofs.YtjabeabbaambcaaDoor
