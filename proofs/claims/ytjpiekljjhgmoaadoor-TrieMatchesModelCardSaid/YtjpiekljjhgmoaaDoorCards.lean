/-
  DERIVED. GIVEN WITH THE SEED: THE CARDS: each row of YtjpiekljjhgmoaaDoorRows.lean that lists a variable, with what it lists TIED to the program's text (the seventh form; the later family's looks); each row that meets fmt, with fmt's text TOLD by the authors' own Lean function (tested against real Go, not proved from fmt's source: count such statements apart). THE CARD IS WHAT COUNTS. Prove the row's statement (the work); the ties are given (YtjpiekljjhgmoaaDoorTie.lean); close each card by the builder's one call (the guide's Derived/Test/ToyasCard.lean, 'card_holds'). Laid BY PROGRAM, IN A SANDBOX (cutbox-door.mjs). By AI agents, Wed Nov 11 2026. No macro, syntax, notation, axiom, sorry.
-/
import Derived.Test.YtjpiekljjhgmoaaDoorRows
import GoSem.ClaimSeven
namespace Go.Proofs.YtjpiekljjhgmoaaDoor
namespace Rows

/-- THE TIED CARD OF 'ginnellaw10.TrieLongestMatch'. -/
def trieLongestMatchCard : Claim7 := { stood := { row := trieLongestMatchRow, standIns := [], harness := (true, "183a9a58f1c245d388d2687be0ad6c7c836a81ed2c490f6da948adc4bd5afcfb"), looks := false }, kinds := [], alts := [], laidByText := true, laidKinds := [.data, .pinned], laidTests := true, laidLooks := .later }
def TrieLongestMatchCardSaid : Prop := Claim7.holds Tryd.pinned (.plain (OpenSpec.ofChange trieLongestMatchSpec)) trieLongestMatchCard

/-- THE TIED CARD OF 'ginnellaw10.TrieDoesNotAlias'. -/
def trieDoesNotAliasCard : Claim7 := { stood := { row := trieDoesNotAliasRow, standIns := [], harness := (true, "183a9a58f1c245d388d2687be0ad6c7c836a81ed2c490f6da948adc4bd5afcfb"), looks := false }, kinds := [], alts := [], laidByText := true, laidKinds := [.data, .pinned], laidTests := true, laidLooks := .later }
def TrieDoesNotAliasCardSaid : Prop := Claim7.holds Tryd.pinned (.plain (OpenSpec.ofChange trieDoesNotAliasSpec)) trieDoesNotAliasCard

/-- THE TIED CARD OF 'ginnellaw10.TrieSeparatesFamilies'. -/
def trieSeparatesFamiliesCard : Claim7 := { stood := { row := trieSeparatesFamiliesRow, standIns := [], harness := (true, "183a9a58f1c245d388d2687be0ad6c7c836a81ed2c490f6da948adc4bd5afcfb"), looks := false }, kinds := [], alts := [], laidByText := true, laidKinds := [.data, .pinned], laidTests := true, laidLooks := .later }
def TrieSeparatesFamiliesCardSaid : Prop := Claim7.holds Tryd.pinned (.plain (OpenSpec.ofChange trieSeparatesFamiliesSpec)) trieSeparatesFamiliesCard

/-- THE TIED CARD OF 'ginnellaw10.TrieMatchesModel'. -/
def trieMatchesModelCard : Claim7 := { stood := { row := trieMatchesModelRow, standIns := [], harness := (true, "183a9a58f1c245d388d2687be0ad6c7c836a81ed2c490f6da948adc4bd5afcfb"), looks := false }, kinds := [], alts := [], laidByText := true, laidKinds := [.data, .pinned], laidTests := true, laidLooks := .later }
def TrieMatchesModelCardSaid : Prop := Claim7.holds Tryd.pinned (.plain (OpenSpec.ofChange trieMatchesModelSpec)) trieMatchesModelCard

/-- THE SECOND FORM's CARD OF 'ginnellaw10.TrieLongestMatch'. -/
def trieLongestMatchUptoCard : Claim7 := { stood := { row := trieLongestMatchUptoRow, standIns := [], harness := (true, "183a9a58f1c245d388d2687be0ad6c7c836a81ed2c490f6da948adc4bd5afcfb"), looks := false }, kinds := [], alts := [], laidByText := true, laidKinds := [.data, .pinned], laidTests := true, laidLooks := .later }
def TrieLongestMatchUptoCardSaid : Prop := Claim7.holds Tryd.pinned (.plain (OpenSpec.upto trieLongestMatchSpec)) trieLongestMatchUptoCard

/-- THE SECOND FORM's CARD OF 'ginnellaw10.TrieDoesNotAlias'. -/
def trieDoesNotAliasUptoCard : Claim7 := { stood := { row := trieDoesNotAliasUptoRow, standIns := [], harness := (true, "183a9a58f1c245d388d2687be0ad6c7c836a81ed2c490f6da948adc4bd5afcfb"), looks := false }, kinds := [], alts := [], laidByText := true, laidKinds := [.data, .pinned], laidTests := true, laidLooks := .later }
def TrieDoesNotAliasUptoCardSaid : Prop := Claim7.holds Tryd.pinned (.plain (OpenSpec.upto trieDoesNotAliasSpec)) trieDoesNotAliasUptoCard

/-- THE SECOND FORM's CARD OF 'ginnellaw10.TrieSeparatesFamilies'. -/
def trieSeparatesFamiliesUptoCard : Claim7 := { stood := { row := trieSeparatesFamiliesUptoRow, standIns := [], harness := (true, "183a9a58f1c245d388d2687be0ad6c7c836a81ed2c490f6da948adc4bd5afcfb"), looks := false }, kinds := [], alts := [], laidByText := true, laidKinds := [.data, .pinned], laidTests := true, laidLooks := .later }
def TrieSeparatesFamiliesUptoCardSaid : Prop := Claim7.holds Tryd.pinned (.plain (OpenSpec.upto trieSeparatesFamiliesSpec)) trieSeparatesFamiliesUptoCard

/-- THE SECOND FORM's CARD OF 'ginnellaw10.TrieMatchesModel'. -/
def trieMatchesModelUptoCard : Claim7 := { stood := { row := trieMatchesModelUptoRow, standIns := [], harness := (true, "183a9a58f1c245d388d2687be0ad6c7c836a81ed2c490f6da948adc4bd5afcfb"), looks := false }, kinds := [], alts := [], laidByText := true, laidKinds := [.data, .pinned], laidTests := true, laidLooks := .later }
def TrieMatchesModelUptoCardSaid : Prop := Claim7.holds Tryd.pinned (.plain (OpenSpec.upto trieMatchesModelSpec)) trieMatchesModelUptoCard
end Rows
end Go.Proofs.YtjpiekljjhgmoaaDoor
