/-
  DERIVED. GIVEN WITH THE SEED: THE CARDS: each row of YtlgeohjcjhhmhaaDoorRows.lean that lists a variable, with what it lists TIED to the program's text (the seventh form; the later family's looks); each row that meets fmt, with fmt's text TOLD by the authors' own Lean function (tested against real Go, not proved from fmt's source: count such statements apart). THE CARD IS WHAT COUNTS. Prove the row's statement (the work); the ties are given (YtlgeohjcjhhmhaaDoorTie.lean); close each card by the builder's one call (the guide's Derived/Test/ToyasCard.lean, 'card_holds'). Laid BY PROGRAM, IN A SANDBOX (cutbox-door.mjs). By AI agents, Wed Nov 11 2026. No macro, syntax, notation, axiom, sorry.
-/
import Derived.Test.YtlgeohjcjhhmhaaDoorRows
import GoSem.ClaimSeven
namespace Go.Proofs.YtlgeohjcjhhmhaaDoor
namespace Rows

/-- THE TIED CARD OF 'ginnellaw18.ReplyTargetRoundTrip'. -/
def replyTargetRoundTripCard : Claim7 := { stood := { row := replyTargetRoundTripRow, standIns := [], harness := (true, "99643a917f987f53dee5e72c60b6c9a79a8c0181a1436060dddf5913946a7c0a"), looks := false }, kinds := [], alts := [], laidByText := true, laidKinds := [.data, .pinned], laidTests := true, laidLooks := .later }
def ReplyTargetRoundTripCardSaid : Prop := Claim7.holds Tryd.pinned (.plain (OpenSpec.ofChange replyTargetRoundTripSpec)) replyTargetRoundTripCard

/-- THE TIED CARD OF 'ginnellaw18.ReplyParses'. -/
def replyParsesCard : Claim7 := { stood := { row := replyParsesRow, standIns := [], harness := (true, "99643a917f987f53dee5e72c60b6c9a79a8c0181a1436060dddf5913946a7c0a"), looks := false }, kinds := [], alts := [], laidByText := true, laidKinds := [.data, .pinned], laidTests := true, laidLooks := .later }
def ReplyParsesCardSaid : Prop := Claim7.holds Tryd.pinned (.plain (OpenSpec.ofChange replyParsesSpec)) replyParsesCard

/-- THE TIED CARD OF 'ginnellaw18.ReplyRoundTrip'. -/
def replyRoundTripCard : Claim7 := { stood := { row := replyRoundTripRow, standIns := [], harness := (true, "99643a917f987f53dee5e72c60b6c9a79a8c0181a1436060dddf5913946a7c0a"), looks := false }, kinds := [], alts := [], laidByText := true, laidKinds := [.data, .pinned], laidTests := true, laidLooks := .later }
def ReplyRoundTripCardSaid : Prop := Claim7.holds Tryd.pinned (.plain (OpenSpec.ofChange replyRoundTripSpec)) replyRoundTripCard

/-- THE TIED CARD OF 'ginnellaw18.ReplyIsIncremental'. -/
def replyIsIncrementalCard : Claim7 := { stood := { row := replyIsIncrementalRow, standIns := [], harness := (true, "99643a917f987f53dee5e72c60b6c9a79a8c0181a1436060dddf5913946a7c0a"), looks := false }, kinds := [], alts := [], laidByText := true, laidKinds := [.data, .pinned], laidTests := true, laidLooks := .later }
def ReplyIsIncrementalCardSaid : Prop := Claim7.holds Tryd.pinned (.plain (OpenSpec.ofChange replyIsIncrementalSpec)) replyIsIncrementalCard

/-- THE TIED CARD OF 'ginnellaw15.BasicauthBase64Encoding'. -/
def basicauthBase64EncodingCard : Claim7 := { stood := { row := basicauthBase64EncodingRow, standIns := [], harness := (true, "99643a917f987f53dee5e72c60b6c9a79a8c0181a1436060dddf5913946a7c0a"), looks := false }, kinds := [], alts := [], laidByText := true, laidKinds := [.data, .pinned], laidTests := true, laidLooks := .later }
def BasicauthBase64EncodingCardSaid : Prop := Claim7.holds Tryd.pinned (.plain (OpenSpec.ofChange basicauthBase64EncodingSpec)) basicauthBase64EncodingCard

/-- THE TIED CARD OF 'ginnellaw15.BasicauthBase64RoundTrip'. -/
def basicauthBase64RoundTripCard : Claim7 := { stood := { row := basicauthBase64RoundTripRow, standIns := [], harness := (true, "99643a917f987f53dee5e72c60b6c9a79a8c0181a1436060dddf5913946a7c0a"), looks := false }, kinds := [], alts := [], laidByText := true, laidKinds := [.data, .pinned], laidTests := true, laidLooks := .later }
def BasicauthBase64RoundTripCardSaid : Prop := Claim7.holds Tryd.pinned (.plain (OpenSpec.ofChange basicauthBase64RoundTripSpec)) basicauthBase64RoundTripCard

/-- THE TIED CARD OF 'ginnellaw15.BasicauthBase64IsStrict'. -/
def basicauthBase64IsStrictCard : Claim7 := { stood := { row := basicauthBase64IsStrictRow, standIns := [], harness := (true, "99643a917f987f53dee5e72c60b6c9a79a8c0181a1436060dddf5913946a7c0a"), looks := false }, kinds := [], alts := [], laidByText := true, laidKinds := [.data, .pinned], laidTests := true, laidLooks := .later }
def BasicauthBase64IsStrictCardSaid : Prop := Claim7.holds Tryd.pinned (.plain (OpenSpec.ofChange basicauthBase64IsStrictSpec)) basicauthBase64IsStrictCard

/-- THE TIED CARD OF 'ginnellaw15.BasicauthParsesHeader'. -/
def basicauthParsesHeaderCard : Claim7 := { stood := { row := basicauthParsesHeaderRow, standIns := [], harness := (true, "99643a917f987f53dee5e72c60b6c9a79a8c0181a1436060dddf5913946a7c0a"), looks := false }, kinds := [], alts := [], laidByText := true, laidKinds := [.data, .pinned], laidTests := true, laidLooks := .later }
def BasicauthParsesHeaderCardSaid : Prop := Claim7.holds Tryd.pinned (.plain (OpenSpec.ofChange basicauthParsesHeaderSpec)) basicauthParsesHeaderCard

/-- THE TIED CARD OF 'ginnellaw15.BasicauthRoundTrip'. -/
def basicauthRoundTripCard : Claim7 := { stood := { row := basicauthRoundTripRow, standIns := [], harness := (true, "99643a917f987f53dee5e72c60b6c9a79a8c0181a1436060dddf5913946a7c0a"), looks := false }, kinds := [], alts := [], laidByText := true, laidKinds := [.data, .pinned], laidTests := true, laidLooks := .later }
def BasicauthRoundTripCardSaid : Prop := Claim7.holds Tryd.pinned (.plain (OpenSpec.ofChange basicauthRoundTripSpec)) basicauthRoundTripCard

/-- THE SECOND FORM's CARD OF 'ginnellaw18.ReplyTargetRoundTrip'. -/
def replyTargetRoundTripUptoCard : Claim7 := { stood := { row := replyTargetRoundTripUptoRow, standIns := [], harness := (true, "99643a917f987f53dee5e72c60b6c9a79a8c0181a1436060dddf5913946a7c0a"), looks := false }, kinds := [], alts := [], laidByText := true, laidKinds := [.data, .pinned], laidTests := true, laidLooks := .later }
def ReplyTargetRoundTripUptoCardSaid : Prop := Claim7.holds Tryd.pinned (.plain (OpenSpec.upto replyTargetRoundTripSpec)) replyTargetRoundTripUptoCard

/-- THE SECOND FORM's CARD OF 'ginnellaw18.ReplyParses'. -/
def replyParsesUptoCard : Claim7 := { stood := { row := replyParsesUptoRow, standIns := [], harness := (true, "99643a917f987f53dee5e72c60b6c9a79a8c0181a1436060dddf5913946a7c0a"), looks := false }, kinds := [], alts := [], laidByText := true, laidKinds := [.data, .pinned], laidTests := true, laidLooks := .later }
def ReplyParsesUptoCardSaid : Prop := Claim7.holds Tryd.pinned (.plain (OpenSpec.upto replyParsesSpec)) replyParsesUptoCard

/-- THE SECOND FORM's CARD OF 'ginnellaw18.ReplyRoundTrip'. -/
def replyRoundTripUptoCard : Claim7 := { stood := { row := replyRoundTripUptoRow, standIns := [], harness := (true, "99643a917f987f53dee5e72c60b6c9a79a8c0181a1436060dddf5913946a7c0a"), looks := false }, kinds := [], alts := [], laidByText := true, laidKinds := [.data, .pinned], laidTests := true, laidLooks := .later }
def ReplyRoundTripUptoCardSaid : Prop := Claim7.holds Tryd.pinned (.plain (OpenSpec.upto replyRoundTripSpec)) replyRoundTripUptoCard

/-- THE SECOND FORM's CARD OF 'ginnellaw18.ReplyIsIncremental'. -/
def replyIsIncrementalUptoCard : Claim7 := { stood := { row := replyIsIncrementalUptoRow, standIns := [], harness := (true, "99643a917f987f53dee5e72c60b6c9a79a8c0181a1436060dddf5913946a7c0a"), looks := false }, kinds := [], alts := [], laidByText := true, laidKinds := [.data, .pinned], laidTests := true, laidLooks := .later }
def ReplyIsIncrementalUptoCardSaid : Prop := Claim7.holds Tryd.pinned (.plain (OpenSpec.upto replyIsIncrementalSpec)) replyIsIncrementalUptoCard

/-- THE SECOND FORM's CARD OF 'ginnellaw15.BasicauthBase64Encoding'. -/
def basicauthBase64EncodingUptoCard : Claim7 := { stood := { row := basicauthBase64EncodingUptoRow, standIns := [], harness := (true, "99643a917f987f53dee5e72c60b6c9a79a8c0181a1436060dddf5913946a7c0a"), looks := false }, kinds := [], alts := [], laidByText := true, laidKinds := [.data, .pinned], laidTests := true, laidLooks := .later }
def BasicauthBase64EncodingUptoCardSaid : Prop := Claim7.holds Tryd.pinned (.plain (OpenSpec.upto basicauthBase64EncodingSpec)) basicauthBase64EncodingUptoCard

/-- THE SECOND FORM's CARD OF 'ginnellaw15.BasicauthBase64RoundTrip'. -/
def basicauthBase64RoundTripUptoCard : Claim7 := { stood := { row := basicauthBase64RoundTripUptoRow, standIns := [], harness := (true, "99643a917f987f53dee5e72c60b6c9a79a8c0181a1436060dddf5913946a7c0a"), looks := false }, kinds := [], alts := [], laidByText := true, laidKinds := [.data, .pinned], laidTests := true, laidLooks := .later }
def BasicauthBase64RoundTripUptoCardSaid : Prop := Claim7.holds Tryd.pinned (.plain (OpenSpec.upto basicauthBase64RoundTripSpec)) basicauthBase64RoundTripUptoCard

/-- THE SECOND FORM's CARD OF 'ginnellaw15.BasicauthBase64IsStrict'. -/
def basicauthBase64IsStrictUptoCard : Claim7 := { stood := { row := basicauthBase64IsStrictUptoRow, standIns := [], harness := (true, "99643a917f987f53dee5e72c60b6c9a79a8c0181a1436060dddf5913946a7c0a"), looks := false }, kinds := [], alts := [], laidByText := true, laidKinds := [.data, .pinned], laidTests := true, laidLooks := .later }
def BasicauthBase64IsStrictUptoCardSaid : Prop := Claim7.holds Tryd.pinned (.plain (OpenSpec.upto basicauthBase64IsStrictSpec)) basicauthBase64IsStrictUptoCard

/-- THE SECOND FORM's CARD OF 'ginnellaw15.BasicauthParsesHeader'. -/
def basicauthParsesHeaderUptoCard : Claim7 := { stood := { row := basicauthParsesHeaderUptoRow, standIns := [], harness := (true, "99643a917f987f53dee5e72c60b6c9a79a8c0181a1436060dddf5913946a7c0a"), looks := false }, kinds := [], alts := [], laidByText := true, laidKinds := [.data, .pinned], laidTests := true, laidLooks := .later }
def BasicauthParsesHeaderUptoCardSaid : Prop := Claim7.holds Tryd.pinned (.plain (OpenSpec.upto basicauthParsesHeaderSpec)) basicauthParsesHeaderUptoCard

/-- THE SECOND FORM's CARD OF 'ginnellaw15.BasicauthRoundTrip'. -/
def basicauthRoundTripUptoCard : Claim7 := { stood := { row := basicauthRoundTripUptoRow, standIns := [], harness := (true, "99643a917f987f53dee5e72c60b6c9a79a8c0181a1436060dddf5913946a7c0a"), looks := false }, kinds := [], alts := [], laidByText := true, laidKinds := [.data, .pinned], laidTests := true, laidLooks := .later }
def BasicauthRoundTripUptoCardSaid : Prop := Claim7.holds Tryd.pinned (.plain (OpenSpec.upto basicauthRoundTripSpec)) basicauthRoundTripUptoCard
end Rows
end Go.Proofs.YtlgeohjcjhhmhaaDoor
