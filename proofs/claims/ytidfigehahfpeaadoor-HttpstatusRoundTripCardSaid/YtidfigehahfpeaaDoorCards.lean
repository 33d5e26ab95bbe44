/-
  DERIVED. GIVEN WITH THE SEED: THE CARDS: each row of YtidfigehahfpeaaDoorRows.lean that lists a variable, with what it lists TIED to the program's text (the seventh form; the later family's looks); each row that meets fmt, with fmt's text TOLD by the authors' own Lean function (tested against real Go, not proved from fmt's source: count such statements apart). THE CARD IS WHAT COUNTS. Prove the row's statement (the work); the ties are given (YtidfigehahfpeaaDoorTie.lean); close each card by the builder's one call (the guide's Derived/Test/ToyasCard.lean, 'card_holds'). Laid BY PROGRAM, IN A SANDBOX (cutbox-door.mjs). By AI agents, Wed Nov 11 2026. No macro, syntax, notation, axiom, sorry.
-/
import Derived.Test.YtidfigehahfpeaaDoorRows
import GoSem.ClaimSeven
namespace Go.Proofs.YtidfigehahfpeaaDoor
namespace Rows

/-- THE TIED CARD OF 'ginnellaw21.HttpstatusFormats'. -/
def httpstatusFormatsCard : Claim7 := { stood := { row := httpstatusFormatsRow, standIns := [], harness := (true, "fcf80e1bbbaf8872d96a5d485412283007d0d91502e78346762b34ff9cdf5e3a"), looks := false }, kinds := [], alts := [], laidByText := true, laidKinds := [.data, .data, .data], laidTests := true, laidLooks := .later }
def HttpstatusFormatsCardSaid : Prop := Claim7.holds Tryd.pinned (.plain (OpenSpec.ofChange httpstatusFormatsSpec)) httpstatusFormatsCard

/-- THE TIED CARD OF 'ginnellaw21.HttpstatusRoundTrip'. -/
def httpstatusRoundTripCard : Claim7 := { stood := { row := httpstatusRoundTripRow, standIns := [], harness := (true, "fcf80e1bbbaf8872d96a5d485412283007d0d91502e78346762b34ff9cdf5e3a"), looks := false }, kinds := [], alts := [], laidByText := true, laidKinds := [.data, .data, .data], laidTests := true, laidLooks := .later }
def HttpstatusRoundTripCardSaid : Prop := Claim7.holds Tryd.pinned (.plain (OpenSpec.ofChange httpstatusRoundTripSpec)) httpstatusRoundTripCard

/-- THE TIED CARD OF 'ginnellaw15.BasicauthBase64Encoding'. -/
def basicauthBase64EncodingCard : Claim7 := { stood := { row := basicauthBase64EncodingRow, standIns := [], harness := (true, "fcf80e1bbbaf8872d96a5d485412283007d0d91502e78346762b34ff9cdf5e3a"), looks := false }, kinds := [], alts := [], laidByText := true, laidKinds := [.data, .pinned], laidTests := true, laidLooks := .later }
def BasicauthBase64EncodingCardSaid : Prop := Claim7.holds Tryd.pinned (.plain (OpenSpec.ofChange basicauthBase64EncodingSpec)) basicauthBase64EncodingCard

/-- THE TIED CARD OF 'ginnellaw15.BasicauthBase64RoundTrip'. -/
def basicauthBase64RoundTripCard : Claim7 := { stood := { row := basicauthBase64RoundTripRow, standIns := [], harness := (true, "fcf80e1bbbaf8872d96a5d485412283007d0d91502e78346762b34ff9cdf5e3a"), looks := false }, kinds := [], alts := [], laidByText := true, laidKinds := [.data, .pinned], laidTests := true, laidLooks := .later }
def BasicauthBase64RoundTripCardSaid : Prop := Claim7.holds Tryd.pinned (.plain (OpenSpec.ofChange basicauthBase64RoundTripSpec)) basicauthBase64RoundTripCard

/-- THE TIED CARD OF 'ginnellaw15.BasicauthBase64IsStrict'. -/
def basicauthBase64IsStrictCard : Claim7 := { stood := { row := basicauthBase64IsStrictRow, standIns := [], harness := (true, "fcf80e1bbbaf8872d96a5d485412283007d0d91502e78346762b34ff9cdf5e3a"), looks := false }, kinds := [], alts := [], laidByText := true, laidKinds := [.data, .pinned], laidTests := true, laidLooks := .later }
def BasicauthBase64IsStrictCardSaid : Prop := Claim7.holds Tryd.pinned (.plain (OpenSpec.ofChange basicauthBase64IsStrictSpec)) basicauthBase64IsStrictCard

/-- THE TIED CARD OF 'ginnellaw15.BasicauthParsesHeader'. -/
def basicauthParsesHeaderCard : Claim7 := { stood := { row := basicauthParsesHeaderRow, standIns := [], harness := (true, "fcf80e1bbbaf8872d96a5d485412283007d0d91502e78346762b34ff9cdf5e3a"), looks := false }, kinds := [], alts := [], laidByText := true, laidKinds := [.data, .pinned], laidTests := true, laidLooks := .later }
def BasicauthParsesHeaderCardSaid : Prop := Claim7.holds Tryd.pinned (.plain (OpenSpec.ofChange basicauthParsesHeaderSpec)) basicauthParsesHeaderCard

/-- THE TIED CARD OF 'ginnellaw15.BasicauthRoundTrip'. -/
def basicauthRoundTripCard : Claim7 := { stood := { row := basicauthRoundTripRow, standIns := [], harness := (true, "fcf80e1bbbaf8872d96a5d485412283007d0d91502e78346762b34ff9cdf5e3a"), looks := false }, kinds := [], alts := [], laidByText := true, laidKinds := [.data, .pinned], laidTests := true, laidLooks := .later }
def BasicauthRoundTripCardSaid : Prop := Claim7.holds Tryd.pinned (.plain (OpenSpec.ofChange basicauthRoundTripSpec)) basicauthRoundTripCard

/-- THE TIED CARD OF 'ginnellaw22.ReasonCodes'. -/
def reasonCodesCard : Claim7 := { stood := { row := reasonCodesRow, standIns := [], harness := (true, "fcf80e1bbbaf8872d96a5d485412283007d0d91502e78346762b34ff9cdf5e3a"), looks := false }, kinds := [], alts := [], laidByText := true, laidKinds := [.data, .data, .data, .data, .pinned], laidTests := true, laidLooks := .later }
def ReasonCodesCardSaid : Prop := Claim7.holds Tryd.pinned (.plain (OpenSpec.ofChange reasonCodesSpec)) reasonCodesCard

/-- THE TIED CARD OF 'ginnellaw22.ReasonReplies'. -/
def reasonRepliesCard : Claim7 := { stood := { row := reasonRepliesRow, standIns := [], harness := (true, "fcf80e1bbbaf8872d96a5d485412283007d0d91502e78346762b34ff9cdf5e3a"), looks := false }, kinds := [], alts := [], laidByText := true, laidKinds := [.data, .data, .data, .data, .pinned], laidTests := true, laidLooks := .later }
def ReasonRepliesCardSaid : Prop := Claim7.holds Tryd.pinned (.plain (OpenSpec.ofChange reasonRepliesSpec)) reasonRepliesCard

/-- THE TIED CARD OF 'ginnellaw22.ReasonPrimaryIsOrderFree'. -/
def reasonPrimaryIsOrderFreeCard : Claim7 := { stood := { row := reasonPrimaryIsOrderFreeRow, standIns := [], harness := (true, "fcf80e1bbbaf8872d96a5d485412283007d0d91502e78346762b34ff9cdf5e3a"), looks := false }, kinds := [], alts := [], laidByText := true, laidKinds := [.data, .data, .data, .data, .pinned], laidTests := true, laidLooks := .later }
def ReasonPrimaryIsOrderFreeCardSaid : Prop := Claim7.holds Tryd.pinned (.plain (OpenSpec.ofChange reasonPrimaryIsOrderFreeSpec)) reasonPrimaryIsOrderFreeCard

/-- THE SECOND FORM's CARD OF 'ginnellaw21.HttpstatusFormats'. -/
def httpstatusFormatsUptoCard : Claim7 := { stood := { row := httpstatusFormatsUptoRow, standIns := [], harness := (true, "fcf80e1bbbaf8872d96a5d485412283007d0d91502e78346762b34ff9cdf5e3a"), looks := false }, kinds := [], alts := [], laidByText := true, laidKinds := [.data, .data, .data], laidTests := true, laidLooks := .later }
def HttpstatusFormatsUptoCardSaid : Prop := Claim7.holds Tryd.pinned (.plain (OpenSpec.upto httpstatusFormatsSpec)) httpstatusFormatsUptoCard

/-- THE SECOND FORM's CARD OF 'ginnellaw21.HttpstatusRoundTrip'. -/
def httpstatusRoundTripUptoCard : Claim7 := { stood := { row := httpstatusRoundTripUptoRow, standIns := [], harness := (true, "fcf80e1bbbaf8872d96a5d485412283007d0d91502e78346762b34ff9cdf5e3a"), looks := false }, kinds := [], alts := [], laidByText := true, laidKinds := [.data, .data, .data], laidTests := true, laidLooks := .later }
def HttpstatusRoundTripUptoCardSaid : Prop := Claim7.holds Tryd.pinned (.plain (OpenSpec.upto httpstatusRoundTripSpec)) httpstatusRoundTripUptoCard

/-- THE SECOND FORM's CARD OF 'ginnellaw15.BasicauthBase64Encoding'. -/
def basicauthBase64EncodingUptoCard : Claim7 := { stood := { row := basicauthBase64EncodingUptoRow, standIns := [], harness := (true, "fcf80e1bbbaf8872d96a5d485412283007d0d91502e78346762b34ff9cdf5e3a"), looks := false }, kinds := [], alts := [], laidByText := true, laidKinds := [.data, .pinned], laidTests := true, laidLooks := .later }
def BasicauthBase64EncodingUptoCardSaid : Prop := Claim7.holds Tryd.pinned (.plain (OpenSpec.upto basicauthBase64EncodingSpec)) basicauthBase64EncodingUptoCard

/-- THE SECOND FORM's CARD OF 'ginnellaw15.BasicauthBase64RoundTrip'. -/
def basicauthBase64RoundTripUptoCard : Claim7 := { stood := { row := basicauthBase64RoundTripUptoRow, standIns := [], harness := (true, "fcf80e1bbbaf8872d96a5d485412283007d0d91502e78346762b34ff9cdf5e3a"), looks := false }, kinds := [], alts := [], laidByText := true, laidKinds := [.data, .pinned], laidTests := true, laidLooks := .later }
def BasicauthBase64RoundTripUptoCardSaid : Prop := Claim7.holds Tryd.pinned (.plain (OpenSpec.upto basicauthBase64RoundTripSpec)) basicauthBase64RoundTripUptoCard

/-- THE SECOND FORM's CARD OF 'ginnellaw15.BasicauthBase64IsStrict'. -/
def basicauthBase64IsStrictUptoCard : Claim7 := { stood := { row := basicauthBase64IsStrictUptoRow, standIns := [], harness := (true, "fcf80e1bbbaf8872d96a5d485412283007d0d91502e78346762b34ff9cdf5e3a"), looks := false }, kinds := [], alts := [], laidByText := true, laidKinds := [.data, .pinned], laidTests := true, laidLooks := .later }
def BasicauthBase64IsStrictUptoCardSaid : Prop := Claim7.holds Tryd.pinned (.plain (OpenSpec.upto basicauthBase64IsStrictSpec)) basicauthBase64IsStrictUptoCard

/-- THE SECOND FORM's CARD OF 'ginnellaw15.BasicauthParsesHeader'. -/
def basicauthParsesHeaderUptoCard : Claim7 := { stood := { row := basicauthParsesHeaderUptoRow, standIns := [], harness := (true, "fcf80e1bbbaf8872d96a5d485412283007d0d91502e78346762b34ff9cdf5e3a"), looks := false }, kinds := [], alts := [], laidByText := true, laidKinds := [.data, .pinned], laidTests := true, laidLooks := .later }
def BasicauthParsesHeaderUptoCardSaid : Prop := Claim7.holds Tryd.pinned (.plain (OpenSpec.upto basicauthParsesHeaderSpec)) basicauthParsesHeaderUptoCard

/-- THE SECOND FORM's CARD OF 'ginnellaw15.BasicauthRoundTrip'. -/
def basicauthRoundTripUptoCard : Claim7 := { stood := { row := basicauthRoundTripUptoRow, standIns := [], harness := (true, "fcf80e1bbbaf8872d96a5d485412283007d0d91502e78346762b34ff9cdf5e3a"), looks := false }, kinds := [], alts := [], laidByText := true, laidKinds := [.data, .pinned], laidTests := true, laidLooks := .later }
def BasicauthRoundTripUptoCardSaid : Prop := Claim7.holds Tryd.pinned (.plain (OpenSpec.upto basicauthRoundTripSpec)) basicauthRoundTripUptoCard

/-- THE SECOND FORM's CARD OF 'ginnellaw22.ReasonCodes'. -/
def reasonCodesUptoCard : Claim7 := { stood := { row := reasonCodesUptoRow, standIns := [], harness := (true, "fcf80e1bbbaf8872d96a5d485412283007d0d91502e78346762b34ff9cdf5e3a"), looks := false }, kinds := [], alts := [], laidByText := true, laidKinds := [.data, .data, .data, .data, .pinned], laidTests := true, laidLooks := .later }
def ReasonCodesUptoCardSaid : Prop := Claim7.holds Tryd.pinned (.plain (OpenSpec.upto reasonCodesSpec)) reasonCodesUptoCard

/-- THE SECOND FORM's CARD OF 'ginnellaw22.ReasonReplies'. -/
def reasonRepliesUptoCard : Claim7 := { stood := { row := reasonRepliesUptoRow, standIns := [], harness := (true, "fcf80e1bbbaf8872d96a5d485412283007d0d91502e78346762b34ff9cdf5e3a"), looks := false }, kinds := [], alts := [], laidByText := true, laidKinds := [.data, .data, .data, .data, .pinned], laidTests := true, laidLooks := .later }
def ReasonRepliesUptoCardSaid : Prop := Claim7.holds Tryd.pinned (.plain (OpenSpec.upto reasonRepliesSpec)) reasonRepliesUptoCard

/-- THE SECOND FORM's CARD OF 'ginnellaw22.ReasonPrimaryIsOrderFree'. -/
def reasonPrimaryIsOrderFreeUptoCard : Claim7 := { stood := { row := reasonPrimaryIsOrderFreeUptoRow, standIns := [], harness := (true, "fcf80e1bbbaf8872d96a5d485412283007d0d91502e78346762b34ff9cdf5e3a"), looks := false }, kinds := [], alts := [], laidByText := true, laidKinds := [.data, .data, .data, .data, .pinned], laidTests := true, laidLooks := .later }
def ReasonPrimaryIsOrderFreeUptoCardSaid : Prop := Claim7.holds Tryd.pinned (.plain (OpenSpec.upto reasonPrimaryIsOrderFreeSpec)) reasonPrimaryIsOrderFreeUptoCard
end Rows
end Go.Proofs.YtidfigehahfpeaaDoor
