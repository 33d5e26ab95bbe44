/-
  DERIVED. GIVEN WITH THE SEED: THE CARDS: each row of YtiffpjlmgeklkaaDoorRows.lean that lists a variable, with what it lists TIED to the program's text (the seventh form; the later family's looks); each row that meets fmt, with fmt's text TOLD by the authors' own Lean function (tested against real Go, not proved from fmt's source: count such statements apart). THE CARD IS WHAT COUNTS. Prove the row's statement (the work); the ties are given (YtiffpjlmgeklkaaDoorTie.lean); close each card by the builder's one call (the guide's Derived/Test/ToyasCard.lean, 'card_holds'). Laid BY PROGRAM, IN A SANDBOX (cutbox-door.mjs). By AI agents, Wed Nov 11 2026. No macro, syntax, notation, axiom, sorry.
-/
import Derived.Test.YtiffpjlmgeklkaaDoorRows
import GoSem.ClaimSeven
namespace Go.Proofs.YtiffpjlmgeklkaaDoor
namespace Rows

/-- THE TIED CARD OF 'ginnellaw18.ReplyTargetRoundTrip'. -/
def replyTargetRoundTripCard : Claim7 := { stood := { row := replyTargetRoundTripRow, standIns := [], harness := (true, "3ecd505b88df5f6bc6fe77fb691ff33168e41be296fcb93669854bab3c4f39bb"), looks := false }, kinds := [], alts := [], laidByText := true, laidKinds := [.data, .pinned], laidTests := true, laidLooks := .later }
def ReplyTargetRoundTripCardSaid : Prop := Claim7.holds Tryd.pinned (.plain (OpenSpec.ofChange replyTargetRoundTripSpec)) replyTargetRoundTripCard

/-- THE TIED CARD OF 'ginnellaw18.ReplyParses'. -/
def replyParsesCard : Claim7 := { stood := { row := replyParsesRow, standIns := [], harness := (true, "3ecd505b88df5f6bc6fe77fb691ff33168e41be296fcb93669854bab3c4f39bb"), looks := false }, kinds := [], alts := [], laidByText := true, laidKinds := [.data, .pinned], laidTests := true, laidLooks := .later }
def ReplyParsesCardSaid : Prop := Claim7.holds Tryd.pinned (.plain (OpenSpec.ofChange replyParsesSpec)) replyParsesCard

/-- THE TIED CARD OF 'ginnellaw18.ReplyRoundTrip'. -/
def replyRoundTripCard : Claim7 := { stood := { row := replyRoundTripRow, standIns := [], harness := (true, "3ecd505b88df5f6bc6fe77fb691ff33168e41be296fcb93669854bab3c4f39bb"), looks := false }, kinds := [], alts := [], laidByText := true, laidKinds := [.data, .pinned], laidTests := true, laidLooks := .later }
def ReplyRoundTripCardSaid : Prop := Claim7.holds Tryd.pinned (.plain (OpenSpec.ofChange replyRoundTripSpec)) replyRoundTripCard

/-- THE TIED CARD OF 'ginnellaw18.ReplyIsIncremental'. -/
def replyIsIncrementalCard : Claim7 := { stood := { row := replyIsIncrementalRow, standIns := [], harness := (true, "3ecd505b88df5f6bc6fe77fb691ff33168e41be296fcb93669854bab3c4f39bb"), looks := false }, kinds := [], alts := [], laidByText := true, laidKinds := [.data, .pinned], laidTests := true, laidLooks := .later }
def ReplyIsIncrementalCardSaid : Prop := Claim7.holds Tryd.pinned (.plain (OpenSpec.ofChange replyIsIncrementalSpec)) replyIsIncrementalCard

/-- THE TIED CARD OF 'ginnellaw19.RequestParses'. -/
def requestParsesCard : Claim7 := { stood := { row := requestParsesRow, standIns := [], harness := (true, "3ecd505b88df5f6bc6fe77fb691ff33168e41be296fcb93669854bab3c4f39bb"), looks := false }, kinds := [], alts := [], laidByText := true, laidKinds := [.data, .pinned], laidTests := true, laidLooks := .later }
def RequestParsesCardSaid : Prop := Claim7.holds Tryd.pinned (.plain (OpenSpec.ofChange requestParsesSpec)) requestParsesCard

/-- THE TIED CARD OF 'ginnellaw19.RequestNormalizesNames'. -/
def requestNormalizesNamesCard : Claim7 := { stood := { row := requestNormalizesNamesRow, standIns := [], harness := (true, "3ecd505b88df5f6bc6fe77fb691ff33168e41be296fcb93669854bab3c4f39bb"), looks := false }, kinds := [], alts := [], laidByText := true, laidKinds := [.data, .pinned], laidTests := true, laidLooks := .later }
def RequestNormalizesNamesCardSaid : Prop := Claim7.holds Tryd.pinned (.plain (OpenSpec.ofChange requestNormalizesNamesSpec)) requestNormalizesNamesCard

/-- THE TIED CARD OF 'ginnellaw19.RequestIsIncremental'. -/
def requestIsIncrementalCard : Claim7 := { stood := { row := requestIsIncrementalRow, standIns := [], harness := (true, "3ecd505b88df5f6bc6fe77fb691ff33168e41be296fcb93669854bab3c4f39bb"), looks := false }, kinds := [], alts := [], laidByText := true, laidKinds := [.data, .pinned], laidTests := true, laidLooks := .later }
def RequestIsIncrementalCardSaid : Prop := Claim7.holds Tryd.pinned (.plain (OpenSpec.ofChange requestIsIncrementalSpec)) requestIsIncrementalCard

/-- THE TIED CARD OF 'ginnellaw19.RequestRoundTrip'. -/
def requestRoundTripCard : Claim7 := { stood := { row := requestRoundTripRow, standIns := [], harness := (true, "3ecd505b88df5f6bc6fe77fb691ff33168e41be296fcb93669854bab3c4f39bb"), looks := false }, kinds := [], alts := [], laidByText := true, laidKinds := [.data, .pinned], laidTests := true, laidLooks := .later }
def RequestRoundTripCardSaid : Prop := Claim7.holds Tryd.pinned (.plain (OpenSpec.ofChange requestRoundTripSpec)) requestRoundTripCard

/-- THE SECOND FORM's CARD OF 'ginnellaw18.ReplyTargetRoundTrip'. -/
def replyTargetRoundTripUptoCard : Claim7 := { stood := { row := replyTargetRoundTripUptoRow, standIns := [], harness := (true, "3ecd505b88df5f6bc6fe77fb691ff33168e41be296fcb93669854bab3c4f39bb"), looks := false }, kinds := [], alts := [], laidByText := true, laidKinds := [.data, .pinned], laidTests := true, laidLooks := .later }
def ReplyTargetRoundTripUptoCardSaid : Prop := Claim7.holds Tryd.pinned (.plain (OpenSpec.upto replyTargetRoundTripSpec)) replyTargetRoundTripUptoCard

/-- THE SECOND FORM's CARD OF 'ginnellaw18.ReplyParses'. -/
def replyParsesUptoCard : Claim7 := { stood := { row := replyParsesUptoRow, standIns := [], harness := (true, "3ecd505b88df5f6bc6fe77fb691ff33168e41be296fcb93669854bab3c4f39bb"), looks := false }, kinds := [], alts := [], laidByText := true, laidKinds := [.data, .pinned], laidTests := true, laidLooks := .later }
def ReplyParsesUptoCardSaid : Prop := Claim7.holds Tryd.pinned (.plain (OpenSpec.upto replyParsesSpec)) replyParsesUptoCard

/-- THE SECOND FORM's CARD OF 'ginnellaw18.ReplyRoundTrip'. -/
def replyRoundTripUptoCard : Claim7 := { stood := { row := replyRoundTripUptoRow, standIns := [], harness := (true, "3ecd505b88df5f6bc6fe77fb691ff33168e41be296fcb93669854bab3c4f39bb"), looks := false }, kinds := [], alts := [], laidByText := true, laidKinds := [.data, .pinned], laidTests := true, laidLooks := .later }
def ReplyRoundTripUptoCardSaid : Prop := Claim7.holds Tryd.pinned (.plain (OpenSpec.upto replyRoundTripSpec)) replyRoundTripUptoCard

/-- THE SECOND FORM's CARD OF 'ginnellaw18.ReplyIsIncremental'. -/
def replyIsIncrementalUptoCard : Claim7 := { stood := { row := replyIsIncrementalUptoRow, standIns := [], harness := (true, "3ecd505b88df5f6bc6fe77fb691ff33168e41be296fcb93669854bab3c4f39bb"), looks := false }, kinds := [], alts := [], laidByText := true, laidKinds := [.data, .pinned], laidTests := true, laidLooks := .later }
def ReplyIsIncrementalUptoCardSaid : Prop := Claim7.holds Tryd.pinned (.plain (OpenSpec.upto replyIsIncrementalSpec)) replyIsIncrementalUptoCard

/-- THE SECOND FORM's CARD OF 'ginnellaw19.RequestParses'. -/
def requestParsesUptoCard : Claim7 := { stood := { row := requestParsesUptoRow, standIns := [], harness := (true, "3ecd505b88df5f6bc6fe77fb691ff33168e41be296fcb93669854bab3c4f39bb"), looks := false }, kinds := [], alts := [], laidByText := true, laidKinds := [.data, .pinned], laidTests := true, laidLooks := .later }
def RequestParsesUptoCardSaid : Prop := Claim7.holds Tryd.pinned (.plain (OpenSpec.upto requestParsesSpec)) requestParsesUptoCard

/-- THE SECOND FORM's CARD OF 'ginnellaw19.RequestNormalizesNames'. -/
def requestNormalizesNamesUptoCard : Claim7 := { stood := { row := requestNormalizesNamesUptoRow, standIns := [], harness := (true, "3ecd505b88df5f6bc6fe77fb691ff33168e41be296fcb93669854bab3c4f39bb"), looks := false }, kinds := [], alts := [], laidByText := true, laidKinds := [.data, .pinned], laidTests := true, laidLooks := .later }
def RequestNormalizesNamesUptoCardSaid : Prop := Claim7.holds Tryd.pinned (.plain (OpenSpec.upto requestNormalizesNamesSpec)) requestNormalizesNamesUptoCard

/-- THE SECOND FORM's CARD OF 'ginnellaw19.RequestIsIncremental'. -/
def requestIsIncrementalUptoCard : Claim7 := { stood := { row := requestIsIncrementalUptoRow, standIns := [], harness := (true, "3ecd505b88df5f6bc6fe77fb691ff33168e41be296fcb93669854bab3c4f39bb"), looks := false }, kinds := [], alts := [], laidByText := true, laidKinds := [.data, .pinned], laidTests := true, laidLooks := .later }
def RequestIsIncrementalUptoCardSaid : Prop := Claim7.holds Tryd.pinned (.plain (OpenSpec.upto requestIsIncrementalSpec)) requestIsIncrementalUptoCard

/-- THE SECOND FORM's CARD OF 'ginnellaw19.RequestRoundTrip'. -/
def requestRoundTripUptoCard : Claim7 := { stood := { row := requestRoundTripUptoRow, standIns := [], harness := (true, "3ecd505b88df5f6bc6fe77fb691ff33168e41be296fcb93669854bab3c4f39bb"), looks := false }, kinds := [], alts := [], laidByText := true, laidKinds := [.data, .pinned], laidTests := true, laidLooks := .later }
def RequestRoundTripUptoCardSaid : Prop := Claim7.holds Tryd.pinned (.plain (OpenSpec.upto requestRoundTripSpec)) requestRoundTripUptoCard
end Rows
end Go.Proofs.YtiffpjlmgeklkaaDoor
