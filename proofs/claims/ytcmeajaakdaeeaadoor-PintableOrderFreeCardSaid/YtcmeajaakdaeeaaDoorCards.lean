/-
  DERIVED. GIVEN WITH THE SEED: THE CARDS: each row of YtcmeajaakdaeeaaDoorRows.lean that lists a variable, with what it lists TIED to the program's text (the seventh form; the later family's looks); each row that meets fmt, with fmt's text TOLD by the authors' own Lean function (tested against real Go, not proved from fmt's source: count such statements apart). THE CARD IS WHAT COUNTS. Prove the row's statement (the work); the ties are given (YtcmeajaakdaeeaaDoorTie.lean); close each card by the builder's one call (the guide's Derived/Test/ToyasCard.lean, 'card_holds'). Laid BY PROGRAM, IN A SANDBOX (cutbox-door.mjs). By AI agents, Wed Nov 11 2026. No macro, syntax, notation, axiom, sorry.
-/
import Derived.Test.YtcmeajaakdaeeaaDoorRows
import GoSem.ClaimSeven
namespace Go.Proofs.YtcmeajaakdaeeaaDoor
namespace Rows

/-- THE TIED CARD OF 'hstsstorelaw22.PinCodecMatchesSpec'. -/
def pinCodecMatchesSpecCard : Claim7 := { stood := { row := pinCodecMatchesSpecRow, standIns := [], harness := (true, "214d6f97bbd8047a13b3e6853f23891833473faf635e054cf363acffe4c0a1da"), looks := false }, kinds := [], alts := [], laidByText := true, laidKinds := [.data, .pinned], laidTests := true, laidLooks := .later }
def PinCodecMatchesSpecCardSaid : Prop := Claim7.holds Tryd.pinned (.plain (OpenSpec.ofChange pinCodecMatchesSpecSpec)) pinCodecMatchesSpecCard

/-- THE TIED CARD OF 'hstsstorelaw22.PinRoundTrip'. -/
def pinRoundTripCard : Claim7 := { stood := { row := pinRoundTripRow, standIns := [], harness := (true, "214d6f97bbd8047a13b3e6853f23891833473faf635e054cf363acffe4c0a1da"), looks := false }, kinds := [], alts := [], laidByText := true, laidKinds := [.data, .pinned], laidTests := true, laidLooks := .later }
def PinRoundTripCardSaid : Prop := Claim7.holds Tryd.pinned (.plain (OpenSpec.ofChange pinRoundTripSpec)) pinRoundTripCard

/-- THE TIED CARD OF 'hstsstorelaw22.PinCompareMatchesSpec'. -/
def pinCompareMatchesSpecCard : Claim7 := { stood := { row := pinCompareMatchesSpecRow, standIns := [], harness := (true, "214d6f97bbd8047a13b3e6853f23891833473faf635e054cf363acffe4c0a1da"), looks := false }, kinds := [], alts := [], laidByText := true, laidKinds := [.data, .pinned], laidTests := true, laidLooks := .later }
def PinCompareMatchesSpecCardSaid : Prop := Claim7.holds Tryd.pinned (.plain (OpenSpec.ofChange pinCompareMatchesSpecSpec)) pinCompareMatchesSpecCard

/-- THE TIED CARD OF 'hstsstorelaw22.PinSubdomainsTogether'. -/
def pinSubdomainsTogetherCard : Claim7 := { stood := { row := pinSubdomainsTogetherRow, standIns := [], harness := (true, "214d6f97bbd8047a13b3e6853f23891833473faf635e054cf363acffe4c0a1da"), looks := false }, kinds := [], alts := [], laidByText := true, laidKinds := [.data, .pinned], laidTests := true, laidLooks := .later }
def PinSubdomainsTogetherCardSaid : Prop := Claim7.holds Tryd.pinned (.plain (OpenSpec.ofChange pinSubdomainsTogetherSpec)) pinSubdomainsTogetherCard

/-- THE TIED CARD OF 'hstsstorelaw23.PintableOrderFree'. -/
def pintableOrderFreeCard : Claim7 := { stood := { row := pintableOrderFreeRow, standIns := [], harness := (true, "214d6f97bbd8047a13b3e6853f23891833473faf635e054cf363acffe4c0a1da"), looks := false }, kinds := [], alts := [], laidByText := true, laidKinds := [.data, .pinned], laidTests := true, laidLooks := .later }
def PintableOrderFreeCardSaid : Prop := Claim7.holds Tryd.pinned (.plain (OpenSpec.ofChange pintableOrderFreeSpec)) pintableOrderFreeCard

/-- THE TIED CARD OF 'hstsstorelaw23.PintableSorted'. -/
def pintableSortedCard : Claim7 := { stood := { row := pintableSortedRow, standIns := [], harness := (true, "214d6f97bbd8047a13b3e6853f23891833473faf635e054cf363acffe4c0a1da"), looks := false }, kinds := [], alts := [], laidByText := true, laidKinds := [.data, .pinned], laidTests := true, laidLooks := .later }
def PintableSortedCardSaid : Prop := Claim7.holds Tryd.pinned (.plain (OpenSpec.ofChange pintableSortedSpec)) pintableSortedCard

/-- THE TIED CARD OF 'hstsstorelaw23.PintableLoadMatchesSpec'. -/
def pintableLoadMatchesSpecCard : Claim7 := { stood := { row := pintableLoadMatchesSpecRow, standIns := [], harness := (true, "214d6f97bbd8047a13b3e6853f23891833473faf635e054cf363acffe4c0a1da"), looks := false }, kinds := [], alts := [], laidByText := true, laidKinds := [.data, .pinned], laidTests := true, laidLooks := .later }
def PintableLoadMatchesSpecCardSaid : Prop := Claim7.holds Tryd.pinned (.plain (OpenSpec.ofChange pintableLoadMatchesSpecSpec)) pintableLoadMatchesSpecCard

/-- THE SECOND FORM's CARD OF 'hstsstorelaw22.PinCodecMatchesSpec'. -/
def pinCodecMatchesSpecUptoCard : Claim7 := { stood := { row := pinCodecMatchesSpecUptoRow, standIns := [], harness := (true, "214d6f97bbd8047a13b3e6853f23891833473faf635e054cf363acffe4c0a1da"), looks := false }, kinds := [], alts := [], laidByText := true, laidKinds := [.data, .pinned], laidTests := true, laidLooks := .later }
def PinCodecMatchesSpecUptoCardSaid : Prop := Claim7.holds Tryd.pinned (.plain (OpenSpec.upto pinCodecMatchesSpecSpec)) pinCodecMatchesSpecUptoCard

/-- THE SECOND FORM's CARD OF 'hstsstorelaw22.PinRoundTrip'. -/
def pinRoundTripUptoCard : Claim7 := { stood := { row := pinRoundTripUptoRow, standIns := [], harness := (true, "214d6f97bbd8047a13b3e6853f23891833473faf635e054cf363acffe4c0a1da"), looks := false }, kinds := [], alts := [], laidByText := true, laidKinds := [.data, .pinned], laidTests := true, laidLooks := .later }
def PinRoundTripUptoCardSaid : Prop := Claim7.holds Tryd.pinned (.plain (OpenSpec.upto pinRoundTripSpec)) pinRoundTripUptoCard

/-- THE SECOND FORM's CARD OF 'hstsstorelaw22.PinCompareMatchesSpec'. -/
def pinCompareMatchesSpecUptoCard : Claim7 := { stood := { row := pinCompareMatchesSpecUptoRow, standIns := [], harness := (true, "214d6f97bbd8047a13b3e6853f23891833473faf635e054cf363acffe4c0a1da"), looks := false }, kinds := [], alts := [], laidByText := true, laidKinds := [.data, .pinned], laidTests := true, laidLooks := .later }
def PinCompareMatchesSpecUptoCardSaid : Prop := Claim7.holds Tryd.pinned (.plain (OpenSpec.upto pinCompareMatchesSpecSpec)) pinCompareMatchesSpecUptoCard

/-- THE SECOND FORM's CARD OF 'hstsstorelaw22.PinSubdomainsTogether'. -/
def pinSubdomainsTogetherUptoCard : Claim7 := { stood := { row := pinSubdomainsTogetherUptoRow, standIns := [], harness := (true, "214d6f97bbd8047a13b3e6853f23891833473faf635e054cf363acffe4c0a1da"), looks := false }, kinds := [], alts := [], laidByText := true, laidKinds := [.data, .pinned], laidTests := true, laidLooks := .later }
def PinSubdomainsTogetherUptoCardSaid : Prop := Claim7.holds Tryd.pinned (.plain (OpenSpec.upto pinSubdomainsTogetherSpec)) pinSubdomainsTogetherUptoCard

/-- THE SECOND FORM's CARD OF 'hstsstorelaw23.PintableOrderFree'. -/
def pintableOrderFreeUptoCard : Claim7 := { stood := { row := pintableOrderFreeUptoRow, standIns := [], harness := (true, "214d6f97bbd8047a13b3e6853f23891833473faf635e054cf363acffe4c0a1da"), looks := false }, kinds := [], alts := [], laidByText := true, laidKinds := [.data, .pinned], laidTests := true, laidLooks := .later }
def PintableOrderFreeUptoCardSaid : Prop := Claim7.holds Tryd.pinned (.plain (OpenSpec.upto pintableOrderFreeSpec)) pintableOrderFreeUptoCard

/-- THE SECOND FORM's CARD OF 'hstsstorelaw23.PintableSorted'. -/
def pintableSortedUptoCard : Claim7 := { stood := { row := pintableSortedUptoRow, standIns := [], harness := (true, "214d6f97bbd8047a13b3e6853f23891833473faf635e054cf363acffe4c0a1da"), looks := false }, kinds := [], alts := [], laidByText := true, laidKinds := [.data, .pinned], laidTests := true, laidLooks := .later }
def PintableSortedUptoCardSaid : Prop := Claim7.holds Tryd.pinned (.plain (OpenSpec.upto pintableSortedSpec)) pintableSortedUptoCard

/-- THE SECOND FORM's CARD OF 'hstsstorelaw23.PintableLoadMatchesSpec'. -/
def pintableLoadMatchesSpecUptoCard : Claim7 := { stood := { row := pintableLoadMatchesSpecUptoRow, standIns := [], harness := (true, "214d6f97bbd8047a13b3e6853f23891833473faf635e054cf363acffe4c0a1da"), looks := false }, kinds := [], alts := [], laidByText := true, laidKinds := [.data, .pinned], laidTests := true, laidLooks := .later }
def PintableLoadMatchesSpecUptoCardSaid : Prop := Claim7.holds Tryd.pinned (.plain (OpenSpec.upto pintableLoadMatchesSpecSpec)) pintableLoadMatchesSpecUptoCard
end Rows
end Go.Proofs.YtcmeajaakdaeeaaDoor
