/-
  DERIVED. GIVEN WITH THE SEED: THE CARDS: each row of YtngccnikpjoldaaDoorRows.lean that lists a variable, with what it lists TIED to the program's text (the seventh form; the later family's looks); each row that meets fmt, with fmt's text TOLD by the authors' own Lean function (tested against real Go, not proved from fmt's source: count such statements apart). THE CARD IS WHAT COUNTS. Prove the row's statement (the work); the ties are given (YtngccnikpjoldaaDoorTie.lean); close each card by the builder's one call (the guide's Derived/Test/ToyasCard.lean, 'card_holds'). Laid BY PROGRAM, IN A SANDBOX (cutbox-door.mjs). By AI agents, Wed Nov 11 2026. No macro, syntax, notation, axiom, sorry.
-/
import Derived.Test.YtngccnikpjoldaaDoorRows
import GoSem.ClaimSeven
namespace Go.Proofs.YtngccnikpjoldaaDoor
namespace Rows

/-- THE TIED CARD OF 'hstsstorelaw13.LabelMatchesSpec'. -/
def labelMatchesSpecCard : Claim7 := { stood := { row := labelMatchesSpecRow, standIns := [], harness := (true, "695279fe13b36d382bb08076963b0bc7869b2df9eb1d77054f0df0f57aae5382"), looks := false }, kinds := [], alts := [], laidByText := true, laidKinds := [.data, .pinned], laidTests := true, laidLooks := .later }
def LabelMatchesSpecCardSaid : Prop := Claim7.holds Tryd.pinned (.plain (OpenSpec.ofChange labelMatchesSpecSpec)) labelMatchesSpecCard

/-- THE TIED CARD OF 'hstsstorelaw13.LabelRoundTrip'. -/
def labelRoundTripCard : Claim7 := { stood := { row := labelRoundTripRow, standIns := [], harness := (true, "695279fe13b36d382bb08076963b0bc7869b2df9eb1d77054f0df0f57aae5382"), looks := false }, kinds := [], alts := [], laidByText := true, laidKinds := [.data, .pinned], laidTests := true, laidLooks := .later }
def LabelRoundTripCardSaid : Prop := Claim7.holds Tryd.pinned (.plain (OpenSpec.ofChange labelRoundTripSpec)) labelRoundTripCard

/-- THE TIED CARD OF 'hstsstorelaw13.LabelToASCIIStable'. -/
def labelToASCIIStableCard : Claim7 := { stood := { row := labelToASCIIStableRow, standIns := [], harness := (true, "695279fe13b36d382bb08076963b0bc7869b2df9eb1d77054f0df0f57aae5382"), looks := false }, kinds := [], alts := [], laidByText := true, laidKinds := [.data, .pinned], laidTests := true, laidLooks := .later }
def LabelToASCIIStableCardSaid : Prop := Claim7.holds Tryd.pinned (.plain (OpenSpec.ofChange labelToASCIIStableSpec)) labelToASCIIStableCard

/-- THE TIED CARD OF 'hstsstorelaw13.LabelUnicodeInjective'. -/
def labelUnicodeInjectiveCard : Claim7 := { stood := { row := labelUnicodeInjectiveRow, standIns := [], harness := (true, "695279fe13b36d382bb08076963b0bc7869b2df9eb1d77054f0df0f57aae5382"), looks := false }, kinds := [], alts := [], laidByText := true, laidKinds := [.data, .pinned], laidTests := true, laidLooks := .later }
def LabelUnicodeInjectiveCardSaid : Prop := Claim7.holds Tryd.pinned (.plain (OpenSpec.ofChange labelUnicodeInjectiveSpec)) labelUnicodeInjectiveCard

/-- THE SECOND FORM's CARD OF 'hstsstorelaw13.LabelMatchesSpec'. -/
def labelMatchesSpecUptoCard : Claim7 := { stood := { row := labelMatchesSpecUptoRow, standIns := [], harness := (true, "695279fe13b36d382bb08076963b0bc7869b2df9eb1d77054f0df0f57aae5382"), looks := false }, kinds := [], alts := [], laidByText := true, laidKinds := [.data, .pinned], laidTests := true, laidLooks := .later }
def LabelMatchesSpecUptoCardSaid : Prop := Claim7.holds Tryd.pinned (.plain (OpenSpec.upto labelMatchesSpecSpec)) labelMatchesSpecUptoCard

/-- THE SECOND FORM's CARD OF 'hstsstorelaw13.LabelRoundTrip'. -/
def labelRoundTripUptoCard : Claim7 := { stood := { row := labelRoundTripUptoRow, standIns := [], harness := (true, "695279fe13b36d382bb08076963b0bc7869b2df9eb1d77054f0df0f57aae5382"), looks := false }, kinds := [], alts := [], laidByText := true, laidKinds := [.data, .pinned], laidTests := true, laidLooks := .later }
def LabelRoundTripUptoCardSaid : Prop := Claim7.holds Tryd.pinned (.plain (OpenSpec.upto labelRoundTripSpec)) labelRoundTripUptoCard

/-- THE SECOND FORM's CARD OF 'hstsstorelaw13.LabelToASCIIStable'. -/
def labelToASCIIStableUptoCard : Claim7 := { stood := { row := labelToASCIIStableUptoRow, standIns := [], harness := (true, "695279fe13b36d382bb08076963b0bc7869b2df9eb1d77054f0df0f57aae5382"), looks := false }, kinds := [], alts := [], laidByText := true, laidKinds := [.data, .pinned], laidTests := true, laidLooks := .later }
def LabelToASCIIStableUptoCardSaid : Prop := Claim7.holds Tryd.pinned (.plain (OpenSpec.upto labelToASCIIStableSpec)) labelToASCIIStableUptoCard

/-- THE SECOND FORM's CARD OF 'hstsstorelaw13.LabelUnicodeInjective'. -/
def labelUnicodeInjectiveUptoCard : Claim7 := { stood := { row := labelUnicodeInjectiveUptoRow, standIns := [], harness := (true, "695279fe13b36d382bb08076963b0bc7869b2df9eb1d77054f0df0f57aae5382"), looks := false }, kinds := [], alts := [], laidByText := true, laidKinds := [.data, .pinned], laidTests := true, laidLooks := .later }
def LabelUnicodeInjectiveUptoCardSaid : Prop := Claim7.holds Tryd.pinned (.plain (OpenSpec.upto labelUnicodeInjectiveSpec)) labelUnicodeInjectiveUptoCard
end Rows
end Go.Proofs.YtngccnikpjoldaaDoor
