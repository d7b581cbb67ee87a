/-
  DERIVED. GIVEN WITH THE SEED: THE CARDS: each row of YtcmeajaakdaeeaaGreatDoorRows.lean that lists a variable, with what it lists TIED to the program's text (the seventh form; the later family's looks); each row that meets fmt, with fmt's text TOLD by the authors' own Lean function (tested against real Go, not proved from fmt's source: count such statements apart). THE CARD IS WHAT COUNTS. Prove the row's statement (the work); the ties are given (YtcmeajaakdaeeaaGreatDoorTie.lean); close each card by the builder's one call (the guide's Derived/Test/ToyasCard.lean, 'card_holds'). Laid BY PROGRAM, IN A SANDBOX (cutbox-door.mjs). By AI agents, Wed Nov 11 2026. No macro, syntax, notation, axiom, sorry.
-/
import Derived.Test.YtcmeajaakdaeeaaGreatDoorRows
import GoSem.ClaimSeven
namespace Go.Proofs.YtcmeajaakdaeeaaGreatDoor
namespace Rows

/-- THE TIED CARD OF 'hstsstorelaw23.PintableNone'. -/
def pintableNoneCard : Claim7 := { stood := { row := pintableNoneRow, standIns := [], harness := (true, "ff6907900bad8383e8d09d98c253a1c2e88453742c1bc8b50d914698511ab3ca"), looks := false }, kinds := [], alts := [], laidByText := true, laidKinds := [.data, .pinned], laidTests := true, laidLooks := .later }
def PintableNoneCardSaid : Prop := Claim7.holds Tryz.pinned (.plain (OpenSpec.ofChange pintableNoneSpec)) pintableNoneCard

/-- THE TIED CARD OF 'hstsstorelaw23.PintableMatchesSpec'. -/
def pintableMatchesSpecCard : Claim7 := { stood := { row := pintableMatchesSpecRow, standIns := [], harness := (true, "ff6907900bad8383e8d09d98c253a1c2e88453742c1bc8b50d914698511ab3ca"), looks := false }, kinds := [], alts := [], laidByText := true, laidKinds := [.data, .pinned], laidTests := true, laidLooks := .later }
def PintableMatchesSpecCardSaid : Prop := Claim7.holds Tryz.pinned (.plain (OpenSpec.ofChange pintableMatchesSpecSpec)) pintableMatchesSpecCard

/-- THE SECOND FORM's CARD OF 'hstsstorelaw23.PintableNone'. -/
def pintableNoneUptoCard : Claim7 := { stood := { row := pintableNoneUptoRow, standIns := [], harness := (true, "ff6907900bad8383e8d09d98c253a1c2e88453742c1bc8b50d914698511ab3ca"), looks := false }, kinds := [], alts := [], laidByText := true, laidKinds := [.data, .pinned], laidTests := true, laidLooks := .later }
def PintableNoneUptoCardSaid : Prop := Claim7.holds Tryz.pinned (.plain (OpenSpec.upto pintableNoneSpec)) pintableNoneUptoCard

/-- THE SECOND FORM's CARD OF 'hstsstorelaw23.PintableMatchesSpec'. -/
def pintableMatchesSpecUptoCard : Claim7 := { stood := { row := pintableMatchesSpecUptoRow, standIns := [], harness := (true, "ff6907900bad8383e8d09d98c253a1c2e88453742c1bc8b50d914698511ab3ca"), looks := false }, kinds := [], alts := [], laidByText := true, laidKinds := [.data, .pinned], laidTests := true, laidLooks := .later }
def PintableMatchesSpecUptoCardSaid : Prop := Claim7.holds Tryz.pinned (.plain (OpenSpec.upto pintableMatchesSpecSpec)) pintableMatchesSpecUptoCard
end Rows
end Go.Proofs.YtcmeajaakdaeeaaGreatDoor
