/-
  DERIVED. GIVEN WITH THE SEED: THE CARDS: each row of YtjfflnnepndlkaaGreatDoorRows.lean that lists a variable, with what it lists TIED to the program's text (the seventh form; the later family's looks); each row that meets fmt, with fmt's text TOLD by the authors' own Lean function (tested against real Go, not proved from fmt's source: count such statements apart). THE CARD IS WHAT COUNTS. Prove the row's statement (the work); the ties are given (YtjfflnnepndlkaaGreatDoorTie.lean); close each card by the builder's one call (the guide's Derived/Test/ToyasCard.lean, 'card_holds'). Laid BY PROGRAM, IN A SANDBOX (cutbox-door.mjs). By AI agents, Wed Nov 11 2026. No macro, syntax, notation, axiom, sorry.
-/
import Derived.Test.YtjfflnnepndlkaaGreatDoorRows
import GoSem.ClaimSeven
namespace Go.Proofs.YtjfflnnepndlkaaGreatDoor
namespace Rows

/-- THE TIED CARD OF 'hstsstorelaw31.UpdateApplyMatchesSpec'. -/
def updateApplyMatchesSpecCard : Claim7 := { stood := { row := updateApplyMatchesSpecRow, standIns := [], harness := (true, "2e767be31ecfd256bef432338c87c2a3cebe640d7b2063719dd1f2215d630cf9"), looks := false }, kinds := [], alts := [], laidByText := true, laidKinds := [.data, .pinned], laidTests := true, laidLooks := .later }
def UpdateApplyMatchesSpecCardSaid : Prop := Claim7.holds Tryz.pinned (.plain (OpenSpec.ofChange updateApplyMatchesSpecSpec)) updateApplyMatchesSpecCard

/-- THE TIED CARD OF 'hstsstorelaw31.UpdateCodecMatchesSpec'. -/
def updateCodecMatchesSpecCard : Claim7 := { stood := { row := updateCodecMatchesSpecRow, standIns := [], harness := (true, "2e767be31ecfd256bef432338c87c2a3cebe640d7b2063719dd1f2215d630cf9"), looks := false }, kinds := [], alts := [], laidByText := true, laidKinds := [.data, .pinned], laidTests := true, laidLooks := .later }
def UpdateCodecMatchesSpecCardSaid : Prop := Claim7.holds Tryz.pinned (.plain (OpenSpec.ofChange updateCodecMatchesSpecSpec)) updateCodecMatchesSpecCard

/-- THE SECOND FORM's CARD OF 'hstsstorelaw31.UpdateApplyMatchesSpec'. -/
def updateApplyMatchesSpecUptoCard : Claim7 := { stood := { row := updateApplyMatchesSpecUptoRow, standIns := [], harness := (true, "2e767be31ecfd256bef432338c87c2a3cebe640d7b2063719dd1f2215d630cf9"), looks := false }, kinds := [], alts := [], laidByText := true, laidKinds := [.data, .pinned], laidTests := true, laidLooks := .later }
def UpdateApplyMatchesSpecUptoCardSaid : Prop := Claim7.holds Tryz.pinned (.plain (OpenSpec.upto updateApplyMatchesSpecSpec)) updateApplyMatchesSpecUptoCard

/-- THE SECOND FORM's CARD OF 'hstsstorelaw31.UpdateCodecMatchesSpec'. -/
def updateCodecMatchesSpecUptoCard : Claim7 := { stood := { row := updateCodecMatchesSpecUptoRow, standIns := [], harness := (true, "2e767be31ecfd256bef432338c87c2a3cebe640d7b2063719dd1f2215d630cf9"), looks := false }, kinds := [], alts := [], laidByText := true, laidKinds := [.data, .pinned], laidTests := true, laidLooks := .later }
def UpdateCodecMatchesSpecUptoCardSaid : Prop := Claim7.holds Tryz.pinned (.plain (OpenSpec.upto updateCodecMatchesSpecSpec)) updateCodecMatchesSpecUptoCard
end Rows
end Go.Proofs.YtjfflnnepndlkaaGreatDoor
