/-
  DERIVED. GIVEN WITH THE SEED: THE CARDS: each row of YtmanejniepghlaaGreatDoorRows.lean that lists a variable, with what it lists TIED to the program's text (the seventh form; the later family's looks); each row that meets fmt, with fmt's text TOLD by the authors' own Lean function (tested against real Go, not proved from fmt's source: count such statements apart). THE CARD IS WHAT COUNTS. Prove the row's statement (the work); the ties are given (YtmanejniepghlaaGreatDoorTie.lean); close each card by the builder's one call (the guide's Derived/Test/ToyasCard.lean, 'card_holds'). Laid BY PROGRAM, IN A SANDBOX (cutbox-door.mjs). By AI agents, Wed Nov 11 2026. No macro, syntax, notation, axiom, sorry.
-/
import Derived.Test.YtmanejniepghlaaGreatDoorRows
import GoSem.ClaimSeven
namespace Go.Proofs.YtmanejniepghlaaGreatDoor
namespace Rows

/-- THE TIED CARD OF 'hstsstorelaw33.RegionPlanMatchesSpec'. -/
def regionPlanMatchesSpecCard : Claim7 := { stood := { row := regionPlanMatchesSpecRow, standIns := [], harness := (true, "856beb09aac1f7e29f29f9816a34dd826c11c23709595c92d8b82049d2358110"), looks := false }, kinds := [], alts := [], laidByText := true, laidKinds := [.data, .pinned], laidTests := true, laidLooks := .later }
def RegionPlanMatchesSpecCardSaid : Prop := Claim7.holds Tryz.pinned (.plain (OpenSpec.ofChange regionPlanMatchesSpecSpec)) regionPlanMatchesSpecCard

/-- THE TIED CARD OF 'hstsstorelaw33.RegionCompactMakesRoom'. -/
def regionCompactMakesRoomCard : Claim7 := { stood := { row := regionCompactMakesRoomRow, standIns := [], harness := (true, "856beb09aac1f7e29f29f9816a34dd826c11c23709595c92d8b82049d2358110"), looks := false }, kinds := [], alts := [], laidByText := true, laidKinds := [.data, .pinned], laidTests := true, laidLooks := .later }
def RegionCompactMakesRoomCardSaid : Prop := Claim7.holds Tryz.pinned (.plain (OpenSpec.ofChange regionCompactMakesRoomSpec)) regionCompactMakesRoomCard

/-- THE TIED CARD OF 'hstsstorelaw33.RegionNone'. -/
def regionNoneCard : Claim7 := { stood := { row := regionNoneRow, standIns := [], harness := (true, "856beb09aac1f7e29f29f9816a34dd826c11c23709595c92d8b82049d2358110"), looks := false }, kinds := [], alts := [], laidByText := true, laidKinds := [.data, .pinned], laidTests := true, laidLooks := .later }
def RegionNoneCardSaid : Prop := Claim7.holds Tryz.pinned (.plain (OpenSpec.ofChange regionNoneSpec)) regionNoneCard

/-- THE TIED CARD OF 'hstsstorelaw33.RegionRecovery'. -/
def regionRecoveryCard : Claim7 := { stood := { row := regionRecoveryRow, standIns := [], harness := (true, "856beb09aac1f7e29f29f9816a34dd826c11c23709595c92d8b82049d2358110"), looks := false }, kinds := [], alts := [], laidByText := true, laidKinds := [.data, .pinned], laidTests := true, laidLooks := .later }
def RegionRecoveryCardSaid : Prop := Claim7.holds Tryz.pinned (.plain (OpenSpec.ofChange regionRecoverySpec)) regionRecoveryCard

/-- THE TIED CARD OF 'hstsstorelaw33.RegionMatchesSpec'. -/
def regionMatchesSpecCard : Claim7 := { stood := { row := regionMatchesSpecRow, standIns := [], harness := (true, "856beb09aac1f7e29f29f9816a34dd826c11c23709595c92d8b82049d2358110"), looks := false }, kinds := [], alts := [], laidByText := true, laidKinds := [.data, .pinned], laidTests := true, laidLooks := .later }
def RegionMatchesSpecCardSaid : Prop := Claim7.holds Tryz.pinned (.plain (OpenSpec.ofChange regionMatchesSpecSpec)) regionMatchesSpecCard

/-- THE SECOND FORM's CARD OF 'hstsstorelaw33.RegionPlanMatchesSpec'. -/
def regionPlanMatchesSpecUptoCard : Claim7 := { stood := { row := regionPlanMatchesSpecUptoRow, standIns := [], harness := (true, "856beb09aac1f7e29f29f9816a34dd826c11c23709595c92d8b82049d2358110"), looks := false }, kinds := [], alts := [], laidByText := true, laidKinds := [.data, .pinned], laidTests := true, laidLooks := .later }
def RegionPlanMatchesSpecUptoCardSaid : Prop := Claim7.holds Tryz.pinned (.plain (OpenSpec.upto regionPlanMatchesSpecSpec)) regionPlanMatchesSpecUptoCard

/-- THE SECOND FORM's CARD OF 'hstsstorelaw33.RegionCompactMakesRoom'. -/
def regionCompactMakesRoomUptoCard : Claim7 := { stood := { row := regionCompactMakesRoomUptoRow, standIns := [], harness := (true, "856beb09aac1f7e29f29f9816a34dd826c11c23709595c92d8b82049d2358110"), looks := false }, kinds := [], alts := [], laidByText := true, laidKinds := [.data, .pinned], laidTests := true, laidLooks := .later }
def RegionCompactMakesRoomUptoCardSaid : Prop := Claim7.holds Tryz.pinned (.plain (OpenSpec.upto regionCompactMakesRoomSpec)) regionCompactMakesRoomUptoCard

/-- THE SECOND FORM's CARD OF 'hstsstorelaw33.RegionNone'. -/
def regionNoneUptoCard : Claim7 := { stood := { row := regionNoneUptoRow, standIns := [], harness := (true, "856beb09aac1f7e29f29f9816a34dd826c11c23709595c92d8b82049d2358110"), looks := false }, kinds := [], alts := [], laidByText := true, laidKinds := [.data, .pinned], laidTests := true, laidLooks := .later }
def RegionNoneUptoCardSaid : Prop := Claim7.holds Tryz.pinned (.plain (OpenSpec.upto regionNoneSpec)) regionNoneUptoCard

/-- THE SECOND FORM's CARD OF 'hstsstorelaw33.RegionRecovery'. -/
def regionRecoveryUptoCard : Claim7 := { stood := { row := regionRecoveryUptoRow, standIns := [], harness := (true, "856beb09aac1f7e29f29f9816a34dd826c11c23709595c92d8b82049d2358110"), looks := false }, kinds := [], alts := [], laidByText := true, laidKinds := [.data, .pinned], laidTests := true, laidLooks := .later }
def RegionRecoveryUptoCardSaid : Prop := Claim7.holds Tryz.pinned (.plain (OpenSpec.upto regionRecoverySpec)) regionRecoveryUptoCard

/-- THE SECOND FORM's CARD OF 'hstsstorelaw33.RegionMatchesSpec'. -/
def regionMatchesSpecUptoCard : Claim7 := { stood := { row := regionMatchesSpecUptoRow, standIns := [], harness := (true, "856beb09aac1f7e29f29f9816a34dd826c11c23709595c92d8b82049d2358110"), looks := false }, kinds := [], alts := [], laidByText := true, laidKinds := [.data, .pinned], laidTests := true, laidLooks := .later }
def RegionMatchesSpecUptoCardSaid : Prop := Claim7.holds Tryz.pinned (.plain (OpenSpec.upto regionMatchesSpecSpec)) regionMatchesSpecUptoCard
end Rows
end Go.Proofs.YtmanejniepghlaaGreatDoor
