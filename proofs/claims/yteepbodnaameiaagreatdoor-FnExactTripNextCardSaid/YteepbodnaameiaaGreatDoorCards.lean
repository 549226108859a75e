/-
  DERIVED. GIVEN WITH THE SEED: THE CARDS: each row of YteepbodnaameiaaGreatDoorRows.lean that lists a variable, with what it lists TIED to the program's text (the seventh form; the later family's looks); each row that meets fmt, with fmt's text TOLD by the authors' own Lean function (tested against real Go, not proved from fmt's source: count such statements apart). THE CARD IS WHAT COUNTS. Prove the row's statement (the work); the ties are given (YteepbodnaameiaaGreatDoorTie.lean); close each card by the builder's one call (the guide's Derived/Test/ToyasCard.lean, 'card_holds'). Laid BY PROGRAM, IN A SANDBOX (cutbox-door.mjs). By AI agents, Wed Nov 11 2026. No macro, syntax, notation, axiom, sorry.
-/
import Derived.Test.YteepbodnaameiaaGreatDoorRows
import GoSem.ClaimSeven
namespace Go.Proofs.YteepbodnaameiaaGreatDoor
namespace Rows

/-- THE TIED CARD OF 'laws.FnExactTripOk'. -/
def fnExactTripOkCard : Claim7 := { stood := { row := fnExactTripOkRow, standIns := [], harness := (true, "d13d437e2f56ddbb3f82a4d84a6ee2aef8333220e0d0f9c52e312ae1f317bed3"), looks := false }, kinds := [], alts := [], laidByText := true, laidKinds := [.data, .pinned], laidTests := true, laidLooks := .later }
def FnExactTripOkCardSaid : Prop := Claim7.holds Tryz.pinned (.plain (OpenSpec.ofChange fnExactTripOkSpec)) fnExactTripOkCard

/-- THE TIED CARD OF 'laws.FnExactTripDone'. -/
def fnExactTripDoneCard : Claim7 := { stood := { row := fnExactTripDoneRow, standIns := [], harness := (true, "d13d437e2f56ddbb3f82a4d84a6ee2aef8333220e0d0f9c52e312ae1f317bed3"), looks := false }, kinds := [], alts := [], laidByText := true, laidKinds := [.data, .pinned], laidTests := true, laidLooks := .later }
def FnExactTripDoneCardSaid : Prop := Claim7.holds Tryz.pinned (.plain (OpenSpec.ofChange fnExactTripDoneSpec)) fnExactTripDoneCard

/-- THE TIED CARD OF 'laws.FnExactTripNext'. -/
def fnExactTripNextCard : Claim7 := { stood := { row := fnExactTripNextRow, standIns := [], harness := (true, "d13d437e2f56ddbb3f82a4d84a6ee2aef8333220e0d0f9c52e312ae1f317bed3"), looks := false }, kinds := [], alts := [], laidByText := true, laidKinds := [.data, .pinned], laidTests := true, laidLooks := .later }
def FnExactTripNextCardSaid : Prop := Claim7.holds Tryz.pinned (.plain (OpenSpec.ofChange fnExactTripNextSpec)) fnExactTripNextCard

/-- THE SECOND FORM's CARD OF 'laws.FnExactTripOk'. -/
def fnExactTripOkUptoCard : Claim7 := { stood := { row := fnExactTripOkUptoRow, standIns := [], harness := (true, "d13d437e2f56ddbb3f82a4d84a6ee2aef8333220e0d0f9c52e312ae1f317bed3"), looks := false }, kinds := [], alts := [], laidByText := true, laidKinds := [.data, .pinned], laidTests := true, laidLooks := .later }
def FnExactTripOkUptoCardSaid : Prop := Claim7.holds Tryz.pinned (.plain (OpenSpec.upto fnExactTripOkSpec)) fnExactTripOkUptoCard

/-- THE SECOND FORM's CARD OF 'laws.FnExactTripDone'. -/
def fnExactTripDoneUptoCard : Claim7 := { stood := { row := fnExactTripDoneUptoRow, standIns := [], harness := (true, "d13d437e2f56ddbb3f82a4d84a6ee2aef8333220e0d0f9c52e312ae1f317bed3"), looks := false }, kinds := [], alts := [], laidByText := true, laidKinds := [.data, .pinned], laidTests := true, laidLooks := .later }
def FnExactTripDoneUptoCardSaid : Prop := Claim7.holds Tryz.pinned (.plain (OpenSpec.upto fnExactTripDoneSpec)) fnExactTripDoneUptoCard

/-- THE SECOND FORM's CARD OF 'laws.FnExactTripNext'. -/
def fnExactTripNextUptoCard : Claim7 := { stood := { row := fnExactTripNextUptoRow, standIns := [], harness := (true, "d13d437e2f56ddbb3f82a4d84a6ee2aef8333220e0d0f9c52e312ae1f317bed3"), looks := false }, kinds := [], alts := [], laidByText := true, laidKinds := [.data, .pinned], laidTests := true, laidLooks := .later }
def FnExactTripNextUptoCardSaid : Prop := Claim7.holds Tryz.pinned (.plain (OpenSpec.upto fnExactTripNextSpec)) fnExactTripNextUptoCard
end Rows
end Go.Proofs.YteepbodnaameiaaGreatDoor
