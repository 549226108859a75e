/-
  DERIVED. GIVEN WITH THE SEED: THE CARDS: each row of YtnnciiiackinpaaGreatDoorRows.lean that lists a variable, with what it lists TIED to the program's text (the seventh form; the later family's looks); each row that meets fmt, with fmt's text TOLD by the authors' own Lean function (tested against real Go, not proved from fmt's source: count such statements apart). THE CARD IS WHAT COUNTS. Prove the row's statement (the work); the ties are given (YtnnciiiackinpaaGreatDoorTie.lean); close each card by the builder's one call (the guide's Derived/Test/ToyasCard.lean, 'card_holds'). Laid BY PROGRAM, IN A SANDBOX (cutbox-door.mjs). By AI agents, Wed Nov 11 2026. No macro, syntax, notation, axiom, sorry.
-/
import Derived.Test.YtnnciiiackinpaaGreatDoorRows
import GoSem.ClaimSeven
namespace Go.Proofs.YtnnciiiackinpaaGreatDoor
namespace Rows

/-- THE TIED CARD OF 'laws.FnExactTripCalls'. -/
def fnExactTripCallsCard : Claim7 := { stood := { row := fnExactTripCallsRow, standIns := [], harness := (true, "46d27b90297ab5c7d7a93b95ed6b06eaa200d58fb3db614c4d8df8b0924ff882"), looks := false }, kinds := [], alts := [], laidByText := true, laidKinds := [.data, .pinned], laidTests := true, laidLooks := .later }
def FnExactTripCallsCardSaid : Prop := Claim7.holds Tryz.pinned (.plain (OpenSpec.ofChange fnExactTripCallsSpec)) fnExactTripCallsCard

/-- THE TIED CARD OF 'laws.FnExactTripLooked'. -/
def fnExactTripLookedCard : Claim7 := { stood := { row := fnExactTripLookedRow, standIns := [], harness := (true, "46d27b90297ab5c7d7a93b95ed6b06eaa200d58fb3db614c4d8df8b0924ff882"), looks := false }, kinds := [], alts := [], laidByText := true, laidKinds := [.data, .pinned], laidTests := true, laidLooks := .later }
def FnExactTripLookedCardSaid : Prop := Claim7.holds Tryz.pinned (.plain (OpenSpec.ofChange fnExactTripLookedSpec)) fnExactTripLookedCard

/-- THE SECOND FORM's CARD OF 'laws.FnExactTripCalls'. -/
def fnExactTripCallsUptoCard : Claim7 := { stood := { row := fnExactTripCallsUptoRow, standIns := [], harness := (true, "46d27b90297ab5c7d7a93b95ed6b06eaa200d58fb3db614c4d8df8b0924ff882"), looks := false }, kinds := [], alts := [], laidByText := true, laidKinds := [.data, .pinned], laidTests := true, laidLooks := .later }
def FnExactTripCallsUptoCardSaid : Prop := Claim7.holds Tryz.pinned (.plain (OpenSpec.upto fnExactTripCallsSpec)) fnExactTripCallsUptoCard

/-- THE SECOND FORM's CARD OF 'laws.FnExactTripLooked'. -/
def fnExactTripLookedUptoCard : Claim7 := { stood := { row := fnExactTripLookedUptoRow, standIns := [], harness := (true, "46d27b90297ab5c7d7a93b95ed6b06eaa200d58fb3db614c4d8df8b0924ff882"), looks := false }, kinds := [], alts := [], laidByText := true, laidKinds := [.data, .pinned], laidTests := true, laidLooks := .later }
def FnExactTripLookedUptoCardSaid : Prop := Claim7.holds Tryz.pinned (.plain (OpenSpec.upto fnExactTripLookedSpec)) fnExactTripLookedUptoCard
end Rows
end Go.Proofs.YtnnciiiackinpaaGreatDoor
