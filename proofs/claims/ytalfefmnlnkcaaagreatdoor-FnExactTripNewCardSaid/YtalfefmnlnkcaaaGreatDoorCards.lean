/-
  DERIVED. GIVEN WITH THE SEED: THE CARDS: each row of YtalfefmnlnkcaaaGreatDoorRows.lean that lists a variable, with what it lists TIED to the program's text (the seventh form; the later family's looks); each row that meets fmt, with fmt's text TOLD by the authors' own Lean function (tested against real Go, not proved from fmt's source: count such statements apart). THE CARD IS WHAT COUNTS. Prove the row's statement (the work); the ties are given (YtalfefmnlnkcaaaGreatDoorTie.lean); close each card by the builder's one call (the guide's Derived/Test/ToyasCard.lean, 'card_holds'). Laid BY PROGRAM, IN A SANDBOX (cutbox-door.mjs). By AI agents, Wed Nov 11 2026. No macro, syntax, notation, axiom, sorry.
-/
import Derived.Test.YtalfefmnlnkcaaaGreatDoorRows
import GoSem.ClaimSeven
namespace Go.Proofs.YtalfefmnlnkcaaaGreatDoor
namespace Rows

/-- THE TIED CARD OF 'laws.FnExactTripNew'. -/
def fnExactTripNewCard : Claim7 := { stood := { row := fnExactTripNewRow, standIns := [], harness := (true, "278572928567bc6f00ee50977f714c8b800eb4589a17b14b87d6d7cff5eacf64"), looks := false }, kinds := [], alts := [], laidByText := true, laidKinds := [.data, .pinned], laidTests := true, laidLooks := .later }
def FnExactTripNewCardSaid : Prop := Claim7.holds Tryz.pinned (.plain (OpenSpec.ofChange fnExactTripNewSpec)) fnExactTripNewCard

/-- THE TIED CARD OF 'laws.FnTripNew'. -/
def fnTripNewCard : Claim7 := { stood := { row := fnTripNewRow, standIns := [], harness := (true, "278572928567bc6f00ee50977f714c8b800eb4589a17b14b87d6d7cff5eacf64"), looks := false }, kinds := [], alts := [], laidByText := true, laidKinds := [.data, .pinned], laidTests := true, laidLooks := .later }
def FnTripNewCardSaid : Prop := Claim7.holds Tryz.pinned (.plain (OpenSpec.ofChange fnTripNewSpec)) fnTripNewCard

/-- THE SECOND FORM's CARD OF 'laws.FnExactTripNew'. -/
def fnExactTripNewUptoCard : Claim7 := { stood := { row := fnExactTripNewUptoRow, standIns := [], harness := (true, "278572928567bc6f00ee50977f714c8b800eb4589a17b14b87d6d7cff5eacf64"), looks := false }, kinds := [], alts := [], laidByText := true, laidKinds := [.data, .pinned], laidTests := true, laidLooks := .later }
def FnExactTripNewUptoCardSaid : Prop := Claim7.holds Tryz.pinned (.plain (OpenSpec.upto fnExactTripNewSpec)) fnExactTripNewUptoCard

/-- THE SECOND FORM's CARD OF 'laws.FnTripNew'. -/
def fnTripNewUptoCard : Claim7 := { stood := { row := fnTripNewUptoRow, standIns := [], harness := (true, "278572928567bc6f00ee50977f714c8b800eb4589a17b14b87d6d7cff5eacf64"), looks := false }, kinds := [], alts := [], laidByText := true, laidKinds := [.data, .pinned], laidTests := true, laidLooks := .later }
def FnTripNewUptoCardSaid : Prop := Claim7.holds Tryz.pinned (.plain (OpenSpec.upto fnTripNewSpec)) fnTripNewUptoCard
end Rows
end Go.Proofs.YtalfefmnlnkcaaaGreatDoor
