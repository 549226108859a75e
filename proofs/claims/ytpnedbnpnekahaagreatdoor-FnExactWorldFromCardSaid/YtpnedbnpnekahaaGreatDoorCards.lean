/-
  DERIVED. GIVEN WITH THE SEED: THE CARDS: each row of YtpnedbnpnekahaaGreatDoorRows.lean that lists a variable, with what it lists TIED to the program's text (the seventh form; the later family's looks); each row that meets fmt, with fmt's text TOLD by the authors' own Lean function (tested against real Go, not proved from fmt's source: count such statements apart). THE CARD IS WHAT COUNTS. Prove the row's statement (the work); the ties are given (YtpnedbnpnekahaaGreatDoorTie.lean); close each card by the builder's one call (the guide's Derived/Test/ToyasCard.lean, 'card_holds'). Laid BY PROGRAM, IN A SANDBOX (cutbox-door.mjs). By AI agents, Wed Nov 11 2026. No macro, syntax, notation, axiom, sorry.
-/
import Derived.Test.YtpnedbnpnekahaaGreatDoorRows
import GoSem.ClaimSeven
namespace Go.Proofs.YtpnedbnpnekahaaGreatDoor
namespace Rows

/-- THE TIED CARD OF 'laws.FnExactWorldFrom'. -/
def fnExactWorldFromCard : Claim7 := { stood := { row := fnExactWorldFromRow, standIns := [], harness := (true, "03fefdc0c0542cb71ceebe47997508cf1c07878db237b373851242c5a6011671"), looks := false }, kinds := [], alts := [], laidByText := true, laidKinds := [.data, .pinned], laidTests := true, laidLooks := .later }
def FnExactWorldFromCardSaid : Prop := Claim7.holds Tryz.pinned (.plain (OpenSpec.ofChange fnExactWorldFromSpec)) fnExactWorldFromCard

/-- THE SECOND FORM's CARD OF 'laws.FnExactWorldFrom'. -/
def fnExactWorldFromUptoCard : Claim7 := { stood := { row := fnExactWorldFromUptoRow, standIns := [], harness := (true, "03fefdc0c0542cb71ceebe47997508cf1c07878db237b373851242c5a6011671"), looks := false }, kinds := [], alts := [], laidByText := true, laidKinds := [.data, .pinned], laidTests := true, laidLooks := .later }
def FnExactWorldFromUptoCardSaid : Prop := Claim7.holds Tryz.pinned (.plain (OpenSpec.upto fnExactWorldFromSpec)) fnExactWorldFromUptoCard
end Rows
end Go.Proofs.YtpnedbnpnekahaaGreatDoor
