/-
  DERIVED. GIVEN WITH THE SEED: THE CARDS: each row of YtpomhjkbgbociaaDoorRows.lean that lists a variable, with what it lists TIED to the program's text (the seventh form; the later family's looks); each row that meets fmt, with fmt's text TOLD by the authors' own Lean function (tested against real Go, not proved from fmt's source: count such statements apart). THE CARD IS WHAT COUNTS. Prove the row's statement (the work); the ties are given (YtpomhjkbgbociaaDoorTie.lean); close each card by the builder's one call (the guide's Derived/Test/ToyasCard.lean, 'card_holds'). Laid BY PROGRAM, IN A SANDBOX (cutbox-door.mjs). By AI agents, Wed Nov 11 2026. No macro, syntax, notation, axiom, sorry.
-/
import Derived.Test.YtpomhjkbgbociaaDoorRows
import GoSem.ClaimSeven
namespace Go.Proofs.YtpomhjkbgbociaaDoor
namespace Rows

/-- THE TIED CARD OF 'laws.FnWorldOk'. -/
def fnWorldOkCard : Claim7 := { stood := { row := fnWorldOkRow, standIns := [], harness := (true, "e13ce9aff32a1f24e5baccfd2e9c5e1914ebce810f39e0c4bcafab2d8c0fd9ac"), looks := false }, kinds := [], alts := [], laidByText := true, laidKinds := [.data, .pinned], laidTests := true, laidLooks := .later }
def FnWorldOkCardSaid : Prop := Claim7.holds Tryd.pinned (.plain (OpenSpec.ofChange fnWorldOkSpec)) fnWorldOkCard

/-- THE SECOND FORM's CARD OF 'laws.FnWorldOk'. -/
def fnWorldOkUptoCard : Claim7 := { stood := { row := fnWorldOkUptoRow, standIns := [], harness := (true, "e13ce9aff32a1f24e5baccfd2e9c5e1914ebce810f39e0c4bcafab2d8c0fd9ac"), looks := false }, kinds := [], alts := [], laidByText := true, laidKinds := [.data, .pinned], laidTests := true, laidLooks := .later }
def FnWorldOkUptoCardSaid : Prop := Claim7.holds Tryd.pinned (.plain (OpenSpec.upto fnWorldOkSpec)) fnWorldOkUptoCard
end Rows
end Go.Proofs.YtpomhjkbgbociaaDoor
