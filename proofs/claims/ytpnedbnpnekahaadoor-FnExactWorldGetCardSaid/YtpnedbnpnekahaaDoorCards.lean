/-
  DERIVED. GIVEN WITH THE SEED: THE CARDS: each row of YtpnedbnpnekahaaDoorRows.lean that lists a variable, with what it lists TIED to the program's text (the seventh form; the later family's looks); each row that meets fmt, with fmt's text TOLD by the authors' own Lean function (tested against real Go, not proved from fmt's source: count such statements apart). THE CARD IS WHAT COUNTS. Prove the row's statement (the work); the ties are given (YtpnedbnpnekahaaDoorTie.lean); close each card by the builder's one call (the guide's Derived/Test/ToyasCard.lean, 'card_holds'). Laid BY PROGRAM, IN A SANDBOX (cutbox-door.mjs). By AI agents, Wed Nov 11 2026. No macro, syntax, notation, axiom, sorry.
-/
import Derived.Test.YtpnedbnpnekahaaDoorRows
import GoSem.ClaimSeven
namespace Go.Proofs.YtpnedbnpnekahaaDoor
namespace Rows

/-- THE TIED CARD OF 'laws.FnExactWorldOk'. -/
def fnExactWorldOkCard : Claim7 := { stood := { row := fnExactWorldOkRow, standIns := [], harness := (true, "667f380021e1764fdcda0af37ca07c112bee89bd658a5feadb8f0ace53fbc055"), looks := false }, kinds := [], alts := [], laidByText := true, laidKinds := [.data, .pinned], laidTests := true, laidLooks := .later }
def FnExactWorldOkCardSaid : Prop := Claim7.holds Tryd.pinned (.plain (OpenSpec.ofChange fnExactWorldOkSpec)) fnExactWorldOkCard

/-- THE TIED CARD OF 'laws.FnExactWorldGet'. -/
def fnExactWorldGetCard : Claim7 := { stood := { row := fnExactWorldGetRow, standIns := [], harness := (true, "667f380021e1764fdcda0af37ca07c112bee89bd658a5feadb8f0ace53fbc055"), looks := false }, kinds := [], alts := [], laidByText := true, laidKinds := [.data, .pinned], laidTests := true, laidLooks := .later }
def FnExactWorldGetCardSaid : Prop := Claim7.holds Tryd.pinned (.plain (OpenSpec.ofChange fnExactWorldGetSpec)) fnExactWorldGetCard

/-- THE SECOND FORM's CARD OF 'laws.FnExactWorldOk'. -/
def fnExactWorldOkUptoCard : Claim7 := { stood := { row := fnExactWorldOkUptoRow, standIns := [], harness := (true, "667f380021e1764fdcda0af37ca07c112bee89bd658a5feadb8f0ace53fbc055"), looks := false }, kinds := [], alts := [], laidByText := true, laidKinds := [.data, .pinned], laidTests := true, laidLooks := .later }
def FnExactWorldOkUptoCardSaid : Prop := Claim7.holds Tryd.pinned (.plain (OpenSpec.upto fnExactWorldOkSpec)) fnExactWorldOkUptoCard

/-- THE SECOND FORM's CARD OF 'laws.FnExactWorldGet'. -/
def fnExactWorldGetUptoCard : Claim7 := { stood := { row := fnExactWorldGetUptoRow, standIns := [], harness := (true, "667f380021e1764fdcda0af37ca07c112bee89bd658a5feadb8f0ace53fbc055"), looks := false }, kinds := [], alts := [], laidByText := true, laidKinds := [.data, .pinned], laidTests := true, laidLooks := .later }
def FnExactWorldGetUptoCardSaid : Prop := Claim7.holds Tryd.pinned (.plain (OpenSpec.upto fnExactWorldGetSpec)) fnExactWorldGetUptoCard
end Rows
end Go.Proofs.YtpnedbnpnekahaaDoor
