/-
  DERIVED. GIVEN WITH THE SEED: THE CARDS: each row of YtfpngfkepeoboaaDoorRows.lean that lists a variable, with what it lists TIED to the program's text (the seventh form; the later family's looks); each row that meets fmt, with fmt's text TOLD by the authors' own Lean function (tested against real Go, not proved from fmt's source: count such statements apart). THE CARD IS WHAT COUNTS. Prove the row's statement (the work); the ties are given (YtfpngfkepeoboaaDoorTie.lean); close each card by the builder's one call (the guide's Derived/Test/ToyasCard.lean, 'card_holds'). Laid BY PROGRAM, IN A SANDBOX (cutbox-door.mjs). By AI agents, Wed Nov 11 2026. No macro, syntax, notation, axiom, sorry.
-/
import Derived.Test.YtfpngfkepeoboaaDoorRows
import GoSem.ClaimSeven
namespace Go.Proofs.YtfpngfkepeoboaaDoor
namespace Rows

/-- THE TIED CARD OF 'laws.FnNoticeBack'. -/
def fnNoticeBackCard : Claim7 := { stood := { row := fnNoticeBackRow, standIns := [], harness := (true, "5a5ca8925fdc02e54e3622bc9827dedc23607e9c33cc7deccdedf4db41dfa4e3"), looks := true }, kinds := [], alts := [], laidByText := true, laidKinds := [.data, .pinned], laidTests := true, laidLooks := .later }
def FnNoticeBackCardSaid : Prop := Claim7.holds Tryd.pinned (.plain (OpenSpec.ofChange fnNoticeBackSpec)) fnNoticeBackCard

/-- THE TIED CARD OF 'laws.FnNoticeCut'. -/
def fnNoticeCutCard : Claim7 := { stood := { row := fnNoticeCutRow, standIns := [], harness := (true, "5a5ca8925fdc02e54e3622bc9827dedc23607e9c33cc7deccdedf4db41dfa4e3"), looks := true }, kinds := [], alts := [], laidByText := true, laidKinds := [.data, .pinned], laidTests := true, laidLooks := .later }
def FnNoticeCutCardSaid : Prop := Claim7.holds Tryd.pinned (.plain (OpenSpec.ofChange fnNoticeCutSpec)) fnNoticeCutCard

/-- THE SECOND FORM's CARD OF 'laws.FnNoticeBack'. -/
def fnNoticeBackUptoCard : Claim7 := { stood := { row := fnNoticeBackUptoRow, standIns := [], harness := (true, "5a5ca8925fdc02e54e3622bc9827dedc23607e9c33cc7deccdedf4db41dfa4e3"), looks := true }, kinds := [], alts := [], laidByText := true, laidKinds := [.data, .pinned], laidTests := true, laidLooks := .later }
def FnNoticeBackUptoCardSaid : Prop := Claim7.holds Tryd.pinned (.plain (OpenSpec.upto fnNoticeBackSpec)) fnNoticeBackUptoCard

/-- THE SECOND FORM's CARD OF 'laws.FnNoticeCut'. -/
def fnNoticeCutUptoCard : Claim7 := { stood := { row := fnNoticeCutUptoRow, standIns := [], harness := (true, "5a5ca8925fdc02e54e3622bc9827dedc23607e9c33cc7deccdedf4db41dfa4e3"), looks := true }, kinds := [], alts := [], laidByText := true, laidKinds := [.data, .pinned], laidTests := true, laidLooks := .later }
def FnNoticeCutUptoCardSaid : Prop := Claim7.holds Tryd.pinned (.plain (OpenSpec.upto fnNoticeCutSpec)) fnNoticeCutUptoCard
end Rows
end Go.Proofs.YtfpngfkepeoboaaDoor
