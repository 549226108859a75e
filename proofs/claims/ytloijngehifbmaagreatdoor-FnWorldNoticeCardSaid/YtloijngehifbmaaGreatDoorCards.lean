/-
  DERIVED. GIVEN WITH THE SEED: THE CARDS: each row of YtloijngehifbmaaGreatDoorRows.lean that lists a variable, with what it lists TIED to the program's text (the seventh form; the later family's looks); each row that meets fmt, with fmt's text TOLD by the authors' own Lean function (tested against real Go, not proved from fmt's source: count such statements apart). THE CARD IS WHAT COUNTS. Prove the row's statement (the work); the ties are given (YtloijngehifbmaaGreatDoorTie.lean); close each card by the builder's one call (the guide's Derived/Test/ToyasCard.lean, 'card_holds'). Laid BY PROGRAM, IN A SANDBOX (cutbox-door.mjs). By AI agents, Wed Nov 11 2026. No macro, syntax, notation, axiom, sorry.
-/
import Derived.Test.YtloijngehifbmaaGreatDoorRows
import GoSem.ClaimSeven
namespace Go.Proofs.YtloijngehifbmaaGreatDoor
namespace Rows

/-- THE TIED CARD OF 'laws.FnExactWorldLets'. -/
def fnExactWorldLetsCard : Claim7 := { stood := { row := fnExactWorldLetsRow, standIns := [], harness := (true, "1ef083c4003365797996df66185b189109dab195f9b856b84c42690569850767"), looks := true }, kinds := [], alts := [], laidByText := true, laidKinds := [.data, .pinned], laidTests := true, laidLooks := .later }
def FnExactWorldLetsCardSaid : Prop := Claim7.holds Tryz.pinned (.plain (OpenSpec.ofChange fnExactWorldLetsSpec)) fnExactWorldLetsCard

/-- THE TIED CARD OF 'laws.FnExactWorldNotice'. -/
def fnExactWorldNoticeCard : Claim7 := { stood := { row := fnExactWorldNoticeRow, standIns := [], harness := (true, "1ef083c4003365797996df66185b189109dab195f9b856b84c42690569850767"), looks := true }, kinds := [], alts := [], laidByText := true, laidKinds := [.data, .pinned], laidTests := true, laidLooks := .later }
def FnExactWorldNoticeCardSaid : Prop := Claim7.holds Tryz.pinned (.plain (OpenSpec.ofChange fnExactWorldNoticeSpec)) fnExactWorldNoticeCard

/-- THE TIED CARD OF 'laws.FnWorldNotice'. -/
def fnWorldNoticeCard : Claim7 := { stood := { row := fnWorldNoticeRow, standIns := [], harness := (true, "1ef083c4003365797996df66185b189109dab195f9b856b84c42690569850767"), looks := true }, kinds := [], alts := [], laidByText := true, laidKinds := [.data, .pinned], laidTests := true, laidLooks := .later }
def FnWorldNoticeCardSaid : Prop := Claim7.holds Tryz.pinned (.plain (OpenSpec.ofChange fnWorldNoticeSpec)) fnWorldNoticeCard

/-- THE SECOND FORM's CARD OF 'laws.FnExactWorldLets'. -/
def fnExactWorldLetsUptoCard : Claim7 := { stood := { row := fnExactWorldLetsUptoRow, standIns := [], harness := (true, "1ef083c4003365797996df66185b189109dab195f9b856b84c42690569850767"), looks := true }, kinds := [], alts := [], laidByText := true, laidKinds := [.data, .pinned], laidTests := true, laidLooks := .later }
def FnExactWorldLetsUptoCardSaid : Prop := Claim7.holds Tryz.pinned (.plain (OpenSpec.upto fnExactWorldLetsSpec)) fnExactWorldLetsUptoCard

/-- THE SECOND FORM's CARD OF 'laws.FnExactWorldNotice'. -/
def fnExactWorldNoticeUptoCard : Claim7 := { stood := { row := fnExactWorldNoticeUptoRow, standIns := [], harness := (true, "1ef083c4003365797996df66185b189109dab195f9b856b84c42690569850767"), looks := true }, kinds := [], alts := [], laidByText := true, laidKinds := [.data, .pinned], laidTests := true, laidLooks := .later }
def FnExactWorldNoticeUptoCardSaid : Prop := Claim7.holds Tryz.pinned (.plain (OpenSpec.upto fnExactWorldNoticeSpec)) fnExactWorldNoticeUptoCard

/-- THE SECOND FORM's CARD OF 'laws.FnWorldNotice'. -/
def fnWorldNoticeUptoCard : Claim7 := { stood := { row := fnWorldNoticeUptoRow, standIns := [], harness := (true, "1ef083c4003365797996df66185b189109dab195f9b856b84c42690569850767"), looks := true }, kinds := [], alts := [], laidByText := true, laidKinds := [.data, .pinned], laidTests := true, laidLooks := .later }
def FnWorldNoticeUptoCardSaid : Prop := Claim7.holds Tryz.pinned (.plain (OpenSpec.upto fnWorldNoticeSpec)) fnWorldNoticeUptoCard
end Rows
end Go.Proofs.YtloijngehifbmaaGreatDoor
