/-
  DERIVED. GIVEN WITH THE SEED: THE CARDS: each row of YthojbccgnlcblaaDoorRows.lean that lists a variable, with what it lists TIED to the program's text (the seventh form; the later family's looks); each row that meets fmt, with fmt's text TOLD by the authors' own Lean function (tested against real Go, not proved from fmt's source: count such statements apart). THE CARD IS WHAT COUNTS. Prove the row's statement (the work); the ties are given (YthojbccgnlcblaaDoorTie.lean); close each card by the builder's one call (the guide's Derived/Test/ToyasCard.lean, 'card_holds'). Laid BY PROGRAM, IN A SANDBOX (cutbox-door.mjs). By AI agents, Wed Nov 11 2026. No macro, syntax, notation, axiom, sorry.
-/
import Derived.Test.YthojbccgnlcblaaDoorRows
import GoSem.ClaimSeven
namespace Go.Proofs.YthojbccgnlcblaaDoor
namespace Rows

/-- THE TIED CARD OF 'laws.FnExactNoticeRead'. -/
def fnExactNoticeReadCard : Claim7 := { stood := { row := fnExactNoticeReadRow, standIns := [], harness := (true, "476b8eef2d18fed7edc964a1c5d96751ec7555347d0254f823417832fff28865"), looks := true }, kinds := [], alts := [], laidByText := true, laidKinds := [.data, .pinned], laidTests := true, laidLooks := .later }
def FnExactNoticeReadCardSaid : Prop := Claim7.holds Tryd.pinned (.plain (OpenSpec.ofChange fnExactNoticeReadSpec)) fnExactNoticeReadCard

/-- THE TIED CARD OF 'laws.FnNoticeRead'. -/
def fnNoticeReadCard : Claim7 := { stood := { row := fnNoticeReadRow, standIns := [], harness := (true, "476b8eef2d18fed7edc964a1c5d96751ec7555347d0254f823417832fff28865"), looks := true }, kinds := [], alts := [], laidByText := true, laidKinds := [.data, .pinned], laidTests := true, laidLooks := .later }
def FnNoticeReadCardSaid : Prop := Claim7.holds Tryd.pinned (.plain (OpenSpec.ofChange fnNoticeReadSpec)) fnNoticeReadCard

/-- THE TIED CARD OF 'laws.FnNoticeJunk'. -/
def fnNoticeJunkCard : Claim7 := { stood := { row := fnNoticeJunkRow, standIns := [], harness := (true, "476b8eef2d18fed7edc964a1c5d96751ec7555347d0254f823417832fff28865"), looks := true }, kinds := [], alts := [], laidByText := true, laidKinds := [.data, .pinned], laidTests := true, laidLooks := .later }
def FnNoticeJunkCardSaid : Prop := Claim7.holds Tryd.pinned (.plain (OpenSpec.ofChange fnNoticeJunkSpec)) fnNoticeJunkCard

/-- THE SECOND FORM's CARD OF 'laws.FnExactNoticeRead'. -/
def fnExactNoticeReadUptoCard : Claim7 := { stood := { row := fnExactNoticeReadUptoRow, standIns := [], harness := (true, "476b8eef2d18fed7edc964a1c5d96751ec7555347d0254f823417832fff28865"), looks := true }, kinds := [], alts := [], laidByText := true, laidKinds := [.data, .pinned], laidTests := true, laidLooks := .later }
def FnExactNoticeReadUptoCardSaid : Prop := Claim7.holds Tryd.pinned (.plain (OpenSpec.upto fnExactNoticeReadSpec)) fnExactNoticeReadUptoCard

/-- THE SECOND FORM's CARD OF 'laws.FnNoticeRead'. -/
def fnNoticeReadUptoCard : Claim7 := { stood := { row := fnNoticeReadUptoRow, standIns := [], harness := (true, "476b8eef2d18fed7edc964a1c5d96751ec7555347d0254f823417832fff28865"), looks := true }, kinds := [], alts := [], laidByText := true, laidKinds := [.data, .pinned], laidTests := true, laidLooks := .later }
def FnNoticeReadUptoCardSaid : Prop := Claim7.holds Tryd.pinned (.plain (OpenSpec.upto fnNoticeReadSpec)) fnNoticeReadUptoCard

/-- THE SECOND FORM's CARD OF 'laws.FnNoticeJunk'. -/
def fnNoticeJunkUptoCard : Claim7 := { stood := { row := fnNoticeJunkUptoRow, standIns := [], harness := (true, "476b8eef2d18fed7edc964a1c5d96751ec7555347d0254f823417832fff28865"), looks := true }, kinds := [], alts := [], laidByText := true, laidKinds := [.data, .pinned], laidTests := true, laidLooks := .later }
def FnNoticeJunkUptoCardSaid : Prop := Claim7.holds Tryd.pinned (.plain (OpenSpec.upto fnNoticeJunkSpec)) fnNoticeJunkUptoCard
end Rows
end Go.Proofs.YthojbccgnlcblaaDoor
