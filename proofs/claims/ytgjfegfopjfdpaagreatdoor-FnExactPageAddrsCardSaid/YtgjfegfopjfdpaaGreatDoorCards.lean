/-
  DERIVED. GIVEN WITH THE SEED: THE CARDS: each row of YtgjfegfopjfdpaaGreatDoorRows.lean that lists a variable, with what it lists TIED to the program's text (the seventh form; the later family's looks); each row that meets fmt, with fmt's text TOLD by the authors' own Lean function (tested against real Go, not proved from fmt's source: count such statements apart). THE CARD IS WHAT COUNTS. Prove the row's statement (the work); the ties are given (YtgjfegfopjfdpaaGreatDoorTie.lean); close each card by the builder's one call (the guide's Derived/Test/ToyasCard.lean, 'card_holds'). Laid BY PROGRAM, IN A SANDBOX (cutbox-door.mjs). By AI agents, Wed Nov 11 2026. No macro, syntax, notation, axiom, sorry.
-/
import Derived.Test.YtgjfegfopjfdpaaGreatDoorRows
import GoSem.ClaimSeven
namespace Go.Proofs.YtgjfegfopjfdpaaGreatDoor
namespace Rows

/-- THE TIED CARD OF 'laws.FnExactPageAddrs'. -/
def fnExactPageAddrsCard : Claim7 := { stood := { row := fnExactPageAddrsRow, standIns := [], harness := (true, "ed35e726fe9ce4a5a2c950f451ee72f64af63785e0932cae000ce98e8f70e758"), looks := false }, kinds := [], alts := [], laidByText := true, laidKinds := [.data, .pinned], laidTests := true, laidLooks := .later }
def FnExactPageAddrsCardSaid : Prop := Claim7.holds Tryz.pinned (.plain (OpenSpec.ofChange fnExactPageAddrsSpec)) fnExactPageAddrsCard

/-- THE TIED CARD OF 'laws.FnPageBaseJoin'. -/
def fnPageBaseJoinCard : Claim7 := { stood := { row := fnPageBaseJoinRow, standIns := [], harness := (true, "ed35e726fe9ce4a5a2c950f451ee72f64af63785e0932cae000ce98e8f70e758"), looks := false }, kinds := [], alts := [], laidByText := true, laidKinds := [.data, .pinned], laidTests := true, laidLooks := .later }
def FnPageBaseJoinCardSaid : Prop := Claim7.holds Tryz.pinned (.plain (OpenSpec.ofChange fnPageBaseJoinSpec)) fnPageBaseJoinCard

/-- THE TIED CARD OF 'laws.FnPageAddrsAll'. -/
def fnPageAddrsAllCard : Claim7 := { stood := { row := fnPageAddrsAllRow, standIns := [], harness := (true, "ed35e726fe9ce4a5a2c950f451ee72f64af63785e0932cae000ce98e8f70e758"), looks := false }, kinds := [], alts := [], laidByText := true, laidKinds := [.data, .pinned], laidTests := true, laidLooks := .later }
def FnPageAddrsAllCardSaid : Prop := Claim7.holds Tryz.pinned (.plain (OpenSpec.ofChange fnPageAddrsAllSpec)) fnPageAddrsAllCard

/-- THE TIED CARD OF 'laws.FnPageAddrs'. -/
def fnPageAddrsCard : Claim7 := { stood := { row := fnPageAddrsRow, standIns := [], harness := (true, "ed35e726fe9ce4a5a2c950f451ee72f64af63785e0932cae000ce98e8f70e758"), looks := false }, kinds := [], alts := [], laidByText := true, laidKinds := [.data, .pinned], laidTests := true, laidLooks := .later }
def FnPageAddrsCardSaid : Prop := Claim7.holds Tryz.pinned (.plain (OpenSpec.ofChange fnPageAddrsSpec)) fnPageAddrsCard

/-- THE SECOND FORM's CARD OF 'laws.FnExactPageAddrs'. -/
def fnExactPageAddrsUptoCard : Claim7 := { stood := { row := fnExactPageAddrsUptoRow, standIns := [], harness := (true, "ed35e726fe9ce4a5a2c950f451ee72f64af63785e0932cae000ce98e8f70e758"), looks := false }, kinds := [], alts := [], laidByText := true, laidKinds := [.data, .pinned], laidTests := true, laidLooks := .later }
def FnExactPageAddrsUptoCardSaid : Prop := Claim7.holds Tryz.pinned (.plain (OpenSpec.upto fnExactPageAddrsSpec)) fnExactPageAddrsUptoCard

/-- THE SECOND FORM's CARD OF 'laws.FnPageBaseJoin'. -/
def fnPageBaseJoinUptoCard : Claim7 := { stood := { row := fnPageBaseJoinUptoRow, standIns := [], harness := (true, "ed35e726fe9ce4a5a2c950f451ee72f64af63785e0932cae000ce98e8f70e758"), looks := false }, kinds := [], alts := [], laidByText := true, laidKinds := [.data, .pinned], laidTests := true, laidLooks := .later }
def FnPageBaseJoinUptoCardSaid : Prop := Claim7.holds Tryz.pinned (.plain (OpenSpec.upto fnPageBaseJoinSpec)) fnPageBaseJoinUptoCard

/-- THE SECOND FORM's CARD OF 'laws.FnPageAddrsAll'. -/
def fnPageAddrsAllUptoCard : Claim7 := { stood := { row := fnPageAddrsAllUptoRow, standIns := [], harness := (true, "ed35e726fe9ce4a5a2c950f451ee72f64af63785e0932cae000ce98e8f70e758"), looks := false }, kinds := [], alts := [], laidByText := true, laidKinds := [.data, .pinned], laidTests := true, laidLooks := .later }
def FnPageAddrsAllUptoCardSaid : Prop := Claim7.holds Tryz.pinned (.plain (OpenSpec.upto fnPageAddrsAllSpec)) fnPageAddrsAllUptoCard

/-- THE SECOND FORM's CARD OF 'laws.FnPageAddrs'. -/
def fnPageAddrsUptoCard : Claim7 := { stood := { row := fnPageAddrsUptoRow, standIns := [], harness := (true, "ed35e726fe9ce4a5a2c950f451ee72f64af63785e0932cae000ce98e8f70e758"), looks := false }, kinds := [], alts := [], laidByText := true, laidKinds := [.data, .pinned], laidTests := true, laidLooks := .later }
def FnPageAddrsUptoCardSaid : Prop := Claim7.holds Tryz.pinned (.plain (OpenSpec.upto fnPageAddrsSpec)) fnPageAddrsUptoCard
end Rows
end Go.Proofs.YtgjfegfopjfdpaaGreatDoor
