/-
  DERIVED. GIVEN WITH THE SEED: THE CARDS: each row of YtpomhjkbgbociaaGreatDoorRows.lean that lists a variable, with what it lists TIED to the program's text (the seventh form; the later family's looks); each row that meets fmt, with fmt's text TOLD by the authors' own Lean function (tested against real Go, not proved from fmt's source: count such statements apart). THE CARD IS WHAT COUNTS. Prove the row's statement (the work); the ties are given (YtpomhjkbgbociaaGreatDoorTie.lean); close each card by the builder's one call (the guide's Derived/Test/ToyasCard.lean, 'card_holds'). Laid BY PROGRAM, IN A SANDBOX (cutbox-door.mjs). By AI agents, Wed Nov 11 2026. No macro, syntax, notation, axiom, sorry.
-/
import Derived.Test.YtpomhjkbgbociaaGreatDoorRows
import GoSem.ClaimSeven
namespace Go.Proofs.YtpomhjkbgbociaaGreatDoor
namespace Rows

/-- THE TIED CARD OF 'laws.FnWorldGet'. -/
def fnWorldGetCard : Claim7 := { stood := { row := fnWorldGetRow, standIns := [], harness := (true, "8ccead1d440ea5be438632557c9df39bd7b6c3a8cb993065304fadd78b4977b4"), looks := false }, kinds := [], alts := [], laidByText := true, laidKinds := [.data, .pinned], laidTests := true, laidLooks := .later }
def FnWorldGetCardSaid : Prop := Claim7.holds Tryz.pinned (.plain (OpenSpec.ofChange fnWorldGetSpec)) fnWorldGetCard

/-- THE TIED CARD OF 'laws.FnWorldGetOn'. -/
def fnWorldGetOnCard : Claim7 := { stood := { row := fnWorldGetOnRow, standIns := [], harness := (true, "8ccead1d440ea5be438632557c9df39bd7b6c3a8cb993065304fadd78b4977b4"), looks := false }, kinds := [], alts := [], laidByText := true, laidKinds := [.data, .pinned], laidTests := true, laidLooks := .later }
def FnWorldGetOnCardSaid : Prop := Claim7.holds Tryz.pinned (.plain (OpenSpec.ofChange fnWorldGetOnSpec)) fnWorldGetOnCard

/-- THE TIED CARD OF 'laws.FnWorldFrom'. -/
def fnWorldFromCard : Claim7 := { stood := { row := fnWorldFromRow, standIns := [], harness := (true, "8ccead1d440ea5be438632557c9df39bd7b6c3a8cb993065304fadd78b4977b4"), looks := false }, kinds := [], alts := [], laidByText := true, laidKinds := [.data, .pinned], laidTests := true, laidLooks := .later }
def FnWorldFromCardSaid : Prop := Claim7.holds Tryz.pinned (.plain (OpenSpec.ofChange fnWorldFromSpec)) fnWorldFromCard

/-- THE TIED CARD OF 'laws.FnWorldFromNorm'. -/
def fnWorldFromNormCard : Claim7 := { stood := { row := fnWorldFromNormRow, standIns := [], harness := (true, "8ccead1d440ea5be438632557c9df39bd7b6c3a8cb993065304fadd78b4977b4"), looks := false }, kinds := [], alts := [], laidByText := true, laidKinds := [.data, .pinned], laidTests := true, laidLooks := .later }
def FnWorldFromNormCardSaid : Prop := Claim7.holds Tryz.pinned (.plain (OpenSpec.ofChange fnWorldFromNormSpec)) fnWorldFromNormCard

/-- THE SECOND FORM's CARD OF 'laws.FnWorldGet'. -/
def fnWorldGetUptoCard : Claim7 := { stood := { row := fnWorldGetUptoRow, standIns := [], harness := (true, "8ccead1d440ea5be438632557c9df39bd7b6c3a8cb993065304fadd78b4977b4"), looks := false }, kinds := [], alts := [], laidByText := true, laidKinds := [.data, .pinned], laidTests := true, laidLooks := .later }
def FnWorldGetUptoCardSaid : Prop := Claim7.holds Tryz.pinned (.plain (OpenSpec.upto fnWorldGetSpec)) fnWorldGetUptoCard

/-- THE SECOND FORM's CARD OF 'laws.FnWorldGetOn'. -/
def fnWorldGetOnUptoCard : Claim7 := { stood := { row := fnWorldGetOnUptoRow, standIns := [], harness := (true, "8ccead1d440ea5be438632557c9df39bd7b6c3a8cb993065304fadd78b4977b4"), looks := false }, kinds := [], alts := [], laidByText := true, laidKinds := [.data, .pinned], laidTests := true, laidLooks := .later }
def FnWorldGetOnUptoCardSaid : Prop := Claim7.holds Tryz.pinned (.plain (OpenSpec.upto fnWorldGetOnSpec)) fnWorldGetOnUptoCard

/-- THE SECOND FORM's CARD OF 'laws.FnWorldFrom'. -/
def fnWorldFromUptoCard : Claim7 := { stood := { row := fnWorldFromUptoRow, standIns := [], harness := (true, "8ccead1d440ea5be438632557c9df39bd7b6c3a8cb993065304fadd78b4977b4"), looks := false }, kinds := [], alts := [], laidByText := true, laidKinds := [.data, .pinned], laidTests := true, laidLooks := .later }
def FnWorldFromUptoCardSaid : Prop := Claim7.holds Tryz.pinned (.plain (OpenSpec.upto fnWorldFromSpec)) fnWorldFromUptoCard

/-- THE SECOND FORM's CARD OF 'laws.FnWorldFromNorm'. -/
def fnWorldFromNormUptoCard : Claim7 := { stood := { row := fnWorldFromNormUptoRow, standIns := [], harness := (true, "8ccead1d440ea5be438632557c9df39bd7b6c3a8cb993065304fadd78b4977b4"), looks := false }, kinds := [], alts := [], laidByText := true, laidKinds := [.data, .pinned], laidTests := true, laidLooks := .later }
def FnWorldFromNormUptoCardSaid : Prop := Claim7.holds Tryz.pinned (.plain (OpenSpec.upto fnWorldFromNormSpec)) fnWorldFromNormUptoCard
end Rows
end Go.Proofs.YtpomhjkbgbociaaGreatDoor
