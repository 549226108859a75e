/-
  No cell of these rows narrows 'for every input' (looked for: loops, veiled, ifaces, maps, wideKeys, modest, calm, conditions, laid).
  DERIVED. THE GIVEN ROWS OF THIS SEAT. 5 by the template 'for every input the law returns true; each argument reads behind the call as it read before'; 0 by the template 'total and deterministic' (their statements: YtihdnoobcpkgaaaTotals.lean).
  GIVEN WITH THE SEED: the statements are not yours to turn. If you find one false, say at which input.
  Laid BY PROGRAM, IN A SANDBOX (cutbox-rows.mjs): the forced cells as the released guide's own fill.sh prints them over the translation 9feb0e92ece992cf… (all of the seat's roots in one cut). By AI agents, Wed Nov 11 2026. No macro, syntax, notation, axiom, sorry.
-/
import Derived.Test.YtihdnoobcpkgaaaChecked
import GoSem.Claim
import GoSem.ClaimJoined
import GoSem.ClaimMapViews
import Derived.JoinedTies
import Derived.KernelRfl
namespace Go.Proofs.Ytihdnoobcpkgaaa
/- THE CELL 'sum', in the pinned program and in every row, IS THE sha256 OF THE DUMP (.gsa) THAT YtihdnoobcpkgaaaProg.lean LOADS. Nothing in Lean hashes anything: it is a label: what it is worth is what the hold of that sum in a sandbox is worth. -/
noncomputable def Try.pinned : Pinned := { name := "ytihdnoobcpkgaaa", sum := "9feb0e92ece992cf97ab479ab0e59fd8256a450df016a55278140eb19e6267d9", checked := Try.checked }
namespace Rows
def none {H : Type} : Left H := { results := [], args := [] }

/-- 'laws.FnExactTripBack': WHATEVER THE INPUT: true; the input reads as it did. -/
def fnExactTripBackSpec : ChangeSpec := { name := "fnExactTripBack", fn := fun _ => fun
  | [d] => { results := [.lit (.bool true)], args := [d] }
  | _ => none }
def fnExactTripBackRow : OpenClaim := { program := "ytihdnoobcpkgaaa", sum := "9feb0e92ece992cf97ab479ab0e59fd8256a450df016a55278140eb19e6267d9", func := "loop.example/pedlar/laws.FnExactTripBack", spec := "fnExactTripBack", apart := false }
def FnExactTripBackSaid : Prop := fnExactTripBackRow.holds Try.pinned (OpenSpec.ofChange fnExactTripBackSpec)

/-- ITS FALSE NEIGHBOUR: 'it returns false'. Refute it at one input. -/
def fnExactTripBackWrong : ChangeSpec := { name := "fnExactTripBack", fn := fun _ => fun
  | [d] => { results := [.lit (.bool false)], args := [d] }
  | _ => none }
def FnExactTripBackWrongFalsely : Prop := fnExactTripBackRow.holds Try.pinned (OpenSpec.ofChange fnExactTripBackWrong)

/-- 'laws.FnTripBack': WHATEVER THE INPUT: true; the input reads as it did. -/
def fnTripBackSpec : ChangeSpec := { name := "fnTripBack", fn := fun _ => fun
  | [d] => { results := [.lit (.bool true)], args := [d] }
  | _ => none }
def fnTripBackRow : OpenClaim := { program := "ytihdnoobcpkgaaa", sum := "9feb0e92ece992cf97ab479ab0e59fd8256a450df016a55278140eb19e6267d9", func := "loop.example/pedlar/laws.FnTripBack", spec := "fnTripBack", apart := false }
def FnTripBackSaid : Prop := fnTripBackRow.holds Try.pinned (OpenSpec.ofChange fnTripBackSpec)

/-- ITS FALSE NEIGHBOUR: 'it returns false'. Refute it at one input. -/
def fnTripBackWrong : ChangeSpec := { name := "fnTripBack", fn := fun _ => fun
  | [d] => { results := [.lit (.bool false)], args := [d] }
  | _ => none }
def FnTripBackWrongFalsely : Prop := fnTripBackRow.holds Try.pinned (OpenSpec.ofChange fnTripBackWrong)

/-- 'laws.FnExactShareOf': WHATEVER THE INPUT: true; the input reads as it did. -/
def fnExactShareOfSpec : ChangeSpec := { name := "fnExactShareOf", fn := fun _ => fun
  | [d1, d2] => { results := [.lit (.bool true)], args := [d1, d2] }
  | _ => none }
def fnExactShareOfRow : OpenClaim := { program := "ytihdnoobcpkgaaa", sum := "9feb0e92ece992cf97ab479ab0e59fd8256a450df016a55278140eb19e6267d9", func := "loop.example/pedlar/laws.FnExactShareOf", spec := "fnExactShareOf", apart := false }
def FnExactShareOfSaid : Prop := fnExactShareOfRow.holds Try.pinned (OpenSpec.ofChange fnExactShareOfSpec)

/-- ITS FALSE NEIGHBOUR: 'it returns false'. Refute it at one input. -/
def fnExactShareOfWrong : ChangeSpec := { name := "fnExactShareOf", fn := fun _ => fun
  | [d1, d2] => { results := [.lit (.bool false)], args := [d1, d2] }
  | _ => none }
def FnExactShareOfWrongFalsely : Prop := fnExactShareOfRow.holds Try.pinned (OpenSpec.ofChange fnExactShareOfWrong)

/-- 'laws.FnShareOf': WHATEVER THE INPUT: true; the input reads as it did. -/
def fnShareOfSpec : ChangeSpec := { name := "fnShareOf", fn := fun _ => fun
  | [d] => { results := [.lit (.bool true)], args := [d] }
  | _ => none }
def fnShareOfRow : OpenClaim := { program := "ytihdnoobcpkgaaa", sum := "9feb0e92ece992cf97ab479ab0e59fd8256a450df016a55278140eb19e6267d9", func := "loop.example/pedlar/laws.FnShareOf", spec := "fnShareOf", apart := false }
def FnShareOfSaid : Prop := fnShareOfRow.holds Try.pinned (OpenSpec.ofChange fnShareOfSpec)

/-- ITS FALSE NEIGHBOUR: 'it returns false'. Refute it at one input. -/
def fnShareOfWrong : ChangeSpec := { name := "fnShareOf", fn := fun _ => fun
  | [d] => { results := [.lit (.bool false)], args := [d] }
  | _ => none }
def FnShareOfWrongFalsely : Prop := fnShareOfRow.holds Try.pinned (OpenSpec.ofChange fnShareOfWrong)

/-- 'laws.FnExactPageBase': WHATEVER THE INPUT: true; the input reads as it did. -/
def fnExactPageBaseSpec : ChangeSpec := { name := "fnExactPageBase", fn := fun _ => fun
  | [d] => { results := [.lit (.bool true)], args := [d] }
  | _ => none }
def fnExactPageBaseRow : OpenClaim := { program := "ytihdnoobcpkgaaa", sum := "9feb0e92ece992cf97ab479ab0e59fd8256a450df016a55278140eb19e6267d9", func := "loop.example/pedlar/laws.FnExactPageBase", spec := "fnExactPageBase", unfollowed := true, recurses := true, apart := false }
def FnExactPageBaseSaid : Prop := fnExactPageBaseRow.holds Try.pinned (OpenSpec.ofChange fnExactPageBaseSpec)

/-- ITS FALSE NEIGHBOUR: 'it returns false'. Refute it at one input. -/
def fnExactPageBaseWrong : ChangeSpec := { name := "fnExactPageBase", fn := fun _ => fun
  | [d] => { results := [.lit (.bool false)], args := [d] }
  | _ => none }
def FnExactPageBaseWrongFalsely : Prop := fnExactPageBaseRow.holds Try.pinned (OpenSpec.ofChange fnExactPageBaseWrong)

/- THE SECOND FORM. 'bulk': how many values and letters a reading holds, each counted each time it is reached (what is shared counts as often as it is met; a slice's spare places count too). A statement '..UptoSaid' is the law's where the arguments, and the package variables that the reading takes, are together of bulk at most 1048576: NARROWER than '..Said'. Prove '..Said' where nothing that the law and all that it calls make is longer than what came in: it says more and counts as full. Else prove '..UptoSaid'. A law counts once. -/
mutual
def uptoBulk {H : Type} : DataW H → Nat
  | .lit (.string bytes) => bytes.length + 1
  | .lit _ => 1
  | .nil => 1
  | .ptr d => uptoBulk d + 1
  | .slice elems spare => uptoBulkAll elems + uptoBulkAll spare + 1
  | .agg parts => uptoBulkAll parts + 1
  | .iface _ d => uptoBulk d + 1
  | .map entries => uptoBulkEntries entries + 1
  | .held _ => 1
def uptoBulkAll {H : Type} : List (DataW H) → Nat
  | [] => 0
  | d :: r => uptoBulk d + uptoBulkAll r
def uptoBulkEntries {H : Type} : List (Lit × DataW H) → Nat
  | [] => 0
  | x :: r => uptoBulkEntry x + uptoBulkEntries r
def uptoBulkEntry {H : Type} : Lit × DataW H → Nat
  | (.string bytes, d) => bytes.length + uptoBulk d + 1
  | (_, d) => uptoBulk d + 1
 end
def uptoSmall : (H : Type) → List (DataW H) → Bool := fun _ ds => decide (uptoBulkAll ds ≤ 1048576)
def OpenSpec.upto (s : _root_.Go.ChangeSpec) : _root_.Go.OpenSpec := { _root_.Go.OpenSpec.ofChange s with cond := some uptoSmall }

/-- 'laws.FnExactTripBack', WHERE WHAT IT READS IS OF BULK AT MOST 1048576: true; the input reads as it did. -/
def fnExactTripBackUptoRow : OpenClaim := { program := "ytihdnoobcpkgaaa", sum := "9feb0e92ece992cf97ab479ab0e59fd8256a450df016a55278140eb19e6267d9", func := "loop.example/pedlar/laws.FnExactTripBack", spec := "fnExactTripBack", apart := false, narrowed := true }
def FnExactTripBackUptoSaid : Prop := fnExactTripBackUptoRow.holds Try.pinned (OpenSpec.upto fnExactTripBackSpec)

/-- 'laws.FnTripBack', WHERE WHAT IT READS IS OF BULK AT MOST 1048576: true; the input reads as it did. -/
def fnTripBackUptoRow : OpenClaim := { program := "ytihdnoobcpkgaaa", sum := "9feb0e92ece992cf97ab479ab0e59fd8256a450df016a55278140eb19e6267d9", func := "loop.example/pedlar/laws.FnTripBack", spec := "fnTripBack", apart := false, narrowed := true }
def FnTripBackUptoSaid : Prop := fnTripBackUptoRow.holds Try.pinned (OpenSpec.upto fnTripBackSpec)

/-- 'laws.FnExactShareOf', WHERE WHAT IT READS IS OF BULK AT MOST 1048576: true; the input reads as it did. -/
def fnExactShareOfUptoRow : OpenClaim := { program := "ytihdnoobcpkgaaa", sum := "9feb0e92ece992cf97ab479ab0e59fd8256a450df016a55278140eb19e6267d9", func := "loop.example/pedlar/laws.FnExactShareOf", spec := "fnExactShareOf", apart := false, narrowed := true }
def FnExactShareOfUptoSaid : Prop := fnExactShareOfUptoRow.holds Try.pinned (OpenSpec.upto fnExactShareOfSpec)

/-- 'laws.FnShareOf', WHERE WHAT IT READS IS OF BULK AT MOST 1048576: true; the input reads as it did. -/
def fnShareOfUptoRow : OpenClaim := { program := "ytihdnoobcpkgaaa", sum := "9feb0e92ece992cf97ab479ab0e59fd8256a450df016a55278140eb19e6267d9", func := "loop.example/pedlar/laws.FnShareOf", spec := "fnShareOf", apart := false, narrowed := true }
def FnShareOfUptoSaid : Prop := fnShareOfUptoRow.holds Try.pinned (OpenSpec.upto fnShareOfSpec)

/-- 'laws.FnExactPageBase', WHERE WHAT IT READS IS OF BULK AT MOST 1048576: true; the input reads as it did. -/
def fnExactPageBaseUptoRow : OpenClaim := { program := "ytihdnoobcpkgaaa", sum := "9feb0e92ece992cf97ab479ab0e59fd8256a450df016a55278140eb19e6267d9", func := "loop.example/pedlar/laws.FnExactPageBase", spec := "fnExactPageBase", unfollowed := true, recurses := true, apart := false, narrowed := true }
def FnExactPageBaseUptoSaid : Prop := fnExactPageBaseUptoRow.holds Try.pinned (OpenSpec.upto fnExactPageBaseSpec)

end Rows
end Go.Proofs.Ytihdnoobcpkgaaa
