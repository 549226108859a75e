/-
  No cell of these rows narrows 'for every input' (looked for: loops, veiled, ifaces, maps, wideKeys, modest, calm, conditions, laid).
  DERIVED. THE GIVEN ROWS OF THIS SEAT. 6 by the template 'for every input the law returns true; each argument reads behind the call as it read before'; 0 by the template 'total and deterministic' (their statements: YtmaleoldpmiilaaTotals.lean).
  GIVEN WITH THE SEED: the statements are not yours to turn. If you find one false, say at which input.
  Laid BY PROGRAM, IN A SANDBOX (cutbox-rows.mjs): the forced cells as the released guide's own fill.sh prints them over the translation 9b7df69493c384c4… (all of the seat's roots in one cut). By AI agents, Wed Nov 11 2026. No macro, syntax, notation, axiom, sorry.
-/
import Derived.Test.YtmaleoldpmiilaaChecked
import GoSem.Claim
import GoSem.ClaimJoined
import GoSem.ClaimMapViews
import Derived.JoinedTies
import Derived.KernelRfl
namespace Go.Proofs.Ytmaleoldpmiilaa
/- THE CELL 'sum', in the pinned program and in every row, IS THE sha256 OF THE DUMP (.gsa) THAT YtmaleoldpmiilaaProg.lean LOADS. Nothing in Lean hashes anything: it is a label: what it is worth is what the hold of that sum in a sandbox is worth. -/
noncomputable def Try.pinned : Pinned := { name := "ytmaleoldpmiilaa", sum := "9b7df69493c384c4bf0c53c3f835ce0bde463e893776110bf4df29183df41ce7", checked := Try.checked }
namespace Rows
def none {H : Type} : Left H := { results := [], args := [] }

/-- 'laws.FnExactPageBase': WHATEVER THE INPUT: true; the input reads as it did. -/
def fnExactPageBaseSpec : ChangeSpec := { name := "fnExactPageBase", fn := fun _ => fun
  | [d] => { results := [.lit (.bool true)], args := [d] }
  | _ => none }
def fnExactPageBaseRow : OpenClaim := { program := "ytmaleoldpmiilaa", sum := "9b7df69493c384c4bf0c53c3f835ce0bde463e893776110bf4df29183df41ce7", func := "loop.example/pedlar/laws.FnExactPageBase", spec := "fnExactPageBase", unfollowed := true, recurses := true, apart := false }
def FnExactPageBaseSaid : Prop := fnExactPageBaseRow.holds Try.pinned (OpenSpec.ofChange fnExactPageBaseSpec)

/-- ITS FALSE NEIGHBOUR: 'it returns false'. Refute it at one input. -/
def fnExactPageBaseWrong : ChangeSpec := { name := "fnExactPageBase", fn := fun _ => fun
  | [d] => { results := [.lit (.bool false)], args := [d] }
  | _ => none }
def FnExactPageBaseWrongFalsely : Prop := fnExactPageBaseRow.holds Try.pinned (OpenSpec.ofChange fnExactPageBaseWrong)

/-- 'laws.FnExactPageLinks': WHATEVER THE INPUT: true; the input reads as it did. -/
def fnExactPageLinksSpec : ChangeSpec := { name := "fnExactPageLinks", fn := fun _ => fun
  | [d] => { results := [.lit (.bool true)], args := [d] }
  | _ => none }
def fnExactPageLinksRow : OpenClaim := { program := "ytmaleoldpmiilaa", sum := "9b7df69493c384c4bf0c53c3f835ce0bde463e893776110bf4df29183df41ce7", func := "loop.example/pedlar/laws.FnExactPageLinks", spec := "fnExactPageLinks", unfollowed := true, recurses := true, apart := false }
def FnExactPageLinksSaid : Prop := fnExactPageLinksRow.holds Try.pinned (OpenSpec.ofChange fnExactPageLinksSpec)

/-- ITS FALSE NEIGHBOUR: 'it returns false'. Refute it at one input. -/
def fnExactPageLinksWrong : ChangeSpec := { name := "fnExactPageLinks", fn := fun _ => fun
  | [d] => { results := [.lit (.bool false)], args := [d] }
  | _ => none }
def FnExactPageLinksWrongFalsely : Prop := fnExactPageLinksRow.holds Try.pinned (OpenSpec.ofChange fnExactPageLinksWrong)

/-- 'laws.FnBaseFirst': WHATEVER THE INPUT: true; the input reads as it did. -/
def fnBaseFirstSpec : ChangeSpec := { name := "fnBaseFirst", fn := fun _ => fun
  | [d] => { results := [.lit (.bool true)], args := [d] }
  | _ => none }
def fnBaseFirstRow : OpenClaim := { program := "ytmaleoldpmiilaa", sum := "9b7df69493c384c4bf0c53c3f835ce0bde463e893776110bf4df29183df41ce7", func := "loop.example/pedlar/laws.FnBaseFirst", spec := "fnBaseFirst", unfollowed := true, recurses := true, apart := false }
def FnBaseFirstSaid : Prop := fnBaseFirstRow.holds Try.pinned (OpenSpec.ofChange fnBaseFirstSpec)

/-- ITS FALSE NEIGHBOUR: 'it returns false'. Refute it at one input. -/
def fnBaseFirstWrong : ChangeSpec := { name := "fnBaseFirst", fn := fun _ => fun
  | [d] => { results := [.lit (.bool false)], args := [d] }
  | _ => none }
def FnBaseFirstWrongFalsely : Prop := fnBaseFirstRow.holds Try.pinned (OpenSpec.ofChange fnBaseFirstWrong)

/-- 'laws.FnLinksMore': WHATEVER THE INPUT: true; the input reads as it did. -/
def fnLinksMoreSpec : ChangeSpec := { name := "fnLinksMore", fn := fun _ => fun
  | [d] => { results := [.lit (.bool true)], args := [d] }
  | _ => none }
def fnLinksMoreRow : OpenClaim := { program := "ytmaleoldpmiilaa", sum := "9b7df69493c384c4bf0c53c3f835ce0bde463e893776110bf4df29183df41ce7", func := "loop.example/pedlar/laws.FnLinksMore", spec := "fnLinksMore", unfollowed := true, recurses := true, apart := false }
def FnLinksMoreSaid : Prop := fnLinksMoreRow.holds Try.pinned (OpenSpec.ofChange fnLinksMoreSpec)

/-- ITS FALSE NEIGHBOUR: 'it returns false'. Refute it at one input. -/
def fnLinksMoreWrong : ChangeSpec := { name := "fnLinksMore", fn := fun _ => fun
  | [d] => { results := [.lit (.bool false)], args := [d] }
  | _ => none }
def FnLinksMoreWrongFalsely : Prop := fnLinksMoreRow.holds Try.pinned (OpenSpec.ofChange fnLinksMoreWrong)

/-- 'laws.FnLinksNone': WHATEVER THE INPUT: true; the input reads as it did. -/
def fnLinksNoneSpec : ChangeSpec := { name := "fnLinksNone", fn := fun _ => fun
  | [d] => { results := [.lit (.bool true)], args := [d] }
  | _ => none }
def fnLinksNoneRow : OpenClaim := { program := "ytmaleoldpmiilaa", sum := "9b7df69493c384c4bf0c53c3f835ce0bde463e893776110bf4df29183df41ce7", func := "loop.example/pedlar/laws.FnLinksNone", spec := "fnLinksNone", unfollowed := true, recurses := true, apart := false }
def FnLinksNoneSaid : Prop := fnLinksNoneRow.holds Try.pinned (OpenSpec.ofChange fnLinksNoneSpec)

/-- ITS FALSE NEIGHBOUR: 'it returns false'. Refute it at one input. -/
def fnLinksNoneWrong : ChangeSpec := { name := "fnLinksNone", fn := fun _ => fun
  | [d] => { results := [.lit (.bool false)], args := [d] }
  | _ => none }
def FnLinksNoneWrongFalsely : Prop := fnLinksNoneRow.holds Try.pinned (OpenSpec.ofChange fnLinksNoneWrong)

/-- 'laws.FnLinksRound': WHATEVER THE INPUT: true; the input reads as it did. -/
def fnLinksRoundSpec : ChangeSpec := { name := "fnLinksRound", fn := fun _ => fun
  | [d] => { results := [.lit (.bool true)], args := [d] }
  | _ => none }
def fnLinksRoundRow : OpenClaim := { program := "ytmaleoldpmiilaa", sum := "9b7df69493c384c4bf0c53c3f835ce0bde463e893776110bf4df29183df41ce7", func := "loop.example/pedlar/laws.FnLinksRound", spec := "fnLinksRound", unfollowed := true, recurses := true, apart := false }
def FnLinksRoundSaid : Prop := fnLinksRoundRow.holds Try.pinned (OpenSpec.ofChange fnLinksRoundSpec)

/-- ITS FALSE NEIGHBOUR: 'it returns false'. Refute it at one input. -/
def fnLinksRoundWrong : ChangeSpec := { name := "fnLinksRound", fn := fun _ => fun
  | [d] => { results := [.lit (.bool false)], args := [d] }
  | _ => none }
def FnLinksRoundWrongFalsely : Prop := fnLinksRoundRow.holds Try.pinned (OpenSpec.ofChange fnLinksRoundWrong)

/- THE SECOND FORM. 'bulk': how many values and letters a reading holds, each counted each time it is reached (what is shared counts as often as it is met; a slice's spare places count too). A statement '..UptoSaid' is the law's where the arguments, and the package variables that the reading takes, are together of bulk at most 1048576: NARROWER than '..Said'. Prove '..Said' where nothing that the law and all that it calls make is longer than what came in: it says more and counts as full. Else prove '..UptoSaid'. A law counts once. -/
mutual
def uptoBulk {H : Type} : DataW H → Nat
  | .lit (.string bytes) => bytes.length + 1
  | .lit _ => 1
  | .nil => 1
  | .ptr d => uptoBulk d + 1
  | .slice elems spare => uptoBulkAll elems + uptoBulkAll spare + 1
  | .agg parts => uptoBulkAll parts + 1
  | .iface _ d => uptoBulk d + 1
  | .map entries => uptoBulkEntries entries + 1
  | .held _ => 1
def uptoBulkAll {H : Type} : List (DataW H) → Nat
  | [] => 0
  | d :: r => uptoBulk d + uptoBulkAll r
def uptoBulkEntries {H : Type} : List (Lit × DataW H) → Nat
  | [] => 0
  | x :: r => uptoBulkEntry x + uptoBulkEntries r
def uptoBulkEntry {H : Type} : Lit × DataW H → Nat
  | (.string bytes, d) => bytes.length + uptoBulk d + 1
  | (_, d) => uptoBulk d + 1
 end
def uptoSmall : (H : Type) → List (DataW H) → Bool := fun _ ds => decide (uptoBulkAll ds ≤ 1048576)
def OpenSpec.upto (s : _root_.Go.ChangeSpec) : _root_.Go.OpenSpec := { _root_.Go.OpenSpec.ofChange s with cond := some uptoSmall }

/-- 'laws.FnExactPageBase', WHERE WHAT IT READS IS OF BULK AT MOST 1048576: true; the input reads as it did. -/
def fnExactPageBaseUptoRow : OpenClaim := { program := "ytmaleoldpmiilaa", sum := "9b7df69493c384c4bf0c53c3f835ce0bde463e893776110bf4df29183df41ce7", func := "loop.example/pedlar/laws.FnExactPageBase", spec := "fnExactPageBase", unfollowed := true, recurses := true, apart := false, narrowed := true }
def FnExactPageBaseUptoSaid : Prop := fnExactPageBaseUptoRow.holds Try.pinned (OpenSpec.upto fnExactPageBaseSpec)

/-- 'laws.FnExactPageLinks', WHERE WHAT IT READS IS OF BULK AT MOST 1048576: true; the input reads as it did. -/
def fnExactPageLinksUptoRow : OpenClaim := { program := "ytmaleoldpmiilaa", sum := "9b7df69493c384c4bf0c53c3f835ce0bde463e893776110bf4df29183df41ce7", func := "loop.example/pedlar/laws.FnExactPageLinks", spec := "fnExactPageLinks", unfollowed := true, recurses := true, apart := false, narrowed := true }
def FnExactPageLinksUptoSaid : Prop := fnExactPageLinksUptoRow.holds Try.pinned (OpenSpec.upto fnExactPageLinksSpec)

/-- 'laws.FnBaseFirst', WHERE WHAT IT READS IS OF BULK AT MOST 1048576: true; the input reads as it did. -/
def fnBaseFirstUptoRow : OpenClaim := { program := "ytmaleoldpmiilaa", sum := "9b7df69493c384c4bf0c53c3f835ce0bde463e893776110bf4df29183df41ce7", func := "loop.example/pedlar/laws.FnBaseFirst", spec := "fnBaseFirst", unfollowed := true, recurses := true, apart := false, narrowed := true }
def FnBaseFirstUptoSaid : Prop := fnBaseFirstUptoRow.holds Try.pinned (OpenSpec.upto fnBaseFirstSpec)

/-- 'laws.FnLinksMore', WHERE WHAT IT READS IS OF BULK AT MOST 1048576: true; the input reads as it did. -/
def fnLinksMoreUptoRow : OpenClaim := { program := "ytmaleoldpmiilaa", sum := "9b7df69493c384c4bf0c53c3f835ce0bde463e893776110bf4df29183df41ce7", func := "loop.example/pedlar/laws.FnLinksMore", spec := "fnLinksMore", unfollowed := true, recurses := true, apart := false, narrowed := true }
def FnLinksMoreUptoSaid : Prop := fnLinksMoreUptoRow.holds Try.pinned (OpenSpec.upto fnLinksMoreSpec)

/-- 'laws.FnLinksNone', WHERE WHAT IT READS IS OF BULK AT MOST 1048576: true; the input reads as it did. -/
def fnLinksNoneUptoRow : OpenClaim := { program := "ytmaleoldpmiilaa", sum := "9b7df69493c384c4bf0c53c3f835ce0bde463e893776110bf4df29183df41ce7", func := "loop.example/pedlar/laws.FnLinksNone", spec := "fnLinksNone", unfollowed := true, recurses := true, apart := false, narrowed := true }
def FnLinksNoneUptoSaid : Prop := fnLinksNoneUptoRow.holds Try.pinned (OpenSpec.upto fnLinksNoneSpec)

/-- 'laws.FnLinksRound', WHERE WHAT IT READS IS OF BULK AT MOST 1048576: true; the input reads as it did. -/
def fnLinksRoundUptoRow : OpenClaim := { program := "ytmaleoldpmiilaa", sum := "9b7df69493c384c4bf0c53c3f835ce0bde463e893776110bf4df29183df41ce7", func := "loop.example/pedlar/laws.FnLinksRound", spec := "fnLinksRound", unfollowed := true, recurses := true, apart := false, narrowed := true }
def FnLinksRoundUptoSaid : Prop := fnLinksRoundUptoRow.holds Try.pinned (OpenSpec.upto fnLinksRoundSpec)

end Rows
end Go.Proofs.Ytmaleoldpmiilaa
