/-
  NARROWER THAN 'FOR EVERY INPUT', by the rows' own cells (each row's printed sentence says how): FnWorldGet: laid · FnWorldGetOn: laid · FnWorldFrom: laid · FnWorldFromNorm: laid.
  DERIVED. THE GIVEN ROWS OF THIS SEAT. 4 by the template 'for every input the law returns true; each argument reads behind the call as it read before'; 0 by the template 'total and deterministic' (their statements: YtpomhjkbgbociaaGreatDoorTotals.lean).
  GIVEN WITH THE SEED: the statements are not yours to turn. If you find one false, say at which input.
  Laid BY PROGRAM, IN A SANDBOX (cutbox-rows.mjs): the forced cells as the released guide's own fill.sh prints them over the translation 5d51a79e1870b032… (all of the seat's roots in one cut). By AI agents, Wed Nov 11 2026. No macro, syntax, notation, axiom, sorry.
-/
import Derived.Test.YtpomhjkbgbociaaGreatDoorChecked
import GoSem.PinnedTables
import GoSem.Claim
import GoSem.ClaimJoined
import GoSem.ClaimMapViews
import Derived.JoinedTies
import Derived.KernelRfl
namespace Go.Proofs.YtpomhjkbgbociaaGreatDoor
/- THE CELL 'sum', in the pinned program and in every row, IS THE sha256 OF THE DUMP (.gsa) THAT YtpomhjkbgbociaaGreatDoorProg.lean LOADS. Nothing in Lean hashes anything: it is a label: what it is worth is what the hold of that sum in a sandbox is worth. -/
noncomputable def Tryz.pinned : Pinned := { name := "ytpomhjkbgbociaagreatdoor", sum := "5d51a79e1870b032bf2796e05ba74d039bb4e6859b9c57990e627bd5164bfbc1", checked := Tryz.checked }
namespace Rows
def none {H : Type} : Left H := { results := [], args := [] }

/- WHAT THE LISTED PACKAGE-LEVEL VARIABLES READ AS WHEN THE CALL BEGINS. Each datum BY PROGRAM (the guide's laid-datum.mjs) off the statement by which the dump's own 'gosem.cut.vars' lays the variable. In a bare row this is a premise. The card (YtpomhjkbgbociaaGreatDoorCards.lean) ties it to the program's text. -/
def laid_unicode_utf8_acceptRanges {H : Type} : DataW H := .agg [.agg [.lit (.int .u8 128), .lit (.int .u8 191)], .agg [.lit (.int .u8 160), .lit (.int .u8 191)], .agg [.lit (.int .u8 128), .lit (.int .u8 159)], .agg [.lit (.int .u8 144), .lit (.int .u8 191)], .agg [.lit (.int .u8 128), .lit (.int .u8 143)], .agg [.lit (.int .u8 0), .lit (.int .u8 0)], .agg [.lit (.int .u8 0), .lit (.int .u8 0)], .agg [.lit (.int .u8 0), .lit (.int .u8 0)], .agg [.lit (.int .u8 0), .lit (.int .u8 0)], .agg [.lit (.int .u8 0), .lit (.int .u8 0)], .agg [.lit (.int .u8 0), .lit (.int .u8 0)], .agg [.lit (.int .u8 0), .lit (.int .u8 0)], .agg [.lit (.int .u8 0), .lit (.int .u8 0)], .agg [.lit (.int .u8 0), .lit (.int .u8 0)], .agg [.lit (.int .u8 0), .lit (.int .u8 0)], .agg [.lit (.int .u8 0), .lit (.int .u8 0)]]
/-- One of Go's own tables, pinned by name: the form's constant. -/
def laid_unicode_utf8_first : DataW Unit := Go.Pinned.utf8First

/-- 'laws.FnWorldGet': WHATEVER THE INPUT: true; the input reads as it did. -/
def fnWorldGetSpec : ChangeSpec := { name := "fnWorldGet", fn := fun _ => fun
  | [d] => { results := [.lit (.bool true)], args := [d] }
  | _ => none }
def fnWorldGetRow : OpenClaim := { program := "ytpomhjkbgbociaagreatdoor", sum := "5d51a79e1870b032bf2796e05ba74d039bb4e6859b9c57990e627bd5164bfbc1", func := "loop.example/pedlar/laws.FnWorldGet", spec := "fnWorldGet", inPlace := ["internal/bytealg.IndexByteString", "internal/bytealg.IndexString", "internal/bytealg.CountString", "internal/abi.NoEscape", "internal/bytealg.MakeNoZero"], recurses := true, named := ["internal/bytealg.MaxLen", "unicode/utf8.first", "unicode/utf8.acceptRanges"], apart := false, laid := [("unicode/utf8.acceptRanges", laid_unicode_utf8_acceptRanges), ("unicode/utf8.first", laid_unicode_utf8_first)] }
def FnWorldGetSaid : Prop := fnWorldGetRow.holds Tryz.pinned (OpenSpec.ofChange fnWorldGetSpec)

/-- ITS FALSE NEIGHBOUR: 'it returns false'. Refute it at one input. -/
def fnWorldGetWrong : ChangeSpec := { name := "fnWorldGet", fn := fun _ => fun
  | [d] => { results := [.lit (.bool false)], args := [d] }
  | _ => none }
def FnWorldGetWrongFalsely : Prop := fnWorldGetRow.holds Tryz.pinned (OpenSpec.ofChange fnWorldGetWrong)

/-- 'laws.FnWorldGetOn': WHATEVER THE INPUT: true; the input reads as it did. -/
def fnWorldGetOnSpec : ChangeSpec := { name := "fnWorldGetOn", fn := fun _ => fun
  | [d1, d2] => { results := [.lit (.bool true)], args := [d1, d2] }
  | _ => none }
def fnWorldGetOnRow : OpenClaim := { program := "ytpomhjkbgbociaagreatdoor", sum := "5d51a79e1870b032bf2796e05ba74d039bb4e6859b9c57990e627bd5164bfbc1", func := "loop.example/pedlar/laws.FnWorldGetOn", spec := "fnWorldGetOn", inPlace := ["internal/bytealg.IndexByteString", "internal/bytealg.IndexString", "internal/bytealg.CountString", "internal/abi.NoEscape", "internal/bytealg.MakeNoZero"], recurses := true, named := ["internal/bytealg.MaxLen", "unicode/utf8.first", "unicode/utf8.acceptRanges"], apart := false, laid := [("unicode/utf8.acceptRanges", laid_unicode_utf8_acceptRanges), ("unicode/utf8.first", laid_unicode_utf8_first)] }
def FnWorldGetOnSaid : Prop := fnWorldGetOnRow.holds Tryz.pinned (OpenSpec.ofChange fnWorldGetOnSpec)

/-- ITS FALSE NEIGHBOUR: 'it returns false'. Refute it at one input. -/
def fnWorldGetOnWrong : ChangeSpec := { name := "fnWorldGetOn", fn := fun _ => fun
  | [d1, d2] => { results := [.lit (.bool false)], args := [d1, d2] }
  | _ => none }
def FnWorldGetOnWrongFalsely : Prop := fnWorldGetOnRow.holds Tryz.pinned (OpenSpec.ofChange fnWorldGetOnWrong)

/-- 'laws.FnWorldFrom': WHATEVER THE INPUT: true; the input reads as it did. -/
def fnWorldFromSpec : ChangeSpec := { name := "fnWorldFrom", fn := fun _ => fun
  | [d] => { results := [.lit (.bool true)], args := [d] }
  | _ => none }
def fnWorldFromRow : OpenClaim := { program := "ytpomhjkbgbociaagreatdoor", sum := "5d51a79e1870b032bf2796e05ba74d039bb4e6859b9c57990e627bd5164bfbc1", func := "loop.example/pedlar/laws.FnWorldFrom", spec := "fnWorldFrom", inPlace := ["internal/bytealg.IndexByteString", "internal/bytealg.IndexString", "internal/bytealg.CountString", "internal/abi.NoEscape", "internal/bytealg.MakeNoZero"], unfollowed := true, recurses := true, named := ["internal/bytealg.MaxLen", "unicode/utf8.first", "unicode/utf8.acceptRanges"], apart := false, laid := [("unicode/utf8.acceptRanges", laid_unicode_utf8_acceptRanges), ("unicode/utf8.first", laid_unicode_utf8_first)] }
def FnWorldFromSaid : Prop := fnWorldFromRow.holds Tryz.pinned (OpenSpec.ofChange fnWorldFromSpec)

/-- ITS FALSE NEIGHBOUR: 'it returns false'. Refute it at one input. -/
def fnWorldFromWrong : ChangeSpec := { name := "fnWorldFrom", fn := fun _ => fun
  | [d] => { results := [.lit (.bool false)], args := [d] }
  | _ => none }
def FnWorldFromWrongFalsely : Prop := fnWorldFromRow.holds Tryz.pinned (OpenSpec.ofChange fnWorldFromWrong)

/-- 'laws.FnWorldFromNorm': WHATEVER THE INPUT: true; the input reads as it did. -/
def fnWorldFromNormSpec : ChangeSpec := { name := "fnWorldFromNorm", fn := fun _ => fun
  | [d] => { results := [.lit (.bool true)], args := [d] }
  | _ => none }
def fnWorldFromNormRow : OpenClaim := { program := "ytpomhjkbgbociaagreatdoor", sum := "5d51a79e1870b032bf2796e05ba74d039bb4e6859b9c57990e627bd5164bfbc1", func := "loop.example/pedlar/laws.FnWorldFromNorm", spec := "fnWorldFromNorm", inPlace := ["internal/bytealg.IndexByteString", "internal/bytealg.IndexString", "internal/bytealg.CountString", "internal/abi.NoEscape", "internal/bytealg.MakeNoZero"], unfollowed := true, recurses := true, named := ["internal/bytealg.MaxLen", "unicode/utf8.first", "unicode/utf8.acceptRanges"], apart := false, laid := [("unicode/utf8.acceptRanges", laid_unicode_utf8_acceptRanges), ("unicode/utf8.first", laid_unicode_utf8_first)] }
def FnWorldFromNormSaid : Prop := fnWorldFromNormRow.holds Tryz.pinned (OpenSpec.ofChange fnWorldFromNormSpec)

/-- ITS FALSE NEIGHBOUR: 'it returns false'. Refute it at one input. -/
def fnWorldFromNormWrong : ChangeSpec := { name := "fnWorldFromNorm", fn := fun _ => fun
  | [d] => { results := [.lit (.bool false)], args := [d] }
  | _ => none }
def FnWorldFromNormWrongFalsely : Prop := fnWorldFromNormRow.holds Tryz.pinned (OpenSpec.ofChange fnWorldFromNormWrong)

/- THE SECOND FORM. 'bulk': how many values and letters a reading holds, each counted each time it is reached (what is shared counts as often as it is met; a slice's spare places count too). A statement '..UptoSaid' is the law's where the arguments, and the package variables that the reading takes, are together of bulk at most 1048576: NARROWER than '..Said'. Prove '..Said' where nothing that the law and all that it calls make is longer than what came in: it says more and counts as full. Else prove '..UptoSaid'. A law counts once. -/
mutual
def uptoBulk {H : Type} : DataW H → Nat
  | .lit (.string bytes) => bytes.length + 1
  | .lit _ => 1
  | .nil => 1
  | .ptr d => uptoBulk d + 1
  | .slice elems spare => uptoBulkAll elems + uptoBulkAll spare + 1
  | .agg parts => uptoBulkAll parts + 1
  | .iface _ d => uptoBulk d + 1
  | .map entries => uptoBulkEntries entries + 1
  | .held _ => 1
def uptoBulkAll {H : Type} : List (DataW H) → Nat
  | [] => 0
  | d :: r => uptoBulk d + uptoBulkAll r
def uptoBulkEntries {H : Type} : List (Lit × DataW H) → Nat
  | [] => 0
  | x :: r => uptoBulkEntry x + uptoBulkEntries r
def uptoBulkEntry {H : Type} : Lit × DataW H → Nat
  | (.string bytes, d) => bytes.length + uptoBulk d + 1
  | (_, d) => uptoBulk d + 1
 end
def uptoSmall : (H : Type) → List (DataW H) → Bool := fun _ ds => decide (uptoBulkAll ds ≤ 1048576)
def OpenSpec.upto (s : _root_.Go.ChangeSpec) : _root_.Go.OpenSpec := { _root_.Go.OpenSpec.ofChange s with cond := some uptoSmall }

/-- 'laws.FnWorldGet', WHERE WHAT IT READS IS OF BULK AT MOST 1048576: true; the input reads as it did. -/
def fnWorldGetUptoRow : OpenClaim := { program := "ytpomhjkbgbociaagreatdoor", sum := "5d51a79e1870b032bf2796e05ba74d039bb4e6859b9c57990e627bd5164bfbc1", func := "loop.example/pedlar/laws.FnWorldGet", spec := "fnWorldGet", inPlace := ["internal/bytealg.IndexByteString", "internal/bytealg.IndexString", "internal/bytealg.CountString", "internal/abi.NoEscape", "internal/bytealg.MakeNoZero"], recurses := true, named := ["internal/bytealg.MaxLen", "unicode/utf8.first", "unicode/utf8.acceptRanges"], apart := false, laid := [("unicode/utf8.acceptRanges", laid_unicode_utf8_acceptRanges), ("unicode/utf8.first", laid_unicode_utf8_first)], narrowed := true }
def FnWorldGetUptoSaid : Prop := fnWorldGetUptoRow.holds Tryz.pinned (OpenSpec.upto fnWorldGetSpec)

/-- 'laws.FnWorldGetOn', WHERE WHAT IT READS IS OF BULK AT MOST 1048576: true; the input reads as it did. -/
def fnWorldGetOnUptoRow : OpenClaim := { program := "ytpomhjkbgbociaagreatdoor", sum := "5d51a79e1870b032bf2796e05ba74d039bb4e6859b9c57990e627bd5164bfbc1", func := "loop.example/pedlar/laws.FnWorldGetOn", spec := "fnWorldGetOn", inPlace := ["internal/bytealg.IndexByteString", "internal/bytealg.IndexString", "internal/bytealg.CountString", "internal/abi.NoEscape", "internal/bytealg.MakeNoZero"], recurses := true, named := ["internal/bytealg.MaxLen", "unicode/utf8.first", "unicode/utf8.acceptRanges"], apart := false, laid := [("unicode/utf8.acceptRanges", laid_unicode_utf8_acceptRanges), ("unicode/utf8.first", laid_unicode_utf8_first)], narrowed := true }
def FnWorldGetOnUptoSaid : Prop := fnWorldGetOnUptoRow.holds Tryz.pinned (OpenSpec.upto fnWorldGetOnSpec)

/-- 'laws.FnWorldFrom', WHERE WHAT IT READS IS OF BULK AT MOST 1048576: true; the input reads as it did. -/
def fnWorldFromUptoRow : OpenClaim := { program := "ytpomhjkbgbociaagreatdoor", sum := "5d51a79e1870b032bf2796e05ba74d039bb4e6859b9c57990e627bd5164bfbc1", func := "loop.example/pedlar/laws.FnWorldFrom", spec := "fnWorldFrom", inPlace := ["internal/bytealg.IndexByteString", "internal/bytealg.IndexString", "internal/bytealg.CountString", "internal/abi.NoEscape", "internal/bytealg.MakeNoZero"], unfollowed := true, recurses := true, named := ["internal/bytealg.MaxLen", "unicode/utf8.first", "unicode/utf8.acceptRanges"], apart := false, laid := [("unicode/utf8.acceptRanges", laid_unicode_utf8_acceptRanges), ("unicode/utf8.first", laid_unicode_utf8_first)], narrowed := true }
def FnWorldFromUptoSaid : Prop := fnWorldFromUptoRow.holds Tryz.pinned (OpenSpec.upto fnWorldFromSpec)

/-- 'laws.FnWorldFromNorm', WHERE WHAT IT READS IS OF BULK AT MOST 1048576: true; the input reads as it did. -/
def fnWorldFromNormUptoRow : OpenClaim := { program := "ytpomhjkbgbociaagreatdoor", sum := "5d51a79e1870b032bf2796e05ba74d039bb4e6859b9c57990e627bd5164bfbc1", func := "loop.example/pedlar/laws.FnWorldFromNorm", spec := "fnWorldFromNorm", inPlace := ["internal/bytealg.IndexByteString", "internal/bytealg.IndexString", "internal/bytealg.CountString", "internal/abi.NoEscape", "internal/bytealg.MakeNoZero"], unfollowed := true, recurses := true, named := ["internal/bytealg.MaxLen", "unicode/utf8.first", "unicode/utf8.acceptRanges"], apart := false, laid := [("unicode/utf8.acceptRanges", laid_unicode_utf8_acceptRanges), ("unicode/utf8.first", laid_unicode_utf8_first)], narrowed := true }
def FnWorldFromNormUptoSaid : Prop := fnWorldFromNormUptoRow.holds Tryz.pinned (OpenSpec.upto fnWorldFromNormSpec)

end Rows
end Go.Proofs.YtpomhjkbgbociaaGreatDoor
