/-
  NARROWER THAN 'FOR EVERY INPUT', by the rows' own cells (each row's printed sentence says how): FnExactWorldLets: laid · FnExactWorldNotice: laid · FnWorldNotice: laid.
  DERIVED. THE GIVEN ROWS OF THIS SEAT. 3 by the template 'for every input the law returns true; each argument reads behind the call as it read before'; 0 by the template 'total and deterministic' (their statements: YtloijngehifbmaaGreatDoorTotals.lean).
  GIVEN WITH THE SEED: the statements are not yours to turn. If you find one false, say at which input.
  Laid BY PROGRAM, IN A SANDBOX (cutbox-rows.mjs): the forced cells as the released guide's own fill.sh prints them over the translation 37ec78e7b0a8d8be… (all of the seat's roots in one cut). By AI agents, Wed Nov 11 2026. No macro, syntax, notation, axiom, sorry.
-/
import Derived.Test.YtloijngehifbmaaGreatDoorChecked
import GoSem.PinnedTables
import GoSem.Claim
import GoSem.ClaimJoined
import GoSem.ClaimMapViews
import Derived.JoinedTies
import Derived.KernelRfl
namespace Go.Proofs.YtloijngehifbmaaGreatDoor
/- THE CELL 'sum', in the pinned program and in every row, IS THE sha256 OF THE DUMP (.gsa) THAT YtloijngehifbmaaGreatDoorProg.lean LOADS. Nothing in Lean hashes anything: it is a label: what it is worth is what the hold of that sum in a sandbox is worth. -/
noncomputable def Tryz.pinned : Pinned := { name := "ytloijngehifbmaagreatdoor", sum := "37ec78e7b0a8d8bec02d4e7ef01458c8cfe18f7f57035f3c9449a712242dccae", checked := Tryz.checked }
namespace Rows
def none {H : Type} : Left H := { results := [], args := [] }

/- WHAT THE LISTED PACKAGE-LEVEL VARIABLES READ AS WHEN THE CALL BEGINS. Each datum BY PROGRAM (the guide's laid-datum.mjs) off the statement by which the dump's own 'gosem.cut.vars' lays the variable. In a bare row this is a premise. The card (YtloijngehifbmaaGreatDoorCards.lean) ties it to the program's text. -/
def laid_unicode_utf8_acceptRanges {H : Type} : DataW H := .agg [.agg [.lit (.int .u8 128), .lit (.int .u8 191)], .agg [.lit (.int .u8 160), .lit (.int .u8 191)], .agg [.lit (.int .u8 128), .lit (.int .u8 159)], .agg [.lit (.int .u8 144), .lit (.int .u8 191)], .agg [.lit (.int .u8 128), .lit (.int .u8 143)], .agg [.lit (.int .u8 0), .lit (.int .u8 0)], .agg [.lit (.int .u8 0), .lit (.int .u8 0)], .agg [.lit (.int .u8 0), .lit (.int .u8 0)], .agg [.lit (.int .u8 0), .lit (.int .u8 0)], .agg [.lit (.int .u8 0), .lit (.int .u8 0)], .agg [.lit (.int .u8 0), .lit (.int .u8 0)], .agg [.lit (.int .u8 0), .lit (.int .u8 0)], .agg [.lit (.int .u8 0), .lit (.int .u8 0)], .agg [.lit (.int .u8 0), .lit (.int .u8 0)], .agg [.lit (.int .u8 0), .lit (.int .u8 0)], .agg [.lit (.int .u8 0), .lit (.int .u8 0)]]
/-- One of Go's own tables, pinned by name: the form's constant. -/
def laid_unicode_utf8_first : DataW Unit := Go.Pinned.utf8First

/-- 'laws.FnExactWorldLets': WHATEVER THE INPUT: true; the input reads as it did. -/
def fnExactWorldLetsSpec : ChangeSpec := { name := "fnExactWorldLets", fn := fun _ => fun
  | [d1, d2, d3] => { results := [.lit (.bool true)], args := [d1, d2, d3] }
  | _ => none }
def fnExactWorldLetsRow : OpenClaim := { program := "ytloijngehifbmaagreatdoor", sum := "37ec78e7b0a8d8bec02d4e7ef01458c8cfe18f7f57035f3c9449a712242dccae", func := "loop.example/pedlar/laws.FnExactWorldLets", spec := "fnExactWorldLets", inPlace := ["internal/bytealg.IndexByteString", "internal/bytealg.IndexString", "internal/bytealg.CountString", "internal/abi.NoEscape", "internal/bytealg.MakeNoZero"], unfollowed := true, recurses := true, named := ["internal/bytealg.MaxLen", "unicode/utf8.first", "unicode/utf8.acceptRanges"], apart := false, laid := [("unicode/utf8.acceptRanges", laid_unicode_utf8_acceptRanges), ("unicode/utf8.first", laid_unicode_utf8_first)] }
def FnExactWorldLetsSaid : Prop := fnExactWorldLetsRow.holds Tryz.pinned (OpenSpec.ofChange fnExactWorldLetsSpec)

/-- ITS FALSE NEIGHBOUR: 'it returns false'. Refute it at one input. -/
def fnExactWorldLetsWrong : ChangeSpec := { name := "fnExactWorldLets", fn := fun _ => fun
  | [d1, d2, d3] => { results := [.lit (.bool false)], args := [d1, d2, d3] }
  | _ => none }
def FnExactWorldLetsWrongFalsely : Prop := fnExactWorldLetsRow.holds Tryz.pinned (OpenSpec.ofChange fnExactWorldLetsWrong)

/-- 'laws.FnExactWorldNotice': WHATEVER THE INPUT: true; the input reads as it did. -/
def fnExactWorldNoticeSpec : ChangeSpec := { name := "fnExactWorldNotice", fn := fun _ => fun
  | [d1, d2, d3] => { results := [.lit (.bool true)], args := [d1, d2, d3] }
  | _ => none }
def fnExactWorldNoticeRow : OpenClaim := { program := "ytloijngehifbmaagreatdoor", sum := "37ec78e7b0a8d8bec02d4e7ef01458c8cfe18f7f57035f3c9449a712242dccae", func := "loop.example/pedlar/laws.FnExactWorldNotice", spec := "fnExactWorldNotice", inPlace := ["internal/bytealg.IndexByteString", "internal/bytealg.IndexString", "internal/bytealg.CountString", "internal/abi.NoEscape", "internal/bytealg.MakeNoZero"], unfollowed := true, recurses := true, named := ["internal/bytealg.MaxLen", "unicode/utf8.first", "unicode/utf8.acceptRanges"], apart := false, laid := [("unicode/utf8.acceptRanges", laid_unicode_utf8_acceptRanges), ("unicode/utf8.first", laid_unicode_utf8_first)] }
def FnExactWorldNoticeSaid : Prop := fnExactWorldNoticeRow.holds Tryz.pinned (OpenSpec.ofChange fnExactWorldNoticeSpec)

/-- ITS FALSE NEIGHBOUR: 'it returns false'. Refute it at one input. -/
def fnExactWorldNoticeWrong : ChangeSpec := { name := "fnExactWorldNotice", fn := fun _ => fun
  | [d1, d2, d3] => { results := [.lit (.bool false)], args := [d1, d2, d3] }
  | _ => none }
def FnExactWorldNoticeWrongFalsely : Prop := fnExactWorldNoticeRow.holds Tryz.pinned (OpenSpec.ofChange fnExactWorldNoticeWrong)

/-- 'laws.FnWorldNotice': WHATEVER THE INPUT: true; the input reads as it did. -/
def fnWorldNoticeSpec : ChangeSpec := { name := "fnWorldNotice", fn := fun _ => fun
  | [d] => { results := [.lit (.bool true)], args := [d] }
  | _ => none }
def fnWorldNoticeRow : OpenClaim := { program := "ytloijngehifbmaagreatdoor", sum := "37ec78e7b0a8d8bec02d4e7ef01458c8cfe18f7f57035f3c9449a712242dccae", func := "loop.example/pedlar/laws.FnWorldNotice", spec := "fnWorldNotice", inPlace := ["internal/bytealg.IndexByteString", "internal/bytealg.IndexString", "internal/bytealg.CountString", "internal/abi.NoEscape", "internal/bytealg.MakeNoZero"], unfollowed := true, recurses := true, named := ["internal/bytealg.MaxLen", "unicode/utf8.first", "unicode/utf8.acceptRanges"], apart := false, laid := [("unicode/utf8.acceptRanges", laid_unicode_utf8_acceptRanges), ("unicode/utf8.first", laid_unicode_utf8_first)] }
def FnWorldNoticeSaid : Prop := fnWorldNoticeRow.holds Tryz.pinned (OpenSpec.ofChange fnWorldNoticeSpec)

/-- ITS FALSE NEIGHBOUR: 'it returns false'. Refute it at one input. -/
def fnWorldNoticeWrong : ChangeSpec := { name := "fnWorldNotice", fn := fun _ => fun
  | [d] => { results := [.lit (.bool false)], args := [d] }
  | _ => none }
def FnWorldNoticeWrongFalsely : Prop := fnWorldNoticeRow.holds Tryz.pinned (OpenSpec.ofChange fnWorldNoticeWrong)

/- THE SECOND FORM. 'bulk': how many values and letters a reading holds, each counted each time it is reached (what is shared counts as often as it is met; a slice's spare places count too). A statement '..UptoSaid' is the law's where the arguments, and the package variables that the reading takes, are together of bulk at most 1048576: NARROWER than '..Said'. Prove '..Said' where nothing that the law and all that it calls make is longer than what came in: it says more and counts as full. Else prove '..UptoSaid'. A law counts once. -/
mutual
def uptoBulk {H : Type} : DataW H → Nat
  | .lit (.string bytes) => bytes.length + 1
  | .lit _ => 1
  | .nil => 1
  | .ptr d => uptoBulk d + 1
  | .slice elems spare => uptoBulkAll elems + uptoBulkAll spare + 1
  | .agg parts => uptoBulkAll parts + 1
  | .iface _ d => uptoBulk d + 1
  | .map entries => uptoBulkEntries entries + 1
  | .held _ => 1
def uptoBulkAll {H : Type} : List (DataW H) → Nat
  | [] => 0
  | d :: r => uptoBulk d + uptoBulkAll r
def uptoBulkEntries {H : Type} : List (Lit × DataW H) → Nat
  | [] => 0
  | x :: r => uptoBulkEntry x + uptoBulkEntries r
def uptoBulkEntry {H : Type} : Lit × DataW H → Nat
  | (.string bytes, d) => bytes.length + uptoBulk d + 1
  | (_, d) => uptoBulk d + 1
 end
def uptoSmall : (H : Type) → List (DataW H) → Bool := fun _ ds => decide (uptoBulkAll ds ≤ 1048576)
def OpenSpec.upto (s : _root_.Go.ChangeSpec) : _root_.Go.OpenSpec := { _root_.Go.OpenSpec.ofChange s with cond := some uptoSmall }

/-- 'laws.FnExactWorldLets', WHERE WHAT IT READS IS OF BULK AT MOST 1048576: true; the input reads as it did. -/
def fnExactWorldLetsUptoRow : OpenClaim := { program := "ytloijngehifbmaagreatdoor", sum := "37ec78e7b0a8d8bec02d4e7ef01458c8cfe18f7f57035f3c9449a712242dccae", func := "loop.example/pedlar/laws.FnExactWorldLets", spec := "fnExactWorldLets", inPlace := ["internal/bytealg.IndexByteString", "internal/bytealg.IndexString", "internal/bytealg.CountString", "internal/abi.NoEscape", "internal/bytealg.MakeNoZero"], unfollowed := true, recurses := true, named := ["internal/bytealg.MaxLen", "unicode/utf8.first", "unicode/utf8.acceptRanges"], apart := false, laid := [("unicode/utf8.acceptRanges", laid_unicode_utf8_acceptRanges), ("unicode/utf8.first", laid_unicode_utf8_first)], narrowed := true }
def FnExactWorldLetsUptoSaid : Prop := fnExactWorldLetsUptoRow.holds Tryz.pinned (OpenSpec.upto fnExactWorldLetsSpec)

/-- 'laws.FnExactWorldNotice', WHERE WHAT IT READS IS OF BULK AT MOST 1048576: true; the input reads as it did. -/
def fnExactWorldNoticeUptoRow : OpenClaim := { program := "ytloijngehifbmaagreatdoor", sum := "37ec78e7b0a8d8bec02d4e7ef01458c8cfe18f7f57035f3c9449a712242dccae", func := "loop.example/pedlar/laws.FnExactWorldNotice", spec := "fnExactWorldNotice", inPlace := ["internal/bytealg.IndexByteString", "internal/bytealg.IndexString", "internal/bytealg.CountString", "internal/abi.NoEscape", "internal/bytealg.MakeNoZero"], unfollowed := true, recurses := true, named := ["internal/bytealg.MaxLen", "unicode/utf8.first", "unicode/utf8.acceptRanges"], apart := false, laid := [("unicode/utf8.acceptRanges", laid_unicode_utf8_acceptRanges), ("unicode/utf8.first", laid_unicode_utf8_first)], narrowed := true }
def FnExactWorldNoticeUptoSaid : Prop := fnExactWorldNoticeUptoRow.holds Tryz.pinned (OpenSpec.upto fnExactWorldNoticeSpec)

/-- 'laws.FnWorldNotice', WHERE WHAT IT READS IS OF BULK AT MOST 1048576: true; the input reads as it did. -/
def fnWorldNoticeUptoRow : OpenClaim := { program := "ytloijngehifbmaagreatdoor", sum := "37ec78e7b0a8d8bec02d4e7ef01458c8cfe18f7f57035f3c9449a712242dccae", func := "loop.example/pedlar/laws.FnWorldNotice", spec := "fnWorldNotice", inPlace := ["internal/bytealg.IndexByteString", "internal/bytealg.IndexString", "internal/bytealg.CountString", "internal/abi.NoEscape", "internal/bytealg.MakeNoZero"], unfollowed := true, recurses := true, named := ["internal/bytealg.MaxLen", "unicode/utf8.first", "unicode/utf8.acceptRanges"], apart := false, laid := [("unicode/utf8.acceptRanges", laid_unicode_utf8_acceptRanges), ("unicode/utf8.first", laid_unicode_utf8_first)], narrowed := true }
def FnWorldNoticeUptoSaid : Prop := fnWorldNoticeUptoRow.holds Tryz.pinned (OpenSpec.upto fnWorldNoticeSpec)

end Rows
end Go.Proofs.YtloijngehifbmaaGreatDoor
