/-
  NARROWER THAN 'FOR EVERY INPUT', by the rows' own cells (each row's printed sentence says how): FnExactNoticeRead: laid · FnNoticeRead: laid · FnNoticeJunk: laid.
  DERIVED. THE GIVEN ROWS OF THIS SEAT. 3 by the template 'for every input the law returns true; each argument reads behind the call as it read before'; 0 by the template 'total and deterministic' (their statements: YthojbccgnlcblaaDoorTotals.lean).
  GIVEN WITH THE SEED: the statements are not yours to turn. If you find one false, say at which input.
  Laid BY PROGRAM, IN A SANDBOX (cutbox-rows.mjs): the forced cells as the released guide's own fill.sh prints them over the translation 8ab5651b9f06e3d7… (all of the seat's roots in one cut). By AI agents, Wed Nov 11 2026. No macro, syntax, notation, axiom, sorry.
-/
import Derived.Test.YthojbccgnlcblaaDoorChecked
import GoSem.PinnedTables
import GoSem.Claim
import GoSem.ClaimJoined
import GoSem.ClaimMapViews
import Derived.JoinedTies
import Derived.KernelRfl
namespace Go.Proofs.YthojbccgnlcblaaDoor
/- THE CELL 'sum', in the pinned program and in every row, IS THE sha256 OF THE DUMP (.gsa) THAT YthojbccgnlcblaaDoorProg.lean LOADS. Nothing in Lean hashes anything: it is a label: what it is worth is what the hold of that sum in a sandbox is worth. -/
noncomputable def Tryd.pinned : Pinned := { name := "ythojbccgnlcblaadoor", sum := "8ab5651b9f06e3d7c4a130c582fcba4ed551f3494b20a16b6a0d036bf1b16079", checked := Tryd.checked }
namespace Rows
def none {H : Type} : Left H := { results := [], args := [] }

/- WHAT THE LISTED PACKAGE-LEVEL VARIABLES READ AS WHEN THE CALL BEGINS. Each datum BY PROGRAM (the guide's laid-datum.mjs) off the statement by which the dump's own 'gosem.cut.vars' lays the variable. In a bare row this is a premise. The card (YthojbccgnlcblaaDoorCards.lean) ties it to the program's text. -/
def laid_unicode_utf8_acceptRanges {H : Type} : DataW H := .agg [.agg [.lit (.int .u8 128), .lit (.int .u8 191)], .agg [.lit (.int .u8 160), .lit (.int .u8 191)], .agg [.lit (.int .u8 128), .lit (.int .u8 159)], .agg [.lit (.int .u8 144), .lit (.int .u8 191)], .agg [.lit (.int .u8 128), .lit (.int .u8 143)], .agg [.lit (.int .u8 0), .lit (.int .u8 0)], .agg [.lit (.int .u8 0), .lit (.int .u8 0)], .agg [.lit (.int .u8 0), .lit (.int .u8 0)], .agg [.lit (.int .u8 0), .lit (.int .u8 0)], .agg [.lit (.int .u8 0), .lit (.int .u8 0)], .agg [.lit (.int .u8 0), .lit (.int .u8 0)], .agg [.lit (.int .u8 0), .lit (.int .u8 0)], .agg [.lit (.int .u8 0), .lit (.int .u8 0)], .agg [.lit (.int .u8 0), .lit (.int .u8 0)], .agg [.lit (.int .u8 0), .lit (.int .u8 0)], .agg [.lit (.int .u8 0), .lit (.int .u8 0)]]
/-- One of Go's own tables, pinned by name: the form's constant. -/
def laid_unicode_utf8_first : DataW Unit := Go.Pinned.utf8First

/-- 'laws.FnExactNoticeRead': WHATEVER THE INPUT: true; the input reads as it did. -/
def fnExactNoticeReadSpec : ChangeSpec := { name := "fnExactNoticeRead", fn := fun _ => fun
  | [d] => { results := [.lit (.bool true)], args := [d] }
  | _ => none }
def fnExactNoticeReadRow : OpenClaim := { program := "ythojbccgnlcblaadoor", sum := "8ab5651b9f06e3d7c4a130c582fcba4ed551f3494b20a16b6a0d036bf1b16079", func := "loop.example/pedlar/laws.FnExactNoticeRead", spec := "fnExactNoticeRead", inPlace := ["internal/bytealg.CountString", "internal/bytealg.IndexByteString", "internal/bytealg.IndexString"], named := ["unicode/utf8.first", "unicode/utf8.acceptRanges", "internal/bytealg.MaxLen"], apart := false, laid := [("unicode/utf8.acceptRanges", laid_unicode_utf8_acceptRanges), ("unicode/utf8.first", laid_unicode_utf8_first)] }
def FnExactNoticeReadSaid : Prop := fnExactNoticeReadRow.holds Tryd.pinned (OpenSpec.ofChange fnExactNoticeReadSpec)

/-- ITS FALSE NEIGHBOUR: 'it returns false'. Refute it at one input. -/
def fnExactNoticeReadWrong : ChangeSpec := { name := "fnExactNoticeRead", fn := fun _ => fun
  | [d] => { results := [.lit (.bool false)], args := [d] }
  | _ => none }
def FnExactNoticeReadWrongFalsely : Prop := fnExactNoticeReadRow.holds Tryd.pinned (OpenSpec.ofChange fnExactNoticeReadWrong)

/-- 'laws.FnNoticeRead': WHATEVER THE INPUT: true; the input reads as it did. -/
def fnNoticeReadSpec : ChangeSpec := { name := "fnNoticeRead", fn := fun _ => fun
  | [d] => { results := [.lit (.bool true)], args := [d] }
  | _ => none }
def fnNoticeReadRow : OpenClaim := { program := "ythojbccgnlcblaadoor", sum := "8ab5651b9f06e3d7c4a130c582fcba4ed551f3494b20a16b6a0d036bf1b16079", func := "loop.example/pedlar/laws.FnNoticeRead", spec := "fnNoticeRead", inPlace := ["internal/bytealg.CountString", "internal/bytealg.IndexByteString", "internal/bytealg.IndexString"], named := ["unicode/utf8.first", "unicode/utf8.acceptRanges", "internal/bytealg.MaxLen"], apart := false, laid := [("unicode/utf8.acceptRanges", laid_unicode_utf8_acceptRanges), ("unicode/utf8.first", laid_unicode_utf8_first)] }
def FnNoticeReadSaid : Prop := fnNoticeReadRow.holds Tryd.pinned (OpenSpec.ofChange fnNoticeReadSpec)

/-- ITS FALSE NEIGHBOUR: 'it returns false'. Refute it at one input. -/
def fnNoticeReadWrong : ChangeSpec := { name := "fnNoticeRead", fn := fun _ => fun
  | [d] => { results := [.lit (.bool false)], args := [d] }
  | _ => none }
def FnNoticeReadWrongFalsely : Prop := fnNoticeReadRow.holds Tryd.pinned (OpenSpec.ofChange fnNoticeReadWrong)

/-- 'laws.FnNoticeJunk': WHATEVER THE INPUT: true; the input reads as it did. -/
def fnNoticeJunkSpec : ChangeSpec := { name := "fnNoticeJunk", fn := fun _ => fun
  | [d] => { results := [.lit (.bool true)], args := [d] }
  | _ => none }
def fnNoticeJunkRow : OpenClaim := { program := "ythojbccgnlcblaadoor", sum := "8ab5651b9f06e3d7c4a130c582fcba4ed551f3494b20a16b6a0d036bf1b16079", func := "loop.example/pedlar/laws.FnNoticeJunk", spec := "fnNoticeJunk", inPlace := ["internal/bytealg.CountString", "internal/bytealg.IndexByteString", "internal/bytealg.IndexString"], named := ["unicode/utf8.first", "unicode/utf8.acceptRanges", "internal/bytealg.MaxLen"], apart := false, laid := [("unicode/utf8.acceptRanges", laid_unicode_utf8_acceptRanges), ("unicode/utf8.first", laid_unicode_utf8_first)] }
def FnNoticeJunkSaid : Prop := fnNoticeJunkRow.holds Tryd.pinned (OpenSpec.ofChange fnNoticeJunkSpec)

/-- ITS FALSE NEIGHBOUR: 'it returns false'. Refute it at one input. -/
def fnNoticeJunkWrong : ChangeSpec := { name := "fnNoticeJunk", fn := fun _ => fun
  | [d] => { results := [.lit (.bool false)], args := [d] }
  | _ => none }
def FnNoticeJunkWrongFalsely : Prop := fnNoticeJunkRow.holds Tryd.pinned (OpenSpec.ofChange fnNoticeJunkWrong)

/- THE SECOND FORM. 'bulk': how many values and letters a reading holds, each counted each time it is reached (what is shared counts as often as it is met; a slice's spare places count too). A statement '..UptoSaid' is the law's where the arguments, and the package variables that the reading takes, are together of bulk at most 1048576: NARROWER than '..Said'. Prove '..Said' where nothing that the law and all that it calls make is longer than what came in: it says more and counts as full. Else prove '..UptoSaid'. A law counts once. -/
mutual
def uptoBulk {H : Type} : DataW H → Nat
  | .lit (.string bytes) => bytes.length + 1
  | .lit _ => 1
  | .nil => 1
  | .ptr d => uptoBulk d + 1
  | .slice elems spare => uptoBulkAll elems + uptoBulkAll spare + 1
  | .agg parts => uptoBulkAll parts + 1
  | .iface _ d => uptoBulk d + 1
  | .map entries => uptoBulkEntries entries + 1
  | .held _ => 1
def uptoBulkAll {H : Type} : List (DataW H) → Nat
  | [] => 0
  | d :: r => uptoBulk d + uptoBulkAll r
def uptoBulkEntries {H : Type} : List (Lit × DataW H) → Nat
  | [] => 0
  | x :: r => uptoBulkEntry x + uptoBulkEntries r
def uptoBulkEntry {H : Type} : Lit × DataW H → Nat
  | (.string bytes, d) => bytes.length + uptoBulk d + 1
  | (_, d) => uptoBulk d + 1
 end
def uptoSmall : (H : Type) → List (DataW H) → Bool := fun _ ds => decide (uptoBulkAll ds ≤ 1048576)
def OpenSpec.upto (s : _root_.Go.ChangeSpec) : _root_.Go.OpenSpec := { _root_.Go.OpenSpec.ofChange s with cond := some uptoSmall }

/-- 'laws.FnExactNoticeRead', WHERE WHAT IT READS IS OF BULK AT MOST 1048576: true; the input reads as it did. -/
def fnExactNoticeReadUptoRow : OpenClaim := { program := "ythojbccgnlcblaadoor", sum := "8ab5651b9f06e3d7c4a130c582fcba4ed551f3494b20a16b6a0d036bf1b16079", func := "loop.example/pedlar/laws.FnExactNoticeRead", spec := "fnExactNoticeRead", inPlace := ["internal/bytealg.CountString", "internal/bytealg.IndexByteString", "internal/bytealg.IndexString"], named := ["unicode/utf8.first", "unicode/utf8.acceptRanges", "internal/bytealg.MaxLen"], apart := false, laid := [("unicode/utf8.acceptRanges", laid_unicode_utf8_acceptRanges), ("unicode/utf8.first", laid_unicode_utf8_first)], narrowed := true }
def FnExactNoticeReadUptoSaid : Prop := fnExactNoticeReadUptoRow.holds Tryd.pinned (OpenSpec.upto fnExactNoticeReadSpec)

/-- 'laws.FnNoticeRead', WHERE WHAT IT READS IS OF BULK AT MOST 1048576: true; the input reads as it did. -/
def fnNoticeReadUptoRow : OpenClaim := { program := "ythojbccgnlcblaadoor", sum := "8ab5651b9f06e3d7c4a130c582fcba4ed551f3494b20a16b6a0d036bf1b16079", func := "loop.example/pedlar/laws.FnNoticeRead", spec := "fnNoticeRead", inPlace := ["internal/bytealg.CountString", "internal/bytealg.IndexByteString", "internal/bytealg.IndexString"], named := ["unicode/utf8.first", "unicode/utf8.acceptRanges", "internal/bytealg.MaxLen"], apart := false, laid := [("unicode/utf8.acceptRanges", laid_unicode_utf8_acceptRanges), ("unicode/utf8.first", laid_unicode_utf8_first)], narrowed := true }
def FnNoticeReadUptoSaid : Prop := fnNoticeReadUptoRow.holds Tryd.pinned (OpenSpec.upto fnNoticeReadSpec)

/-- 'laws.FnNoticeJunk', WHERE WHAT IT READS IS OF BULK AT MOST 1048576: true; the input reads as it did. -/
def fnNoticeJunkUptoRow : OpenClaim := { program := "ythojbccgnlcblaadoor", sum := "8ab5651b9f06e3d7c4a130c582fcba4ed551f3494b20a16b6a0d036bf1b16079", func := "loop.example/pedlar/laws.FnNoticeJunk", spec := "fnNoticeJunk", inPlace := ["internal/bytealg.CountString", "internal/bytealg.IndexByteString", "internal/bytealg.IndexString"], named := ["unicode/utf8.first", "unicode/utf8.acceptRanges", "internal/bytealg.MaxLen"], apart := false, laid := [("unicode/utf8.acceptRanges", laid_unicode_utf8_acceptRanges), ("unicode/utf8.first", laid_unicode_utf8_first)], narrowed := true }
def FnNoticeJunkUptoSaid : Prop := fnNoticeJunkUptoRow.holds Tryd.pinned (OpenSpec.upto fnNoticeJunkSpec)

end Rows
end Go.Proofs.YthojbccgnlcblaaDoor
