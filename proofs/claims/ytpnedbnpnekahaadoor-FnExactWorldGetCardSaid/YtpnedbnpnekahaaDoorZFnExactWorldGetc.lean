/- Part 3 of the proof of FnExactWorldGet: the plain functions of what it reaches, that Go comes to just their answers, what they answer, and the words that the walks use; conditions: each theorem's own. -/
import Derived.Test.YtpnedbnpnekahaaDoorZFnExactWorldGetb
import Derived.Test.YtpnedbnpnekahaaDoorZFnExactWorldGeta
import Derived.OneCell
import Derived.Laws.BitsLemmas
import Derived.Lib.Strings
import Derived.Lib.ConvBytes
import Derived.Shelf.Strings.Builder1
import Derived.Shelf.Strings.Builder2
import Derived.Shelf.Strings.OnBuilder
import Derived.Shelf.Small.Utf8
import Derived.Shelf.Small.Strs
import Derived.Shelf.Small.Wraps
import Derived.Shelf.Strings.BuilderF
import Derived.Shelf.Strings.BuilderK
import Derived.Shelf.Utf8.RuneCount
import Derived.Shelf.Strings.Builder2Cap
import Derived.Shelf.Strings.Search1
import Derived.Shelf.Strings.Search2
import Derived.Shelf.Strings.Search3
import Derived.Shelf.Strings.Cut
import Derived.Shelf.Strings.Count
import Derived.Shelf.LaysM
import Derived.Shelf.Strings.Shaped
import Derived.Shelf.Strings.Prefix
import Derived.Shelf.Strings.Split
import Derived.Shelf.Strings.SplitShaped
import Derived.Shelf.Unicode.Decode
import Derived.Shelf.Strings.Runes
import Derived.Shelf.Strings.RuneCount
import Derived.Shelf.Strings.IndexAny
import Derived.Shelf.Strings.AsciiSet
import Derived.Shelf.Strings.IndexAnyAll
import Derived.Shelf.Strings.Explode
import Derived.Shelf.Unicode.DecodeSlow
import Derived.Shelf.Unicode.DecodeAny
import Derived.Shelf.Strings.BuilderCap
import Derived.Ground.Names2Prog
import Derived.Shelf.Slices.Clone
import Derived.Ground.SlgnProg
import Derived.Shelf.SlicesE.Clone
import Derived.Test.YtpnedbnpnekahaaDoorProg
import Derived.Laws.RangeAny
import Derived.LoopTactic

section
namespace Go.Proofs.YtpnedbnpnekahaaDoor.P
open Go.RowKit Go.Proofs.YtpnedbnpnekahaaDoorW.PrintWords Go.Proofs.YtpnedbnpnekahaaDoorW.PrintLast Go.Proofs.YtpnedbnpnekahaaDoorW.PrintMore
attribute [local go_sem] max2_int min2_int max_two min_two max_three min_three max_four min_four
set_option linter.unusedVariables false
set_option linter.unusedSimpArgs false
def spec_l1Way.l0 : Nat → ByteArray → Bool → List ByteArray → List ByteArray → Int → ByteArray → List ByteArray → Bool → ByteArray → Option (ByteArray × List ByteArray × Bool × ByteArray × Bool)
 | 0, _, _, _, _, _, _, _, _, _ => none
 | k + 1, x6, x7, x8, x9, x10, x153000, x153001, x153002, x153003 => if x10 < (x9.length : Int) then (if 0 ≤ x10 then ((spec_EscNorm.f k (rdOf ByteArray.empty x9 x10)).bind fun bt167 => (if bt167.2 = true then (if x8.length < 8796093022208 then (spec_l1Way.l0 k x6 x7 (x8 ++ [bt167.1]) x9 (wrap64 (x10 + 1)) x153000 x153001 x153002 x153003) else (none)) else (some ((⟨#[]⟩ : ByteArray), ([] : List ByteArray), false, (⟨#[]⟩ : ByteArray), false)))) else (none)) else ((spec_EscNorm.f k x6).bind fun bt172 => ((spec_PathClean.f k x8).bind fun t174 => (if bt172.2 = true then ((spec_AddrOk.f k x153000 t174 x7 bt172.1).bind fun t178 => (if t178 = true then (some (x153000, t174, x7, bt172.1, true)) else (some ((⟨#[]⟩ : ByteArray), ([] : List ByteArray), false, (⟨#[]⟩ : ByteArray), false)))) else (some ((⟨#[]⟩ : ByteArray), ([] : List ByteArray), false, (⟨#[]⟩ : ByteArray), false)))))
def spec_l1Way.f (k : Nat) (a0_0 : ByteArray) (l0_1 : List ByteArray) (a0_2 : Bool) (a0_3 : ByteArray) (a1 : ByteArray) : Option (ByteArray × List ByteArray × Bool × ByteArray × Bool) := (spec_l1Cut.f k a1 63).bind fun bt154 => ((some (([] : List ByteArray) : List ByteArray)).bind fun y157 => (if y157.length + l0_1.length < 8796093022208 then ((spec_l1Split.f k bt154.1 47).bind fun t163 => (spec_l1Way.l0 k bt154.2.1 bt154.2.2 (y157 ++ l0_1) t163 0 a0_0 l0_1 a0_2 a0_3)) else (none)))
def spec_l1Way.T12 : Bool × List (List Nat × List Nat) := (true, [([], []), ([0], [0]), ([], []), ([2], [2]), ([], []), ([], []), ([1, 3, 4, 5], [1, 3, 4, 5]), ([], []), ([7, 6, 3, 0, 1, 2, 3, 4, 5, 6, 7], [6, 7])])
def spec_l1Way.B12 : List Nat := [0, 1, 0, 4, 0, 0, 63, 0, 255]
theorem spec_l1Way.tab12 : rtab .any (opsOf Tryd.f29 12) = spec_l1Way.T12 := by kernel_rfl
theorem spec_l1Way.bits12 : waitsOk spec_l1Way.T12.2 spec_l1Way.B12 = true := by kernel_rfl
set_option maxHeartbeats 8000000 in
set_option maxRecDepth 100000 in
theorem spec_l1Way.calls (k : Nat) (a0_0 : ByteArray) (A0_1 : Option Addr) (c0_1 : Nat) (l0_1 : List ByteArray) (a0_2 : Bool) (a0_3 : ByteArray) (a1 : ByteArray) (r1 : ByteArray) (r2 : List ByteArray) (r3 : Bool) (r4 : ByteArray) (r5 : Bool) (w : World) (hr0_1 : Kd.C Kd.string w A0_1 l0_1.length l0_1) (hc0_1 : l0_1.length ≤ c0_1) (h : spec_l1Way.f k a0_0 l0_1 a0_2 a0_3 a1 = some (r1, r2, r3, r4, r5)) :
  Calls Tryd.prog 29 #[.agg #[.string a0_0, .slice A0_1 l0_1.length c0_1, .bool a0_2, .string a0_3], .string a1] w fun e w' => ∃ v1_ : Value, e = .returned (.tuple #[.agg #[.string r1, v1_, .bool r3, .string r4], .bool r5]) ∧ Kd.R Kd.string 9 w' w.heap.size (fun _ => True) v1_ r2 ∧ Below w.heap.size w w' := by
 have hu47 := Tryd.underlying47;have HR0_1 := Aside0.mk hr0_1;have HC0_1 := Aside0.mk hc0_1;clear hr0_1 hc0_1;have HB := Aside0.mk (Below.refl w.heap.size w);have H : ((spec_l1Cut.f k a1 63).bind fun bt154 => ((some (([] : List ByteArray) : List ByteArray)).bind fun y157 => (if y157.length + l0_1.length < 8796093022208 then ((spec_l1Split.f k bt154.1 47).bind fun t163 => (spec_l1Way.l0 k bt154.2.1 bt154.2.2 (y157 ++ l0_1) t163 0 a0_0 l0_1 a0_2 a0_3)) else (none)))) = some (r1, r2, r3, r4, r5) := h;clear h;replace H := bindA H;obtain ⟨⟨t154, t155, t156⟩, A3, H⟩ := H;try dsimp -simprocs only at H
 obtain ⟨y157, Ny157⟩ := toY (([] : List ByteArray));(first | with_reducible replace H := bindZ Ny157 H | rw [← Ny157.out] at H | skip)
 by_cases c4 : y157.length + l0_1.length < 8796093022208
 ·rw [if_pos c4] at H
  have LMc4 := Aside0.mk c4;clear c4;obtain ⟨y160, Ny160⟩ := toY (y157 ++ l0_1);(first | with_reducible replace H := bindZ Ny160 H | rw [← Ny160.out] at H | skip)
  replace H := bindA H;obtain ⟨t163, A5, H⟩ := H;have H' := Aside0.mk H;clear H;go_enter Tryd.func29, Tryd.ntmps29;go_wp2_with (first | ((with_reducible refine gate_dst (N := 2) rfl ?_); refine boxE 2 #[.string a0_0, .slice A0_1 l0_1.length c0_1, .bool a0_2, .string a0_3] 47 ?_; intro gb152 hg w6 hbox hb; have n0_ := Aside0.mk (below_step (zz0 HB) hb); have n1_ := Aside0.mk (hbox); have n2_ := Aside0.mk ((by rw [hg]; exact (below_size (zz0 HB)) : w.heap.size ≤ gb152)); have n3_ := Aside0.mk ((by rw [hg]; exact (below_size (zz0 HB)) : w.heap.size ≤ gb152)); clear HB; have HB := n0_; have BK152 := n1_; have GW152 := n2_; have GE152 := n3_; clear n0_ n1_ n2_ n3_; clear hb hbox hg) | ((with_reducible refine gate_dst (N := 4) rfl ?_); refine boxE 4 #[.string (⟨#[]⟩ : ByteArray), .slice none 0 0, .bool false, .string (⟨#[]⟩ : ByteArray)] 47 ?_; intro gb153 hg w7 hbox hb; have n0_ := Aside0.mk (blk_below (zz6 BK152) hb); have n1_ := Aside0.mk (below_step (zz2 HB GE152) hb); have n2_ := Aside0.mk (hbox); have n3_ := Aside0.mk ((by rw [hg]; exact (below_size (zz2 HB GE152)) : w.heap.size ≤ gb153)); have n4_ := Aside0.mk ((by rw [hg]; exact (below_size (zz2 HB GE152)) : w.heap.size ≤ gb153)); have n5_ := Aside0.mk ((by rw [hg]; exact Nat.ne_of_lt (blk_lt (zz6 BK152)) : gb152 ≠ gb153)); have n6_ := Aside0.mk ((by rw [hg]; exact Nat.ne_of_gt (blk_lt (zz6 BK152)) : gb153 ≠ gb152)); clear BK152; clear HB; have BK152 := n0_; have HB := n1_; have BK153 := n2_; have GW153 := n3_; have GE153 := n4_; have NB152_153 := n5_; have NB153_152 := n6_; clear n0_ n1_ n2_ n3_ n4_ n5_ n6_; clear hb hbox hg) | ((with_reducible refine gate_callee (f := 24) rfl ?_); refine gsL (some 18) Tryd.func24 #[.string a1, .int .u8 63] ?_; (with_reducible refine (spec_l1Cut.calls k a1 63 t154 t155 t156 _ A3.out).mono ?_); rintro e w' ⟨rfl, ⟨nd, rfl⟩⟩; refine ⟨_, rfl, ?_⟩) | ((with_reducible refine gate_dst (N := 22) rfl ?_); refine Kd.R_lit Kd.string _ 9 ?hg (N := 22) ?hd (xs := ([] : List ByteArray)) (inner := []) (ok := fun _ => True) (okp := fun _ => True) ?hr ?hp (fun _ hk => hk) trivial (Below.refl _ _) (Nat.le_refl _) (by simp) ?_; (case hd => rfl); (case hg => rfl); (case hr => exact zz12); (case hp => exact (Reps.none _ _)); intro v158 w8 ho9 hb hg_ hnew_; clear hg_ hnew_; (first | rw [← Ny157.out] at ho9 | (simp only [Int.reduceToNat] at ho9; rw [← Ny157.out] at ho9)); have n0_ := Aside0.mk (Kd.R_lower ho9 (below_size (zz7 HB GE152 GE153))); have n1_ := Aside0.mk (blk_below (zz6 BK152) hb); have n2_ := Aside0.mk (blk_below (zz6 BK153) hb); have n3_ := Aside0.mk (below_step (zz7 HB GE152 GE153) hb); clear BK152; clear BK153; clear HB; have HO159 := n0_; have BK152 := n1_; have BK153 := n2_; have HB := n3_; clear n0_ n1_ n2_ n3_; clear hb ho9; have hnb10 := NB152_153.out; have hnc10 := NB153_152.out; obtain ⟨_, _, _, _, _, _, _, _⟩ := cf4 BK152) | ((with_reducible refine gate_builtin (b := .append) (xs := #[.tmp 22, .tmp 24]) rfl ?_); at_builtin; refine Kd.R_append_rows Kd.string (w0 := w) w.heap.size rfl (.tmp 22) (.tmp 24) 45 9 (.string ⟨#[]⟩) 16 rfl Tryd.underlying45 info9 rfl (by decide) (by omega) v158 y157 l0_1 _ _ _ (fun _ => True) (fun _ => False) rfl rfl ?aO ?aR (fun _ _ h => h) (fun _ h => h.elim) ?aF ?aB ?aS ?aL ?_; (case aR => exact (zz32 HR0_1 HB)); (case aB => exact (zz7 HB GE152 GE153)); (case aF => exact (fun _ _ => trivial)); (case aO => exact (zz10 HO159)); (case aS => exact (below_size (zz7 HB GE152 GE153))); (case aL => exact (zz5 LMc4)); intro v161 w12 ho hb hg hat; rw [← Ny160.out] at ho; have n0_ := Aside0.mk (blk_grown (zz6 BK152) hg (Kd.R_ne HO159.out BK152.out (by decide))); have n1_ := Aside0.mk (blk_grown (zz6 BK153) hg (Kd.R_ne HO159.out BK153.out (by decide))); have n2_ := Aside0.mk (hb); have n3_ := Aside0.mk (ho); clear BK152; clear BK153; clear HB; clear HO159; have BK152 := n0_; have BK153 := n1_; have HB := n2_; have HO162 := n3_; clear n0_ n1_ n2_ n3_; clear ho hb hg hat) | ((with_reducible refine gate_callee (f := 35) rfl ?_); refine gsL (some 27) Tryd.func35 #[.string t154, .int .u8 47] ?_; (with_reducible refine (spec_l1Split.calls k t154 47 t163 _ A5.out).mono ?_); rintro e w13 ⟨v164, rfl, ho0, hb⟩; refine ⟨_, rfl, ?_⟩; have n0_ := Aside0.mk (Kd.R_elder' (zz10 HO162) (Kd.R_base ho0) hb); have n1_ := Aside0.mk (Kd.R_lower (Kd.R_new' ho0 (Kd.R_lt (zz10 HO162))) (below_size (zz7 HB GE152 GE153))); have n2_ := Aside0.mk (blk_below (zz6 BK152) hb); have n3_ := Aside0.mk (blk_below (zz6 BK153) hb); have n4_ := Aside0.mk (below_step (zz7 HB GE152 GE153) hb); clear HO162; clear BK152; clear BK153; clear HB; have HO162 := n0_; have HO165 := n1_; have BK152 := n2_; have BK153 := n3_; have HB := n4_; clear n0_ n1_ n2_ n3_ n4_; (try clear hb ho0)))
  go_loopg [8, 10] k (fun kq v8 v10 w' => ∃ (x8_1 : List ByteArray) (x10_1 : Int) (x154000_1 : ByteArray) (x154002_1 : Bool) (x154003_1 : ByteArray), v10 = .int .i64 x10_1 ∧ Aside0 (spec_l1Way.l0 kq t155 t156 x8_1 t163 x10_1 a0_0 l0_1 a0_2 a0_3 = some (r1, r2, r3, r4, r5)) ∧ Aside0 (kq ≤ k) ∧ Aside0 (Kd.R Kd.string 9 w' w.heap.size (fun k_ => some k_ ≠ (v164 : Value).ownBlock) v8 x8_1) ∧ Aside0 (Kd.R Kd.string 9 w' w.heap.size (fun k_ => some k_ ≠ (v8 : Value).ownBlock) v164 t163) ∧ Aside0 (w'.heap[gb152]? = some (.cells #[.string a0_0, (.slice A0_1 l0_1.length c0_1), .bool a0_2, .string a0_3] 47 (0, 0))) ∧ Aside0 (w'.heap[gb153]? = some (.cells #[.string x154000_1, (.slice none 0 0), .bool x154002_1, .string x154003_1] 47 (0, 0))) ∧ Aside0 (Below w.heap.size w w'))
  case atStart => exact ⟨(y160), (0), ((⟨#[]⟩ : ByteArray)), (false), ((⟨#[]⟩ : ByteArray)), zz3, H', ⟨Nat.le_refl _⟩, ⟨(zz40 HO162)⟩, ⟨(zz40 HO165)⟩, ⟨(zz6 BK152)⟩, ⟨(zz6 BK153)⟩, ⟨(zz7 HB GE152 GE153)⟩⟩
  case round =>
   clear H';obtain ⟨x8_1, x10_1, x154000_1, x154002_1, x154003_1, rfl, HA, HK1, HO_8, HO_9, BK152, BK153, HB⟩ := hrel;cases gk with
   | zero => exact absurd HA.out (by simp [spec_l1Way.l0])
   | succ k1 =>
    have H := HA.out;clear HA;simp only [spec_l1Way.l0] at H
    by_cases c14 : x10_1 < (t163.length : Int)
    ·rw [if_pos c14] at H
     have c14b0 : decide (x10_1 < (t163.length : Int)) = true := decide_eq_true c14;clear c14;by_cases c15 : 0 ≤ x10_1
     ·rw [if_pos c15] at H
      have c15b0 : decide (0 ≤ x10_1) = true := decide_eq_true c15;clear c15;replace H := bindA H;obtain ⟨⟨t167, t168⟩, A16, H⟩ := H;try dsimp -simprocs only at H
      by_cases c17 : t168 = true
      ·subst c17
       rw [if_pos rfl] at H;by_cases c18 : x8_1.length < 8796093022208
       ·rw [if_pos c18] at H
        have LMc18 := Aside0.mk c18;clear c18;obtain ⟨y169, Ny169⟩ := toY (x8_1 ++ [t167]);(first | with_reducible replace H := bindZ Ny169 H | rw [← Ny169.out] at H | skip)
        have H' := Aside0.mk H;clear H;obtain ⟨Ao19, co19, eo19⟩ := Kd.R_slice HO_9.out;subst eo19;have p166 : 0 ≤ (x10_1 : Int) := ofD;have q166 : x10_1 < (t163.length : Int) := ofD;obtain ⟨ad166, e166, hx166_0⟩ := Kd.at_string (Kd.R_reads' HO_9.out).2.2 x10_1 p166 q166;cases e166
        replace p166 := eq_true p166;replace q166 := eq_true q166;go_wp2_with (first | ((with_reducible refine gate_callee (f := 36) rfl ?_); refine gsL (some 39) Tryd.func36 #[.string (rdOf ByteArray.empty t163 x10_1)] ?_; (with_reducible refine (spec_EscNorm.calls k1 (rdOf ByteArray.empty t163 x10_1) t167 true _ A16.out).mono ?_); rintro e w20 ⟨rfl, hb⟩; refine ⟨_, rfl, ?_⟩; have n0_ := Aside0.mk (Kd.R_below (zz10 HO_8) hb); have n1_ := Aside0.mk (Kd.R_below (zz10 HO_9) hb); have n2_ := Aside0.mk (blk_below (zz6 BK152) hb); have n3_ := Aside0.mk (blk_below (zz6 BK153) hb); have n4_ := Aside0.mk (below_step (zz7 HB GE152 GE153) hb); clear HO_8; clear HO_9; clear BK152; clear BK153; clear HB; have HO_8 := n0_; have HO_9 := n1_; have BK152 := n2_; have BK153 := n3_; have HB := n4_; clear n0_ n1_ n2_ n3_ n4_; (try clear hb)) | ((with_reducible refine gate_builtin (b := .append) (xs := #[.tmp 45, .tmp 47]) rfl ?_); at_builtin; refine Kd.R_append Kd.string (w0 := w) w.heap.size rfl (.tmp 45) (.tmp 47) 45 9 (.string ⟨#[]⟩) 16 rfl Tryd.underlying45 info9 rfl (by decide) (by omega) u8 x8_1 t167 [.string t167] (fun k_ => some k_ ≠ (.slice (some ad166) t163.length co19 : Value).ownBlock) (fun _ => False) rfl rfl ?aP (fun _ hk => hk.elim) ?aF ?aO ?aB ?aS ?aL ?_; (case aP => exact rfl); (case aB => exact (zz7 HB GE152 GE153)); (case aF => exact (fun k_ hk => Kd.fresh' (Kd.R_lt (zz10 HO_9)) k_ hk)); (case aO => exact (zz10 HO_8)); (case aS => exact (below_size (zz7 HB GE152 GE153))); (case aL => exact (zz5 LMc18)); intro v170 w21 ho hb hg hat; rw [← Ny169.out] at ho; have n0_ := Aside0.mk (Kd.R_after (ok := (fun _ => True)) (zz42 HO_9) hg hat); have n1_ := Aside0.mk (blk_grown (zz6 BK152) hg (Kd.R_ne HO_8.out BK152.out (by decide))); have n2_ := Aside0.mk (blk_grown (zz6 BK153) hg (Kd.R_ne HO_8.out BK153.out (by decide))); have n3_ := Aside0.mk (hb); have n4_ := Aside0.mk (ho); clear HO_9; clear BK152; clear BK153; clear HB; clear HO_8; have HO_9 := n0_; have BK152 := n1_; have BK153 := n2_; have HB := n3_; have HO171 := n4_; clear n0_ n1_ n2_ n3_ n4_; clear ho hb hg hat))
        go_roundg k1
        case measure => have := HK1.out; omega
        case rel => exact ⟨(y169), (wrap64 (x10_1 + 1)), (x154000_1), (x154002_1), (x154003_1), zz3, H', ⟨(zz5 HK1)⟩, ⟨(zz10 HO171)⟩, ⟨(zz40 HO_9)⟩, ⟨(zz6 BK152)⟩, ⟨(zz6 BK153)⟩, ⟨(zz7 HB GE152 GE153)⟩⟩
       ·rw [if_neg c18] at H
        exact absurd H (by simp)
      ·replace c17 := Bool.eq_false_iff.mpr c17
       subst c17;rw [if_neg (show ¬ (false = true) by decide)] at H;simp only [Option.some.injEq, Prod.mk.injEq] at H
       obtain ⟨rfl, rfl, rfl, rfl, rfl⟩ := H;obtain ⟨Ao22, co22, eo22⟩ := Kd.R_slice HO_9.out;subst eo22;have p166 : 0 ≤ (x10_1 : Int) := ofD;have q166 : x10_1 < (t163.length : Int) := ofD;obtain ⟨ad166, e166, hx166_0⟩ := Kd.at_string (Kd.R_reads' HO_9.out).2.2 x10_1 p166 q166;cases e166
       replace p166 := eq_true p166;replace q166 := eq_true q166;go_wp2_with (first | ((with_reducible refine gate_callee (f := 36) rfl ?_); refine gsL (some 39) Tryd.func36 #[.string (rdOf ByteArray.empty t163 x10_1)] ?_; (with_reducible refine (spec_EscNorm.calls k1 (rdOf ByteArray.empty t163 x10_1) t167 false _ A16.out).mono ?_); rintro e w23 ⟨rfl, hb⟩; refine ⟨_, rfl, ?_⟩; have n0_ := Aside0.mk (Kd.R_below (zz10 HO_8) hb); have n1_ := Aside0.mk (Kd.R_below (zz10 HO_9) hb); have n2_ := Aside0.mk (blk_below (zz6 BK152) hb); have n3_ := Aside0.mk (blk_below (zz6 BK153) hb); have n4_ := Aside0.mk (below_step (zz7 HB GE152 GE153) hb); clear HO_8; clear HO_9; clear BK152; clear BK153; clear HB; have HO_8 := n0_; have HO_9 := n1_; have BK152 := n2_; have BK153 := n3_; have HB := n4_; clear n0_ n1_ n2_ n3_ n4_; (try clear hb); have hnb24 := NB153_152.out; have hnc24 := NB152_153.out; obtain ⟨_, _, _, _, _, _, _, _⟩ := cf4 BK153))
       refine bodyPost_ret (results_ct rfl _ _ gb153 47 #[.string (⟨#[]⟩ : ByteArray), .slice none 0 0, .bool false, .string (⟨#[]⟩ : ByteArray)] (0, 0) _ rfl (zz43 BK153) Tryd.underlying47 rfl (by kernel_rfl)) rfl ?_;exact ⟨_, zz1, zz44, (zz7 HB GE152 GE153)⟩
     ·rw [if_neg c15] at H
      exact absurd H (by simp)
    ·rw [if_neg c14] at H
     have c14b0 : decide (x10_1 < (t163.length : Int)) = false := decide_eq_false c14;clear c14;replace H := bindA H;obtain ⟨⟨t172, t173⟩, A26, H⟩ := H;try dsimp -simprocs only at H
     replace H := bindA H;obtain ⟨t174, A27, H⟩ := H;by_cases c28 : t173 = true
     ·subst c28
      rw [if_pos rfl] at H;replace H := bindA H;obtain ⟨t178, A29, H⟩ := H;by_cases c30 : t178 = true
      ·subst c30
       rw [if_pos rfl] at H;simp only [Option.some.injEq, Prod.mk.injEq] at H
       obtain ⟨rfl, rfl, rfl, rfl, rfl⟩ := H;obtain ⟨Ao31, co31, eo31⟩ := Kd.R_slice HO_9.out;subst eo31;try go_wp2_with (first | ((with_reducible refine gate_callee (f := 36) rfl ?_); refine gsL (some 51) Tryd.func36 #[.string t155] ?_; (with_reducible refine (spec_EscNorm.calls k1 t155 t172 true _ A26.out).mono ?_); rintro e w32 ⟨rfl, hb⟩; refine ⟨_, rfl, ?_⟩; have n0_ := Aside0.mk (Kd.R_below (zz10 HO_8) hb); have n1_ := Aside0.mk (Kd.R_below (zz10 HO_9) hb); have n2_ := Aside0.mk (blk_below (zz6 BK152) hb); have n3_ := Aside0.mk (blk_below (zz6 BK153) hb); have n4_ := Aside0.mk (below_step (zz7 HB GE152 GE153) hb); clear HO_8; clear HO_9; clear BK152; clear BK153; clear HB; have HO_8 := n0_; have HO_9 := n1_; have BK152 := n2_; have BK153 := n3_; have HB := n4_; clear n0_ n1_ n2_ n3_ n4_; (try clear hb); obtain ⟨Ao33, co33, eo33⟩ := Kd.R_slice HO_8.out; subst eo33))
       have n0_ := Aside0.mk (Kd.R_drew HO_8.out);have n1_ := Aside0.mk (Kd.R_drew HO_9.out);have n2_ := Aside0.mk (blk_drew BK152.out);have n3_ := Aside0.mk (blk_drew BK153.out);have n4_ := Aside0.mk (below_drew1 HB.out);clear HO_8;clear HO_9;clear BK152;clear BK153;clear HB;have HO_8 := n0_;have HO_9 := n1_;have BK152 := n2_;have BK153 := n3_;have HB := n4_;clear n0_ n1_ n2_ n3_ n4_;refine start_ (n := 9) (S := fun w' => w'.cell? ⟨gb152, 0, none⟩ = some (.string a0_0) ∧ w'.cell? ⟨gb152, 1, none⟩ = some (.slice A0_1 l0_1.length c0_1) ∧ w'.cell? ⟨gb152, 2, none⟩ = some (.bool a0_2) ∧ w'.cell? ⟨gb152, 3, none⟩ = some (.string a0_3)) (ds := []) #[false, false, false, false, false, false, false, false, false] (by kernel_rfl) rfl rfl ⟨(blk_cell BK152.out 0).trans rfl, (blk_cell BK152.out 1).trans rfl, (blk_cell BK152.out 2).trans rfl, (blk_cell BK152.out 3).trans rfl⟩ (fun hHeld => ?_); refine with_tabW spec_l1Way.tab12 spec_l1Way.bits12 (fun HT_ HW_ => ?_);generalize w32.drew = w34 at HO_8 HO_9 BK152 BK153 HB hHeld ⊢;refine pureZ 0 (some 54) #[true, false, false, false, false, false, false, false, false] ?_;refine pureZ 2 (some 56) #[true, false, true, false, false, false, false, false, false] ?_;refine pureZ 4 (some 58) #[true, false, true, false, true, false, false, false, false] ?_;refine pureZ 5 (some 59) #[true, false, true, false, true, true, false, false, false] ?_;refine take_ (i := 1) (N := some 55) (v := ?_) (a' := ?_) #[true, true, true, false, true, true, false, false, false] rfl rfl (take_ofW HT_.out HW_.out (by kernel_rfl)) (fun _ _ _ h => h) (Or.inl ⟨by rfl, ?_⟩) hHeld ?_ ?_;rotate_left
       ·rintro w' ⟨s0, s1, s2, s3⟩
        go_simp
        with_reducible rfl
       rotate_left
       ·simp only [Act.put, List.setIfInBounds_toArray, List.set_cons_zero, List.set_cons_succ, i64_w, i32_w]
        rfl
       refine join_ (σ := Value × Nat) 1 #[true, true, true, true, true, true, true, true, false] (fun s_ => [(57, s_.1), (15, .pointer (some ⟨s_.2, 0, none⟩)), (60, .agg #[.string a0_0, s_.1, .bool t156, .string t172])]) (fun s_ w' => (w'.cell? ⟨gb152, 0, none⟩ = some (.string a0_0) ∧ w'.cell? ⟨gb152, 1, none⟩ = some (.slice A0_1 l0_1.length c0_1) ∧ w'.cell? ⟨gb152, 2, none⟩ = some (.bool a0_2) ∧ w'.cell? ⟨gb152, 3, none⟩ = some (.string a0_3)) ∧ (Kd.R Kd.string 9 w' w.heap.size (fun k_ => some k_ ≠ (.slice Ao33 x8_1.length co33 : Value).ownBlock ∧ some k_ ≠ (.slice Ao31 t163.length co31 : Value).ownBlock) s_.1 t174) ∧ (Kd.R Kd.string 9 w' w.heap.size (fun k_ => some k_ ≠ (s_.1 : Value).ownBlock ∧ some k_ ≠ (.slice Ao31 t163.length co31 : Value).ownBlock) (.slice Ao33 x8_1.length co33) x8_1) ∧ (Kd.R Kd.string 9 w' w.heap.size (fun k_ => some k_ ≠ (s_.1 : Value).ownBlock ∧ some k_ ≠ (.slice Ao33 x8_1.length co33 : Value).ownBlock) (.slice Ao31 t163.length co31) t163) ∧ (w'.heap[gb152]? = some (.cells #[.string a0_0, .slice A0_1 l0_1.length c0_1, .bool a0_2, .string a0_3] 47 (0, 0))) ∧ (w'.heap[gb153]? = some (.cells #[.string x154000_1, .slice none 0 0, .bool x154002_1, .string x154003_1] 47 (0, 0))) ∧ (w'.heap[s_.2]? = some (.cells #[.string (⟨#[]⟩ : ByteArray), .slice none 0 0, .bool false, .string (⟨#[]⟩ : ByteArray)] 47 (0, 0))) ∧ (w.heap.size ≤ s_.2) ∧ (w.heap.size ≤ s_.2) ∧ (gb152 ≠ s_.2) ∧ (s_.2 ≠ gb152) ∧ (gb153 ≠ s_.2) ∧ (s_.2 ≠ gb153) ∧ (Below w.heap.size w w')) ?_ ?_;rotate_left
       ·intro hCont
        refine two_ (i := 3) (j := 7) (Ni := some 57) (Nj := some 15) #[true, true, true, true, true, true, false, false, false] #[true, true, true, false, true, true, false, true, false] rfl rfl rfl rfl (two_of HT_.out (by kernel_rfl)) (by decide) (by decide) (fun K hK => ?_) (fun K hK => ?_)
        ·skip
         refine goes_ Tryd.func37 (by kernel_rfl) rfl #[.slice Ao33 x8_1.length co33] (by rfl) rfl rfl zz16 ?_;with_reducible refine (spec_PathClean.calls k1 _ _ x8_1 t174 _ ?side1 ?side2 A27.out).mono ?_
         (case side1 => exact (zz45 HO_8))
         (case side2 => exact (Kd.R_reads' HO_8.out).2.1)
         rintro e w35 ⟨v175, rfl, ho0, hb⟩;refine ⟨_, rfl, ?_⟩;have n0_ := Aside0.mk (Kd.R_elder' (zz10 HO_8) (Kd.R_base ho0) hb);have n1_ := Aside0.mk (Kd.R_elder' (zz10 HO_9) (Kd.R_base ho0) hb);have n2_ := Aside0.mk (Kd.R_lower (Kd.R_new' (Kd.R_new' ho0 (Kd.R_lt (zz10 HO_8))) (Kd.R_lt (zz10 HO_9))) (below_size (zz7 HB GE152 GE153)));have n3_ := Aside0.mk (blk_below (zz6 BK152) hb);have n4_ := Aside0.mk (blk_below (zz6 BK153) hb);have n5_ := Aside0.mk (below_step (zz7 HB GE152 GE153) hb);clear HO_8;clear HO_9;clear BK152;clear BK153;clear HB;have HO_8 := n0_;have HO_9 := n1_;have HO176 := n2_;have BK152 := n3_;have BK153 := n4_;have HB := n5_;clear n0_ n1_ n2_ n3_ n4_ n5_;(try clear hb)
         (try clear hb2)
         (try clear hk)
         (try clear hi)
         (try clear ho0)
         obtain ⟨Ao36, co36, eo36⟩ := Kd.R_slice HO176.out;(first | subst eo36 | (injection eo36 with f1_ f2_ f3_; have f4_ := f1_.symm; have f5_ := f3_.symm; clear f1_ f2_ f3_; subst f4_; subst f5_))
         refine hK.out _ _ ⟨(blk_cell BK152.out 0).trans rfl, (blk_cell BK152.out 1).trans rfl, (blk_cell BK152.out 2).trans rfl, (blk_cell BK152.out 3).trans rfl⟩ (fun hHeld => ?_);clear hK K;refine norm_ (a' := ?_) ?_ ?_;rotate_left
         ·show Act.put _ (some 57) _ = _
          simp only [Act.put, List.setIfInBounds_toArray, List.set_cons_zero, List.set_cons_succ, i64_w, i32_w]
          rfl
         refine pureZ 6 (some 60) #[true, true, true, true, true, true, true, false, false] ?_;refine one_ (i := 7) (N := some 15) #[true, true, true, true, true, true, true, true, false] rfl rfl (one_of HT_.out (by kernel_rfl)) (by decide) (fun K hK => ?_);refine box_step ?hg (N := 15) ?hd (cs := #[.string (⟨#[]⟩ : ByteArray), .slice none 0 0, .bool false, .string (⟨#[]⟩ : ByteArray)]) (t := 47) ?hr ?_; (case hd => rfl); (case hg => rfl); (case hr => exact zz12);intro gb177 hg w37 hbox hb;have n0_ := Aside0.mk (Kd.R_below (zz10 HO_8) hb);have n1_ := Aside0.mk (Kd.R_below (zz10 HO_9) hb);have n2_ := Aside0.mk (Kd.R_below (zz10 HO176) hb);have n3_ := Aside0.mk (blk_below (zz6 BK152) hb);have n4_ := Aside0.mk (blk_below (zz6 BK153) hb);have n5_ := Aside0.mk (below_step (zz7 HB GE152 GE153) hb);have n6_ := Aside0.mk (hbox);have n7_ := Aside0.mk ((by rw [hg]; exact (below_size (zz7 HB GE152 GE153)) : w.heap.size ≤ gb177));have n8_ := Aside0.mk ((by rw [hg]; exact (below_size (zz7 HB GE152 GE153)) : w.heap.size ≤ gb177));have n9_ := Aside0.mk ((by rw [hg]; exact Nat.ne_of_lt (blk_lt (zz6 BK152)) : gb152 ≠ gb177));have n10_ := Aside0.mk ((by rw [hg]; exact Nat.ne_of_gt (blk_lt (zz6 BK152)) : gb177 ≠ gb152));have n11_ := Aside0.mk ((by rw [hg]; exact Nat.ne_of_lt (blk_lt (zz6 BK153)) : gb153 ≠ gb177));have n12_ := Aside0.mk ((by rw [hg]; exact Nat.ne_of_gt (blk_lt (zz6 BK153)) : gb177 ≠ gb153));clear HO_8;clear HO_9;clear HO176;clear BK152;clear BK153;clear HB;have HO_8 := n0_;have HO_9 := n1_;have HO176 := n2_;have BK152 := n3_;have BK153 := n4_;have HB := n5_;have BK177 := n6_;have GW177 := n7_;have GE177 := n8_;have NB152_177 := n9_;have NB177_152 := n10_;have NB153_177 := n11_;have NB177_153 := n12_;clear n0_ n1_ n2_ n3_ n4_ n5_ n6_ n7_ n8_ n9_ n10_ n11_ n12_;clear hb hbox hg;refine hK.out _ _ ⟨(blk_cell BK152.out 0).trans rfl, (blk_cell BK152.out 1).trans rfl, (blk_cell BK152.out 2).trans rfl, (blk_cell BK152.out 3).trans rfl⟩ (fun hHeld => ?_);clear hK K;refine norm_ (a' := ?_) ?_ ?_;rotate_left
         ·show Act.put _ (some 15) _ = _
          simp only [Act.put, List.setIfInBounds_toArray, List.set_cons_zero, List.set_cons_succ, i64_w, i32_w]
          rfl
         exact norm_ viaP (hCont (.slice Ao36 t174.length co36, gb177) _ ⟨hHeld, (zz46 HO176), (zz47 HO_8), (zz47 HO_9), (zz6 BK152), (zz6 BK153), (zz6 BK177), GW177.out, GE177.out, NB152_177.out, NB177_152.out, NB153_177.out, NB177_153.out, (zz9 HB GE152 GE153 GE177)⟩)
        ·skip
         refine box_step ?hg (N := 15) ?hd (cs := #[.string (⟨#[]⟩ : ByteArray), .slice none 0 0, .bool false, .string (⟨#[]⟩ : ByteArray)]) (t := 47) ?hr ?_; (case hd => rfl); (case hg => rfl); (case hr => exact zz12);intro gb177 hg w35 hbox hb;have n0_ := Aside0.mk (Kd.R_below (zz10 HO_8) hb);have n1_ := Aside0.mk (Kd.R_below (zz10 HO_9) hb);have n2_ := Aside0.mk (blk_below (zz6 BK152) hb);have n3_ := Aside0.mk (blk_below (zz6 BK153) hb);have n4_ := Aside0.mk (below_step (zz7 HB GE152 GE153) hb);have n5_ := Aside0.mk (hbox);have n6_ := Aside0.mk ((by rw [hg]; exact (below_size (zz7 HB GE152 GE153)) : w.heap.size ≤ gb177));have n7_ := Aside0.mk ((by rw [hg]; exact (below_size (zz7 HB GE152 GE153)) : w.heap.size ≤ gb177));have n8_ := Aside0.mk ((by rw [hg]; exact Nat.ne_of_lt (blk_lt (zz6 BK152)) : gb152 ≠ gb177));have n9_ := Aside0.mk ((by rw [hg]; exact Nat.ne_of_gt (blk_lt (zz6 BK152)) : gb177 ≠ gb152));have n10_ := Aside0.mk ((by rw [hg]; exact Nat.ne_of_lt (blk_lt (zz6 BK153)) : gb153 ≠ gb177));have n11_ := Aside0.mk ((by rw [hg]; exact Nat.ne_of_gt (blk_lt (zz6 BK153)) : gb177 ≠ gb153));clear HO_8;clear HO_9;clear BK152;clear BK153;clear HB;have HO_8 := n0_;have HO_9 := n1_;have BK152 := n2_;have BK153 := n3_;have HB := n4_;have BK177 := n5_;have GW177 := n6_;have GE177 := n7_;have NB152_177 := n8_;have NB177_152 := n9_;have NB153_177 := n10_;have NB177_153 := n11_;clear n0_ n1_ n2_ n3_ n4_ n5_ n6_ n7_ n8_ n9_ n10_ n11_;clear hb hbox hg;refine hK.out _ _ ⟨(blk_cell BK152.out 0).trans rfl, (blk_cell BK152.out 1).trans rfl, (blk_cell BK152.out 2).trans rfl, (blk_cell BK152.out 3).trans rfl⟩ (fun hHeld => ?_);clear hK K;refine norm_ (a' := ?_) ?_ ?_;rotate_left
         ·show Act.put _ (some 15) _ = _
          simp only [Act.put, List.setIfInBounds_toArray, List.set_cons_zero, List.set_cons_succ, i64_w, i32_w]
          rfl
         refine one_ (i := 3) (N := some 57) #[true, true, true, true, true, true, false, true, false] rfl rfl (one_of HT_.out (by kernel_rfl)) (by decide) (fun K hK => ?_);refine goes_ Tryd.func37 (by kernel_rfl) rfl #[.slice Ao33 x8_1.length co33] (by rfl) rfl rfl zz16 ?_;with_reducible refine (spec_PathClean.calls k1 _ _ x8_1 t174 _ ?side1 ?side2 A27.out).mono ?_
         (case side1 => exact (zz45 HO_8))
         (case side2 => exact (Kd.R_reads' HO_8.out).2.1)
         rintro e w36 ⟨v175, rfl, ho0, hb⟩;refine ⟨_, rfl, ?_⟩;have n0_ := Aside0.mk (Kd.R_elder' (zz10 HO_8) (Kd.R_base ho0) hb);have n1_ := Aside0.mk (Kd.R_elder' (zz10 HO_9) (Kd.R_base ho0) hb);have n2_ := Aside0.mk (Kd.R_lower (Kd.R_new' (Kd.R_new' ho0 (Kd.R_lt (zz10 HO_8))) (Kd.R_lt (zz10 HO_9))) (below_size (zz9 HB GE152 GE153 GE177)));have n3_ := Aside0.mk (blk_below (zz6 BK152) hb);have n4_ := Aside0.mk (blk_below (zz6 BK153) hb);have n5_ := Aside0.mk (blk_below (zz6 BK177) hb);have n6_ := Aside0.mk (below_step (zz9 HB GE152 GE153 GE177) hb);clear HO_8;clear HO_9;clear BK152;clear BK153;clear BK177;clear HB;have HO_8 := n0_;have HO_9 := n1_;have HO176 := n2_;have BK152 := n3_;have BK153 := n4_;have BK177 := n5_;have HB := n6_;clear n0_ n1_ n2_ n3_ n4_ n5_ n6_;(try clear hb)
         (try clear hb2)
         (try clear hk)
         (try clear hi)
         (try clear ho0)
         obtain ⟨Ao37, co37, eo37⟩ := Kd.R_slice HO176.out;(first | subst eo37 | (injection eo37 with f1_ f2_ f3_; have f4_ := f1_.symm; have f5_ := f3_.symm; clear f1_ f2_ f3_; subst f4_; subst f5_))
         refine hK.out _ _ ⟨(blk_cell BK152.out 0).trans rfl, (blk_cell BK152.out 1).trans rfl, (blk_cell BK152.out 2).trans rfl, (blk_cell BK152.out 3).trans rfl⟩ (fun hHeld => ?_);clear hK K;refine norm_ (a' := ?_) ?_ ?_;rotate_left
         ·show Act.put _ (some 57) _ = _
          simp only [Act.put, List.setIfInBounds_toArray, List.set_cons_zero, List.set_cons_succ, i64_w, i32_w]
          rfl
         refine pureZ 6 (some 60) #[true, true, true, true, true, true, true, true, false] ?_;exact norm_ viaP (hCont (.slice Ao37 t174.length co37, gb177) _ ⟨hHeld, (zz46 HO176), (zz47 HO_8), (zz47 HO_9), (zz6 BK152), (zz6 BK153), (zz6 BK177), GW177.out, GE177.out, NB152_177.out, NB177_152.out, NB153_177.out, NB177_153.out, (zz9 HB GE152 GE153 GE177)⟩)
       rintro ⟨v175, gb177⟩ w38 ⟨hS_, h0_, h1_, h2_, h3_, h4_, h5_, h6_, h7_, h8_, h9_, h10_, h11_, h12_⟩;have n0_ : Aside0 (Kd.R Kd.string 9 w38 w.heap.size (fun k_ => some k_ ≠ (.slice Ao33 x8_1.length co33 : Value).ownBlock ∧ some k_ ≠ (.slice Ao31 t163.length co31 : Value).ownBlock) v175 t174) := ⟨h0_⟩;have n1_ : Aside0 (Kd.R Kd.string 9 w38 w.heap.size (fun k_ => some k_ ≠ (v175 : Value).ownBlock ∧ some k_ ≠ (.slice Ao31 t163.length co31 : Value).ownBlock) (.slice Ao33 x8_1.length co33) x8_1) := ⟨h1_⟩;have n2_ : Aside0 (Kd.R Kd.string 9 w38 w.heap.size (fun k_ => some k_ ≠ (v175 : Value).ownBlock ∧ some k_ ≠ (.slice Ao33 x8_1.length co33 : Value).ownBlock) (.slice Ao31 t163.length co31) t163) := ⟨h2_⟩;have n3_ : Aside0 (w38.heap[gb152]? = some (.cells #[.string a0_0, .slice A0_1 l0_1.length c0_1, .bool a0_2, .string a0_3] 47 (0, 0))) := ⟨h3_⟩;have n4_ : Aside0 (w38.heap[gb153]? = some (.cells #[.string x154000_1, .slice none 0 0, .bool x154002_1, .string x154003_1] 47 (0, 0))) := ⟨h4_⟩;have n5_ : Aside0 (w38.heap[gb177]? = some (.cells #[.string (⟨#[]⟩ : ByteArray), .slice none 0 0, .bool false, .string (⟨#[]⟩ : ByteArray)] 47 (0, 0))) := ⟨h5_⟩;have n6_ : Aside0 (w.heap.size ≤ gb177) := ⟨h6_⟩;have n7_ : Aside0 (w.heap.size ≤ gb177) := ⟨h7_⟩;have n8_ : Aside0 (gb152 ≠ gb177) := ⟨h8_⟩;have n9_ : Aside0 (gb177 ≠ gb152) := ⟨h9_⟩;have n10_ : Aside0 (gb153 ≠ gb177) := ⟨h10_⟩;have n11_ : Aside0 (gb177 ≠ gb153) := ⟨h11_⟩;have n12_ : Aside0 (Below w.heap.size w w38) := ⟨h12_⟩;clear HO_8;clear HO_9;clear BK152;clear BK153;clear HB;clear h0_ h1_ h2_ h3_ h4_ h5_ h6_ h7_ h8_ h9_ h10_ h11_ h12_;have HO176 := n0_;have HO_8 := n1_;have HO_9 := n2_;have BK152 := n3_;have BK153 := n4_;have BK177 := n5_;have GW177 := n6_;have GE177 := n7_;have NB152_177 := n8_;have NB177_152 := n9_;have NB153_177 := n10_;have NB177_153 := n11_;have HB := n12_;clear n0_ n1_ n2_ n3_ n4_ n5_ n6_ n7_ n8_ n9_ n10_ n11_ n12_;have hHeld : w38.cell? ⟨gb152, 0, none⟩ = some (.string a0_0) ∧ w38.cell? ⟨gb152, 1, none⟩ = some (.slice A0_1 l0_1.length c0_1) ∧ w38.cell? ⟨gb152, 2, none⟩ = some (.bool a0_2) ∧ w38.cell? ⟨gb152, 3, none⟩ = some (.string a0_3) := hS_;obtain ⟨Ao39, co39, eo39⟩ := Kd.R_slice HO176.out;(first | subst eo39 | (injection eo39 with f1_ f2_ f3_; have f4_ := f1_.symm; have f5_ := f3_.symm; clear f1_ f2_ f3_; subst f4_; subst f5_))
       refine norm_ (a' := ?_) ?_ ?_;rotate_left
       ·simp only [putAll, Act.put, List.setIfInBounds_toArray, List.set_cons_zero, List.set_cons_succ]
        rfl
       refine one_ (i := 8) (N := none) #[true, true, true, true, true, true, true, true, true] rfl rfl (one_of HT_.out (by kernel_rfl)) (by decide) (fun K hK => ?_);have hs40 : w38.cell? ⟨gb177, 0, none⟩ = some (.string (⟨#[]⟩ : ByteArray)) := (blk_cell BK177.out 0).trans rfl;have hfs40 := blk_frozen BK177.out 0;have hns40_0 := NB152_177.out;have hns40_1 := NB153_177.out;have hms40_0 := NB177_152.out;have hms40_1 := NB177_153.out;have hs41 : w38.cell? ⟨gb177, 1, none⟩ = some (.slice none 0 0) := (blk_cell BK177.out 1).trans rfl;have hfs41 := blk_frozen BK177.out 1;have hns41_0 := NB152_177.out;have hns41_1 := NB153_177.out;have hms41_0 := NB177_152.out;have hms41_1 := NB177_153.out;have hs42 : w38.cell? ⟨gb177, 2, none⟩ = some (.bool false) := (blk_cell BK177.out 2).trans rfl;have hfs42 := blk_frozen BK177.out 2;have hns42_0 := NB152_177.out;have hns42_1 := NB153_177.out;have hms42_0 := NB177_152.out;have hms42_1 := NB177_153.out;have hs43 : w38.cell? ⟨gb177, 3, none⟩ = some (.string (⟨#[]⟩ : ByteArray)) := (blk_cell BK177.out 3).trans rfl;have hfs43 := blk_frozen BK177.out 3;have hns43_0 := NB152_177.out;have hns43_1 := NB153_177.out;have hms43_0 := NB177_152.out;have hms43_1 := NB177_153.out;refine skip_ (w1 := ?_) (by rfl) rfl ?_ ?_;rotate_left
       ·go_simp
        rfl
       refine hK.out _ _ ⟨((cell_far (p := ⟨gb177, _, none⟩) NB152_177.out _).trans (((cell_far (p := ⟨gb177, _, none⟩) NB152_177.out _).trans (((cell_far (p := ⟨gb177, _, none⟩) NB152_177.out _).trans (((cell_far (p := ⟨gb177, _, none⟩) NB152_177.out _).trans (hHeld.1)))))))), ((cell_far (p := ⟨gb177, _, none⟩) NB152_177.out _).trans (((cell_far (p := ⟨gb177, _, none⟩) NB152_177.out _).trans (((cell_far (p := ⟨gb177, _, none⟩) NB152_177.out _).trans (((cell_far (p := ⟨gb177, _, none⟩) NB152_177.out _).trans (hHeld.2.1)))))))), ((cell_far (p := ⟨gb177, _, none⟩) NB152_177.out _).trans (((cell_far (p := ⟨gb177, _, none⟩) NB152_177.out _).trans (((cell_far (p := ⟨gb177, _, none⟩) NB152_177.out _).trans (((cell_far (p := ⟨gb177, _, none⟩) NB152_177.out _).trans (hHeld.2.2.1)))))))), ((cell_far (p := ⟨gb177, _, none⟩) NB152_177.out _).trans (((cell_far (p := ⟨gb177, _, none⟩) NB152_177.out _).trans (((cell_far (p := ⟨gb177, _, none⟩) NB152_177.out _).trans (((cell_far (p := ⟨gb177, _, none⟩) NB152_177.out _).trans (hHeld.2.2.2))))))))⟩ (fun hHeld => ?_);clear hK K;refine done_ (done_of HT_.out (by kernel_rfl)) ?_;have hnb44 := NB177_152.out;have hnc44 := NB152_177.out;have hnb45 := NB177_153.out;have hnc45 := NB153_177.out;obtain ⟨_, _, _, _, _, _, _, _⟩ := cf4 BK177;try go_wp2_with (first | (go_at_call 26; (with_reducible refine (spec_AddrOk.calls k1 a0_0 _ _ t174 t156 t172 true _ ?side1 ?side2 A29.out).mono ?_); (case side1 => exact (by refine (Kd.R_reads' (e := 9) (base := w.heap.size) (ok := fun k_ => (some k_ ≠ (.slice Ao33 x8_1.length co33 : Value).ownBlock ∧ some k_ ≠ (.slice Ao31 t163.length co31 : Value).ownBlock)) (n := t174.length) (c := co39) ?_).2.2; exact (zz48 HO176 BK177))); (case side2 => exact (Kd.R_reads' HO176.out).2.1); rintro e w47 ⟨rfl, hb⟩; have n0_ := Aside0.mk (Kd.R_below (zz48 HO_8 BK177) hb); have n1_ := Aside0.mk (Kd.R_below (zz48 HO_9 BK177) hb); have n2_ := Aside0.mk (Kd.R_below (zz48 HO176 BK177) hb); have n3_ := Aside0.mk (blk_below (g := gb152) (o := .cells #[.string a0_0, .slice A0_1 l0_1.length c0_1, .bool a0_2, .string a0_3] 47 (0, 0)) (zz8 BK152 NB152_177) hb); have n4_ := Aside0.mk (blk_below (g := gb153) (o := .cells #[.string x154000_1, .slice none 0 0, .bool x154002_1, .string x154003_1] 47 (0, 0)) (zz8 BK153 NB153_177) hb); have n5_ := Aside0.mk (blk_below (g := gb177) (o := .cells #[.string a0_0, .slice Ao39 t174.length co39, .bool t156, .string t172] 47 (0, 0)) (zz43 BK177) hb); have n6_ := Aside0.mk (below_step (zz9 HB GE152 GE153 GE177) hb); clear HO_8; clear HO_9; clear HO176; clear BK152; clear BK153; clear BK177; clear HB; have HO_8 := n0_; have HO_9 := n1_; have HO176 := n2_; have BK152 := n3_; have BK153 := n4_; have BK177 := n5_; have HB := n6_; clear n0_ n1_ n2_ n3_ n4_ n5_ n6_; (try clear hb); obtain ⟨_, _, _, _, _, _, _, _⟩ := cf4 BK177; have hnb49 := NB153_152.out; have hnc49 := NB152_153.out; obtain ⟨_, _, _, _, _, _, _, _⟩ := cf4 BK153))
       refine bodyPost_ret (results_ct rfl _ _ gb153 47 #[.string a0_0, .slice Ao39 t174.length co39, .bool t156, .string t172] (0, 0) _ rfl (zz43 BK153) Tryd.underlying47 rfl (by kernel_rfl)) rfl ?_;exact ⟨_, zz1, (zz50 (rt HO176 BK153)), (zz9 HB GE152 GE153 GE177)⟩
      ·replace c30 := Bool.eq_false_iff.mpr c30
       subst c30;rw [if_neg (show ¬ (false = true) by decide)] at H;simp only [Option.some.injEq, Prod.mk.injEq] at H
       obtain ⟨rfl, rfl, rfl, rfl, rfl⟩ := H;obtain ⟨Ao51, co51, eo51⟩ := Kd.R_slice HO_9.out;subst eo51;try go_wp2_with (first | ((with_reducible refine gate_callee (f := 36) rfl ?_); refine gsL (some 51) Tryd.func36 #[.string t155] ?_; (with_reducible refine (spec_EscNorm.calls k1 t155 t172 true _ A26.out).mono ?_); rintro e w52 ⟨rfl, hb⟩; refine ⟨_, rfl, ?_⟩; have n0_ := Aside0.mk (Kd.R_below (zz10 HO_8) hb); have n1_ := Aside0.mk (Kd.R_below (zz10 HO_9) hb); have n2_ := Aside0.mk (blk_below (zz6 BK152) hb); have n3_ := Aside0.mk (blk_below (zz6 BK153) hb); have n4_ := Aside0.mk (below_step (zz7 HB GE152 GE153) hb); clear HO_8; clear HO_9; clear BK152; clear BK153; clear HB; have HO_8 := n0_; have HO_9 := n1_; have BK152 := n2_; have BK153 := n3_; have HB := n4_; clear n0_ n1_ n2_ n3_ n4_; (try clear hb); obtain ⟨Ao53, co53, eo53⟩ := Kd.R_slice HO_8.out; subst eo53))
       have n0_ := Aside0.mk (Kd.R_drew HO_8.out);have n1_ := Aside0.mk (Kd.R_drew HO_9.out);have n2_ := Aside0.mk (blk_drew BK152.out);have n3_ := Aside0.mk (blk_drew BK153.out);have n4_ := Aside0.mk (below_drew1 HB.out);clear HO_8;clear HO_9;clear BK152;clear BK153;clear HB;have HO_8 := n0_;have HO_9 := n1_;have BK152 := n2_;have BK153 := n3_;have HB := n4_;clear n0_ n1_ n2_ n3_ n4_;refine start_ (n := 9) (S := fun w' => w'.cell? ⟨gb152, 0, none⟩ = some (.string a0_0) ∧ w'.cell? ⟨gb152, 1, none⟩ = some (.slice A0_1 l0_1.length c0_1) ∧ w'.cell? ⟨gb152, 2, none⟩ = some (.bool a0_2) ∧ w'.cell? ⟨gb152, 3, none⟩ = some (.string a0_3)) (ds := []) #[false, false, false, false, false, false, false, false, false] (by kernel_rfl) rfl rfl ⟨(blk_cell BK152.out 0).trans rfl, (blk_cell BK152.out 1).trans rfl, (blk_cell BK152.out 2).trans rfl, (blk_cell BK152.out 3).trans rfl⟩ (fun hHeld => ?_); refine with_tabW spec_l1Way.tab12 spec_l1Way.bits12 (fun HT_ HW_ => ?_);generalize w52.drew = w54 at HO_8 HO_9 BK152 BK153 HB hHeld ⊢;refine pureZ 0 (some 54) #[true, false, false, false, false, false, false, false, false] ?_;refine pureZ 2 (some 56) #[true, false, true, false, false, false, false, false, false] ?_;refine pureZ 4 (some 58) #[true, false, true, false, true, false, false, false, false] ?_;refine pureZ 5 (some 59) #[true, false, true, false, true, true, false, false, false] ?_;refine take_ (i := 1) (N := some 55) (v := ?_) (a' := ?_) #[true, true, true, false, true, true, false, false, false] rfl rfl (take_ofW HT_.out HW_.out (by kernel_rfl)) (fun _ _ _ h => h) (Or.inl ⟨by rfl, ?_⟩) hHeld ?_ ?_;rotate_left
       ·rintro w' ⟨s0, s1, s2, s3⟩
        go_simp
        with_reducible rfl
       rotate_left
       ·simp only [Act.put, List.setIfInBounds_toArray, List.set_cons_zero, List.set_cons_succ, i64_w, i32_w]
        rfl
       refine join_ (σ := Value × Nat) 1 #[true, true, true, true, true, true, true, true, false] (fun s_ => [(57, s_.1), (15, .pointer (some ⟨s_.2, 0, none⟩)), (60, .agg #[.string a0_0, s_.1, .bool t156, .string t172])]) (fun s_ w' => (w'.cell? ⟨gb152, 0, none⟩ = some (.string a0_0) ∧ w'.cell? ⟨gb152, 1, none⟩ = some (.slice A0_1 l0_1.length c0_1) ∧ w'.cell? ⟨gb152, 2, none⟩ = some (.bool a0_2) ∧ w'.cell? ⟨gb152, 3, none⟩ = some (.string a0_3)) ∧ (Kd.R Kd.string 9 w' w.heap.size (fun k_ => some k_ ≠ (.slice Ao53 x8_1.length co53 : Value).ownBlock ∧ some k_ ≠ (.slice Ao51 t163.length co51 : Value).ownBlock) s_.1 t174) ∧ (Kd.R Kd.string 9 w' w.heap.size (fun k_ => some k_ ≠ (s_.1 : Value).ownBlock ∧ some k_ ≠ (.slice Ao51 t163.length co51 : Value).ownBlock) (.slice Ao53 x8_1.length co53) x8_1) ∧ (Kd.R Kd.string 9 w' w.heap.size (fun k_ => some k_ ≠ (s_.1 : Value).ownBlock ∧ some k_ ≠ (.slice Ao53 x8_1.length co53 : Value).ownBlock) (.slice Ao51 t163.length co51) t163) ∧ (w'.heap[gb152]? = some (.cells #[.string a0_0, .slice A0_1 l0_1.length c0_1, .bool a0_2, .string a0_3] 47 (0, 0))) ∧ (w'.heap[gb153]? = some (.cells #[.string x154000_1, .slice none 0 0, .bool x154002_1, .string x154003_1] 47 (0, 0))) ∧ (w'.heap[s_.2]? = some (.cells #[.string (⟨#[]⟩ : ByteArray), .slice none 0 0, .bool false, .string (⟨#[]⟩ : ByteArray)] 47 (0, 0))) ∧ (w.heap.size ≤ s_.2) ∧ (w.heap.size ≤ s_.2) ∧ (gb152 ≠ s_.2) ∧ (s_.2 ≠ gb152) ∧ (gb153 ≠ s_.2) ∧ (s_.2 ≠ gb153) ∧ (Below w.heap.size w w')) ?_ ?_;rotate_left
       ·intro hCont
        refine two_ (i := 3) (j := 7) (Ni := some 57) (Nj := some 15) #[true, true, true, true, true, true, false, false, false] #[true, true, true, false, true, true, false, true, false] rfl rfl rfl rfl (two_of HT_.out (by kernel_rfl)) (by decide) (by decide) (fun K hK => ?_) (fun K hK => ?_)
        ·skip
         refine goes_ Tryd.func37 (by kernel_rfl) rfl #[.slice Ao53 x8_1.length co53] (by rfl) rfl rfl zz16 ?_;with_reducible refine (spec_PathClean.calls k1 _ _ x8_1 t174 _ ?side1 ?side2 A27.out).mono ?_
         (case side1 => exact (zz45 HO_8))
         (case side2 => exact (Kd.R_reads' HO_8.out).2.1)
         rintro e w55 ⟨v175, rfl, ho0, hb⟩;refine ⟨_, rfl, ?_⟩;have n0_ := Aside0.mk (Kd.R_elder' (zz10 HO_8) (Kd.R_base ho0) hb);have n1_ := Aside0.mk (Kd.R_elder' (zz10 HO_9) (Kd.R_base ho0) hb);have n2_ := Aside0.mk (Kd.R_lower (Kd.R_new' (Kd.R_new' ho0 (Kd.R_lt (zz10 HO_8))) (Kd.R_lt (zz10 HO_9))) (below_size (zz7 HB GE152 GE153)));have n3_ := Aside0.mk (blk_below (zz6 BK152) hb);have n4_ := Aside0.mk (blk_below (zz6 BK153) hb);have n5_ := Aside0.mk (below_step (zz7 HB GE152 GE153) hb);clear HO_8;clear HO_9;clear BK152;clear BK153;clear HB;have HO_8 := n0_;have HO_9 := n1_;have HO176 := n2_;have BK152 := n3_;have BK153 := n4_;have HB := n5_;clear n0_ n1_ n2_ n3_ n4_ n5_;(try clear hb)
         (try clear hb2)
         (try clear hk)
         (try clear hi)
         (try clear ho0)
         obtain ⟨Ao56, co56, eo56⟩ := Kd.R_slice HO176.out;(first | subst eo56 | (injection eo56 with f1_ f2_ f3_; have f4_ := f1_.symm; have f5_ := f3_.symm; clear f1_ f2_ f3_; subst f4_; subst f5_))
         refine hK.out _ _ ⟨(blk_cell BK152.out 0).trans rfl, (blk_cell BK152.out 1).trans rfl, (blk_cell BK152.out 2).trans rfl, (blk_cell BK152.out 3).trans rfl⟩ (fun hHeld => ?_);clear hK K;refine norm_ (a' := ?_) ?_ ?_;rotate_left
         ·show Act.put _ (some 57) _ = _
          simp only [Act.put, List.setIfInBounds_toArray, List.set_cons_zero, List.set_cons_succ, i64_w, i32_w]
          rfl
         refine pureZ 6 (some 60) #[true, true, true, true, true, true, true, false, false] ?_;refine one_ (i := 7) (N := some 15) #[true, true, true, true, true, true, true, true, false] rfl rfl (one_of HT_.out (by kernel_rfl)) (by decide) (fun K hK => ?_);refine box_step ?hg (N := 15) ?hd (cs := #[.string (⟨#[]⟩ : ByteArray), .slice none 0 0, .bool false, .string (⟨#[]⟩ : ByteArray)]) (t := 47) ?hr ?_; (case hd => rfl); (case hg => rfl); (case hr => exact zz12);intro gb177 hg w57 hbox hb;have n0_ := Aside0.mk (Kd.R_below (zz10 HO_8) hb);have n1_ := Aside0.mk (Kd.R_below (zz10 HO_9) hb);have n2_ := Aside0.mk (Kd.R_below (zz10 HO176) hb);have n3_ := Aside0.mk (blk_below (zz6 BK152) hb);have n4_ := Aside0.mk (blk_below (zz6 BK153) hb);have n5_ := Aside0.mk (below_step (zz7 HB GE152 GE153) hb);have n6_ := Aside0.mk (hbox);have n7_ := Aside0.mk ((by rw [hg]; exact (below_size (zz7 HB GE152 GE153)) : w.heap.size ≤ gb177));have n8_ := Aside0.mk ((by rw [hg]; exact (below_size (zz7 HB GE152 GE153)) : w.heap.size ≤ gb177));have n9_ := Aside0.mk ((by rw [hg]; exact Nat.ne_of_lt (blk_lt (zz6 BK152)) : gb152 ≠ gb177));have n10_ := Aside0.mk ((by rw [hg]; exact Nat.ne_of_gt (blk_lt (zz6 BK152)) : gb177 ≠ gb152));have n11_ := Aside0.mk ((by rw [hg]; exact Nat.ne_of_lt (blk_lt (zz6 BK153)) : gb153 ≠ gb177));have n12_ := Aside0.mk ((by rw [hg]; exact Nat.ne_of_gt (blk_lt (zz6 BK153)) : gb177 ≠ gb153));clear HO_8;clear HO_9;clear HO176;clear BK152;clear BK153;clear HB;have HO_8 := n0_;have HO_9 := n1_;have HO176 := n2_;have BK152 := n3_;have BK153 := n4_;have HB := n5_;have BK177 := n6_;have GW177 := n7_;have GE177 := n8_;have NB152_177 := n9_;have NB177_152 := n10_;have NB153_177 := n11_;have NB177_153 := n12_;clear n0_ n1_ n2_ n3_ n4_ n5_ n6_ n7_ n8_ n9_ n10_ n11_ n12_;clear hb hbox hg;refine hK.out _ _ ⟨(blk_cell BK152.out 0).trans rfl, (blk_cell BK152.out 1).trans rfl, (blk_cell BK152.out 2).trans rfl, (blk_cell BK152.out 3).trans rfl⟩ (fun hHeld => ?_);clear hK K;refine norm_ (a' := ?_) ?_ ?_;rotate_left
         ·show Act.put _ (some 15) _ = _
          simp only [Act.put, List.setIfInBounds_toArray, List.set_cons_zero, List.set_cons_succ, i64_w, i32_w]
          rfl
         exact norm_ viaP (hCont (.slice Ao56 t174.length co56, gb177) _ ⟨hHeld, (zz46 HO176), (zz47 HO_8), (zz47 HO_9), (zz6 BK152), (zz6 BK153), (zz6 BK177), GW177.out, GE177.out, NB152_177.out, NB177_152.out, NB153_177.out, NB177_153.out, (zz9 HB GE152 GE153 GE177)⟩)
        ·skip
         refine box_step ?hg (N := 15) ?hd (cs := #[.string (⟨#[]⟩ : ByteArray), .slice none 0 0, .bool false, .string (⟨#[]⟩ : ByteArray)]) (t := 47) ?hr ?_; (case hd => rfl); (case hg => rfl); (case hr => exact zz12);intro gb177 hg w55 hbox hb;have n0_ := Aside0.mk (Kd.R_below (zz10 HO_8) hb);have n1_ := Aside0.mk (Kd.R_below (zz10 HO_9) hb);have n2_ := Aside0.mk (blk_below (zz6 BK152) hb);have n3_ := Aside0.mk (blk_below (zz6 BK153) hb);have n4_ := Aside0.mk (below_step (zz7 HB GE152 GE153) hb);have n5_ := Aside0.mk (hbox);have n6_ := Aside0.mk ((by rw [hg]; exact (below_size (zz7 HB GE152 GE153)) : w.heap.size ≤ gb177));have n7_ := Aside0.mk ((by rw [hg]; exact (below_size (zz7 HB GE152 GE153)) : w.heap.size ≤ gb177));have n8_ := Aside0.mk ((by rw [hg]; exact Nat.ne_of_lt (blk_lt (zz6 BK152)) : gb152 ≠ gb177));have n9_ := Aside0.mk ((by rw [hg]; exact Nat.ne_of_gt (blk_lt (zz6 BK152)) : gb177 ≠ gb152));have n10_ := Aside0.mk ((by rw [hg]; exact Nat.ne_of_lt (blk_lt (zz6 BK153)) : gb153 ≠ gb177));have n11_ := Aside0.mk ((by rw [hg]; exact Nat.ne_of_gt (blk_lt (zz6 BK153)) : gb177 ≠ gb153));clear HO_8;clear HO_9;clear BK152;clear BK153;clear HB;have HO_8 := n0_;have HO_9 := n1_;have BK152 := n2_;have BK153 := n3_;have HB := n4_;have BK177 := n5_;have GW177 := n6_;have GE177 := n7_;have NB152_177 := n8_;have NB177_152 := n9_;have NB153_177 := n10_;have NB177_153 := n11_;clear n0_ n1_ n2_ n3_ n4_ n5_ n6_ n7_ n8_ n9_ n10_ n11_;clear hb hbox hg;refine hK.out _ _ ⟨(blk_cell BK152.out 0).trans rfl, (blk_cell BK152.out 1).trans rfl, (blk_cell BK152.out 2).trans rfl, (blk_cell BK152.out 3).trans rfl⟩ (fun hHeld => ?_);clear hK K;refine norm_ (a' := ?_) ?_ ?_;rotate_left
         ·show Act.put _ (some 15) _ = _
          simp only [Act.put, List.setIfInBounds_toArray, List.set_cons_zero, List.set_cons_succ, i64_w, i32_w]
          rfl
         refine one_ (i := 3) (N := some 57) #[true, true, true, true, true, true, false, true, false] rfl rfl (one_of HT_.out (by kernel_rfl)) (by decide) (fun K hK => ?_);refine goes_ Tryd.func37 (by kernel_rfl) rfl #[.slice Ao53 x8_1.length co53] (by rfl) rfl rfl zz16 ?_;with_reducible refine (spec_PathClean.calls k1 _ _ x8_1 t174 _ ?side1 ?side2 A27.out).mono ?_
         (case side1 => exact (zz45 HO_8))
         (case side2 => exact (Kd.R_reads' HO_8.out).2.1)
         rintro e w56 ⟨v175, rfl, ho0, hb⟩;refine ⟨_, rfl, ?_⟩;have n0_ := Aside0.mk (Kd.R_elder' (zz10 HO_8) (Kd.R_base ho0) hb);have n1_ := Aside0.mk (Kd.R_elder' (zz10 HO_9) (Kd.R_base ho0) hb);have n2_ := Aside0.mk (Kd.R_lower (Kd.R_new' (Kd.R_new' ho0 (Kd.R_lt (zz10 HO_8))) (Kd.R_lt (zz10 HO_9))) (below_size (zz9 HB GE152 GE153 GE177)));have n3_ := Aside0.mk (blk_below (zz6 BK152) hb);have n4_ := Aside0.mk (blk_below (zz6 BK153) hb);have n5_ := Aside0.mk (blk_below (zz6 BK177) hb);have n6_ := Aside0.mk (below_step (zz9 HB GE152 GE153 GE177) hb);clear HO_8;clear HO_9;clear BK152;clear BK153;clear BK177;clear HB;have HO_8 := n0_;have HO_9 := n1_;have HO176 := n2_;have BK152 := n3_;have BK153 := n4_;have BK177 := n5_;have HB := n6_;clear n0_ n1_ n2_ n3_ n4_ n5_ n6_;(try clear hb)
         (try clear hb2)
         (try clear hk)
         (try clear hi)
         (try clear ho0)
         obtain ⟨Ao57, co57, eo57⟩ := Kd.R_slice HO176.out;(first | subst eo57 | (injection eo57 with f1_ f2_ f3_; have f4_ := f1_.symm; have f5_ := f3_.symm; clear f1_ f2_ f3_; subst f4_; subst f5_))
         refine hK.out _ _ ⟨(blk_cell BK152.out 0).trans rfl, (blk_cell BK152.out 1).trans rfl, (blk_cell BK152.out 2).trans rfl, (blk_cell BK152.out 3).trans rfl⟩ (fun hHeld => ?_);clear hK K;refine norm_ (a' := ?_) ?_ ?_;rotate_left
         ·show Act.put _ (some 57) _ = _
          simp only [Act.put, List.setIfInBounds_toArray, List.set_cons_zero, List.set_cons_succ, i64_w, i32_w]
          rfl
         refine pureZ 6 (some 60) #[true, true, true, true, true, true, true, true, false] ?_;exact norm_ viaP (hCont (.slice Ao57 t174.length co57, gb177) _ ⟨hHeld, (zz46 HO176), (zz47 HO_8), (zz47 HO_9), (zz6 BK152), (zz6 BK153), (zz6 BK177), GW177.out, GE177.out, NB152_177.out, NB177_152.out, NB153_177.out, NB177_153.out, (zz9 HB GE152 GE153 GE177)⟩)
       rintro ⟨v175, gb177⟩ w58 ⟨hS_, h0_, h1_, h2_, h3_, h4_, h5_, h6_, h7_, h8_, h9_, h10_, h11_, h12_⟩;have n0_ : Aside0 (Kd.R Kd.string 9 w58 w.heap.size (fun k_ => some k_ ≠ (.slice Ao53 x8_1.length co53 : Value).ownBlock ∧ some k_ ≠ (.slice Ao51 t163.length co51 : Value).ownBlock) v175 t174) := ⟨h0_⟩;have n1_ : Aside0 (Kd.R Kd.string 9 w58 w.heap.size (fun k_ => some k_ ≠ (v175 : Value).ownBlock ∧ some k_ ≠ (.slice Ao51 t163.length co51 : Value).ownBlock) (.slice Ao53 x8_1.length co53) x8_1) := ⟨h1_⟩;have n2_ : Aside0 (Kd.R Kd.string 9 w58 w.heap.size (fun k_ => some k_ ≠ (v175 : Value).ownBlock ∧ some k_ ≠ (.slice Ao53 x8_1.length co53 : Value).ownBlock) (.slice Ao51 t163.length co51) t163) := ⟨h2_⟩;have n3_ : Aside0 (w58.heap[gb152]? = some (.cells #[.string a0_0, .slice A0_1 l0_1.length c0_1, .bool a0_2, .string a0_3] 47 (0, 0))) := ⟨h3_⟩;have n4_ : Aside0 (w58.heap[gb153]? = some (.cells #[.string x154000_1, .slice none 0 0, .bool x154002_1, .string x154003_1] 47 (0, 0))) := ⟨h4_⟩;have n5_ : Aside0 (w58.heap[gb177]? = some (.cells #[.string (⟨#[]⟩ : ByteArray), .slice none 0 0, .bool false, .string (⟨#[]⟩ : ByteArray)] 47 (0, 0))) := ⟨h5_⟩;have n6_ : Aside0 (w.heap.size ≤ gb177) := ⟨h6_⟩;have n7_ : Aside0 (w.heap.size ≤ gb177) := ⟨h7_⟩;have n8_ : Aside0 (gb152 ≠ gb177) := ⟨h8_⟩;have n9_ : Aside0 (gb177 ≠ gb152) := ⟨h9_⟩;have n10_ : Aside0 (gb153 ≠ gb177) := ⟨h10_⟩;have n11_ : Aside0 (gb177 ≠ gb153) := ⟨h11_⟩;have n12_ : Aside0 (Below w.heap.size w w58) := ⟨h12_⟩;clear HO_8;clear HO_9;clear BK152;clear BK153;clear HB;clear h0_ h1_ h2_ h3_ h4_ h5_ h6_ h7_ h8_ h9_ h10_ h11_ h12_;have HO176 := n0_;have HO_8 := n1_;have HO_9 := n2_;have BK152 := n3_;have BK153 := n4_;have BK177 := n5_;have GW177 := n6_;have GE177 := n7_;have NB152_177 := n8_;have NB177_152 := n9_;have NB153_177 := n10_;have NB177_153 := n11_;have HB := n12_;clear n0_ n1_ n2_ n3_ n4_ n5_ n6_ n7_ n8_ n9_ n10_ n11_ n12_;have hHeld : w58.cell? ⟨gb152, 0, none⟩ = some (.string a0_0) ∧ w58.cell? ⟨gb152, 1, none⟩ = some (.slice A0_1 l0_1.length c0_1) ∧ w58.cell? ⟨gb152, 2, none⟩ = some (.bool a0_2) ∧ w58.cell? ⟨gb152, 3, none⟩ = some (.string a0_3) := hS_;obtain ⟨Ao59, co59, eo59⟩ := Kd.R_slice HO176.out;(first | subst eo59 | (injection eo59 with f1_ f2_ f3_; have f4_ := f1_.symm; have f5_ := f3_.symm; clear f1_ f2_ f3_; subst f4_; subst f5_))
       refine norm_ (a' := ?_) ?_ ?_;rotate_left
       ·simp only [putAll, Act.put, List.setIfInBounds_toArray, List.set_cons_zero, List.set_cons_succ]
        rfl
       refine one_ (i := 8) (N := none) #[true, true, true, true, true, true, true, true, true] rfl rfl (one_of HT_.out (by kernel_rfl)) (by decide) (fun K hK => ?_);have hs60 : w58.cell? ⟨gb177, 0, none⟩ = some (.string (⟨#[]⟩ : ByteArray)) := (blk_cell BK177.out 0).trans rfl;have hfs60 := blk_frozen BK177.out 0;have hns60_0 := NB152_177.out;have hns60_1 := NB153_177.out;have hms60_0 := NB177_152.out;have hms60_1 := NB177_153.out;have hs61 : w58.cell? ⟨gb177, 1, none⟩ = some (.slice none 0 0) := (blk_cell BK177.out 1).trans rfl;have hfs61 := blk_frozen BK177.out 1;have hns61_0 := NB152_177.out;have hns61_1 := NB153_177.out;have hms61_0 := NB177_152.out;have hms61_1 := NB177_153.out;have hs62 : w58.cell? ⟨gb177, 2, none⟩ = some (.bool false) := (blk_cell BK177.out 2).trans rfl;have hfs62 := blk_frozen BK177.out 2;have hns62_0 := NB152_177.out;have hns62_1 := NB153_177.out;have hms62_0 := NB177_152.out;have hms62_1 := NB177_153.out;have hs63 : w58.cell? ⟨gb177, 3, none⟩ = some (.string (⟨#[]⟩ : ByteArray)) := (blk_cell BK177.out 3).trans rfl;have hfs63 := blk_frozen BK177.out 3;have hns63_0 := NB152_177.out;have hns63_1 := NB153_177.out;have hms63_0 := NB177_152.out;have hms63_1 := NB177_153.out;refine skip_ (w1 := ?_) (by rfl) rfl ?_ ?_;rotate_left
       ·go_simp
        rfl
       refine hK.out _ _ ⟨((cell_far (p := ⟨gb177, _, none⟩) NB152_177.out _).trans (((cell_far (p := ⟨gb177, _, none⟩) NB152_177.out _).trans (((cell_far (p := ⟨gb177, _, none⟩) NB152_177.out _).trans (((cell_far (p := ⟨gb177, _, none⟩) NB152_177.out _).trans (hHeld.1)))))))), ((cell_far (p := ⟨gb177, _, none⟩) NB152_177.out _).trans (((cell_far (p := ⟨gb177, _, none⟩) NB152_177.out _).trans (((cell_far (p := ⟨gb177, _, none⟩) NB152_177.out _).trans (((cell_far (p := ⟨gb177, _, none⟩) NB152_177.out _).trans (hHeld.2.1)))))))), ((cell_far (p := ⟨gb177, _, none⟩) NB152_177.out _).trans (((cell_far (p := ⟨gb177, _, none⟩) NB152_177.out _).trans (((cell_far (p := ⟨gb177, _, none⟩) NB152_177.out _).trans (((cell_far (p := ⟨gb177, _, none⟩) NB152_177.out _).trans (hHeld.2.2.1)))))))), ((cell_far (p := ⟨gb177, _, none⟩) NB152_177.out _).trans (((cell_far (p := ⟨gb177, _, none⟩) NB152_177.out _).trans (((cell_far (p := ⟨gb177, _, none⟩) NB152_177.out _).trans (((cell_far (p := ⟨gb177, _, none⟩) NB152_177.out _).trans (hHeld.2.2.2))))))))⟩ (fun hHeld => ?_);clear hK K;refine done_ (done_of HT_.out (by kernel_rfl)) ?_;have hnb64 := NB177_152.out;have hnc64 := NB152_177.out;have hnb65 := NB177_153.out;have hnc65 := NB153_177.out;obtain ⟨_, _, _, _, _, _, _, _⟩ := cf4 BK177;try go_wp2_with (first | (go_at_call 26; (with_reducible refine (spec_AddrOk.calls k1 a0_0 _ _ t174 t156 t172 false _ ?side1 ?side2 A29.out).mono ?_); (case side1 => exact (by refine (Kd.R_reads' (e := 9) (base := w.heap.size) (ok := fun k_ => (some k_ ≠ (.slice Ao53 x8_1.length co53 : Value).ownBlock ∧ some k_ ≠ (.slice Ao51 t163.length co51 : Value).ownBlock)) (n := t174.length) (c := co59) ?_).2.2; exact (zz51 HO176 BK177))); (case side2 => exact (Kd.R_reads' HO176.out).2.1); rintro e w67 ⟨rfl, hb⟩; have n0_ := Aside0.mk (Kd.R_below (zz51 HO_8 BK177) hb); have n1_ := Aside0.mk (Kd.R_below (zz51 HO_9 BK177) hb); have n2_ := Aside0.mk (Kd.R_below (zz51 HO176 BK177) hb); have n3_ := Aside0.mk (blk_below (g := gb152) (o := .cells #[.string a0_0, .slice A0_1 l0_1.length c0_1, .bool a0_2, .string a0_3] 47 (0, 0)) (zz8 BK152 NB152_177) hb); have n4_ := Aside0.mk (blk_below (g := gb153) (o := .cells #[.string x154000_1, .slice none 0 0, .bool x154002_1, .string x154003_1] 47 (0, 0)) (zz8 BK153 NB153_177) hb); have n5_ := Aside0.mk (blk_below (g := gb177) (o := .cells #[.string a0_0, .slice Ao59 t174.length co59, .bool t156, .string t172] 47 (0, 0)) (zz43 BK177) hb); have n6_ := Aside0.mk (below_step (zz9 HB GE152 GE153 GE177) hb); clear HO_8; clear HO_9; clear HO176; clear BK152; clear BK153; clear BK177; clear HB; have HO_8 := n0_; have HO_9 := n1_; have HO176 := n2_; have BK152 := n3_; have BK153 := n4_; have BK177 := n5_; have HB := n6_; clear n0_ n1_ n2_ n3_ n4_ n5_ n6_; (try clear hb); have hnb68 := NB153_152.out; have hnc68 := NB152_153.out; obtain ⟨_, _, _, _, _, _, _, _⟩ := cf4 BK153))
       refine bodyPost_ret (results_ct rfl _ _ gb153 47 #[.string (⟨#[]⟩ : ByteArray), .slice none 0 0, .bool false, .string (⟨#[]⟩ : ByteArray)] (0, 0) _ rfl (zz43 BK153) Tryd.underlying47 rfl (by kernel_rfl)) rfl ?_;exact ⟨_, zz1, zz44, (zz9 HB GE152 GE153 GE177)⟩
     ·replace c28 := Bool.eq_false_iff.mpr c28
      subst c28;rw [if_neg (show ¬ (false = true) by decide)] at H;simp only [Option.some.injEq, Prod.mk.injEq] at H
      obtain ⟨rfl, rfl, rfl, rfl, rfl⟩ := H;obtain ⟨Ao70, co70, eo70⟩ := Kd.R_slice HO_9.out;subst eo70;try go_wp2_with (first | ((with_reducible refine gate_callee (f := 36) rfl ?_); refine gsL (some 51) Tryd.func36 #[.string t155] ?_; (with_reducible refine (spec_EscNorm.calls k1 t155 t172 false _ A26.out).mono ?_); rintro e w71 ⟨rfl, hb⟩; refine ⟨_, rfl, ?_⟩; have n0_ := Aside0.mk (Kd.R_below (zz10 HO_8) hb); have n1_ := Aside0.mk (Kd.R_below (zz10 HO_9) hb); have n2_ := Aside0.mk (blk_below (zz6 BK152) hb); have n3_ := Aside0.mk (blk_below (zz6 BK153) hb); have n4_ := Aside0.mk (below_step (zz7 HB GE152 GE153) hb); clear HO_8; clear HO_9; clear BK152; clear BK153; clear HB; have HO_8 := n0_; have HO_9 := n1_; have BK152 := n2_; have BK153 := n3_; have HB := n4_; clear n0_ n1_ n2_ n3_ n4_; (try clear hb); obtain ⟨Ao72, co72, eo72⟩ := Kd.R_slice HO_8.out; subst eo72))
      have n0_ := Aside0.mk (Kd.R_drew HO_8.out);have n1_ := Aside0.mk (Kd.R_drew HO_9.out);have n2_ := Aside0.mk (blk_drew BK152.out);have n3_ := Aside0.mk (blk_drew BK153.out);have n4_ := Aside0.mk (below_drew1 HB.out);clear HO_8;clear HO_9;clear BK152;clear BK153;clear HB;have HO_8 := n0_;have HO_9 := n1_;have BK152 := n2_;have BK153 := n3_;have HB := n4_;clear n0_ n1_ n2_ n3_ n4_;refine start_ (n := 9) (S := fun w' => w'.cell? ⟨gb152, 0, none⟩ = some (.string a0_0) ∧ w'.cell? ⟨gb152, 1, none⟩ = some (.slice A0_1 l0_1.length c0_1) ∧ w'.cell? ⟨gb152, 2, none⟩ = some (.bool a0_2) ∧ w'.cell? ⟨gb152, 3, none⟩ = some (.string a0_3)) (ds := []) #[false, false, false, false, false, false, false, false, false] (by kernel_rfl) rfl rfl ⟨(blk_cell BK152.out 0).trans rfl, (blk_cell BK152.out 1).trans rfl, (blk_cell BK152.out 2).trans rfl, (blk_cell BK152.out 3).trans rfl⟩ (fun hHeld => ?_); refine with_tabW spec_l1Way.tab12 spec_l1Way.bits12 (fun HT_ HW_ => ?_);generalize w71.drew = w73 at HO_8 HO_9 BK152 BK153 HB hHeld ⊢;refine pureZ 0 (some 54) #[true, false, false, false, false, false, false, false, false] ?_;refine pureZ 2 (some 56) #[true, false, true, false, false, false, false, false, false] ?_;refine pureZ 4 (some 58) #[true, false, true, false, true, false, false, false, false] ?_;refine pureZ 5 (some 59) #[true, false, true, false, true, true, false, false, false] ?_;refine take_ (i := 1) (N := some 55) (v := ?_) (a' := ?_) #[true, true, true, false, true, true, false, false, false] rfl rfl (take_ofW HT_.out HW_.out (by kernel_rfl)) (fun _ _ _ h => h) (Or.inl ⟨by rfl, ?_⟩) hHeld ?_ ?_;rotate_left
      ·rintro w' ⟨s0, s1, s2, s3⟩
       go_simp
       with_reducible rfl
      rotate_left
      ·simp only [Act.put, List.setIfInBounds_toArray, List.set_cons_zero, List.set_cons_succ, i64_w, i32_w]
       rfl
      refine join_ (σ := Value × Nat) 1 #[true, true, true, true, true, true, true, true, false] (fun s_ => [(57, s_.1), (15, .pointer (some ⟨s_.2, 0, none⟩)), (60, .agg #[.string a0_0, s_.1, .bool t156, .string t172])]) (fun s_ w' => (w'.cell? ⟨gb152, 0, none⟩ = some (.string a0_0) ∧ w'.cell? ⟨gb152, 1, none⟩ = some (.slice A0_1 l0_1.length c0_1) ∧ w'.cell? ⟨gb152, 2, none⟩ = some (.bool a0_2) ∧ w'.cell? ⟨gb152, 3, none⟩ = some (.string a0_3)) ∧ (Kd.R Kd.string 9 w' w.heap.size (fun k_ => some k_ ≠ (.slice Ao72 x8_1.length co72 : Value).ownBlock ∧ some k_ ≠ (.slice Ao70 t163.length co70 : Value).ownBlock) s_.1 t174) ∧ (Kd.R Kd.string 9 w' w.heap.size (fun k_ => some k_ ≠ (s_.1 : Value).ownBlock ∧ some k_ ≠ (.slice Ao70 t163.length co70 : Value).ownBlock) (.slice Ao72 x8_1.length co72) x8_1) ∧ (Kd.R Kd.string 9 w' w.heap.size (fun k_ => some k_ ≠ (s_.1 : Value).ownBlock ∧ some k_ ≠ (.slice Ao72 x8_1.length co72 : Value).ownBlock) (.slice Ao70 t163.length co70) t163) ∧ (w'.heap[gb152]? = some (.cells #[.string a0_0, .slice A0_1 l0_1.length c0_1, .bool a0_2, .string a0_3] 47 (0, 0))) ∧ (w'.heap[gb153]? = some (.cells #[.string x154000_1, .slice none 0 0, .bool x154002_1, .string x154003_1] 47 (0, 0))) ∧ (w'.heap[s_.2]? = some (.cells #[.string (⟨#[]⟩ : ByteArray), .slice none 0 0, .bool false, .string (⟨#[]⟩ : ByteArray)] 47 (0, 0))) ∧ (w.heap.size ≤ s_.2) ∧ (w.heap.size ≤ s_.2) ∧ (gb152 ≠ s_.2) ∧ (s_.2 ≠ gb152) ∧ (gb153 ≠ s_.2) ∧ (s_.2 ≠ gb153) ∧ (Below w.heap.size w w')) ?_ ?_;rotate_left
      ·intro hCont
       refine two_ (i := 3) (j := 7) (Ni := some 57) (Nj := some 15) #[true, true, true, true, true, true, false, false, false] #[true, true, true, false, true, true, false, true, false] rfl rfl rfl rfl (two_of HT_.out (by kernel_rfl)) (by decide) (by decide) (fun K hK => ?_) (fun K hK => ?_)
       ·skip
        refine goes_ Tryd.func37 (by kernel_rfl) rfl #[.slice Ao72 x8_1.length co72] (by rfl) rfl rfl zz16 ?_;with_reducible refine (spec_PathClean.calls k1 _ _ x8_1 t174 _ ?side1 ?side2 A27.out).mono ?_
        (case side1 => exact (zz45 HO_8))
        (case side2 => exact (Kd.R_reads' HO_8.out).2.1)
        rintro e w74 ⟨v175, rfl, ho0, hb⟩;refine ⟨_, rfl, ?_⟩;have n0_ := Aside0.mk (Kd.R_elder' (zz10 HO_8) (Kd.R_base ho0) hb);have n1_ := Aside0.mk (Kd.R_elder' (zz10 HO_9) (Kd.R_base ho0) hb);have n2_ := Aside0.mk (Kd.R_lower (Kd.R_new' (Kd.R_new' ho0 (Kd.R_lt (zz10 HO_8))) (Kd.R_lt (zz10 HO_9))) (below_size (zz7 HB GE152 GE153)));have n3_ := Aside0.mk (blk_below (zz6 BK152) hb);have n4_ := Aside0.mk (blk_below (zz6 BK153) hb);have n5_ := Aside0.mk (below_step (zz7 HB GE152 GE153) hb);clear HO_8;clear HO_9;clear BK152;clear BK153;clear HB;have HO_8 := n0_;have HO_9 := n1_;have HO176 := n2_;have BK152 := n3_;have BK153 := n4_;have HB := n5_;clear n0_ n1_ n2_ n3_ n4_ n5_;(try clear hb)
        (try clear hb2)
        (try clear hk)
        (try clear hi)
        (try clear ho0)
        obtain ⟨Ao75, co75, eo75⟩ := Kd.R_slice HO176.out;(first | subst eo75 | (injection eo75 with f1_ f2_ f3_; have f4_ := f1_.symm; have f5_ := f3_.symm; clear f1_ f2_ f3_; subst f4_; subst f5_))
        refine hK.out _ _ ⟨(blk_cell BK152.out 0).trans rfl, (blk_cell BK152.out 1).trans rfl, (blk_cell BK152.out 2).trans rfl, (blk_cell BK152.out 3).trans rfl⟩ (fun hHeld => ?_);clear hK K;refine norm_ (a' := ?_) ?_ ?_;rotate_left
        ·show Act.put _ (some 57) _ = _
         simp only [Act.put, List.setIfInBounds_toArray, List.set_cons_zero, List.set_cons_succ, i64_w, i32_w]
         rfl
        refine pureZ 6 (some 60) #[true, true, true, true, true, true, true, false, false] ?_;refine one_ (i := 7) (N := some 15) #[true, true, true, true, true, true, true, true, false] rfl rfl (one_of HT_.out (by kernel_rfl)) (by decide) (fun K hK => ?_);refine box_step ?hg (N := 15) ?hd (cs := #[.string (⟨#[]⟩ : ByteArray), .slice none 0 0, .bool false, .string (⟨#[]⟩ : ByteArray)]) (t := 47) ?hr ?_; (case hd => rfl); (case hg => rfl); (case hr => exact zz12);intro gb177 hg w76 hbox hb;have n0_ := Aside0.mk (Kd.R_below (zz10 HO_8) hb);have n1_ := Aside0.mk (Kd.R_below (zz10 HO_9) hb);have n2_ := Aside0.mk (Kd.R_below (zz10 HO176) hb);have n3_ := Aside0.mk (blk_below (zz6 BK152) hb);have n4_ := Aside0.mk (blk_below (zz6 BK153) hb);have n5_ := Aside0.mk (below_step (zz7 HB GE152 GE153) hb);have n6_ := Aside0.mk (hbox);have n7_ := Aside0.mk ((by rw [hg]; exact (below_size (zz7 HB GE152 GE153)) : w.heap.size ≤ gb177));have n8_ := Aside0.mk ((by rw [hg]; exact (below_size (zz7 HB GE152 GE153)) : w.heap.size ≤ gb177));have n9_ := Aside0.mk ((by rw [hg]; exact Nat.ne_of_lt (blk_lt (zz6 BK152)) : gb152 ≠ gb177));have n10_ := Aside0.mk ((by rw [hg]; exact Nat.ne_of_gt (blk_lt (zz6 BK152)) : gb177 ≠ gb152));have n11_ := Aside0.mk ((by rw [hg]; exact Nat.ne_of_lt (blk_lt (zz6 BK153)) : gb153 ≠ gb177));have n12_ := Aside0.mk ((by rw [hg]; exact Nat.ne_of_gt (blk_lt (zz6 BK153)) : gb177 ≠ gb153));clear HO_8;clear HO_9;clear HO176;clear BK152;clear BK153;clear HB;have HO_8 := n0_;have HO_9 := n1_;have HO176 := n2_;have BK152 := n3_;have BK153 := n4_;have HB := n5_;have BK177 := n6_;have GW177 := n7_;have GE177 := n8_;have NB152_177 := n9_;have NB177_152 := n10_;have NB153_177 := n11_;have NB177_153 := n12_;clear n0_ n1_ n2_ n3_ n4_ n5_ n6_ n7_ n8_ n9_ n10_ n11_ n12_;clear hb hbox hg;refine hK.out _ _ ⟨(blk_cell BK152.out 0).trans rfl, (blk_cell BK152.out 1).trans rfl, (blk_cell BK152.out 2).trans rfl, (blk_cell BK152.out 3).trans rfl⟩ (fun hHeld => ?_);clear hK K;refine norm_ (a' := ?_) ?_ ?_;rotate_left
        ·show Act.put _ (some 15) _ = _
         simp only [Act.put, List.setIfInBounds_toArray, List.set_cons_zero, List.set_cons_succ, i64_w, i32_w]
         rfl
        exact norm_ viaP (hCont (.slice Ao75 t174.length co75, gb177) _ ⟨hHeld, (zz46 HO176), (zz47 HO_8), (zz47 HO_9), (zz6 BK152), (zz6 BK153), (zz6 BK177), GW177.out, GE177.out, NB152_177.out, NB177_152.out, NB153_177.out, NB177_153.out, (zz9 HB GE152 GE153 GE177)⟩)
       ·skip
        refine box_step ?hg (N := 15) ?hd (cs := #[.string (⟨#[]⟩ : ByteArray), .slice none 0 0, .bool false, .string (⟨#[]⟩ : ByteArray)]) (t := 47) ?hr ?_; (case hd => rfl); (case hg => rfl); (case hr => exact zz12);intro gb177 hg w74 hbox hb;have n0_ := Aside0.mk (Kd.R_below (zz10 HO_8) hb);have n1_ := Aside0.mk (Kd.R_below (zz10 HO_9) hb);have n2_ := Aside0.mk (blk_below (zz6 BK152) hb);have n3_ := Aside0.mk (blk_below (zz6 BK153) hb);have n4_ := Aside0.mk (below_step (zz7 HB GE152 GE153) hb);have n5_ := Aside0.mk (hbox);have n6_ := Aside0.mk ((by rw [hg]; exact (below_size (zz7 HB GE152 GE153)) : w.heap.size ≤ gb177));have n7_ := Aside0.mk ((by rw [hg]; exact (below_size (zz7 HB GE152 GE153)) : w.heap.size ≤ gb177));have n8_ := Aside0.mk ((by rw [hg]; exact Nat.ne_of_lt (blk_lt (zz6 BK152)) : gb152 ≠ gb177));have n9_ := Aside0.mk ((by rw [hg]; exact Nat.ne_of_gt (blk_lt (zz6 BK152)) : gb177 ≠ gb152));have n10_ := Aside0.mk ((by rw [hg]; exact Nat.ne_of_lt (blk_lt (zz6 BK153)) : gb153 ≠ gb177));have n11_ := Aside0.mk ((by rw [hg]; exact Nat.ne_of_gt (blk_lt (zz6 BK153)) : gb177 ≠ gb153));clear HO_8;clear HO_9;clear BK152;clear BK153;clear HB;have HO_8 := n0_;have HO_9 := n1_;have BK152 := n2_;have BK153 := n3_;have HB := n4_;have BK177 := n5_;have GW177 := n6_;have GE177 := n7_;have NB152_177 := n8_;have NB177_152 := n9_;have NB153_177 := n10_;have NB177_153 := n11_;clear n0_ n1_ n2_ n3_ n4_ n5_ n6_ n7_ n8_ n9_ n10_ n11_;clear hb hbox hg;refine hK.out _ _ ⟨(blk_cell BK152.out 0).trans rfl, (blk_cell BK152.out 1).trans rfl, (blk_cell BK152.out 2).trans rfl, (blk_cell BK152.out 3).trans rfl⟩ (fun hHeld => ?_);clear hK K;refine norm_ (a' := ?_) ?_ ?_;rotate_left
        ·show Act.put _ (some 15) _ = _
         simp only [Act.put, List.setIfInBounds_toArray, List.set_cons_zero, List.set_cons_succ, i64_w, i32_w]
         rfl
        refine one_ (i := 3) (N := some 57) #[true, true, true, true, true, true, false, true, false] rfl rfl (one_of HT_.out (by kernel_rfl)) (by decide) (fun K hK => ?_);refine goes_ Tryd.func37 (by kernel_rfl) rfl #[.slice Ao72 x8_1.length co72] (by rfl) rfl rfl zz16 ?_;with_reducible refine (spec_PathClean.calls k1 _ _ x8_1 t174 _ ?side1 ?side2 A27.out).mono ?_
        (case side1 => exact (zz45 HO_8))
        (case side2 => exact (Kd.R_reads' HO_8.out).2.1)
        rintro e w75 ⟨v175, rfl, ho0, hb⟩;refine ⟨_, rfl, ?_⟩;have n0_ := Aside0.mk (Kd.R_elder' (zz10 HO_8) (Kd.R_base ho0) hb);have n1_ := Aside0.mk (Kd.R_elder' (zz10 HO_9) (Kd.R_base ho0) hb);have n2_ := Aside0.mk (Kd.R_lower (Kd.R_new' (Kd.R_new' ho0 (Kd.R_lt (zz10 HO_8))) (Kd.R_lt (zz10 HO_9))) (below_size (zz9 HB GE152 GE153 GE177)));have n3_ := Aside0.mk (blk_below (zz6 BK152) hb);have n4_ := Aside0.mk (blk_below (zz6 BK153) hb);have n5_ := Aside0.mk (blk_below (zz6 BK177) hb);have n6_ := Aside0.mk (below_step (zz9 HB GE152 GE153 GE177) hb);clear HO_8;clear HO_9;clear BK152;clear BK153;clear BK177;clear HB;have HO_8 := n0_;have HO_9 := n1_;have HO176 := n2_;have BK152 := n3_;have BK153 := n4_;have BK177 := n5_;have HB := n6_;clear n0_ n1_ n2_ n3_ n4_ n5_ n6_;(try clear hb)
        (try clear hb2)
        (try clear hk)
        (try clear hi)
        (try clear ho0)
        obtain ⟨Ao76, co76, eo76⟩ := Kd.R_slice HO176.out;(first | subst eo76 | (injection eo76 with f1_ f2_ f3_; have f4_ := f1_.symm; have f5_ := f3_.symm; clear f1_ f2_ f3_; subst f4_; subst f5_))
        refine hK.out _ _ ⟨(blk_cell BK152.out 0).trans rfl, (blk_cell BK152.out 1).trans rfl, (blk_cell BK152.out 2).trans rfl, (blk_cell BK152.out 3).trans rfl⟩ (fun hHeld => ?_);clear hK K;refine norm_ (a' := ?_) ?_ ?_;rotate_left
        ·show Act.put _ (some 57) _ = _
         simp only [Act.put, List.setIfInBounds_toArray, List.set_cons_zero, List.set_cons_succ, i64_w, i32_w]
         rfl
        refine pureZ 6 (some 60) #[true, true, true, true, true, true, true, true, false] ?_;exact norm_ viaP (hCont (.slice Ao76 t174.length co76, gb177) _ ⟨hHeld, (zz46 HO176), (zz47 HO_8), (zz47 HO_9), (zz6 BK152), (zz6 BK153), (zz6 BK177), GW177.out, GE177.out, NB152_177.out, NB177_152.out, NB153_177.out, NB177_153.out, (zz9 HB GE152 GE153 GE177)⟩)
      rintro ⟨v175, gb177⟩ w77 ⟨hS_, h0_, h1_, h2_, h3_, h4_, h5_, h6_, h7_, h8_, h9_, h10_, h11_, h12_⟩;have n0_ : Aside0 (Kd.R Kd.string 9 w77 w.heap.size (fun k_ => some k_ ≠ (.slice Ao72 x8_1.length co72 : Value).ownBlock ∧ some k_ ≠ (.slice Ao70 t163.length co70 : Value).ownBlock) v175 t174) := ⟨h0_⟩;have n1_ : Aside0 (Kd.R Kd.string 9 w77 w.heap.size (fun k_ => some k_ ≠ (v175 : Value).ownBlock ∧ some k_ ≠ (.slice Ao70 t163.length co70 : Value).ownBlock) (.slice Ao72 x8_1.length co72) x8_1) := ⟨h1_⟩;have n2_ : Aside0 (Kd.R Kd.string 9 w77 w.heap.size (fun k_ => some k_ ≠ (v175 : Value).ownBlock ∧ some k_ ≠ (.slice Ao72 x8_1.length co72 : Value).ownBlock) (.slice Ao70 t163.length co70) t163) := ⟨h2_⟩;have n3_ : Aside0 (w77.heap[gb152]? = some (.cells #[.string a0_0, .slice A0_1 l0_1.length c0_1, .bool a0_2, .string a0_3] 47 (0, 0))) := ⟨h3_⟩;have n4_ : Aside0 (w77.heap[gb153]? = some (.cells #[.string x154000_1, .slice none 0 0, .bool x154002_1, .string x154003_1] 47 (0, 0))) := ⟨h4_⟩;have n5_ : Aside0 (w77.heap[gb177]? = some (.cells #[.string (⟨#[]⟩ : ByteArray), .slice none 0 0, .bool false, .string (⟨#[]⟩ : ByteArray)] 47 (0, 0))) := ⟨h5_⟩;have n6_ : Aside0 (w.heap.size ≤ gb177) := ⟨h6_⟩;have n7_ : Aside0 (w.heap.size ≤ gb177) := ⟨h7_⟩;have n8_ : Aside0 (gb152 ≠ gb177) := ⟨h8_⟩;have n9_ : Aside0 (gb177 ≠ gb152) := ⟨h9_⟩;have n10_ : Aside0 (gb153 ≠ gb177) := ⟨h10_⟩;have n11_ : Aside0 (gb177 ≠ gb153) := ⟨h11_⟩;have n12_ : Aside0 (Below w.heap.size w w77) := ⟨h12_⟩;clear HO_8;clear HO_9;clear BK152;clear BK153;clear HB;clear h0_ h1_ h2_ h3_ h4_ h5_ h6_ h7_ h8_ h9_ h10_ h11_ h12_;have HO176 := n0_;have HO_8 := n1_;have HO_9 := n2_;have BK152 := n3_;have BK153 := n4_;have BK177 := n5_;have GW177 := n6_;have GE177 := n7_;have NB152_177 := n8_;have NB177_152 := n9_;have NB153_177 := n10_;have NB177_153 := n11_;have HB := n12_;clear n0_ n1_ n2_ n3_ n4_ n5_ n6_ n7_ n8_ n9_ n10_ n11_ n12_;have hHeld : w77.cell? ⟨gb152, 0, none⟩ = some (.string a0_0) ∧ w77.cell? ⟨gb152, 1, none⟩ = some (.slice A0_1 l0_1.length c0_1) ∧ w77.cell? ⟨gb152, 2, none⟩ = some (.bool a0_2) ∧ w77.cell? ⟨gb152, 3, none⟩ = some (.string a0_3) := hS_;obtain ⟨Ao78, co78, eo78⟩ := Kd.R_slice HO176.out;(first | subst eo78 | (injection eo78 with f1_ f2_ f3_; have f4_ := f1_.symm; have f5_ := f3_.symm; clear f1_ f2_ f3_; subst f4_; subst f5_))
      refine norm_ (a' := ?_) ?_ ?_;rotate_left
      ·simp only [putAll, Act.put, List.setIfInBounds_toArray, List.set_cons_zero, List.set_cons_succ]
       rfl
      refine one_ (i := 8) (N := none) #[true, true, true, true, true, true, true, true, true] rfl rfl (one_of HT_.out (by kernel_rfl)) (by decide) (fun K hK => ?_);have hs79 : w77.cell? ⟨gb177, 0, none⟩ = some (.string (⟨#[]⟩ : ByteArray)) := (blk_cell BK177.out 0).trans rfl;have hfs79 := blk_frozen BK177.out 0;have hns79_0 := NB152_177.out;have hns79_1 := NB153_177.out;have hms79_0 := NB177_152.out;have hms79_1 := NB177_153.out;have hs80 : w77.cell? ⟨gb177, 1, none⟩ = some (.slice none 0 0) := (blk_cell BK177.out 1).trans rfl;have hfs80 := blk_frozen BK177.out 1;have hns80_0 := NB152_177.out;have hns80_1 := NB153_177.out;have hms80_0 := NB177_152.out;have hms80_1 := NB177_153.out;have hs81 : w77.cell? ⟨gb177, 2, none⟩ = some (.bool false) := (blk_cell BK177.out 2).trans rfl;have hfs81 := blk_frozen BK177.out 2;have hns81_0 := NB152_177.out;have hns81_1 := NB153_177.out;have hms81_0 := NB177_152.out;have hms81_1 := NB177_153.out;have hs82 : w77.cell? ⟨gb177, 3, none⟩ = some (.string (⟨#[]⟩ : ByteArray)) := (blk_cell BK177.out 3).trans rfl;have hfs82 := blk_frozen BK177.out 3;have hns82_0 := NB152_177.out;have hns82_1 := NB153_177.out;have hms82_0 := NB177_152.out;have hms82_1 := NB177_153.out;refine skip_ (w1 := ?_) (by rfl) rfl ?_ ?_;rotate_left
      ·go_simp
       rfl
      refine hK.out _ _ ⟨((cell_far (p := ⟨gb177, _, none⟩) NB152_177.out _).trans (((cell_far (p := ⟨gb177, _, none⟩) NB152_177.out _).trans (((cell_far (p := ⟨gb177, _, none⟩) NB152_177.out _).trans (((cell_far (p := ⟨gb177, _, none⟩) NB152_177.out _).trans (hHeld.1)))))))), ((cell_far (p := ⟨gb177, _, none⟩) NB152_177.out _).trans (((cell_far (p := ⟨gb177, _, none⟩) NB152_177.out _).trans (((cell_far (p := ⟨gb177, _, none⟩) NB152_177.out _).trans (((cell_far (p := ⟨gb177, _, none⟩) NB152_177.out _).trans (hHeld.2.1)))))))), ((cell_far (p := ⟨gb177, _, none⟩) NB152_177.out _).trans (((cell_far (p := ⟨gb177, _, none⟩) NB152_177.out _).trans (((cell_far (p := ⟨gb177, _, none⟩) NB152_177.out _).trans (((cell_far (p := ⟨gb177, _, none⟩) NB152_177.out _).trans (hHeld.2.2.1)))))))), ((cell_far (p := ⟨gb177, _, none⟩) NB152_177.out _).trans (((cell_far (p := ⟨gb177, _, none⟩) NB152_177.out _).trans (((cell_far (p := ⟨gb177, _, none⟩) NB152_177.out _).trans (((cell_far (p := ⟨gb177, _, none⟩) NB152_177.out _).trans (hHeld.2.2.2))))))))⟩ (fun hHeld => ?_);clear hK K;refine done_ (done_of HT_.out (by kernel_rfl)) ?_;have hnb83 := NB153_152.out;have hnc83 := NB152_153.out;have hnb84 := NB153_177.out;have hnc84 := NB177_153.out;obtain ⟨_, _, _, _, _, _, _, _⟩ := cf4 BK153;try go_wp2
      refine bodyPost_ret (results_ct rfl _ _ gb153 47 #[.string (⟨#[]⟩ : ByteArray), .slice none 0 0, .bool false, .string (⟨#[]⟩ : ByteArray)] (0, 0) _ rfl (zz8 BK153 NB153_177) Tryd.underlying47 rfl (by kernel_rfl)) rfl ?_;exact ⟨_, zz1, zz44, (zz9 HB GE152 GE153 GE177)⟩
 ·rw [if_neg c4] at H
  exact absurd H (by simp)
end Go.Proofs.YtpnedbnpnekahaaDoor.P
end
section
namespace Go.Proofs.YtpnedbnpnekahaaDoor.P
open Go.RowKit Go.Proofs.YtpnedbnpnekahaaDoorW.PrintWords Go.Proofs.YtpnedbnpnekahaaDoorW.PrintLast Go.Proofs.YtpnedbnpnekahaaDoorW.PrintMore
set_option linter.unusedVariables false
section
variable {P : Program} {ops : Array Oper} {Q : Exit → Act → World → Prop}
end
theorem size_set (w : World) (p : Addr) (u : Value) : (w.setCell p u).heap.size = w.heap.size := by simp
end Go.Proofs.YtpnedbnpnekahaaDoor.P
end
section
namespace Go.Proofs.YtpnedbnpnekahaaDoor.B
open Go.RowKit Go.Proofs.YtpnedbnpnekahaaDoorW.PrintWords Go.Proofs.YtpnedbnpnekahaaDoorW.PrintLast Go.Proofs.YtpnedbnpnekahaaDoorW.PrintMore
set_option linter.unusedVariables false
set_option linter.unusedSimpArgs false
theorem w64 {n : Int} (h0 : -9223372036854775808 ≤ n) (h1 : n < 9223372036854775808) : wrap64 n = n := by
 unfold wrap64; omega
abbrev L (s : ByteArray) : List UInt8 := s.data.toList
theorem L_size (s : ByteArray) : (L s).length = s.size := (Lib.size_eq s).symm
theorem L_app (a b : ByteArray) : L (a ++ b) = L a ++ L b := by simp [L]
theorem L_ext (s : ByteArray) (a b : Nat) : L (s.extract a b) = ((L s).drop a).take (b - a) := Lib.extract_data s a b
theorem L_inj {a b : ByteArray} (h : L a = L b) : a = b := by
 cases a; cases b; congr 1; exact Array.toList_inj.1 h
theorem toList_inj {a b : ByteArray} : a.toList = b.toList ↔ a = b := by
 rw [Lib.toList_data, Lib.toList_data]; exact ⟨fun h => L_inj h, fun h => by rw [h]⟩
theorem toList_nil {a : ByteArray} : a.toList = ([] : List UInt8) ↔ a.size = 0 := by
 rw [Lib.toList_data, Lib.size_eq]; exact List.length_eq_zero_iff.symm
theorem bt_L (s : ByteArray) (i : Nat) : bt s i = (((L s).getD i 0).toNat : Int) := by
 unfold bt
 simp only [Int.toNat_natCast]
 split
 ·rename_i h
  rw [List.getD_eq_getElem?_getD, List.getElem?_eq_getElem (by rw [L_size]; exact h)]
  simp [L]
  rfl
 ·rename_i h
  rw [List.getD_eq_getElem?_getD, List.getElem?_eq_none (by rw [L_size]; omega)]
  rfl
theorem Ev_succ {α : Type} {g : Nat → Option α} {r : α} (h : Ev (fun k => g (k + 1)) r) : Ev g r := Ev.step (f := fun k => g (k + 1)) (fun _ => rfl) h
end Go.Proofs.YtpnedbnpnekahaaDoor.B
end
section
namespace Go.Proofs.YtpnedbnpnekahaaDoor.Ad
open Go.RowKit Go.Proofs.YtpnedbnpnekahaaDoorW.PrintWords Go.Proofs.YtpnedbnpnekahaaDoor.B
set_option linter.unusedVariables false
set_option linter.unusedSimpArgs false
abbrev ofL (l : List UInt8) : ByteArray := ⟨l.toArray⟩
theorem L_of (l : List UInt8) : L (ofL l) = l := by simp [L]
theorem of_L (s : ByteArray) : ofL (L s) = s := by apply L_inj; simp [L]
theorem ofL_app (a b : List UInt8) : ofL (a ++ b) = ofL a ++ ofL b := by apply L_inj; rw [L_of, L_app, L_of, L_of]
theorem ofL_size (l : List UInt8) : (ofL l).size = l.length := by rw [← L_size, L_of]
def plainB (c : UInt8) : Bool := (decide (97 ≤ c.toNat) && decide (c.toNat ≤ 122)) || (decide (48 ≤ c.toNat) && decide (c.toNat ≤ 57)) || c.toNat == 46 || c.toNat == 45
def hexN (c : UInt8) : Option Nat :=
 if 48 ≤ c.toNat ∧ c.toNat ≤ 57 then some (c.toNat - 48) else if 97 ≤ c.toNat ∧ c.toNat ≤ 102 then some (c.toNat - 87) else if 65 ≤ c.toNat ∧ c.toNat ≤ 70 then some (c.toNat - 55) else none
theorem hexN_lt {c : UInt8} {x : Nat} (h : hexN c = some x) : x < 16 := by
 unfold hexN at h
 split at h
 ·injection h; omega
 ·split at h
  ·injection h; omega
  ·split at h
   ·injection h; omega
   ·cases h
def fig (n : Nat) : UInt8 := if n < 10 then UInt8.ofNat (48 + n) else UInt8.ofNat (55 + n)
def encN (n : Nat) : List UInt8 := if plainB (UInt8.ofNat n) then [UInt8.ofNat n] else [37, fig (n / 16), fig (n % 16)]
theorem encN_len (n : Nat) : (encN n).length ≤ 3 := by unfold encN; split <;> simp
def esc : List UInt8 → Option (List UInt8)
 | [] => some []
 | c :: r => if c = 37 then (match r with
   | a :: b :: q => (match hexN a, hexN b with
    | some x, some y => (esc q).map (encN (x * 16 + y) ++ ·)
    | _, _ => none)
   | _ => none) else (esc r).map (encN c.toNat ++ ·)
theorem esc_short {r : List UInt8} (h : r.length ≤ 1) : esc (37 :: r) = none := by
 match r, h with
 | [], _ => simp [esc]
 | [_], _ => simp [esc]
 | _ :: _ :: _, h => simp at h
theorem esc_bad1 {a : UInt8} (b : UInt8) (q : List UInt8) (h : hexN a = none) : esc (37 :: a :: b :: q) = none := by simp [esc, h]
theorem esc_bad2 (a : UInt8) {b : UInt8} (q : List UInt8) (h : hexN b = none) : esc (37 :: a :: b :: q) = none := by
 cases ha : hexN a <;> simp [esc, h, ha]
theorem esc_sign {a b : UInt8} {x y : Nat} (q : List UInt8) (ha : hexN a = some x) (hb : hexN b = some y) : esc (37 :: a :: b :: q) = (esc q).map (encN (x * 16 + y) ++ ·) := by simp [esc, ha, hb]
theorem esc_plain {c : UInt8} (r : List UInt8) (h : c ≠ 37) : esc (c :: r) = (esc r).map (encN c.toNat ++ ·) := by rw [esc.eq_def]; exact if_neg h
def escO (o : Option (List UInt8)) : ByteArray × Bool := match o with
 | some r => (ofL r, true)
 | none => (⟨#[]⟩, false)
def escNorm (s : ByteArray) : ByteArray × Bool := if s.size > 60 then (⟨#[]⟩, false) else escO (esc (L s))
def isNorm (s : ByteArray) : Bool := (escNorm s).2 && ((escNorm s).1.toList == s.toList)
theorem esc_len (n : Nat) : ∀ (l r : List UInt8), l.length ≤ n → esc l = some r → r.length ≤ 3 * l.length := by
 induction n with
 | zero =>
  intro l r hl h
  obtain rfl : l = [] := List.length_eq_zero_iff.1 (by omega)
  simp [esc] at h
  subst h
  simp
 | succ n ih =>
  intro l r hl h
  match l, hl, h with
  | [], _, h => simp [esc] at h; subst h; simp
  | c :: q, hl, h =>
   unfold esc at h
   split at h
   ·match q, hl, h with
    | a :: b :: q', hl, h =>
     simp only at h
     split at h
     ·obtain ⟨t, ht, rfl⟩ := Option.map_eq_some_iff.1 h
      have := ih q' t (by simp at hl; omega) ht
      exact Nat.le_trans (by rw [List.length_append]; exact Nat.add_le_add (encN_len _) this) (by simp only [List.length_cons]; omega)
     ·cases h
    | [], _, h => simp at h
    | [_], _, h => simp at h
   ·obtain ⟨t, ht, rfl⟩ := Option.map_eq_some_iff.1 h
    have := ih q t (by simp at hl; omega) ht
    exact Nat.le_trans (by rw [List.length_append]; exact Nat.add_le_add (encN_len _) this) (by simp only [List.length_cons]; omega)
theorem escNorm_size (s : ByteArray) : (escNorm s).1.size ≤ 180 := by
 unfold escNorm
 split
 ·exact Nat.zero_le _
 ·unfold escO
  split
  ·rename_i h1 _ r h
   have := esc_len _ _ _ (Nat.le_refl _) h
   rw [ofL_size]
   rw [L_size] at this
   omega
  ·exact Nat.zero_le _
def body : List ByteArray → ByteArray
 | [] => ⟨#[47]⟩
 | p :: r => r.foldl (fun a q => (a ++ ⟨#[47]⟩) ++ q) ((⟨#[47]⟩ : ByteArray) ++ p)
def pathB (parts : List ByteArray) (asks : Bool) (ask : ByteArray) : ByteArray := if asks = true then (body parts ++ ⟨#[63]⟩) ++ ask else body parts
def textB (house : ByteArray) (parts : List ByteArray) (asks : Bool) (ask : ByteArray) : ByteArray := ((⟨#[47, 47]⟩ : ByteArray) ++ house) ++ pathB parts asks ask
def partOk (p : ByteArray) : Bool := isNorm p && !(p.toList == []) && !(p.toList == [46]) && !(p.toList == [46, 46])
def smallFrom (s : ByteArray) : Nat → Nat → Bool
 | 0, _ => true
 | d + 1, i => if bt s i < 97 then false else if bt s i > 122 then false else smallFrom s d (i + 1)
def isSmall (s : ByteArray) : Bool := smallFrom s s.size 0
def isHouse (s : ByteArray) : Bool := decide (1 ≤ s.size) && decide (s.size ≤ 5) && isSmall s
def addrOk (house : ByteArray) (parts : List ByteArray) (asks : Bool) (ask : ByteArray) : Bool :=
 isHouse house && decide (parts.length ≤ 5) && isNorm ask && (asks || ask.toList == []) && parts.all partOk && decide ((textB house parts asks ask).size ≤ 60)
def addrText (house : ByteArray) (parts : List ByteArray) (asks : Bool) (ask : ByteArray) : ByteArray := if addrOk house parts asks ask = true then textB house parts asks ask else ⟨#[]⟩
theorem isNorm_size {s : ByteArray} (h : isNorm s = true) : s.size ≤ 60 := by
 unfold isNorm escNorm at h
 split at h
 ·simp at h
 ·omega
def sm (b : UInt8) : UInt8 := if 65 ≤ b.toNat ∧ b.toNat ≤ 90 then b + 32 else b
def smallB (s : ByteArray) : ByteArray := ofL ((L s).map sm)
end Go.Proofs.YtpnedbnpnekahaaDoor.Ad
end
section
namespace Go.Proofs.YtpnedbnpnekahaaDoor.P
open Go.RowKit Go.Proofs.YtpnedbnpnekahaaDoorW.PrintWords Go.Proofs.YtpnedbnpnekahaaDoorW.PrintLast Go.Proofs.YtpnedbnpnekahaaDoorW.PrintMore Go.Proofs.YtpnedbnpnekahaaDoor.B Go.Proofs.YtpnedbnpnekahaaDoor.Ad
set_option linter.unusedVariables false
set_option linter.unusedSimpArgs false
def SmRow (b : Nat) (s : ByteArray) (i : Nat) (w : World) : Prop :=
 b < w.heap.size ∧ ∀ j, j < s.size → w.cell? ⟨b, j, none⟩ = some (.int .u8 ((if j < i then sm ((L s).getD j 0) else (L s).getD j 0).toNat : Nat)) ∧ w.frozen? ⟨b, j, none⟩ = false
theorem sm_start (w : World) (e : TypeId) (s : ByteArray) : SmRow w.heap.size s 0 (Lib.bytesWorld w e s) := by
 refine ⟨by rw [Lib.bytesWorld_size]; omega, fun j hj => ⟨?_, ?_⟩⟩
 ·rw [Lib.bytesWorld_cell w e s j hj]; simp [L]
 ·have hk : s.size ≤ (Lib.bytesCells w e s).size := by rw [Lib.bytesCells]; simp
  simp only [World.frozen?, Lib.bytesWorld_at_new]
  simp
  omega
theorem sm_below (w : World) (e : TypeId) (s : ByteArray) : Below w.heap.size w (Lib.bytesWorld w e s) := by
 refine ⟨rfl, rfl, rfl, by rw [Lib.bytesWorld_size]; omega, fun j hj => Lib.bytesWorld_at_old w e s j hj⟩
theorem sm_set {b : Nat} {s : ByteArray} {i : Nat} {w : World} (h : SmRow b s i w) (hi : i < s.size) : SmRow b s (i + 1) (w.setCell ⟨b, i, none⟩ (.int .u8 ((sm ((L s).getD i 0)).toNat : Nat))) := by
 refine ⟨by rw [size_set]; exact h.1, fun j hj => ⟨?_, by rw [World.frozen?_setCell]; exact (h.2 j hj).2⟩⟩
 rcases Nat.lt_trichotomy j i with h1 | h1 | h1
 ·rw [World.cell?_setCell_other _ _ _ _ (by intro e; injection e with _ e; omega), (h.2 j hj).1, if_pos h1, if_pos (by omega)]
 ·subst h1; rw [World.cell?_setCell_same _ _ _ (h.2 j hj).1, if_pos (by omega)]
 ·rw [World.cell?_setCell_other _ _ _ _ (by intro e; injection e with _ e; omega), (h.2 j hj).1, if_neg (by omega), if_neg (by omega)]
theorem sm_skip {b : Nat} {s : ByteArray} {i : Nat} {w : World} (h : SmRow b s i w) (hi : i < s.size) (he : sm ((L s).getD i 0) = (L s).getD i 0) : SmRow b s (i + 1) w := by
 refine ⟨h.1, fun j hj => ⟨?_, (h.2 j hj).2⟩⟩
 rw [(h.2 j hj).1]
 rcases Nat.lt_trichotomy j i with h1 | h1 | h1
 ·rw [if_pos h1, if_pos (by omega)]
 ·subst h1; rw [if_neg (by omega), if_pos (by omega), he]
 ·rw [if_neg (by omega), if_neg (by omega)]
end Go.Proofs.YtpnedbnpnekahaaDoor.P
end
section
namespace Go.Proofs.YtpnedbnpnekahaaDoor.P
open Go.RowKit Go.Proofs.YtpnedbnpnekahaaDoorW.PrintWords Go.Proofs.YtpnedbnpnekahaaDoorW.PrintLast Go.Proofs.YtpnedbnpnekahaaDoorW.PrintMore Go.Proofs.YtpnedbnpnekahaaDoor.B Go.Proofs.YtpnedbnpnekahaaDoor.Ad
set_option linter.unusedVariables false
set_option linter.unusedSimpArgs false
def spec_l1Small.f (a0 : ByteArray) : Option (ByteArray) := if a0.size ≤ 140737488351232 then some (smallB a0) else none
set_option maxHeartbeats 400000 in
set_option maxRecDepth 100000 in
theorem spec_l1Small.calls (a0 r : ByteArray) (w : World) (h : spec_l1Small.f a0 = some r) :
  Calls Tryd.prog 30 #[.string a0] w fun e w' => e = .returned (.string r) ∧ Below w.heap.size w w' := by
 unfold spec_l1Small.f at h
 by_cases hs : a0.size ≤ 140737488351232
 ·rw [if_pos hs] at h
  obtain rfl := Option.some.inj h
  clear h
  have hcv := Lib.run_convert_string_bytes (P := Tryd.prog) w 9 63 5 a0 Tryd.underlying9 Tryd.underlying63 Tryd.underlying5
  go_enter Tryd.func30, Tryd.ntmps30
  go_wp2_with fail
  clear hcv
  go_loopw [4] (fun i wr => ∃ k : Nat, k ≤ a0.size ∧ i = .int .i64 k ∧ Aside0 (SmRow w.heap.size a0 k wr) ∧ Aside0 (Below w.heap.size w wr))
   (fun i _ => a0.size - (intOf i).toNat)
  case atStart =>
   refine ⟨0, Nat.zero_le _, rfl, ⟨sm_start w 5 a0⟩, ⟨?_⟩⟩
   exact sm_below w 5 a0
  case round =>
   obtain ⟨k, hk, rfl, hI, hB⟩ := hrel
   by_cases hlt : k < a0.size
   ·have hc := (hI.out.2 k hlt).1
    have hf := (hI.out.2 k hlt).2
    rw [if_neg (by omega)] at hc
    have hset := Aside0.mk (sm_set hI.out hlt)
    have hskip := Aside0.mk (sm_skip hI.out hlt)
    clear hI
    generalize (L a0).getD k 0 = b at hc hset hskip
    have hb := b.toNat_lt
    by_cases h1 : 65 ≤ b.toNat
    ·by_cases h2 : b.toNat ≤ 90
     ·have e1 : (sm b).toNat = b.toNat + 32 := by
       unfold sm
       rw [if_pos ⟨h1, h2⟩, UInt8.toNat_add]
       have : (32 : UInt8).toNat = 32 := rfl
       omega
      rw [e1, show ((b.toNat + 32 : Nat) : Int) = (b.toNat : Int) + 32 from by omega] at hset
      clear hskip e1
      go_wp2
      exact ⟨⟨k + 1, by omega, by go_num, hset, ⟨hB.out.setCell (Nat.le_refl _) _⟩⟩, by simp [intOf]; omega⟩
     ·have e1 : sm b = b := by unfold sm; rw [if_neg (by omega)]
      have hS : Aside0 (SmRow w.heap.size a0 (k + 1) wr) := ⟨hskip.out e1⟩
      clear e1 hset hskip
      go_wp2
      exact ⟨⟨k + 1, by omega, by go_num, hS, hB⟩, by simp [intOf]; omega⟩
    ·have e1 : sm b = b := by unfold sm; rw [if_neg (by omega)]
     have hS : Aside0 (SmRow w.heap.size a0 (k + 1) wr) := ⟨hskip.out e1⟩
     clear e1 hset hskip
     go_wp2
     exact ⟨⟨k + 1, by omega, by go_num, hS, hB⟩, by simp [intOf]; omega⟩
   ·have ek : k = a0.size := by omega
    have hcells : ∀ j (hj : j < (L (smallB a0)).length), wr.cell? ((⟨w.heap.size, 0, none⟩ : Addr).add j) = some (.int .u8 ((L (smallB a0))[j].toNat : Int)) := by
     intro j hj
     have hj' : j < a0.size := by rw [L_size, smallB, ofL_size, List.length_map, L_size] at hj; exact hj
     rw [add_plain, (hI.out.2 j hj').1, if_pos (by omega)]
     simp [smallB, L_of, List.getD_eq_getElem?_getD, List.getElem?_eq_getElem (show j < (L a0).length by rw [L_size]; exact hj')]
    have hcv := run_convert_bytes_back (P := Tryd.prog) wr 63 9 5 ⟨w.heap.size, 0, none⟩ (grownCap w a0.size 0 5) (L (smallB a0)) Tryd.underlying63 Tryd.underlying5 Tryd.underlying9 hcells
    have hl : (L (smallB a0)).length = a0.size := by rw [L_size, smallB, ofL_size, List.length_map, L_size]
    rw [hl, show (⟨(L (smallB a0)).toArray⟩ : ByteArray) = smallB a0 from of_L _] at hcv
    have Hk := Aside0.mk ek
    clear ek hcells hl
    go_wp2
    go_ret
    exact ⟨rfl, hB.out⟩
 ·rw [if_neg hs] at h; cases h
end Go.Proofs.YtpnedbnpnekahaaDoor.P
end
section
namespace Go.Proofs.YtpnedbnpnekahaaDoor.P
open Go.RowKit Go.Proofs.YtpnedbnpnekahaaDoorW.PrintWords Go.Proofs.YtpnedbnpnekahaaDoorW.PrintLast Go.Proofs.YtpnedbnpnekahaaDoorW.PrintMore
attribute [local go_sem] max2_int min2_int max_two min_two max_three min_three max_four min_four
set_option linter.unusedVariables false
set_option linter.unusedSimpArgs false
def spec_l1Whole.l0 : Nat → ByteArray → ByteArray → ByteArray → Int → Option (ByteArray × List ByteArray × Bool × ByteArray × Bool)
 | 0, _, _, _, _ => none
 | k + 1, x0, x4, x5, x6 => if x6 < (x0.size : Int) then (if 0 ≤ x6 then (if (bt x0 x6) = 47 then (if x6 ≤ (x0.size : Int) then ((spec_l1Small.f (x0.extract 0 (x6 : Int).toNat)).bind fun t180 => ((spec_l1Way.f k t180 ([] : List ByteArray) false (⟨#[]⟩ : ByteArray) (x0.extract (x6 : Int).toNat x0.size)).bind fun bt181 => (some (bt181.1, bt181.2.1, bt181.2.2.1, bt181.2.2.2.1, bt181.2.2.2.2)))) else (none)) else (if (bt x0 x6) = 63 then (if x6 ≤ (x0.size : Int) then ((spec_l1Small.f (x0.extract 0 (x6 : Int).toNat)).bind fun t188 => ((spec_l1Way.f k t188 ([] : List ByteArray) false (⟨#[]⟩ : ByteArray) (x0.extract (x6 : Int).toNat x0.size)).bind fun bt189 => (some (bt189.1, bt189.2.1, bt189.2.2.1, bt189.2.2.2.1, bt189.2.2.2.2)))) else (none)) else (spec_l1Whole.l0 k x0 x4 x5 (wrap64 (x6 + 1))))) else (none)) else ((spec_l1Small.f x4).bind fun t196 => ((spec_l1Way.f k t196 ([] : List ByteArray) false (⟨#[]⟩ : ByteArray) x5).bind fun bt197 => (some (bt197.1, bt197.2.1, bt197.2.2.1, bt197.2.2.2.1, bt197.2.2.2.2))))
def spec_l1Whole.f (k : Nat) (a0 : ByteArray) : Option (ByteArray × List ByteArray × Bool × ByteArray × Bool) := spec_l1Whole.l0 k a0 a0 (⟨#[]⟩ : ByteArray) 0
set_option maxHeartbeats 8000000 in
set_option maxRecDepth 100000 in
theorem spec_l1Whole.calls (k : Nat) (a0 : ByteArray) (r1 : ByteArray) (r2 : List ByteArray) (r3 : Bool) (r4 : ByteArray) (r5 : Bool) (w : World) (h : spec_l1Whole.f k a0 = some (r1, r2, r3, r4, r5)) :
  Calls Tryd.prog 25 #[.string a0] w fun e w' => ∃ v1_ : Value, e = .returned (.tuple #[.agg #[.string r1, v1_, .bool r3, .string r4], .bool r5]) ∧ Kd.R Kd.string 9 w' w.heap.size (fun _ => True) v1_ r2 ∧ Below w.heap.size w w' := by
 have hu47 := Tryd.underlying47;have HB := Aside0.mk (Below.refl w.heap.size w);have H : (spec_l1Whole.l0 k a0 a0 (⟨#[]⟩ : ByteArray) 0) = some (r1, r2, r3, r4, r5) := h;clear h;have H' := Aside0.mk H;clear H;go_enter Tryd.func25, Tryd.ntmps25;go_wp2_with (first | ((with_reducible refine gate_dst (N := 2) rfl ?_); refine boxE 2 #[.string (⟨#[]⟩ : ByteArray), .slice none 0 0, .bool false, .string (⟨#[]⟩ : ByteArray)] 47 ?_; intro gb179 hg w2 hbox hb; have n0_ := Aside0.mk (below_step (zz0 HB) hb); have n1_ := Aside0.mk (hbox); have n2_ := Aside0.mk ((by rw [hg]; exact (below_size (zz0 HB)) : w.heap.size ≤ gb179)); have n3_ := Aside0.mk ((by rw [hg]; exact (below_size (zz0 HB)) : w.heap.size ≤ gb179)); clear HB; have HB := n0_; have BK179 := n1_; have GW179 := n2_; have GE179 := n3_; clear n0_ n1_ n2_ n3_; clear hb hbox hg))
 go_loopg [4, 5, 6] k (fun kq v4 v5 v6 w' => ∃ (x4_1 : ByteArray) (x5_1 : ByteArray) (x6_1 : Int), v4 = .string x4_1 ∧ v5 = .string x5_1 ∧ v6 = .int .i64 x6_1 ∧ Aside0 (spec_l1Whole.l0 kq a0 x4_1 x5_1 x6_1 = some (r1, r2, r3, r4, r5)) ∧ Aside0 (kq ≤ k) ∧ Aside0 (w'.heap[gb179]? = some (.cells #[.string (⟨#[]⟩ : ByteArray), (.slice none 0 0), .bool false, .string (⟨#[]⟩ : ByteArray)] 47 (0, 0))) ∧ Aside0 (Below w.heap.size w w'))
 case atStart => exact ⟨(a0), ((⟨#[]⟩ : ByteArray)), (0), zz3, zz3, zz3, H', ⟨Nat.le_refl _⟩, ⟨(zz6 BK179)⟩, ⟨(zz2 HB GE179)⟩⟩
 case round =>
  clear H';obtain ⟨x4_1, x5_1, x6_1, rfl, rfl, rfl, HA, HK1, BK179, HB⟩ := hrel;cases gk with
  | zero => exact absurd HA.out (by simp [spec_l1Whole.l0])
  | succ k1 =>
   have H := HA.out;clear HA;simp only [spec_l1Whole.l0] at H
   by_cases c3 : x6_1 < (a0.size : Int)
   ·rw [if_pos c3] at H
    have c3b0 : decide (x6_1 < (a0.size : Int)) = true := decide_eq_true c3;clear c3;by_cases c4 : 0 ≤ x6_1
    ·rw [if_pos c4] at H
     have c4b0 : decide (0 ≤ x6_1) = true := decide_eq_true c4;clear c4;by_cases c6 : (bt a0 x6_1) = 47
     ·rw [if_pos c6] at H
      have c6b0 : ((bt a0 x6_1) == 47) = true := beq_iff_eq.mpr c6;have c6b1 : ((bt a0 x6_1) != 47) = false := bne_eq_false_iff_eq.mpr c6;clear c6;have c7b0 := eq_true (ofD : 0 ≤ x6_1);by_cases c8 : x6_1 ≤ (a0.size : Int)
      ·rw [if_pos c8] at H
       have c8b0 := eq_true c8;have c8b1 : decide (x6_1 ≤ (a0.size : Int)) = true := decide_eq_true c8;clear c8;have c9b0 := eq_true (ofD : 0 ≤ x6_1);have c10b0 := eq_true (ofD : x6_1 ≤ (a0.size : Int));replace H := bindA H;obtain ⟨t180, A11, H⟩ := H;replace H := bindA H;obtain ⟨⟨t181, t182, t185, t186, t187⟩, A12, H⟩ := H;try dsimp -simprocs only at H
       simp only [Option.some.injEq, Prod.mk.injEq] at H
       obtain ⟨rfl, rfl, rfl, rfl, rfl⟩ := H;have p5 : 0 ≤ (x6_1 : Int) := ofD;have q5 : x6_1 < (a0.size : Int) := ofD;have hx5 := bt_at a0 x6_1;replace p5 := eq_true p5;replace q5 := eq_true q5;go_wp2_with (first | ((with_reducible refine gate_callee (f := 30) rfl ?_); refine gsL (some 31) Tryd.func30 #[.string (a0.extract 0 (x6_1 : Int).toNat)] ?_; (with_reducible refine (spec_l1Small.calls (a0.extract 0 (x6_1 : Int).toNat) t180 _ A11.out).mono ?_); rintro e w13 ⟨rfl, hb⟩; refine ⟨_, rfl, ?_⟩; have n0_ := Aside0.mk (blk_below (zz6 BK179) hb); have n1_ := Aside0.mk (below_step (zz2 HB GE179) hb); clear BK179; clear HB; have BK179 := n0_; have HB := n1_; clear n0_ n1_; (try clear hb)) | ((with_reducible refine gate_callee (f := 29) rfl ?_); refine gsL (some 34) Tryd.func29 #[.agg #[.string t180, .slice none 0 0, .bool false, .string (⟨#[]⟩ : ByteArray)], .string (a0.extract (x6_1 : Int).toNat a0.size)] ?_; (refine (spec_l1Way.calls k1 t180 _ _ ([] : List ByteArray) false (⟨#[]⟩ : ByteArray) (a0.extract (x6_1 : Int).toNat a0.size) t181 t182 t185 t186 t187 _ ?side1 ?side2 A12.out).mono ?_); (case side1 => exact Kd.C_nil _ _); (case side2 => exact Nat.le_refl _); rintro e w14 ⟨v183, rfl, ho0, hb⟩; refine ⟨_, rfl, ?_⟩; have n0_ := Aside0.mk (Kd.R_lower ho0 (below_size (zz2 HB GE179))); have n1_ := Aside0.mk (blk_below (zz6 BK179) hb); have n2_ := Aside0.mk (below_step (zz2 HB GE179) hb); clear BK179; clear HB; have HO184 := n0_; have BK179 := n1_; have HB := n2_; clear n0_ n1_ n2_; (try clear hb ho0); obtain ⟨_, _, _, _, _, _, _, _⟩ := cf4 BK179; obtain ⟨Ao16, co16, eo16⟩ := Kd.R_slice HO184.out; subst eo16))
       refine bodyPost_ret (results_ct rfl _ _ gb179 47 #[.string t181, .slice Ao16 t182.length co16, .bool t185, .string t186] (0, 0) _ rfl (zz43 BK179) Tryd.underlying47 rfl (by kernel_rfl)) rfl ?_;exact ⟨_, zz1, (zz50 (rt HO184 BK179)), (zz2 HB GE179)⟩
      ·rw [if_neg c8] at H
       exact absurd H (by simp)
     ·rw [if_neg c6] at H
      have c6b0 : ((bt a0 x6_1) == 47) = false := beq_eq_false_iff_ne.mpr c6;have c6b1 : ((bt a0 x6_1) != 47) = true := bne_iff_ne.mpr c6;by_cases c18 : (bt a0 x6_1) = 63
      ·rw [if_pos c18] at H
       have c18b0 : ((bt a0 x6_1) == 63) = true := beq_iff_eq.mpr c18;have c18b1 : ((bt a0 x6_1) != 63) = false := bne_eq_false_iff_eq.mpr c18;clear c18;have c19b0 := eq_true (ofD : 0 ≤ x6_1);by_cases c20 : x6_1 ≤ (a0.size : Int)
       ·rw [if_pos c20] at H
        have c20b0 := eq_true c20;have c20b1 : decide (x6_1 ≤ (a0.size : Int)) = true := decide_eq_true c20;clear c20;have c21b0 := eq_true (ofD : 0 ≤ x6_1);have c22b0 := eq_true (ofD : x6_1 ≤ (a0.size : Int));replace H := bindA H;obtain ⟨t188, A23, H⟩ := H;replace H := bindA H;obtain ⟨⟨t189, t190, t193, t194, t195⟩, A24, H⟩ := H;try dsimp -simprocs only at H
        simp only [Option.some.injEq, Prod.mk.injEq] at H
        obtain ⟨rfl, rfl, rfl, rfl, rfl⟩ := H;have p5 : 0 ≤ (x6_1 : Int) := ofD;have q5 : x6_1 < (a0.size : Int) := ofD;have hx5 := bt_at a0 x6_1;replace p5 := eq_true p5;replace q5 := eq_true q5;have p17 : 0 ≤ (x6_1 : Int) := ofD;have q17 : x6_1 < (a0.size : Int) := ofD;have hx17 := bt_at a0 x6_1;replace p17 := eq_true p17;replace q17 := eq_true q17;go_wp2_with (first | ((with_reducible refine gate_callee (f := 30) rfl ?_); refine gsL (some 31) Tryd.func30 #[.string (a0.extract 0 (x6_1 : Int).toNat)] ?_; (with_reducible refine (spec_l1Small.calls (a0.extract 0 (x6_1 : Int).toNat) t188 _ A23.out).mono ?_); rintro e w25 ⟨rfl, hb⟩; refine ⟨_, rfl, ?_⟩; have n0_ := Aside0.mk (blk_below (zz6 BK179) hb); have n1_ := Aside0.mk (below_step (zz2 HB GE179) hb); clear BK179; clear HB; have BK179 := n0_; have HB := n1_; clear n0_ n1_; (try clear hb)) | ((with_reducible refine gate_callee (f := 29) rfl ?_); refine gsL (some 34) Tryd.func29 #[.agg #[.string t188, .slice none 0 0, .bool false, .string (⟨#[]⟩ : ByteArray)], .string (a0.extract (x6_1 : Int).toNat a0.size)] ?_; (refine (spec_l1Way.calls k1 t188 _ _ ([] : List ByteArray) false (⟨#[]⟩ : ByteArray) (a0.extract (x6_1 : Int).toNat a0.size) t189 t190 t193 t194 t195 _ ?side1 ?side2 A24.out).mono ?_); (case side1 => exact Kd.C_nil _ _); (case side2 => exact Nat.le_refl _); rintro e w26 ⟨v191, rfl, ho0, hb⟩; refine ⟨_, rfl, ?_⟩; have n0_ := Aside0.mk (Kd.R_lower ho0 (below_size (zz2 HB GE179))); have n1_ := Aside0.mk (blk_below (zz6 BK179) hb); have n2_ := Aside0.mk (below_step (zz2 HB GE179) hb); clear BK179; clear HB; have HO192 := n0_; have BK179 := n1_; have HB := n2_; clear n0_ n1_ n2_; (try clear hb ho0); obtain ⟨_, _, _, _, _, _, _, _⟩ := cf4 BK179; obtain ⟨Ao28, co28, eo28⟩ := Kd.R_slice HO192.out; subst eo28))
        refine bodyPost_ret (results_ct rfl _ _ gb179 47 #[.string t189, .slice Ao28 t190.length co28, .bool t193, .string t194] (0, 0) _ rfl (zz43 BK179) Tryd.underlying47 rfl (by kernel_rfl)) rfl ?_;exact ⟨_, zz1, (zz50 (rt HO192 BK179)), (zz2 HB GE179)⟩
       ·rw [if_neg c20] at H
        exact absurd H (by simp)
      ·rw [if_neg c18] at H
       have c18b0 : ((bt a0 x6_1) == 63) = false := beq_eq_false_iff_ne.mpr c18;have c18b1 : ((bt a0 x6_1) != 63) = true := bne_iff_ne.mpr c18;have H' := Aside0.mk H;clear H;have p5 : 0 ≤ (x6_1 : Int) := ofD;have q5 : x6_1 < (a0.size : Int) := ofD;have hx5 := bt_at a0 x6_1;replace p5 := eq_true p5;replace q5 := eq_true q5;have p17 : 0 ≤ (x6_1 : Int) := ofD;have q17 : x6_1 < (a0.size : Int) := ofD;have hx17 := bt_at a0 x6_1;replace p17 := eq_true p17;replace q17 := eq_true q17;go_wp2
       go_roundg k1
       case measure => have := HK1.out; omega
       case rel => exact ⟨(x4_1), (x5_1), (wrap64 (x6_1 + 1)), zz3, zz3, zz3, H', ⟨(zz5 HK1)⟩, ⟨(zz6 BK179)⟩, ⟨(zz2 HB GE179)⟩⟩
    ·rw [if_neg c4] at H
     exact absurd H (by simp)
   ·rw [if_neg c3] at H
    have c3b0 : decide (x6_1 < (a0.size : Int)) = false := decide_eq_false c3;clear c3;replace H := bindA H;obtain ⟨t196, A29, H⟩ := H;replace H := bindA H;obtain ⟨⟨t197, t198, t201, t202, t203⟩, A30, H⟩ := H;try dsimp -simprocs only at H
    simp only [Option.some.injEq, Prod.mk.injEq] at H
    obtain ⟨rfl, rfl, rfl, rfl, rfl⟩ := H;go_wp2_with (first | ((with_reducible refine gate_callee (f := 30) rfl ?_); refine gsL (some 31) Tryd.func30 #[.string x4_1] ?_; (with_reducible refine (spec_l1Small.calls x4_1 t196 _ A29.out).mono ?_); rintro e w31 ⟨rfl, hb⟩; refine ⟨_, rfl, ?_⟩; have n0_ := Aside0.mk (blk_below (zz6 BK179) hb); have n1_ := Aside0.mk (below_step (zz2 HB GE179) hb); clear BK179; clear HB; have BK179 := n0_; have HB := n1_; clear n0_ n1_; (try clear hb)) | ((with_reducible refine gate_callee (f := 29) rfl ?_); refine gsL (some 34) Tryd.func29 #[.agg #[.string t196, .slice none 0 0, .bool false, .string (⟨#[]⟩ : ByteArray)], .string x5_1] ?_; (refine (spec_l1Way.calls k1 t196 _ _ ([] : List ByteArray) false (⟨#[]⟩ : ByteArray) x5_1 t197 t198 t201 t202 t203 _ ?side1 ?side2 A30.out).mono ?_); (case side1 => exact Kd.C_nil _ _); (case side2 => exact Nat.le_refl _); rintro e w32 ⟨v199, rfl, ho0, hb⟩; refine ⟨_, rfl, ?_⟩; have n0_ := Aside0.mk (Kd.R_lower ho0 (below_size (zz2 HB GE179))); have n1_ := Aside0.mk (blk_below (zz6 BK179) hb); have n2_ := Aside0.mk (below_step (zz2 HB GE179) hb); clear BK179; clear HB; have HO200 := n0_; have BK179 := n1_; have HB := n2_; clear n0_ n1_ n2_; (try clear hb ho0); obtain ⟨_, _, _, _, _, _, _, _⟩ := cf4 BK179; obtain ⟨Ao34, co34, eo34⟩ := Kd.R_slice HO200.out; subst eo34))
    refine bodyPost_ret (results_ct rfl _ _ gb179 47 #[.string t197, .slice Ao34 t198.length co34, .bool t201, .string t202] (0, 0) _ rfl (zz43 BK179) Tryd.underlying47 rfl (by kernel_rfl)) rfl ?_;exact ⟨_, zz1, (zz50 (rt HO200 BK179)), (zz2 HB GE179)⟩
def spec_AddrRead.f (k : Nat) (a0 : ByteArray) : Option (ByteArray × List ByteArray × Bool × ByteArray × Bool) := (spec_l1Cut.f k a0 35).bind fun bt205 => (if (a0.size : Int) > 60 then (some ((⟨#[]⟩ : ByteArray), ([] : List ByteArray), false, (⟨#[]⟩ : ByteArray), false)) else (if (bt205.1.size : Int) < 2 then (some ((⟨#[]⟩ : ByteArray), ([] : List ByteArray), false, (⟨#[]⟩ : ByteArray), false)) else (if 0 ≤ 2 then (if 2 ≤ (bt205.1.size : Int) then (if (bt205.1.extract 0 2).toList = ([47, 47] : List UInt8) then ((spec_l1Whole.f k (bt205.1.extract 2 bt205.1.size)).bind fun bt208 => (some (bt208.1, bt208.2.1, bt208.2.2.1, bt208.2.2.2.1, bt208.2.2.2.2))) else (some ((⟨#[]⟩ : ByteArray), ([] : List ByteArray), false, (⟨#[]⟩ : ByteArray), false))) else (none)) else (none))))
set_option maxHeartbeats 8000000 in
set_option maxRecDepth 100000 in
theorem spec_AddrRead.calls (k : Nat) (a0 : ByteArray) (r1 : ByteArray) (r2 : List ByteArray) (r3 : Bool) (r4 : ByteArray) (r5 : Bool) (w : World) (h : spec_AddrRead.f k a0 = some (r1, r2, r3, r4, r5)) :
  Calls Tryd.prog 20 #[.string a0] w fun e w' => ∃ v1_ : Value, e = .returned (.tuple #[.agg #[.string r1, v1_, .bool r3, .string r4], .bool r5]) ∧ Kd.R Kd.string 9 w' w.heap.size (fun _ => True) v1_ r2 ∧ Below w.heap.size w w' := by
 have hu47 := Tryd.underlying47;have HB := Aside0.mk (Below.refl w.heap.size w);have H : ((spec_l1Cut.f k a0 35).bind fun bt205 => (if (a0.size : Int) > 60 then (some ((⟨#[]⟩ : ByteArray), ([] : List ByteArray), false, (⟨#[]⟩ : ByteArray), false)) else (if (bt205.1.size : Int) < 2 then (some ((⟨#[]⟩ : ByteArray), ([] : List ByteArray), false, (⟨#[]⟩ : ByteArray), false)) else (if 0 ≤ 2 then (if 2 ≤ (bt205.1.size : Int) then (if (bt205.1.extract 0 2).toList = ([47, 47] : List UInt8) then ((spec_l1Whole.f k (bt205.1.extract 2 bt205.1.size)).bind fun bt208 => (some (bt208.1, bt208.2.1, bt208.2.2.1, bt208.2.2.2.1, bt208.2.2.2.2))) else (some ((⟨#[]⟩ : ByteArray), ([] : List ByteArray), false, (⟨#[]⟩ : ByteArray), false))) else (none)) else (none))))) = some (r1, r2, r3, r4, r5) := h;clear h;replace H := bindA H;obtain ⟨⟨t205, t206, t207⟩, A2, H⟩ := H;try dsimp -simprocs only at H
 by_cases c3 : (a0.size : Int) > 60
 ·rw [if_pos c3] at H
  have c3b0 : decide (60 < (a0.size : Int)) = true := decide_eq_true c3;have c3b1 : decide (60 < a0.size) = true := decide_eq_true (by omega);clear c3;simp only [Option.some.injEq, Prod.mk.injEq] at H
  obtain ⟨rfl, rfl, rfl, rfl, rfl⟩ := H;go_enter Tryd.func20, Tryd.ntmps20;go_wp2_with (first | ((with_reducible refine gate_dst (N := 2) rfl ?_); (try (refine gate_guard (by rfl) ?_; dsimp only)); refine boxE 2 #[.string (⟨#[]⟩ : ByteArray), .slice none 0 0, .bool false, .string (⟨#[]⟩ : ByteArray)] 47 ?_; intro gb204 hg w4 hbox hb; have n0_ := Aside0.mk (below_step (zz0 HB) hb); have n1_ := Aside0.mk (hbox); have n2_ := Aside0.mk ((by rw [hg]; exact (below_size (zz0 HB)) : w.heap.size ≤ gb204)); have n3_ := Aside0.mk ((by rw [hg]; exact (below_size (zz0 HB)) : w.heap.size ≤ gb204)); clear HB; have HB := n0_; have BK204 := n1_; have GW204 := n2_; have GE204 := n3_; clear n0_ n1_ n2_ n3_; clear hb hbox hg) | ((with_reducible refine gate_callee (f := 24) rfl ?_); refine gsL (some 9) Tryd.func24 #[.string a0, .int .u8 35] ?_; (with_reducible refine (spec_l1Cut.calls k a0 35 t205 t206 t207 _ A2.out).mono ?_); rintro e w' ⟨rfl, ⟨nd, rfl⟩⟩; refine ⟨_, rfl, ?_⟩; (try (rw [drewN_self w4]; generalize hq_ : World.drewN w4 _ = w4; have n0_ : Aside0 (w4.heap[gb204]? = some (.cells #[.string (⟨#[]⟩ : ByteArray), .slice none 0 0, .bool false, .string (⟨#[]⟩ : ByteArray)] 47 (0, 0))) := ⟨zz54⟩; have n1_ : Aside0 (Below w.heap.size w w4) := ⟨zz55⟩; clear BK204 HB hq_; have BK204 := n0_; have HB := n1_; clear n0_ n1_)); obtain ⟨_, _, _, _, _, _, _, _⟩ := cf4 BK204))
  refine bodyPost_ret (results_ct rfl _ _ gb204 47 #[.string (⟨#[]⟩ : ByteArray), .slice none 0 0, .bool false, .string (⟨#[]⟩ : ByteArray)] (0, 0) _ rfl (zz43 BK204) Tryd.underlying47 rfl (by kernel_rfl)) rfl ?_;exact ⟨_, zz1, zz44, (zz2 HB GE204)⟩
 ·rw [if_neg c3] at H
  have c3b0 : decide (60 < (a0.size : Int)) = false := decide_eq_false c3;have c3b1 : decide (60 < a0.size) = false := decide_eq_false (by omega);clear c3;by_cases c6 : (t205.size : Int) < 2
  ·rw [if_pos c6] at H
   have c6b0 : decide ((t205.size : Int) < 2) = true := decide_eq_true c6;have c6b1 : decide (t205.size < 2) = true := decide_eq_true (by omega);clear c6;simp only [Option.some.injEq, Prod.mk.injEq] at H
   obtain ⟨rfl, rfl, rfl, rfl, rfl⟩ := H;go_enter Tryd.func20, Tryd.ntmps20;go_wp2_with (first | ((with_reducible refine gate_dst (N := 2) rfl ?_); (try (refine gate_guard (by rfl) ?_; dsimp only)); refine boxE 2 #[.string (⟨#[]⟩ : ByteArray), .slice none 0 0, .bool false, .string (⟨#[]⟩ : ByteArray)] 47 ?_; intro gb204 hg w7 hbox hb; have n0_ := Aside0.mk (below_step (zz0 HB) hb); have n1_ := Aside0.mk (hbox); have n2_ := Aside0.mk ((by rw [hg]; exact (below_size (zz0 HB)) : w.heap.size ≤ gb204)); have n3_ := Aside0.mk ((by rw [hg]; exact (below_size (zz0 HB)) : w.heap.size ≤ gb204)); clear HB; have HB := n0_; have BK204 := n1_; have GW204 := n2_; have GE204 := n3_; clear n0_ n1_ n2_ n3_; clear hb hbox hg) | ((with_reducible refine gate_callee (f := 24) rfl ?_); refine gsL (some 9) Tryd.func24 #[.string a0, .int .u8 35] ?_; (with_reducible refine (spec_l1Cut.calls k a0 35 t205 t206 t207 _ A2.out).mono ?_); rintro e w' ⟨rfl, ⟨nd, rfl⟩⟩; refine ⟨_, rfl, ?_⟩; (try (rw [drewN_self w7]; generalize hq_ : World.drewN w7 _ = w7; have n0_ : Aside0 (w7.heap[gb204]? = some (.cells #[.string (⟨#[]⟩ : ByteArray), .slice none 0 0, .bool false, .string (⟨#[]⟩ : ByteArray)] 47 (0, 0))) := ⟨zz54⟩; have n1_ : Aside0 (Below w.heap.size w w7) := ⟨zz55⟩; clear BK204 HB hq_; have BK204 := n0_; have HB := n1_; clear n0_ n1_)); obtain ⟨_, _, _, _, _, _, _, _⟩ := cf4 BK204))
   refine bodyPost_ret (results_ct rfl _ _ gb204 47 #[.string (⟨#[]⟩ : ByteArray), .slice none 0 0, .bool false, .string (⟨#[]⟩ : ByteArray)] (0, 0) _ rfl (zz43 BK204) Tryd.underlying47 rfl (by kernel_rfl)) rfl ?_;exact ⟨_, zz1, zz44, (zz2 HB GE204)⟩
  ·rw [if_neg c6] at H
   have c6b0 : decide ((t205.size : Int) < 2) = false := decide_eq_false c6;have c6b1 : decide (t205.size < 2) = false := decide_eq_false (by omega);clear c6;by_cases c9 : 0 ≤ 2
   ·rw [if_pos c9] at H
    have c9b0 := eq_true c9;have c9b1 : decide (0 ≤ 2) = true := decide_eq_true c9;clear c9;by_cases c10 : 2 ≤ (t205.size : Int)
    ·rw [if_pos c10] at H
     have c10b0 := eq_true c10;have c10b1 : decide (2 ≤ (t205.size : Int)) = true := decide_eq_true c10;clear c10;by_cases c11 : (t205.extract 0 2).toList = ([47, 47] : List UInt8)
     ·rw [if_pos c11] at H
      have c11b0 : ((t205.extract 0 2).toList == ([47, 47] : List UInt8)) = true := beq_iff_eq.mpr c11;have c11b1 : ((t205.extract 0 2).toList != ([47, 47] : List UInt8)) = false := bne_eq_false_iff_eq.mpr c11;clear c11;have c12b0 := eq_true (ofD : 2 ≤ (t205.size : Int));replace H := bindA H;obtain ⟨⟨t208, t209, t212, t213, t214⟩, A13, H⟩ := H;try dsimp -simprocs only at H
      simp only [Option.some.injEq, Prod.mk.injEq] at H
      obtain ⟨rfl, rfl, rfl, rfl, rfl⟩ := H;go_enter Tryd.func20, Tryd.ntmps20;go_wp2_with (first | ((with_reducible refine gate_dst (N := 2) rfl ?_); (try (refine gate_guard (by rfl) ?_; dsimp only)); refine boxE 2 #[.string (⟨#[]⟩ : ByteArray), .slice none 0 0, .bool false, .string (⟨#[]⟩ : ByteArray)] 47 ?_; intro gb204 hg w14 hbox hb; have n0_ := Aside0.mk (below_step (zz0 HB) hb); have n1_ := Aside0.mk (hbox); have n2_ := Aside0.mk ((by rw [hg]; exact (below_size (zz0 HB)) : w.heap.size ≤ gb204)); have n3_ := Aside0.mk ((by rw [hg]; exact (below_size (zz0 HB)) : w.heap.size ≤ gb204)); clear HB; have HB := n0_; have BK204 := n1_; have GW204 := n2_; have GE204 := n3_; clear n0_ n1_ n2_ n3_; clear hb hbox hg) | ((with_reducible refine gate_callee (f := 24) rfl ?_); refine gsL (some 9) Tryd.func24 #[.string a0, .int .u8 35] ?_; (with_reducible refine (spec_l1Cut.calls k a0 35 t205 t206 t207 _ A2.out).mono ?_); rintro e w' ⟨rfl, ⟨nd, rfl⟩⟩; refine ⟨_, rfl, ?_⟩; (try (rw [drewN_self w14]; generalize hq_ : World.drewN w14 _ = w14; have n0_ : Aside0 (w14.heap[gb204]? = some (.cells #[.string (⟨#[]⟩ : ByteArray), .slice none 0 0, .bool false, .string (⟨#[]⟩ : ByteArray)] 47 (0, 0))) := ⟨zz54⟩; have n1_ : Aside0 (Below w.heap.size w w14) := ⟨zz55⟩; clear BK204 HB hq_; have BK204 := n0_; have HB := n1_; clear n0_ n1_))) | ((with_reducible refine gate_callee (f := 25) rfl ?_); refine gsL (some 29) Tryd.func25 #[.string (t205.extract 2 t205.size)] ?_; (with_reducible refine (spec_l1Whole.calls k (t205.extract 2 t205.size) t208 t209 t212 t213 t214 _ A13.out).mono ?_); rintro e w15 ⟨v210, rfl, ho0, hb⟩; refine ⟨_, rfl, ?_⟩; have n0_ := Aside0.mk (Kd.R_lower ho0 (below_size (zz2 HB GE204))); have n1_ := Aside0.mk (blk_below (zz6 BK204) hb); have n2_ := Aside0.mk (below_step (zz2 HB GE204) hb); clear BK204; clear HB; have HO211 := n0_; have BK204 := n1_; have HB := n2_; clear n0_ n1_ n2_; (try clear hb ho0); obtain ⟨_, _, _, _, _, _, _, _⟩ := cf4 BK204; obtain ⟨Ao17, co17, eo17⟩ := Kd.R_slice HO211.out; subst eo17))
      refine bodyPost_ret (results_ct rfl _ _ gb204 47 #[.string t208, .slice Ao17 t209.length co17, .bool t212, .string t213] (0, 0) _ rfl (zz43 BK204) Tryd.underlying47 rfl (by kernel_rfl)) rfl ?_;exact ⟨_, zz1, (zz50 (rt HO211 BK204)), (zz2 HB GE204)⟩
     ·rw [if_neg c11] at H
      have c11b0 : ((t205.extract 0 2).toList == ([47, 47] : List UInt8)) = false := beq_eq_false_iff_ne.mpr c11;have c11b1 : ((t205.extract 0 2).toList != ([47, 47] : List UInt8)) = true := bne_iff_ne.mpr c11;simp only [Option.some.injEq, Prod.mk.injEq] at H
      obtain ⟨rfl, rfl, rfl, rfl, rfl⟩ := H;go_enter Tryd.func20, Tryd.ntmps20;go_wp2_with (first | ((with_reducible refine gate_dst (N := 2) rfl ?_); (try (refine gate_guard (by rfl) ?_; dsimp only)); refine boxE 2 #[.string (⟨#[]⟩ : ByteArray), .slice none 0 0, .bool false, .string (⟨#[]⟩ : ByteArray)] 47 ?_; intro gb204 hg w18 hbox hb; have n0_ := Aside0.mk (below_step (zz0 HB) hb); have n1_ := Aside0.mk (hbox); have n2_ := Aside0.mk ((by rw [hg]; exact (below_size (zz0 HB)) : w.heap.size ≤ gb204)); have n3_ := Aside0.mk ((by rw [hg]; exact (below_size (zz0 HB)) : w.heap.size ≤ gb204)); clear HB; have HB := n0_; have BK204 := n1_; have GW204 := n2_; have GE204 := n3_; clear n0_ n1_ n2_ n3_; clear hb hbox hg) | ((with_reducible refine gate_callee (f := 24) rfl ?_); refine gsL (some 9) Tryd.func24 #[.string a0, .int .u8 35] ?_; (with_reducible refine (spec_l1Cut.calls k a0 35 t205 t206 t207 _ A2.out).mono ?_); rintro e w' ⟨rfl, ⟨nd, rfl⟩⟩; refine ⟨_, rfl, ?_⟩; (try (rw [drewN_self w18]; generalize hq_ : World.drewN w18 _ = w18; have n0_ : Aside0 (w18.heap[gb204]? = some (.cells #[.string (⟨#[]⟩ : ByteArray), .slice none 0 0, .bool false, .string (⟨#[]⟩ : ByteArray)] 47 (0, 0))) := ⟨zz54⟩; have n1_ : Aside0 (Below w.heap.size w w18) := ⟨zz55⟩; clear BK204 HB hq_; have BK204 := n0_; have HB := n1_; clear n0_ n1_)); obtain ⟨_, _, _, _, _, _, _, _⟩ := cf4 BK204))
      refine bodyPost_ret (results_ct rfl _ _ gb204 47 #[.string (⟨#[]⟩ : ByteArray), .slice none 0 0, .bool false, .string (⟨#[]⟩ : ByteArray)] (0, 0) _ rfl (zz43 BK204) Tryd.underlying47 rfl (by kernel_rfl)) rfl ?_;exact ⟨_, zz1, zz44, (zz2 HB GE204)⟩
    ·rw [if_neg c10] at H
     exact absurd H (by simp)
   ·rw [if_neg c9] at H
    exact absurd H (by simp)
def spec_AddrText.f (k : Nat) (a0_0 : ByteArray) (l0_1 : List ByteArray) (a0_2 : Bool) (a0_3 : ByteArray) : Option (ByteArray) := (spec_AddrOk.f k a0_0 l0_1 a0_2 a0_3).bind fun t216 => (if t216 = true then ((spec_l1Text.f k a0_0 l0_1 a0_2 a0_3).bind fun t217 => (some t217)) else (some (⟨#[]⟩ : ByteArray)))
set_option maxHeartbeats 8000000 in
set_option maxRecDepth 100000 in
theorem spec_AddrText.calls (k : Nat) (a0_0 : ByteArray) (A0_1 : Option Addr) (c0_1 : Nat) (l0_1 : List ByteArray) (a0_2 : Bool) (a0_3 : ByteArray) (r : ByteArray) (w : World) (hr0_1 : Kd.C Kd.string w A0_1 l0_1.length l0_1) (hc0_1 : l0_1.length ≤ c0_1) (h : spec_AddrText.f k a0_0 l0_1 a0_2 a0_3 = some r) :
  Calls Tryd.prog 21 #[.agg #[.string a0_0, .slice A0_1 l0_1.length c0_1, .bool a0_2, .string a0_3]] w fun e w' => e = .returned (.string r) ∧ Below w.heap.size w w' := by
 have hu47 := Tryd.underlying47;have HR0_1 := Aside0.mk hr0_1;have HC0_1 := Aside0.mk hc0_1;clear hr0_1 hc0_1;have HB := Aside0.mk (Below.refl w.heap.size w);have H : ((spec_AddrOk.f k a0_0 l0_1 a0_2 a0_3).bind fun t216 => (if t216 = true then ((spec_l1Text.f k a0_0 l0_1 a0_2 a0_3).bind fun t217 => (some t217)) else (some (⟨#[]⟩ : ByteArray)))) = some r := h;clear h;replace H := bindA H;obtain ⟨t216, A2, H⟩ := H;by_cases c3 : t216 = true
 ·subst c3
  rw [if_pos rfl] at H;replace H := bindA H;obtain ⟨t217, A4, H⟩ := H;obtain rfl := Option.some.inj H;go_enter Tryd.func21, Tryd.ntmps21;go_wp2_with (first | ((with_reducible refine gate_dst (N := 1) rfl ?_); refine boxE 1 #[.string a0_0, .slice A0_1 l0_1.length c0_1, .bool a0_2, .string a0_3] 47 ?_; intro gb215 hg w5 hbox hb; have n0_ := Aside0.mk (below_step (zz0 HB) hb); have n1_ := Aside0.mk (hbox); have n2_ := Aside0.mk ((by rw [hg]; exact (below_size (zz0 HB)) : w.heap.size ≤ gb215)); have n3_ := Aside0.mk ((by rw [hg]; exact (below_size (zz0 HB)) : w.heap.size ≤ gb215)); clear HB; have HB := n0_; have BK215 := n1_; have GW215 := n2_; have GE215 := n3_; clear n0_ n1_ n2_ n3_; clear hb hbox hg; obtain ⟨_, _, _, _, _, _, _, _⟩ := cf4 BK215) | ((with_reducible refine gate_callee (f := 26) rfl ?_); refine gsL (some 4) Tryd.func26 #[.agg #[.string a0_0, .slice A0_1 l0_1.length c0_1, .bool a0_2, .string a0_3]] ?_; (with_reducible refine (spec_AddrOk.calls k a0_0 _ _ l0_1 a0_2 a0_3 true _ ?side1 ?side2 A2.out).mono ?_); (case side1 => exact (zz32 HR0_1 HB)); (case side2 => exact HC0_1.out); rintro e w7 ⟨rfl, hb⟩; refine ⟨_, rfl, ?_⟩; have n0_ := Aside0.mk (blk_below (zz6 BK215) hb); have n1_ := Aside0.mk (below_step (zz2 HB GE215) hb); clear BK215; clear HB; have BK215 := n0_; have HB := n1_; clear n0_ n1_; (try clear hb); obtain ⟨_, _, _, _, _, _, _, _⟩ := cf4 BK215) | ((with_reducible refine gate_callee (f := 27) rfl ?_); refine gsL (some 7) Tryd.func27 #[.agg #[.string a0_0, .slice A0_1 l0_1.length c0_1, .bool a0_2, .string a0_3]] ?_; (with_reducible refine (spec_l1Text.calls k a0_0 _ _ l0_1 a0_2 a0_3 t217 _ ?side1 ?side2 A4.out).mono ?_); (case side1 => exact (zz32 HR0_1 HB)); (case side2 => exact HC0_1.out); rintro e w9 ⟨rfl, hb⟩; refine ⟨_, rfl, ?_⟩; have n0_ := Aside0.mk (blk_below (zz6 BK215) hb); have n1_ := Aside0.mk (below_step (zz2 HB GE215) hb); clear BK215; clear HB; have BK215 := n0_; have HB := n1_; clear n0_ n1_; (try clear hb)))
  go_ret
  exact ⟨zz1, (zz2 HB GE215)⟩
 ·replace c3 := Bool.eq_false_iff.mpr c3
  subst c3;rw [if_neg (show ¬ (false = true) by decide)] at H;obtain rfl := Option.some.inj H;go_enter Tryd.func21, Tryd.ntmps21;go_wp2_with (first | ((with_reducible refine gate_dst (N := 1) rfl ?_); refine boxE 1 #[.string a0_0, .slice A0_1 l0_1.length c0_1, .bool a0_2, .string a0_3] 47 ?_; intro gb215 hg w10 hbox hb; have n0_ := Aside0.mk (below_step (zz0 HB) hb); have n1_ := Aside0.mk (hbox); have n2_ := Aside0.mk ((by rw [hg]; exact (below_size (zz0 HB)) : w.heap.size ≤ gb215)); have n3_ := Aside0.mk ((by rw [hg]; exact (below_size (zz0 HB)) : w.heap.size ≤ gb215)); clear HB; have HB := n0_; have BK215 := n1_; have GW215 := n2_; have GE215 := n3_; clear n0_ n1_ n2_ n3_; clear hb hbox hg; obtain ⟨_, _, _, _, _, _, _, _⟩ := cf4 BK215) | ((with_reducible refine gate_callee (f := 26) rfl ?_); refine gsL (some 4) Tryd.func26 #[.agg #[.string a0_0, .slice A0_1 l0_1.length c0_1, .bool a0_2, .string a0_3]] ?_; (with_reducible refine (spec_AddrOk.calls k a0_0 _ _ l0_1 a0_2 a0_3 false _ ?side1 ?side2 A2.out).mono ?_); (case side1 => exact (zz32 HR0_1 HB)); (case side2 => exact HC0_1.out); rintro e w12 ⟨rfl, hb⟩; refine ⟨_, rfl, ?_⟩; have n0_ := Aside0.mk (blk_below (zz6 BK215) hb); have n1_ := Aside0.mk (below_step (zz2 HB GE215) hb); clear BK215; clear HB; have BK215 := n0_; have HB := n1_; clear n0_ n1_; (try clear hb)))
  go_ret
  exact ⟨zz1, (zz2 HB GE215)⟩
def spec_l11Norm.f (k : Nat) (a0 : ByteArray) : Option (Bool) := (spec_AddrRead.f k a0).bind fun bt218 => (if bt218.2.2.2.2 = true then ((spec_AddrText.f k bt218.1 bt218.2.1 bt218.2.2.1 bt218.2.2.2.1).bind fun t226 => (some (t226.toList == a0.toList))) else (some false))
set_option maxHeartbeats 8000000 in
set_option maxRecDepth 100000 in
theorem spec_l11Norm.calls (k : Nat) (a0 : ByteArray) (r : Bool) (w : World) (h : spec_l11Norm.f k a0 = some r) :
  Calls Tryd.prog 13 #[.string a0] w fun e w' => e = .returned (.bool r) ∧ Below w.heap.size w w' := by
 have hu47 := Tryd.underlying47;have HB := Aside0.mk (Below.refl w.heap.size w);have H : ((spec_AddrRead.f k a0).bind fun bt218 => (if bt218.2.2.2.2 = true then ((spec_AddrText.f k bt218.1 bt218.2.1 bt218.2.2.1 bt218.2.2.2.1).bind fun t226 => (some (t226.toList == a0.toList))) else (some false))) = some r := h;clear h;replace H := bindA H;obtain ⟨⟨t218, t219, t222, t223, t224⟩, A2, H⟩ := H;try dsimp -simprocs only at H
 by_cases c3 : t224 = true
 ·subst c3
  rw [if_pos rfl] at H;replace H := bindA H;obtain ⟨t226, A4, H⟩ := H;obtain rfl := Option.some.inj H;go_enter Tryd.func13, Tryd.ntmps13;go_wp2_with (first | ((with_reducible refine gate_callee (f := 20) rfl ?_); refine gsL (some 7) Tryd.func20 #[.string a0] ?_; (with_reducible refine (spec_AddrRead.calls k a0 t218 t219 t222 t223 true _ A2.out).mono ?_); rintro e w5 ⟨v220, rfl, ho0, hb⟩; refine ⟨_, rfl, ?_⟩; have n0_ := Aside0.mk (Kd.R_lower ho0 (below_size (zz0 HB))); have n1_ := Aside0.mk (below_step (zz0 HB) hb); clear HB; have HO221 := n0_; have HB := n1_; clear n0_ n1_; (try clear hb ho0)) | ((with_reducible refine gate_dst (N := 3) rfl ?_); refine boxE 3 #[.string (⟨#[]⟩ : ByteArray), .slice none 0 0, .bool false, .string (⟨#[]⟩ : ByteArray)] 47 ?_; intro gb225 hg w6 hbox hb; have n0_ := Aside0.mk (Kd.R_below (zz10 HO221) hb); have n1_ := Aside0.mk (below_step (zz0 HB) hb); have n2_ := Aside0.mk (hbox); have n3_ := Aside0.mk ((by rw [hg]; exact (below_size (zz0 HB)) : w.heap.size ≤ gb225)); have n4_ := Aside0.mk ((by rw [hg]; exact (below_size (zz0 HB)) : w.heap.size ≤ gb225)); clear HO221; clear HB; have HO221 := n0_; have HB := n1_; have BK225 := n2_; have GW225 := n3_; have GE225 := n4_; clear n0_ n1_ n2_ n3_ n4_; clear hb hbox hg; obtain ⟨_, _, _, _, _, _, _, _⟩ := cf4 BK225; obtain ⟨Ao8, co8, eo8⟩ := Kd.R_slice HO221.out; subst eo8) | (go_at_call 21; (with_reducible refine (spec_AddrText.calls k t218 _ _ t219 t222 t223 t226 _ ?side1 ?side2 A4.out).mono ?_); (case side1 => exact (by refine (Kd.R_reads' (e := 9) (base := w.heap.size) (ok := fun k_ => True) (n := t219.length) (c := co8) ?_).2.2; exact (zz56 HO221 BK225))); (case side2 => exact (Kd.R_reads' HO221.out).2.1); rintro e w9 ⟨rfl, hb⟩; have n0_ := Aside0.mk (Kd.R_below (zz56 HO221 BK225) hb); have n1_ := Aside0.mk (blk_below (g := gb225) (o := .cells #[.string t218, .slice Ao8 t219.length co8, .bool t222, .string t223] 47 (0, 0)) (zz43 BK225) hb); have n2_ := Aside0.mk (below_step (zz2 HB GE225) hb); clear HO221; clear BK225; clear HB; have HO221 := n0_; have BK225 := n1_; have HB := n2_; clear n0_ n1_ n2_; (try clear hb)))
  go_ret
  exact ⟨zz1, (zz2 HB GE225)⟩
 ·replace c3 := Bool.eq_false_iff.mpr c3
  subst c3;rw [if_neg (show ¬ (false = true) by decide)] at H;obtain rfl := Option.some.inj H;go_enter Tryd.func13, Tryd.ntmps13;go_wp2_with (first | ((with_reducible refine gate_callee (f := 20) rfl ?_); refine gsL (some 7) Tryd.func20 #[.string a0] ?_; (with_reducible refine (spec_AddrRead.calls k a0 t218 t219 t222 t223 false _ A2.out).mono ?_); rintro e w10 ⟨v220, rfl, ho0, hb⟩; refine ⟨_, rfl, ?_⟩; have n0_ := Aside0.mk (Kd.R_lower ho0 (below_size (zz0 HB))); have n1_ := Aside0.mk (below_step (zz0 HB) hb); clear HB; have HO221 := n0_; have HB := n1_; clear n0_ n1_; (try clear hb ho0)) | ((with_reducible refine gate_dst (N := 3) rfl ?_); refine boxE 3 #[.string (⟨#[]⟩ : ByteArray), .slice none 0 0, .bool false, .string (⟨#[]⟩ : ByteArray)] 47 ?_; intro gb225 hg w11 hbox hb; have n0_ := Aside0.mk (Kd.R_below (zz10 HO221) hb); have n1_ := Aside0.mk (below_step (zz0 HB) hb); have n2_ := Aside0.mk (hbox); have n3_ := Aside0.mk ((by rw [hg]; exact (below_size (zz0 HB)) : w.heap.size ≤ gb225)); have n4_ := Aside0.mk ((by rw [hg]; exact (below_size (zz0 HB)) : w.heap.size ≤ gb225)); clear HO221; clear HB; have HO221 := n0_; have HB := n1_; have BK225 := n2_; have GW225 := n3_; have GE225 := n4_; clear n0_ n1_ n2_ n3_ n4_; clear hb hbox hg; obtain ⟨_, _, _, _, _, _, _, _⟩ := cf4 BK225; obtain ⟨Ao13, co13, eo13⟩ := Kd.R_slice HO221.out; subst eo13))
  go_ret
  exact ⟨zz1, (zz2 HB GE225)⟩
mutual
def spec_WorldOk.l0 : Nat → List (S36) → Int → Option (Bool)
 | 0, _, _ => none
 | k + 1, x0, x3 => if x3 < (x0.length : Int) then (if 0 ≤ x3 then ((spec_l11Norm.f k ((rd_T36 x0 x3).f0)).bind fun t228 => (if t228 = true then (if (((rd_T36 x0 x3).f1).size : Int) > 300 then (spec_WorldOk.j1 k x0 x3 true) else ((spec_l6In.f ((rd_T36 x0 x3).f3) 0 9).bind fun t231 => (if t231 = true then (if ((rd_T36 x0 x3).f2).toList = ([] : List UInt8) then (spec_WorldOk.j1 k x0 x3 false) else (if ((rd_T36 x0 x3).f1).toList = ([] : List UInt8) then ((spec_l11Norm.f k ((rd_T36 x0 x3).f2)).bind fun t235 => (spec_WorldOk.j1 k x0 x3 (!t235))) else (spec_WorldOk.j1 k x0 x3 true))) else (spec_WorldOk.j1 k x0 x3 true)))) else (spec_WorldOk.j1 k x0 x3 true))) else (none)) else (some (decide ((x0.length : Int) ≤ 12)))
def spec_WorldOk.j1 : Nat → List (S36) → Int → Bool → Option (Bool)
 | 0, _, _, _ => none
 | k + 1, x0, x3, x60 => if x60 = true then (some false) else (spec_WorldOk.l1 k x0 x3 0)
def spec_WorldOk.l1 : Nat → List (S36) → Int → Int → Option (Bool)
 | 0, _, _, _ => none
 | k + 1, x0, x3, x4 => if x4 < x3 then (if 0 ≤ x4 then (if x4 < (x0.length : Int) then (if 0 ≤ x3 then (if x3 < (x0.length : Int) then (if ((rd_T36 x0 x4).f0).toList = ((rd_T36 x0 x3).f0).toList then (some false) else (spec_WorldOk.l1 k x0 x3 (wrap64 (x4 + 1)))) else (none)) else (none)) else (none)) else (none)) else (spec_WorldOk.l0 k x0 (wrap64 (x3 + 1)))
end
def spec_WorldOk.f (k : Nat) (l0 : List (S36)) : Option (Bool) := spec_WorldOk.l0 k l0 0
set_option maxHeartbeats 8000000 in
set_option maxRecDepth 100000 in
theorem spec_WorldOk.calls (k : Nat) (A0 : Option Addr) (c0 : Nat) (l0 : List (S36)) (r : Bool) (w : World) (hr0 : Kd.C k36 w A0 l0.length l0) (hc0 : l0.length ≤ c0) (h : spec_WorldOk.f k l0 = some r) :
  Calls Tryd.prog 6 #[.slice A0 l0.length c0] w fun e w' => e = .returned (.bool r) ∧ Below w.heap.size w w' := by
 have HR0 := Aside0.mk hr0;have HC0 := Aside0.mk hc0;clear hr0 hc0;have HB := Aside0.mk (Below.refl w.heap.size w);have H : (spec_WorldOk.l0 k l0 0) = some r := h;clear h;have H' := Aside0.mk H;clear H;go_enter Tryd.func6, Tryd.ntmps6;go_wp2
 repeat (go_quiet (fail); try go_wp2)
 go_loopg [3] k (fun kq v3 w' => ∃ (x3_1 : Int), v3 = .int .i64 x3_1 ∧ Aside0 (spec_WorldOk.l0 kq l0 x3_1 = some r) ∧ Aside0 (kq ≤ k) ∧ Aside0 (Below w.heap.size w w'))
 case atStart => exact ⟨(0), zz3, H', ⟨Nat.le_refl _⟩, ⟨(zz0 HB)⟩⟩
 case round =>
  clear H';obtain ⟨x3_1, rfl, HA, HK1, HB⟩ := hrel;cases gk with
  | zero => exact absurd HA.out (by simp [spec_WorldOk.l0])
  | succ k1 =>
   have H := HA.out;clear HA;simp only [spec_WorldOk.l0] at H
   by_cases c2 : x3_1 < (l0.length : Int)
   ·rw [if_pos c2] at H
    have c2b0 : decide (x3_1 < (l0.length : Int)) = true := decide_eq_true c2;clear c2;have HC3 := Aside0.mk H;clear H;go_upto_region 4 with (fail)
    repeat (go_quiet (fail); go_upto_region 4 with (fail))
    go_cut [60] (fun v60 wc => ∃ (kq : Nat) (x60_2 : Bool), v60 = .bool x60_2 ∧ Aside0 (spec_WorldOk.j1 kq l0 x3_1 x60_2 = some r) ∧ Aside0 (kq ≤ k1) ∧ Aside0 (Below w.heap.size w wc))
    case first =>
     have H := HC3.out;clear HC3;by_cases c4 : 0 ≤ x3_1
     ·rw [if_pos c4] at H
      have c4b0 : decide (0 ≤ x3_1) = true := decide_eq_true c4;clear c4;(first | rw [c4b0] | (simp only [i64_w, i32_w]; rw [c4b0]) | skip)
      replace H := bindA H;obtain ⟨t228, A5, H⟩ := H;by_cases c6 : t228 = true
      ·subst c6
       rw [if_pos rfl] at H;by_cases c7 : (((rd_T36 l0 x3_1).f1).size : Int) > 300
       ·rw [if_pos c7] at H
        have c7b0 : decide (300 < (((rd_T36 l0 x3_1).f1).size : Int)) = true := decide_eq_true c7;have c7b1 : decide (300 < ((rd_T36 l0 x3_1).f1).size) = true := decide_eq_true (by omega);clear c7;have H' := Aside0.mk H;clear H;have p227 : 0 ≤ (x3_1 : Int) := ofD;have q227 : x3_1 < (l0.length : Int) := ofD;obtain ⟨ad227, e227, hx227_0, hx227_1, hx227_2, hx227_3⟩ := at_T36 HR0.out x3_1 p227 q227;cases e227
        replace hx227_0 := (HB.out.cell (World.block_lt_of_cell? w _ hx227_0)).trans hx227_0;replace hx227_1 := (HB.out.cell (World.block_lt_of_cell? w _ hx227_1)).trans hx227_1;replace hx227_2 := (HB.out.cell (World.block_lt_of_cell? w _ hx227_2)).trans hx227_2;replace hx227_3 := (HB.out.cell (World.block_lt_of_cell? w _ hx227_3)).trans hx227_3;replace p227 := eq_true p227;replace q227 := eq_true q227;go_wp2_with (first | (go_at_call 13; (with_reducible refine (spec_l11Norm.calls k1 ((rd_T36 l0 x3_1).f0) true _ A5.out).mono ?_); rintro e w8 ⟨rfl, hb⟩; have n0_ := Aside0.mk (below_step (zz0 HB) hb); clear HB; have HB := n0_; clear n0_; (try clear hb); have p229 : 0 ≤ (x3_1 : Int) := ofD; have q229 : x3_1 < (l0.length : Int) := ofD; obtain ⟨ad229, e229, hx229_0, hx229_1, hx229_2, hx229_3⟩ := at_T36 HR0.out x3_1 p229 q229; obtain rfl : ad227 = ad229 := (by injection e229); replace hx229_0 := (HB.out.cell (World.block_lt_of_cell? w _ hx229_0)).trans hx229_0; replace hx229_1 := (HB.out.cell (World.block_lt_of_cell? w _ hx229_1)).trans hx229_1; replace hx229_2 := (HB.out.cell (World.block_lt_of_cell? w _ hx229_2)).trans hx229_2; replace hx229_3 := (HB.out.cell (World.block_lt_of_cell? w _ hx229_3)).trans hx229_3; replace p229 := eq_true p229; replace q229 := eq_true q229))
        repeat (go_quiet (first | (go_at_call 13; (with_reducible refine (spec_l11Norm.calls k1 ((rd_T36 l0 x3_1).f0) true _ A5.out).mono ?_); rintro e w8 ⟨rfl, hb⟩; have n0_ := Aside0.mk (below_step (zz0 HB) hb); clear HB; have HB := n0_; clear n0_; (try clear hb); have p229 : 0 ≤ (x3_1 : Int) := ofD; have q229 : x3_1 < (l0.length : Int) := ofD; obtain ⟨ad229, e229, hx229_0, hx229_1, hx229_2, hx229_3⟩ := at_T36 HR0.out x3_1 p229 q229; obtain rfl : ad227 = ad229 := (by injection e229); replace hx229_0 := (HB.out.cell (World.block_lt_of_cell? w _ hx229_0)).trans hx229_0; replace hx229_1 := (HB.out.cell (World.block_lt_of_cell? w _ hx229_1)).trans hx229_1; replace hx229_2 := (HB.out.cell (World.block_lt_of_cell? w _ hx229_2)).trans hx229_2; replace hx229_3 := (HB.out.cell (World.block_lt_of_cell? w _ hx229_3)).trans hx229_3; replace p229 := eq_true p229; replace q229 := eq_true q229)); try go_wp2_with (first | (go_at_call 13; (with_reducible refine (spec_l11Norm.calls k1 ((rd_T36 l0 x3_1).f0) true _ A5.out).mono ?_); rintro e w8 ⟨rfl, hb⟩; have n0_ := Aside0.mk (below_step (zz0 HB) hb); clear HB; have HB := n0_; clear n0_; (try clear hb); have p229 : 0 ≤ (x3_1 : Int) := ofD; have q229 : x3_1 < (l0.length : Int) := ofD; obtain ⟨ad229, e229, hx229_0, hx229_1, hx229_2, hx229_3⟩ := at_T36 HR0.out x3_1 p229 q229; obtain rfl : ad227 = ad229 := (by injection e229); replace hx229_0 := (HB.out.cell (World.block_lt_of_cell? w _ hx229_0)).trans hx229_0; replace hx229_1 := (HB.out.cell (World.block_lt_of_cell? w _ hx229_1)).trans hx229_1; replace hx229_2 := (HB.out.cell (World.block_lt_of_cell? w _ hx229_2)).trans hx229_2; replace hx229_3 := (HB.out.cell (World.block_lt_of_cell? w _ hx229_3)).trans hx229_3; replace p229 := eq_true p229; replace q229 := eq_true q229)))
        go_meet
        case rel => exact ⟨_, (true), zz3, H', ⟨(zz22 HK1)⟩, ⟨(zz0 HB)⟩⟩
       ·rw [if_neg c7] at H
        have c7b0 : decide (300 < (((rd_T36 l0 x3_1).f1).size : Int)) = false := decide_eq_false c7;have c7b1 : decide (300 < ((rd_T36 l0 x3_1).f1).size) = false := decide_eq_false (by omega);clear c7;replace H := bindA H;obtain ⟨t231, A9, H⟩ := H;by_cases c10 : t231 = true
        ·subst c10
         rw [if_pos rfl] at H;by_cases c11 : ((rd_T36 l0 x3_1).f2).toList = ([] : List UInt8)
         ·rw [if_pos c11] at H
          have c11b0 : (((rd_T36 l0 x3_1).f2).toList == ([] : List UInt8)) = true := beq_iff_eq.mpr c11;have c11b1 : (((rd_T36 l0 x3_1).f2).toList != ([] : List UInt8)) = false := bne_eq_false_iff_eq.mpr c11;clear c11;have H' := Aside0.mk H;clear H;have p227 : 0 ≤ (x3_1 : Int) := ofD;have q227 : x3_1 < (l0.length : Int) := ofD;obtain ⟨ad227, e227, hx227_0, hx227_1, hx227_2, hx227_3⟩ := at_T36 HR0.out x3_1 p227 q227;cases e227
          replace hx227_0 := (HB.out.cell (World.block_lt_of_cell? w _ hx227_0)).trans hx227_0;replace hx227_1 := (HB.out.cell (World.block_lt_of_cell? w _ hx227_1)).trans hx227_1;replace hx227_2 := (HB.out.cell (World.block_lt_of_cell? w _ hx227_2)).trans hx227_2;replace hx227_3 := (HB.out.cell (World.block_lt_of_cell? w _ hx227_3)).trans hx227_3;replace p227 := eq_true p227;replace q227 := eq_true q227;go_wp2_with (first | (go_at_call 13; (with_reducible refine (spec_l11Norm.calls k1 ((rd_T36 l0 x3_1).f0) true _ A5.out).mono ?_); rintro e w12 ⟨rfl, hb⟩; have n0_ := Aside0.mk (below_step (zz0 HB) hb); clear HB; have HB := n0_; clear n0_; (try clear hb); have p229 : 0 ≤ (x3_1 : Int) := ofD; have q229 : x3_1 < (l0.length : Int) := ofD; obtain ⟨ad229, e229, hx229_0, hx229_1, hx229_2, hx229_3⟩ := at_T36 HR0.out x3_1 p229 q229; obtain rfl : ad227 = ad229 := (by injection e229); replace hx229_0 := (HB.out.cell (World.block_lt_of_cell? w _ hx229_0)).trans hx229_0; replace hx229_1 := (HB.out.cell (World.block_lt_of_cell? w _ hx229_1)).trans hx229_1; replace hx229_2 := (HB.out.cell (World.block_lt_of_cell? w _ hx229_2)).trans hx229_2; replace hx229_3 := (HB.out.cell (World.block_lt_of_cell? w _ hx229_3)).trans hx229_3; replace p229 := eq_true p229; replace q229 := eq_true q229; have p230 : 0 ≤ (x3_1 : Int) := ofD; have q230 : x3_1 < (l0.length : Int) := ofD; obtain ⟨ad230, e230, hx230_0, hx230_1, hx230_2, hx230_3⟩ := at_T36 HR0.out x3_1 p230 q230; obtain rfl : ad227 = ad230 := (by injection e230); replace hx230_0 := (HB.out.cell (World.block_lt_of_cell? w _ hx230_0)).trans hx230_0; replace hx230_1 := (HB.out.cell (World.block_lt_of_cell? w _ hx230_1)).trans hx230_1; replace hx230_2 := (HB.out.cell (World.block_lt_of_cell? w _ hx230_2)).trans hx230_2; replace hx230_3 := (HB.out.cell (World.block_lt_of_cell? w _ hx230_3)).trans hx230_3; replace p230 := eq_true p230; replace q230 := eq_true q230) | (go_at_call 14; (with_reducible refine (spec_l6In.calls ((rd_T36 l0 x3_1).f3) 0 9 true _ A9.out).mono ?_); rintro e w' ⟨rfl, ⟨nd, rfl⟩⟩; (try first | exact ⟨rfl, _, World.drewN_drewN _ _ _⟩ | exact ⟨rfl, _, Eq.trans (World.drewN_drewN _ _ _) (congrArg (World.drewN _) (Nat.add_assoc _ _ _))⟩); have p232 : 0 ≤ (x3_1 : Int) := ofD; have q232 : x3_1 < (l0.length : Int) := ofD; obtain ⟨ad232, e232, hx232_0, hx232_1, hx232_2, hx232_3⟩ := at_T36 HR0.out x3_1 p232 q232; obtain rfl : ad227 = ad232 := (by injection e232); replace hx232_0 := (HB.out.cell (World.block_lt_of_cell? w _ hx232_0)).trans hx232_0; replace hx232_1 := (HB.out.cell (World.block_lt_of_cell? w _ hx232_1)).trans hx232_1; replace hx232_2 := (HB.out.cell (World.block_lt_of_cell? w _ hx232_2)).trans hx232_2; replace hx232_3 := (HB.out.cell (World.block_lt_of_cell? w _ hx232_3)).trans hx232_3; replace p232 := eq_true p232; replace q232 := eq_true q232))
          repeat (go_quiet (first | (go_at_call 13; (with_reducible refine (spec_l11Norm.calls k1 ((rd_T36 l0 x3_1).f0) true _ A5.out).mono ?_); rintro e w12 ⟨rfl, hb⟩; have n0_ := Aside0.mk (below_step (zz0 HB) hb); clear HB; have HB := n0_; clear n0_; (try clear hb); have p229 : 0 ≤ (x3_1 : Int) := ofD; have q229 : x3_1 < (l0.length : Int) := ofD; obtain ⟨ad229, e229, hx229_0, hx229_1, hx229_2, hx229_3⟩ := at_T36 HR0.out x3_1 p229 q229; obtain rfl : ad227 = ad229 := (by injection e229); replace hx229_0 := (HB.out.cell (World.block_lt_of_cell? w _ hx229_0)).trans hx229_0; replace hx229_1 := (HB.out.cell (World.block_lt_of_cell? w _ hx229_1)).trans hx229_1; replace hx229_2 := (HB.out.cell (World.block_lt_of_cell? w _ hx229_2)).trans hx229_2; replace hx229_3 := (HB.out.cell (World.block_lt_of_cell? w _ hx229_3)).trans hx229_3; replace p229 := eq_true p229; replace q229 := eq_true q229; have p230 : 0 ≤ (x3_1 : Int) := ofD; have q230 : x3_1 < (l0.length : Int) := ofD; obtain ⟨ad230, e230, hx230_0, hx230_1, hx230_2, hx230_3⟩ := at_T36 HR0.out x3_1 p230 q230; obtain rfl : ad227 = ad230 := (by injection e230); replace hx230_0 := (HB.out.cell (World.block_lt_of_cell? w _ hx230_0)).trans hx230_0; replace hx230_1 := (HB.out.cell (World.block_lt_of_cell? w _ hx230_1)).trans hx230_1; replace hx230_2 := (HB.out.cell (World.block_lt_of_cell? w _ hx230_2)).trans hx230_2; replace hx230_3 := (HB.out.cell (World.block_lt_of_cell? w _ hx230_3)).trans hx230_3; replace p230 := eq_true p230; replace q230 := eq_true q230) | (go_at_call 14; (with_reducible refine (spec_l6In.calls ((rd_T36 l0 x3_1).f3) 0 9 true _ A9.out).mono ?_); rintro e w' ⟨rfl, ⟨nd, rfl⟩⟩; (try first | exact ⟨rfl, _, World.drewN_drewN _ _ _⟩ | exact ⟨rfl, _, Eq.trans (World.drewN_drewN _ _ _) (congrArg (World.drewN _) (Nat.add_assoc _ _ _))⟩); have p232 : 0 ≤ (x3_1 : Int) := ofD; have q232 : x3_1 < (l0.length : Int) := ofD; obtain ⟨ad232, e232, hx232_0, hx232_1, hx232_2, hx232_3⟩ := at_T36 HR0.out x3_1 p232 q232; obtain rfl : ad227 = ad232 := (by injection e232); replace hx232_0 := (HB.out.cell (World.block_lt_of_cell? w _ hx232_0)).trans hx232_0; replace hx232_1 := (HB.out.cell (World.block_lt_of_cell? w _ hx232_1)).trans hx232_1; replace hx232_2 := (HB.out.cell (World.block_lt_of_cell? w _ hx232_2)).trans hx232_2; replace hx232_3 := (HB.out.cell (World.block_lt_of_cell? w _ hx232_3)).trans hx232_3; replace p232 := eq_true p232; replace q232 := eq_true q232)); try go_wp2_with (first | (go_at_call 13; (with_reducible refine (spec_l11Norm.calls k1 ((rd_T36 l0 x3_1).f0) true _ A5.out).mono ?_); rintro e w12 ⟨rfl, hb⟩; have n0_ := Aside0.mk (below_step (zz0 HB) hb); clear HB; have HB := n0_; clear n0_; (try clear hb); have p229 : 0 ≤ (x3_1 : Int) := ofD; have q229 : x3_1 < (l0.length : Int) := ofD; obtain ⟨ad229, e229, hx229_0, hx229_1, hx229_2, hx229_3⟩ := at_T36 HR0.out x3_1 p229 q229; obtain rfl : ad227 = ad229 := (by injection e229); replace hx229_0 := (HB.out.cell (World.block_lt_of_cell? w _ hx229_0)).trans hx229_0; replace hx229_1 := (HB.out.cell (World.block_lt_of_cell? w _ hx229_1)).trans hx229_1; replace hx229_2 := (HB.out.cell (World.block_lt_of_cell? w _ hx229_2)).trans hx229_2; replace hx229_3 := (HB.out.cell (World.block_lt_of_cell? w _ hx229_3)).trans hx229_3; replace p229 := eq_true p229; replace q229 := eq_true q229; have p230 : 0 ≤ (x3_1 : Int) := ofD; have q230 : x3_1 < (l0.length : Int) := ofD; obtain ⟨ad230, e230, hx230_0, hx230_1, hx230_2, hx230_3⟩ := at_T36 HR0.out x3_1 p230 q230; obtain rfl : ad227 = ad230 := (by injection e230); replace hx230_0 := (HB.out.cell (World.block_lt_of_cell? w _ hx230_0)).trans hx230_0; replace hx230_1 := (HB.out.cell (World.block_lt_of_cell? w _ hx230_1)).trans hx230_1; replace hx230_2 := (HB.out.cell (World.block_lt_of_cell? w _ hx230_2)).trans hx230_2; replace hx230_3 := (HB.out.cell (World.block_lt_of_cell? w _ hx230_3)).trans hx230_3; replace p230 := eq_true p230; replace q230 := eq_true q230) | (go_at_call 14; (with_reducible refine (spec_l6In.calls ((rd_T36 l0 x3_1).f3) 0 9 true _ A9.out).mono ?_); rintro e w' ⟨rfl, ⟨nd, rfl⟩⟩; (try first | exact ⟨rfl, _, World.drewN_drewN _ _ _⟩ | exact ⟨rfl, _, Eq.trans (World.drewN_drewN _ _ _) (congrArg (World.drewN _) (Nat.add_assoc _ _ _))⟩); have p232 : 0 ≤ (x3_1 : Int) := ofD; have q232 : x3_1 < (l0.length : Int) := ofD; obtain ⟨ad232, e232, hx232_0, hx232_1, hx232_2, hx232_3⟩ := at_T36 HR0.out x3_1 p232 q232; obtain rfl : ad227 = ad232 := (by injection e232); replace hx232_0 := (HB.out.cell (World.block_lt_of_cell? w _ hx232_0)).trans hx232_0; replace hx232_1 := (HB.out.cell (World.block_lt_of_cell? w _ hx232_1)).trans hx232_1; replace hx232_2 := (HB.out.cell (World.block_lt_of_cell? w _ hx232_2)).trans hx232_2; replace hx232_3 := (HB.out.cell (World.block_lt_of_cell? w _ hx232_3)).trans hx232_3; replace p232 := eq_true p232; replace q232 := eq_true q232)))
          go_meet
          case rel => exact ⟨_, (false), zz3, H', ⟨(zz22 HK1)⟩, ⟨(zz0 HB)⟩⟩
         ·rw [if_neg c11] at H
          have c11b0 : (((rd_T36 l0 x3_1).f2).toList == ([] : List UInt8)) = false := beq_eq_false_iff_ne.mpr c11;have c11b1 : (((rd_T36 l0 x3_1).f2).toList != ([] : List UInt8)) = true := bne_iff_ne.mpr c11;by_cases c13 : ((rd_T36 l0 x3_1).f1).toList = ([] : List UInt8)
          ·rw [if_pos c13] at H
           have c13b0 : (((rd_T36 l0 x3_1).f1).toList == ([] : List UInt8)) = true := beq_iff_eq.mpr c13;have c13b1 : (((rd_T36 l0 x3_1).f1).toList != ([] : List UInt8)) = false := bne_eq_false_iff_eq.mpr c13;clear c13;replace H := bindA H;obtain ⟨t235, A14, H⟩ := H;have H' := Aside0.mk H;clear H;have p227 : 0 ≤ (x3_1 : Int) := ofD;have q227 : x3_1 < (l0.length : Int) := ofD;obtain ⟨ad227, e227, hx227_0, hx227_1, hx227_2, hx227_3⟩ := at_T36 HR0.out x3_1 p227 q227;cases e227
           replace hx227_0 := (HB.out.cell (World.block_lt_of_cell? w _ hx227_0)).trans hx227_0;replace hx227_1 := (HB.out.cell (World.block_lt_of_cell? w _ hx227_1)).trans hx227_1;replace hx227_2 := (HB.out.cell (World.block_lt_of_cell? w _ hx227_2)).trans hx227_2;replace hx227_3 := (HB.out.cell (World.block_lt_of_cell? w _ hx227_3)).trans hx227_3;replace p227 := eq_true p227;replace q227 := eq_true q227;go_wp2_with (first | (go_at_call 13; (with_reducible refine (spec_l11Norm.calls k1 ((rd_T36 l0 x3_1).f0) true _ A5.out).mono ?_); rintro e w15 ⟨rfl, hb⟩; have n0_ := Aside0.mk (below_step (zz0 HB) hb); clear HB; have HB := n0_; clear n0_; (try clear hb); have p229 : 0 ≤ (x3_1 : Int) := ofD; have q229 : x3_1 < (l0.length : Int) := ofD; obtain ⟨ad229, e229, hx229_0, hx229_1, hx229_2, hx229_3⟩ := at_T36 HR0.out x3_1 p229 q229; obtain rfl : ad227 = ad229 := (by injection e229); replace hx229_0 := (HB.out.cell (World.block_lt_of_cell? w _ hx229_0)).trans hx229_0; replace hx229_1 := (HB.out.cell (World.block_lt_of_cell? w _ hx229_1)).trans hx229_1; replace hx229_2 := (HB.out.cell (World.block_lt_of_cell? w _ hx229_2)).trans hx229_2; replace hx229_3 := (HB.out.cell (World.block_lt_of_cell? w _ hx229_3)).trans hx229_3; replace p229 := eq_true p229; replace q229 := eq_true q229; have p230 : 0 ≤ (x3_1 : Int) := ofD; have q230 : x3_1 < (l0.length : Int) := ofD; obtain ⟨ad230, e230, hx230_0, hx230_1, hx230_2, hx230_3⟩ := at_T36 HR0.out x3_1 p230 q230; obtain rfl : ad227 = ad230 := (by injection e230); replace hx230_0 := (HB.out.cell (World.block_lt_of_cell? w _ hx230_0)).trans hx230_0; replace hx230_1 := (HB.out.cell (World.block_lt_of_cell? w _ hx230_1)).trans hx230_1; replace hx230_2 := (HB.out.cell (World.block_lt_of_cell? w _ hx230_2)).trans hx230_2; replace hx230_3 := (HB.out.cell (World.block_lt_of_cell? w _ hx230_3)).trans hx230_3; replace p230 := eq_true p230; replace q230 := eq_true q230) | (go_at_call 14; (with_reducible refine (spec_l6In.calls ((rd_T36 l0 x3_1).f3) 0 9 true _ A9.out).mono ?_); rintro e w' ⟨rfl, ⟨nd, rfl⟩⟩; (try first | exact ⟨rfl, _, World.drewN_drewN _ _ _⟩ | exact ⟨rfl, _, Eq.trans (World.drewN_drewN _ _ _) (congrArg (World.drewN _) (Nat.add_assoc _ _ _))⟩); have p232 : 0 ≤ (x3_1 : Int) := ofD; have q232 : x3_1 < (l0.length : Int) := ofD; obtain ⟨ad232, e232, hx232_0, hx232_1, hx232_2, hx232_3⟩ := at_T36 HR0.out x3_1 p232 q232; obtain rfl : ad227 = ad232 := (by injection e232); replace hx232_0 := (HB.out.cell (World.block_lt_of_cell? w _ hx232_0)).trans hx232_0; replace hx232_1 := (HB.out.cell (World.block_lt_of_cell? w _ hx232_1)).trans hx232_1; replace hx232_2 := (HB.out.cell (World.block_lt_of_cell? w _ hx232_2)).trans hx232_2; replace hx232_3 := (HB.out.cell (World.block_lt_of_cell? w _ hx232_3)).trans hx232_3; replace p232 := eq_true p232; replace q232 := eq_true q232; have p233 : 0 ≤ (x3_1 : Int) := ofD; have q233 : x3_1 < (l0.length : Int) := ofD; obtain ⟨ad233, e233, hx233_0, hx233_1, hx233_2, hx233_3⟩ := at_T36 HR0.out x3_1 p233 q233; obtain rfl : ad227 = ad233 := (by injection e233); replace hx233_0 := (HB.out.cell (World.block_lt_of_cell? w _ hx233_0)).trans hx233_0; replace hx233_1 := (HB.out.cell (World.block_lt_of_cell? w _ hx233_1)).trans hx233_1; replace hx233_2 := (HB.out.cell (World.block_lt_of_cell? w _ hx233_2)).trans hx233_2; replace hx233_3 := (HB.out.cell (World.block_lt_of_cell? w _ hx233_3)).trans hx233_3; replace p233 := eq_true p233; replace q233 := eq_true q233; have p234 : 0 ≤ (x3_1 : Int) := ofD; have q234 : x3_1 < (l0.length : Int) := ofD; obtain ⟨ad234, e234, hx234_0, hx234_1, hx234_2, hx234_3⟩ := at_T36 HR0.out x3_1 p234 q234; obtain rfl : ad227 = ad234 := (by injection e234); replace hx234_0 := (HB.out.cell (World.block_lt_of_cell? w _ hx234_0)).trans hx234_0; replace hx234_1 := (HB.out.cell (World.block_lt_of_cell? w _ hx234_1)).trans hx234_1; replace hx234_2 := (HB.out.cell (World.block_lt_of_cell? w _ hx234_2)).trans hx234_2; replace hx234_3 := (HB.out.cell (World.block_lt_of_cell? w _ hx234_3)).trans hx234_3; replace p234 := eq_true p234; replace q234 := eq_true q234) | (go_at_call 13; (with_reducible refine (spec_l11Norm.calls k1 ((rd_T36 l0 x3_1).f2) t235 _ A14.out).mono ?_); rintro e w16 ⟨rfl, hb⟩; have n0_ := Aside0.mk (below_step (zz0 HB) hb); clear HB; have HB := n0_; clear n0_; (try clear hb)))
           repeat (go_quiet (first | (go_at_call 13; (with_reducible refine (spec_l11Norm.calls k1 ((rd_T36 l0 x3_1).f0) true _ A5.out).mono ?_); rintro e w15 ⟨rfl, hb⟩; have n0_ := Aside0.mk (below_step (zz0 HB) hb); clear HB; have HB := n0_; clear n0_; (try clear hb); have p229 : 0 ≤ (x3_1 : Int) := ofD; have q229 : x3_1 < (l0.length : Int) := ofD; obtain ⟨ad229, e229, hx229_0, hx229_1, hx229_2, hx229_3⟩ := at_T36 HR0.out x3_1 p229 q229; obtain rfl : ad227 = ad229 := (by injection e229); replace hx229_0 := (HB.out.cell (World.block_lt_of_cell? w _ hx229_0)).trans hx229_0; replace hx229_1 := (HB.out.cell (World.block_lt_of_cell? w _ hx229_1)).trans hx229_1; replace hx229_2 := (HB.out.cell (World.block_lt_of_cell? w _ hx229_2)).trans hx229_2; replace hx229_3 := (HB.out.cell (World.block_lt_of_cell? w _ hx229_3)).trans hx229_3; replace p229 := eq_true p229; replace q229 := eq_true q229; have p230 : 0 ≤ (x3_1 : Int) := ofD; have q230 : x3_1 < (l0.length : Int) := ofD; obtain ⟨ad230, e230, hx230_0, hx230_1, hx230_2, hx230_3⟩ := at_T36 HR0.out x3_1 p230 q230; obtain rfl : ad227 = ad230 := (by injection e230); replace hx230_0 := (HB.out.cell (World.block_lt_of_cell? w _ hx230_0)).trans hx230_0; replace hx230_1 := (HB.out.cell (World.block_lt_of_cell? w _ hx230_1)).trans hx230_1; replace hx230_2 := (HB.out.cell (World.block_lt_of_cell? w _ hx230_2)).trans hx230_2; replace hx230_3 := (HB.out.cell (World.block_lt_of_cell? w _ hx230_3)).trans hx230_3; replace p230 := eq_true p230; replace q230 := eq_true q230) | (go_at_call 14; (with_reducible refine (spec_l6In.calls ((rd_T36 l0 x3_1).f3) 0 9 true _ A9.out).mono ?_); rintro e w' ⟨rfl, ⟨nd, rfl⟩⟩; (try first | exact ⟨rfl, _, World.drewN_drewN _ _ _⟩ | exact ⟨rfl, _, Eq.trans (World.drewN_drewN _ _ _) (congrArg (World.drewN _) (Nat.add_assoc _ _ _))⟩); have p232 : 0 ≤ (x3_1 : Int) := ofD; have q232 : x3_1 < (l0.length : Int) := ofD; obtain ⟨ad232, e232, hx232_0, hx232_1, hx232_2, hx232_3⟩ := at_T36 HR0.out x3_1 p232 q232; obtain rfl : ad227 = ad232 := (by injection e232); replace hx232_0 := (HB.out.cell (World.block_lt_of_cell? w _ hx232_0)).trans hx232_0; replace hx232_1 := (HB.out.cell (World.block_lt_of_cell? w _ hx232_1)).trans hx232_1; replace hx232_2 := (HB.out.cell (World.block_lt_of_cell? w _ hx232_2)).trans hx232_2; replace hx232_3 := (HB.out.cell (World.block_lt_of_cell? w _ hx232_3)).trans hx232_3; replace p232 := eq_true p232; replace q232 := eq_true q232; have p233 : 0 ≤ (x3_1 : Int) := ofD; have q233 : x3_1 < (l0.length : Int) := ofD; obtain ⟨ad233, e233, hx233_0, hx233_1, hx233_2, hx233_3⟩ := at_T36 HR0.out x3_1 p233 q233; obtain rfl : ad227 = ad233 := (by injection e233); replace hx233_0 := (HB.out.cell (World.block_lt_of_cell? w _ hx233_0)).trans hx233_0; replace hx233_1 := (HB.out.cell (World.block_lt_of_cell? w _ hx233_1)).trans hx233_1; replace hx233_2 := (HB.out.cell (World.block_lt_of_cell? w _ hx233_2)).trans hx233_2; replace hx233_3 := (HB.out.cell (World.block_lt_of_cell? w _ hx233_3)).trans hx233_3; replace p233 := eq_true p233; replace q233 := eq_true q233; have p234 : 0 ≤ (x3_1 : Int) := ofD; have q234 : x3_1 < (l0.length : Int) := ofD; obtain ⟨ad234, e234, hx234_0, hx234_1, hx234_2, hx234_3⟩ := at_T36 HR0.out x3_1 p234 q234; obtain rfl : ad227 = ad234 := (by injection e234); replace hx234_0 := (HB.out.cell (World.block_lt_of_cell? w _ hx234_0)).trans hx234_0; replace hx234_1 := (HB.out.cell (World.block_lt_of_cell? w _ hx234_1)).trans hx234_1; replace hx234_2 := (HB.out.cell (World.block_lt_of_cell? w _ hx234_2)).trans hx234_2; replace hx234_3 := (HB.out.cell (World.block_lt_of_cell? w _ hx234_3)).trans hx234_3; replace p234 := eq_true p234; replace q234 := eq_true q234) | (go_at_call 13; (with_reducible refine (spec_l11Norm.calls k1 ((rd_T36 l0 x3_1).f2) t235 _ A14.out).mono ?_); rintro e w16 ⟨rfl, hb⟩; have n0_ := Aside0.mk (below_step (zz0 HB) hb); clear HB; have HB := n0_; clear n0_; (try clear hb))); try go_wp2_with (first | (go_at_call 13; (with_reducible refine (spec_l11Norm.calls k1 ((rd_T36 l0 x3_1).f0) true _ A5.out).mono ?_); rintro e w15 ⟨rfl, hb⟩; have n0_ := Aside0.mk (below_step (zz0 HB) hb); clear HB; have HB := n0_; clear n0_; (try clear hb); have p229 : 0 ≤ (x3_1 : Int) := ofD; have q229 : x3_1 < (l0.length : Int) := ofD; obtain ⟨ad229, e229, hx229_0, hx229_1, hx229_2, hx229_3⟩ := at_T36 HR0.out x3_1 p229 q229; obtain rfl : ad227 = ad229 := (by injection e229); replace hx229_0 := (HB.out.cell (World.block_lt_of_cell? w _ hx229_0)).trans hx229_0; replace hx229_1 := (HB.out.cell (World.block_lt_of_cell? w _ hx229_1)).trans hx229_1; replace hx229_2 := (HB.out.cell (World.block_lt_of_cell? w _ hx229_2)).trans hx229_2; replace hx229_3 := (HB.out.cell (World.block_lt_of_cell? w _ hx229_3)).trans hx229_3; replace p229 := eq_true p229; replace q229 := eq_true q229; have p230 : 0 ≤ (x3_1 : Int) := ofD; have q230 : x3_1 < (l0.length : Int) := ofD; obtain ⟨ad230, e230, hx230_0, hx230_1, hx230_2, hx230_3⟩ := at_T36 HR0.out x3_1 p230 q230; obtain rfl : ad227 = ad230 := (by injection e230); replace hx230_0 := (HB.out.cell (World.block_lt_of_cell? w _ hx230_0)).trans hx230_0; replace hx230_1 := (HB.out.cell (World.block_lt_of_cell? w _ hx230_1)).trans hx230_1; replace hx230_2 := (HB.out.cell (World.block_lt_of_cell? w _ hx230_2)).trans hx230_2; replace hx230_3 := (HB.out.cell (World.block_lt_of_cell? w _ hx230_3)).trans hx230_3; replace p230 := eq_true p230; replace q230 := eq_true q230) | (go_at_call 14; (with_reducible refine (spec_l6In.calls ((rd_T36 l0 x3_1).f3) 0 9 true _ A9.out).mono ?_); rintro e w' ⟨rfl, ⟨nd, rfl⟩⟩; (try first | exact ⟨rfl, _, World.drewN_drewN _ _ _⟩ | exact ⟨rfl, _, Eq.trans (World.drewN_drewN _ _ _) (congrArg (World.drewN _) (Nat.add_assoc _ _ _))⟩); have p232 : 0 ≤ (x3_1 : Int) := ofD; have q232 : x3_1 < (l0.length : Int) := ofD; obtain ⟨ad232, e232, hx232_0, hx232_1, hx232_2, hx232_3⟩ := at_T36 HR0.out x3_1 p232 q232; obtain rfl : ad227 = ad232 := (by injection e232); replace hx232_0 := (HB.out.cell (World.block_lt_of_cell? w _ hx232_0)).trans hx232_0; replace hx232_1 := (HB.out.cell (World.block_lt_of_cell? w _ hx232_1)).trans hx232_1; replace hx232_2 := (HB.out.cell (World.block_lt_of_cell? w _ hx232_2)).trans hx232_2; replace hx232_3 := (HB.out.cell (World.block_lt_of_cell? w _ hx232_3)).trans hx232_3; replace p232 := eq_true p232; replace q232 := eq_true q232; have p233 : 0 ≤ (x3_1 : Int) := ofD; have q233 : x3_1 < (l0.length : Int) := ofD; obtain ⟨ad233, e233, hx233_0, hx233_1, hx233_2, hx233_3⟩ := at_T36 HR0.out x3_1 p233 q233; obtain rfl : ad227 = ad233 := (by injection e233); replace hx233_0 := (HB.out.cell (World.block_lt_of_cell? w _ hx233_0)).trans hx233_0; replace hx233_1 := (HB.out.cell (World.block_lt_of_cell? w _ hx233_1)).trans hx233_1; replace hx233_2 := (HB.out.cell (World.block_lt_of_cell? w _ hx233_2)).trans hx233_2; replace hx233_3 := (HB.out.cell (World.block_lt_of_cell? w _ hx233_3)).trans hx233_3; replace p233 := eq_true p233; replace q233 := eq_true q233; have p234 : 0 ≤ (x3_1 : Int) := ofD; have q234 : x3_1 < (l0.length : Int) := ofD; obtain ⟨ad234, e234, hx234_0, hx234_1, hx234_2, hx234_3⟩ := at_T36 HR0.out x3_1 p234 q234; obtain rfl : ad227 = ad234 := (by injection e234); replace hx234_0 := (HB.out.cell (World.block_lt_of_cell? w _ hx234_0)).trans hx234_0; replace hx234_1 := (HB.out.cell (World.block_lt_of_cell? w _ hx234_1)).trans hx234_1; replace hx234_2 := (HB.out.cell (World.block_lt_of_cell? w _ hx234_2)).trans hx234_2; replace hx234_3 := (HB.out.cell (World.block_lt_of_cell? w _ hx234_3)).trans hx234_3; replace p234 := eq_true p234; replace q234 := eq_true q234) | (go_at_call 13; (with_reducible refine (spec_l11Norm.calls k1 ((rd_T36 l0 x3_1).f2) t235 _ A14.out).mono ?_); rintro e w16 ⟨rfl, hb⟩; have n0_ := Aside0.mk (below_step (zz0 HB) hb); clear HB; have HB := n0_; clear n0_; (try clear hb))))
           go_meet
           case rel => exact ⟨_, (!t235), zz3, H', ⟨(zz22 HK1)⟩, ⟨(zz0 HB)⟩⟩
          ·rw [if_neg c13] at H
           have c13b0 : (((rd_T36 l0 x3_1).f1).toList == ([] : List UInt8)) = false := beq_eq_false_iff_ne.mpr c13;have c13b1 : (((rd_T36 l0 x3_1).f1).toList != ([] : List UInt8)) = true := bne_iff_ne.mpr c13;have H' := Aside0.mk H;clear H;have p227 : 0 ≤ (x3_1 : Int) := ofD;have q227 : x3_1 < (l0.length : Int) := ofD;obtain ⟨ad227, e227, hx227_0, hx227_1, hx227_2, hx227_3⟩ := at_T36 HR0.out x3_1 p227 q227;cases e227
           replace hx227_0 := (HB.out.cell (World.block_lt_of_cell? w _ hx227_0)).trans hx227_0;replace hx227_1 := (HB.out.cell (World.block_lt_of_cell? w _ hx227_1)).trans hx227_1;replace hx227_2 := (HB.out.cell (World.block_lt_of_cell? w _ hx227_2)).trans hx227_2;replace hx227_3 := (HB.out.cell (World.block_lt_of_cell? w _ hx227_3)).trans hx227_3;replace p227 := eq_true p227;replace q227 := eq_true q227;go_wp2_with (first | (go_at_call 13; (with_reducible refine (spec_l11Norm.calls k1 ((rd_T36 l0 x3_1).f0) true _ A5.out).mono ?_); rintro e w17 ⟨rfl, hb⟩; have n0_ := Aside0.mk (below_step (zz0 HB) hb); clear HB; have HB := n0_; clear n0_; (try clear hb); have p229 : 0 ≤ (x3_1 : Int) := ofD; have q229 : x3_1 < (l0.length : Int) := ofD; obtain ⟨ad229, e229, hx229_0, hx229_1, hx229_2, hx229_3⟩ := at_T36 HR0.out x3_1 p229 q229; obtain rfl : ad227 = ad229 := (by injection e229); replace hx229_0 := (HB.out.cell (World.block_lt_of_cell? w _ hx229_0)).trans hx229_0; replace hx229_1 := (HB.out.cell (World.block_lt_of_cell? w _ hx229_1)).trans hx229_1; replace hx229_2 := (HB.out.cell (World.block_lt_of_cell? w _ hx229_2)).trans hx229_2; replace hx229_3 := (HB.out.cell (World.block_lt_of_cell? w _ hx229_3)).trans hx229_3; replace p229 := eq_true p229; replace q229 := eq_true q229; have p230 : 0 ≤ (x3_1 : Int) := ofD; have q230 : x3_1 < (l0.length : Int) := ofD; obtain ⟨ad230, e230, hx230_0, hx230_1, hx230_2, hx230_3⟩ := at_T36 HR0.out x3_1 p230 q230; obtain rfl : ad227 = ad230 := (by injection e230); replace hx230_0 := (HB.out.cell (World.block_lt_of_cell? w _ hx230_0)).trans hx230_0; replace hx230_1 := (HB.out.cell (World.block_lt_of_cell? w _ hx230_1)).trans hx230_1; replace hx230_2 := (HB.out.cell (World.block_lt_of_cell? w _ hx230_2)).trans hx230_2; replace hx230_3 := (HB.out.cell (World.block_lt_of_cell? w _ hx230_3)).trans hx230_3; replace p230 := eq_true p230; replace q230 := eq_true q230) | (go_at_call 14; (with_reducible refine (spec_l6In.calls ((rd_T36 l0 x3_1).f3) 0 9 true _ A9.out).mono ?_); rintro e w' ⟨rfl, ⟨nd, rfl⟩⟩; (try first | exact ⟨rfl, _, World.drewN_drewN _ _ _⟩ | exact ⟨rfl, _, Eq.trans (World.drewN_drewN _ _ _) (congrArg (World.drewN _) (Nat.add_assoc _ _ _))⟩); have p232 : 0 ≤ (x3_1 : Int) := ofD; have q232 : x3_1 < (l0.length : Int) := ofD; obtain ⟨ad232, e232, hx232_0, hx232_1, hx232_2, hx232_3⟩ := at_T36 HR0.out x3_1 p232 q232; obtain rfl : ad227 = ad232 := (by injection e232); replace hx232_0 := (HB.out.cell (World.block_lt_of_cell? w _ hx232_0)).trans hx232_0; replace hx232_1 := (HB.out.cell (World.block_lt_of_cell? w _ hx232_1)).trans hx232_1; replace hx232_2 := (HB.out.cell (World.block_lt_of_cell? w _ hx232_2)).trans hx232_2; replace hx232_3 := (HB.out.cell (World.block_lt_of_cell? w _ hx232_3)).trans hx232_3; replace p232 := eq_true p232; replace q232 := eq_true q232; have p233 : 0 ≤ (x3_1 : Int) := ofD; have q233 : x3_1 < (l0.length : Int) := ofD; obtain ⟨ad233, e233, hx233_0, hx233_1, hx233_2, hx233_3⟩ := at_T36 HR0.out x3_1 p233 q233; obtain rfl : ad227 = ad233 := (by injection e233); replace hx233_0 := (HB.out.cell (World.block_lt_of_cell? w _ hx233_0)).trans hx233_0; replace hx233_1 := (HB.out.cell (World.block_lt_of_cell? w _ hx233_1)).trans hx233_1; replace hx233_2 := (HB.out.cell (World.block_lt_of_cell? w _ hx233_2)).trans hx233_2; replace hx233_3 := (HB.out.cell (World.block_lt_of_cell? w _ hx233_3)).trans hx233_3; replace p233 := eq_true p233; replace q233 := eq_true q233))
           repeat (go_quiet (first | (go_at_call 13; (with_reducible refine (spec_l11Norm.calls k1 ((rd_T36 l0 x3_1).f0) true _ A5.out).mono ?_); rintro e w17 ⟨rfl, hb⟩; have n0_ := Aside0.mk (below_step (zz0 HB) hb); clear HB; have HB := n0_; clear n0_; (try clear hb); have p229 : 0 ≤ (x3_1 : Int) := ofD; have q229 : x3_1 < (l0.length : Int) := ofD; obtain ⟨ad229, e229, hx229_0, hx229_1, hx229_2, hx229_3⟩ := at_T36 HR0.out x3_1 p229 q229; obtain rfl : ad227 = ad229 := (by injection e229); replace hx229_0 := (HB.out.cell (World.block_lt_of_cell? w _ hx229_0)).trans hx229_0; replace hx229_1 := (HB.out.cell (World.block_lt_of_cell? w _ hx229_1)).trans hx229_1; replace hx229_2 := (HB.out.cell (World.block_lt_of_cell? w _ hx229_2)).trans hx229_2; replace hx229_3 := (HB.out.cell (World.block_lt_of_cell? w _ hx229_3)).trans hx229_3; replace p229 := eq_true p229; replace q229 := eq_true q229; have p230 : 0 ≤ (x3_1 : Int) := ofD; have q230 : x3_1 < (l0.length : Int) := ofD; obtain ⟨ad230, e230, hx230_0, hx230_1, hx230_2, hx230_3⟩ := at_T36 HR0.out x3_1 p230 q230; obtain rfl : ad227 = ad230 := (by injection e230); replace hx230_0 := (HB.out.cell (World.block_lt_of_cell? w _ hx230_0)).trans hx230_0; replace hx230_1 := (HB.out.cell (World.block_lt_of_cell? w _ hx230_1)).trans hx230_1; replace hx230_2 := (HB.out.cell (World.block_lt_of_cell? w _ hx230_2)).trans hx230_2; replace hx230_3 := (HB.out.cell (World.block_lt_of_cell? w _ hx230_3)).trans hx230_3; replace p230 := eq_true p230; replace q230 := eq_true q230) | (go_at_call 14; (with_reducible refine (spec_l6In.calls ((rd_T36 l0 x3_1).f3) 0 9 true _ A9.out).mono ?_); rintro e w' ⟨rfl, ⟨nd, rfl⟩⟩; (try first | exact ⟨rfl, _, World.drewN_drewN _ _ _⟩ | exact ⟨rfl, _, Eq.trans (World.drewN_drewN _ _ _) (congrArg (World.drewN _) (Nat.add_assoc _ _ _))⟩); have p232 : 0 ≤ (x3_1 : Int) := ofD; have q232 : x3_1 < (l0.length : Int) := ofD; obtain ⟨ad232, e232, hx232_0, hx232_1, hx232_2, hx232_3⟩ := at_T36 HR0.out x3_1 p232 q232; obtain rfl : ad227 = ad232 := (by injection e232); replace hx232_0 := (HB.out.cell (World.block_lt_of_cell? w _ hx232_0)).trans hx232_0; replace hx232_1 := (HB.out.cell (World.block_lt_of_cell? w _ hx232_1)).trans hx232_1; replace hx232_2 := (HB.out.cell (World.block_lt_of_cell? w _ hx232_2)).trans hx232_2; replace hx232_3 := (HB.out.cell (World.block_lt_of_cell? w _ hx232_3)).trans hx232_3; replace p232 := eq_true p232; replace q232 := eq_true q232; have p233 : 0 ≤ (x3_1 : Int) := ofD; have q233 : x3_1 < (l0.length : Int) := ofD; obtain ⟨ad233, e233, hx233_0, hx233_1, hx233_2, hx233_3⟩ := at_T36 HR0.out x3_1 p233 q233; obtain rfl : ad227 = ad233 := (by injection e233); replace hx233_0 := (HB.out.cell (World.block_lt_of_cell? w _ hx233_0)).trans hx233_0; replace hx233_1 := (HB.out.cell (World.block_lt_of_cell? w _ hx233_1)).trans hx233_1; replace hx233_2 := (HB.out.cell (World.block_lt_of_cell? w _ hx233_2)).trans hx233_2; replace hx233_3 := (HB.out.cell (World.block_lt_of_cell? w _ hx233_3)).trans hx233_3; replace p233 := eq_true p233; replace q233 := eq_true q233)); try go_wp2_with (first | (go_at_call 13; (with_reducible refine (spec_l11Norm.calls k1 ((rd_T36 l0 x3_1).f0) true _ A5.out).mono ?_); rintro e w17 ⟨rfl, hb⟩; have n0_ := Aside0.mk (below_step (zz0 HB) hb); clear HB; have HB := n0_; clear n0_; (try clear hb); have p229 : 0 ≤ (x3_1 : Int) := ofD; have q229 : x3_1 < (l0.length : Int) := ofD; obtain ⟨ad229, e229, hx229_0, hx229_1, hx229_2, hx229_3⟩ := at_T36 HR0.out x3_1 p229 q229; obtain rfl : ad227 = ad229 := (by injection e229); replace hx229_0 := (HB.out.cell (World.block_lt_of_cell? w _ hx229_0)).trans hx229_0; replace hx229_1 := (HB.out.cell (World.block_lt_of_cell? w _ hx229_1)).trans hx229_1; replace hx229_2 := (HB.out.cell (World.block_lt_of_cell? w _ hx229_2)).trans hx229_2; replace hx229_3 := (HB.out.cell (World.block_lt_of_cell? w _ hx229_3)).trans hx229_3; replace p229 := eq_true p229; replace q229 := eq_true q229; have p230 : 0 ≤ (x3_1 : Int) := ofD; have q230 : x3_1 < (l0.length : Int) := ofD; obtain ⟨ad230, e230, hx230_0, hx230_1, hx230_2, hx230_3⟩ := at_T36 HR0.out x3_1 p230 q230; obtain rfl : ad227 = ad230 := (by injection e230); replace hx230_0 := (HB.out.cell (World.block_lt_of_cell? w _ hx230_0)).trans hx230_0; replace hx230_1 := (HB.out.cell (World.block_lt_of_cell? w _ hx230_1)).trans hx230_1; replace hx230_2 := (HB.out.cell (World.block_lt_of_cell? w _ hx230_2)).trans hx230_2; replace hx230_3 := (HB.out.cell (World.block_lt_of_cell? w _ hx230_3)).trans hx230_3; replace p230 := eq_true p230; replace q230 := eq_true q230) | (go_at_call 14; (with_reducible refine (spec_l6In.calls ((rd_T36 l0 x3_1).f3) 0 9 true _ A9.out).mono ?_); rintro e w' ⟨rfl, ⟨nd, rfl⟩⟩; (try first | exact ⟨rfl, _, World.drewN_drewN _ _ _⟩ | exact ⟨rfl, _, Eq.trans (World.drewN_drewN _ _ _) (congrArg (World.drewN _) (Nat.add_assoc _ _ _))⟩); have p232 : 0 ≤ (x3_1 : Int) := ofD; have q232 : x3_1 < (l0.length : Int) := ofD; obtain ⟨ad232, e232, hx232_0, hx232_1, hx232_2, hx232_3⟩ := at_T36 HR0.out x3_1 p232 q232; obtain rfl : ad227 = ad232 := (by injection e232); replace hx232_0 := (HB.out.cell (World.block_lt_of_cell? w _ hx232_0)).trans hx232_0; replace hx232_1 := (HB.out.cell (World.block_lt_of_cell? w _ hx232_1)).trans hx232_1; replace hx232_2 := (HB.out.cell (World.block_lt_of_cell? w _ hx232_2)).trans hx232_2; replace hx232_3 := (HB.out.cell (World.block_lt_of_cell? w _ hx232_3)).trans hx232_3; replace p232 := eq_true p232; replace q232 := eq_true q232; have p233 : 0 ≤ (x3_1 : Int) := ofD; have q233 : x3_1 < (l0.length : Int) := ofD; obtain ⟨ad233, e233, hx233_0, hx233_1, hx233_2, hx233_3⟩ := at_T36 HR0.out x3_1 p233 q233; obtain rfl : ad227 = ad233 := (by injection e233); replace hx233_0 := (HB.out.cell (World.block_lt_of_cell? w _ hx233_0)).trans hx233_0; replace hx233_1 := (HB.out.cell (World.block_lt_of_cell? w _ hx233_1)).trans hx233_1; replace hx233_2 := (HB.out.cell (World.block_lt_of_cell? w _ hx233_2)).trans hx233_2; replace hx233_3 := (HB.out.cell (World.block_lt_of_cell? w _ hx233_3)).trans hx233_3; replace p233 := eq_true p233; replace q233 := eq_true q233)))
           go_meet
           case rel => exact ⟨_, (true), zz3, H', ⟨(zz22 HK1)⟩, ⟨(zz0 HB)⟩⟩
        ·replace c10 := Bool.eq_false_iff.mpr c10
         subst c10;rw [if_neg (show ¬ (false = true) by decide)] at H;have H' := Aside0.mk H;clear H;have p227 : 0 ≤ (x3_1 : Int) := ofD;have q227 : x3_1 < (l0.length : Int) := ofD;obtain ⟨ad227, e227, hx227_0, hx227_1, hx227_2, hx227_3⟩ := at_T36 HR0.out x3_1 p227 q227;cases e227
         replace hx227_0 := (HB.out.cell (World.block_lt_of_cell? w _ hx227_0)).trans hx227_0;replace hx227_1 := (HB.out.cell (World.block_lt_of_cell? w _ hx227_1)).trans hx227_1;replace hx227_2 := (HB.out.cell (World.block_lt_of_cell? w _ hx227_2)).trans hx227_2;replace hx227_3 := (HB.out.cell (World.block_lt_of_cell? w _ hx227_3)).trans hx227_3;replace p227 := eq_true p227;replace q227 := eq_true q227;go_wp2_with (first | (go_at_call 13; (with_reducible refine (spec_l11Norm.calls k1 ((rd_T36 l0 x3_1).f0) true _ A5.out).mono ?_); rintro e w18 ⟨rfl, hb⟩; have n0_ := Aside0.mk (below_step (zz0 HB) hb); clear HB; have HB := n0_; clear n0_; (try clear hb); have p229 : 0 ≤ (x3_1 : Int) := ofD; have q229 : x3_1 < (l0.length : Int) := ofD; obtain ⟨ad229, e229, hx229_0, hx229_1, hx229_2, hx229_3⟩ := at_T36 HR0.out x3_1 p229 q229; obtain rfl : ad227 = ad229 := (by injection e229); replace hx229_0 := (HB.out.cell (World.block_lt_of_cell? w _ hx229_0)).trans hx229_0; replace hx229_1 := (HB.out.cell (World.block_lt_of_cell? w _ hx229_1)).trans hx229_1; replace hx229_2 := (HB.out.cell (World.block_lt_of_cell? w _ hx229_2)).trans hx229_2; replace hx229_3 := (HB.out.cell (World.block_lt_of_cell? w _ hx229_3)).trans hx229_3; replace p229 := eq_true p229; replace q229 := eq_true q229; have p230 : 0 ≤ (x3_1 : Int) := ofD; have q230 : x3_1 < (l0.length : Int) := ofD; obtain ⟨ad230, e230, hx230_0, hx230_1, hx230_2, hx230_3⟩ := at_T36 HR0.out x3_1 p230 q230; obtain rfl : ad227 = ad230 := (by injection e230); replace hx230_0 := (HB.out.cell (World.block_lt_of_cell? w _ hx230_0)).trans hx230_0; replace hx230_1 := (HB.out.cell (World.block_lt_of_cell? w _ hx230_1)).trans hx230_1; replace hx230_2 := (HB.out.cell (World.block_lt_of_cell? w _ hx230_2)).trans hx230_2; replace hx230_3 := (HB.out.cell (World.block_lt_of_cell? w _ hx230_3)).trans hx230_3; replace p230 := eq_true p230; replace q230 := eq_true q230) | (go_at_call 14; (with_reducible refine (spec_l6In.calls ((rd_T36 l0 x3_1).f3) 0 9 false _ A9.out).mono ?_); rintro e w' ⟨rfl, ⟨nd, rfl⟩⟩; (try first | exact ⟨rfl, _, World.drewN_drewN _ _ _⟩ | exact ⟨rfl, _, Eq.trans (World.drewN_drewN _ _ _) (congrArg (World.drewN _) (Nat.add_assoc _ _ _))⟩)))
         repeat (go_quiet (first | (go_at_call 13; (with_reducible refine (spec_l11Norm.calls k1 ((rd_T36 l0 x3_1).f0) true _ A5.out).mono ?_); rintro e w18 ⟨rfl, hb⟩; have n0_ := Aside0.mk (below_step (zz0 HB) hb); clear HB; have HB := n0_; clear n0_; (try clear hb); have p229 : 0 ≤ (x3_1 : Int) := ofD; have q229 : x3_1 < (l0.length : Int) := ofD; obtain ⟨ad229, e229, hx229_0, hx229_1, hx229_2, hx229_3⟩ := at_T36 HR0.out x3_1 p229 q229; obtain rfl : ad227 = ad229 := (by injection e229); replace hx229_0 := (HB.out.cell (World.block_lt_of_cell? w _ hx229_0)).trans hx229_0; replace hx229_1 := (HB.out.cell (World.block_lt_of_cell? w _ hx229_1)).trans hx229_1; replace hx229_2 := (HB.out.cell (World.block_lt_of_cell? w _ hx229_2)).trans hx229_2; replace hx229_3 := (HB.out.cell (World.block_lt_of_cell? w _ hx229_3)).trans hx229_3; replace p229 := eq_true p229; replace q229 := eq_true q229; have p230 : 0 ≤ (x3_1 : Int) := ofD; have q230 : x3_1 < (l0.length : Int) := ofD; obtain ⟨ad230, e230, hx230_0, hx230_1, hx230_2, hx230_3⟩ := at_T36 HR0.out x3_1 p230 q230; obtain rfl : ad227 = ad230 := (by injection e230); replace hx230_0 := (HB.out.cell (World.block_lt_of_cell? w _ hx230_0)).trans hx230_0; replace hx230_1 := (HB.out.cell (World.block_lt_of_cell? w _ hx230_1)).trans hx230_1; replace hx230_2 := (HB.out.cell (World.block_lt_of_cell? w _ hx230_2)).trans hx230_2; replace hx230_3 := (HB.out.cell (World.block_lt_of_cell? w _ hx230_3)).trans hx230_3; replace p230 := eq_true p230; replace q230 := eq_true q230) | (go_at_call 14; (with_reducible refine (spec_l6In.calls ((rd_T36 l0 x3_1).f3) 0 9 false _ A9.out).mono ?_); rintro e w' ⟨rfl, ⟨nd, rfl⟩⟩; (try first | exact ⟨rfl, _, World.drewN_drewN _ _ _⟩ | exact ⟨rfl, _, Eq.trans (World.drewN_drewN _ _ _) (congrArg (World.drewN _) (Nat.add_assoc _ _ _))⟩))); try go_wp2_with (first | (go_at_call 13; (with_reducible refine (spec_l11Norm.calls k1 ((rd_T36 l0 x3_1).f0) true _ A5.out).mono ?_); rintro e w18 ⟨rfl, hb⟩; have n0_ := Aside0.mk (below_step (zz0 HB) hb); clear HB; have HB := n0_; clear n0_; (try clear hb); have p229 : 0 ≤ (x3_1 : Int) := ofD; have q229 : x3_1 < (l0.length : Int) := ofD; obtain ⟨ad229, e229, hx229_0, hx229_1, hx229_2, hx229_3⟩ := at_T36 HR0.out x3_1 p229 q229; obtain rfl : ad227 = ad229 := (by injection e229); replace hx229_0 := (HB.out.cell (World.block_lt_of_cell? w _ hx229_0)).trans hx229_0; replace hx229_1 := (HB.out.cell (World.block_lt_of_cell? w _ hx229_1)).trans hx229_1; replace hx229_2 := (HB.out.cell (World.block_lt_of_cell? w _ hx229_2)).trans hx229_2; replace hx229_3 := (HB.out.cell (World.block_lt_of_cell? w _ hx229_3)).trans hx229_3; replace p229 := eq_true p229; replace q229 := eq_true q229; have p230 : 0 ≤ (x3_1 : Int) := ofD; have q230 : x3_1 < (l0.length : Int) := ofD; obtain ⟨ad230, e230, hx230_0, hx230_1, hx230_2, hx230_3⟩ := at_T36 HR0.out x3_1 p230 q230; obtain rfl : ad227 = ad230 := (by injection e230); replace hx230_0 := (HB.out.cell (World.block_lt_of_cell? w _ hx230_0)).trans hx230_0; replace hx230_1 := (HB.out.cell (World.block_lt_of_cell? w _ hx230_1)).trans hx230_1; replace hx230_2 := (HB.out.cell (World.block_lt_of_cell? w _ hx230_2)).trans hx230_2; replace hx230_3 := (HB.out.cell (World.block_lt_of_cell? w _ hx230_3)).trans hx230_3; replace p230 := eq_true p230; replace q230 := eq_true q230) | (go_at_call 14; (with_reducible refine (spec_l6In.calls ((rd_T36 l0 x3_1).f3) 0 9 false _ A9.out).mono ?_); rintro e w' ⟨rfl, ⟨nd, rfl⟩⟩; (try first | exact ⟨rfl, _, World.drewN_drewN _ _ _⟩ | exact ⟨rfl, _, Eq.trans (World.drewN_drewN _ _ _) (congrArg (World.drewN _) (Nat.add_assoc _ _ _))⟩))))
         go_meet
         case rel => exact ⟨_, (true), zz3, H', ⟨(zz22 HK1)⟩, ⟨(zz0 HB)⟩⟩
      ·replace c6 := Bool.eq_false_iff.mpr c6
       subst c6;rw [if_neg (show ¬ (false = true) by decide)] at H;have H' := Aside0.mk H;clear H;have p227 : 0 ≤ (x3_1 : Int) := ofD;have q227 : x3_1 < (l0.length : Int) := ofD;obtain ⟨ad227, e227, hx227_0, hx227_1, hx227_2, hx227_3⟩ := at_T36 HR0.out x3_1 p227 q227;cases e227
       replace hx227_0 := (HB.out.cell (World.block_lt_of_cell? w _ hx227_0)).trans hx227_0;replace hx227_1 := (HB.out.cell (World.block_lt_of_cell? w _ hx227_1)).trans hx227_1;replace hx227_2 := (HB.out.cell (World.block_lt_of_cell? w _ hx227_2)).trans hx227_2;replace hx227_3 := (HB.out.cell (World.block_lt_of_cell? w _ hx227_3)).trans hx227_3;replace p227 := eq_true p227;replace q227 := eq_true q227;go_wp2_with (first | (go_at_call 13; (with_reducible refine (spec_l11Norm.calls k1 ((rd_T36 l0 x3_1).f0) false _ A5.out).mono ?_); rintro e w19 ⟨rfl, hb⟩; have n0_ := Aside0.mk (below_step (zz0 HB) hb); clear HB; have HB := n0_; clear n0_; (try clear hb)))
       repeat (go_quiet (first | (go_at_call 13; (with_reducible refine (spec_l11Norm.calls k1 ((rd_T36 l0 x3_1).f0) false _ A5.out).mono ?_); rintro e w19 ⟨rfl, hb⟩; have n0_ := Aside0.mk (below_step (zz0 HB) hb); clear HB; have HB := n0_; clear n0_; (try clear hb))); try go_wp2_with (first | (go_at_call 13; (with_reducible refine (spec_l11Norm.calls k1 ((rd_T36 l0 x3_1).f0) false _ A5.out).mono ?_); rintro e w19 ⟨rfl, hb⟩; have n0_ := Aside0.mk (below_step (zz0 HB) hb); clear HB; have HB := n0_; clear n0_; (try clear hb))))
       go_meet
       case rel => exact ⟨_, (true), zz3, H', ⟨(zz22 HK1)⟩, ⟨(zz0 HB)⟩⟩
     ·rw [if_neg c4] at H
      exact absurd H (by simp)
    case rest =>
     clear HC3;obtain ⟨kq, x60_2, rfl, HA, HJ2, HB⟩ := hcut;cases kq with
     | zero => exact absurd HA.out (by simp [spec_WorldOk.j1])
     | succ kj2 =>
      have H := HA.out;clear HA;simp only [spec_WorldOk.j1] at H
      by_cases c20 : x60_2 = true
      ·subst c20
       rw [if_pos rfl] at H;obtain rfl := Option.some.inj H;go_wp2
       repeat (go_quiet (fail); try go_wp2)
       go_ret
       exact ⟨zz1, (zz0 HB)⟩
      ·replace c20 := Bool.eq_false_iff.mpr c20
       subst c20;rw [if_neg (show ¬ (false = true) by decide)] at H;have H' := Aside0.mk H;clear H;go_wp2
       repeat (go_quiet (fail); try go_wp2)
       go_loopg [4] kj2 (fun kq v4 w' => ∃ (x4_3 : Int), v4 = .int .i64 x4_3 ∧ Aside0 (spec_WorldOk.l1 kq l0 x3_1 x4_3 = some r) ∧ Aside0 (kq ≤ kj2) ∧ Aside0 (Below w.heap.size w w'))
       case atStart => exact ⟨(0), zz3, H', ⟨Nat.le_refl _⟩, ⟨(zz0 HB)⟩⟩
       case round =>
        clear H';obtain ⟨x4_3, rfl, HA, HK3, HB⟩ := hrel;cases gk with
        | zero => exact absurd HA.out (by simp [spec_WorldOk.l1])
        | succ k3 =>
         have H := HA.out;clear HA;simp only [spec_WorldOk.l1] at H
         by_cases c21 : x4_3 < x3_1
         ·rw [if_pos c21] at H
          have c21b0 : decide (x4_3 < x3_1) = true := decide_eq_true c21;clear c21;by_cases c22 : 0 ≤ x4_3
          ·rw [if_pos c22] at H
           have c22b0 : decide (0 ≤ x4_3) = true := decide_eq_true c22;clear c22;by_cases c23 : x4_3 < (l0.length : Int)
           ·rw [if_pos c23] at H
            have c23b0 : decide (x4_3 < (l0.length : Int)) = true := decide_eq_true c23;clear c23;by_cases c24 : 0 ≤ x3_1
            ·rw [if_pos c24] at H
             have c24b0 : decide (0 ≤ x3_1) = true := decide_eq_true c24;clear c24;by_cases c25 : x3_1 < (l0.length : Int)
             ·rw [if_pos c25] at H
              have c25b0 : decide (x3_1 < (l0.length : Int)) = true := decide_eq_true c25;clear c25;by_cases c26 : ((rd_T36 l0 x4_3).f0).toList = ((rd_T36 l0 x3_1).f0).toList
              ·rw [if_pos c26] at H
               have c26b0 : (((rd_T36 l0 x4_3).f0).toList == ((rd_T36 l0 x3_1).f0).toList) = true := beq_iff_eq.mpr c26;have c26b1 : (((rd_T36 l0 x4_3).f0).toList != ((rd_T36 l0 x3_1).f0).toList) = false := bne_eq_false_iff_eq.mpr c26;clear c26;obtain rfl := Option.some.inj H;have p236 : 0 ≤ (x4_3 : Int) := ofD;have q236 : x4_3 < (l0.length : Int) := ofD;obtain ⟨ad236, e236, hx236_0, hx236_1, hx236_2, hx236_3⟩ := at_T36 HR0.out x4_3 p236 q236;cases e236
               replace hx236_0 := (HB.out.cell (World.block_lt_of_cell? w _ hx236_0)).trans hx236_0;replace hx236_1 := (HB.out.cell (World.block_lt_of_cell? w _ hx236_1)).trans hx236_1;replace hx236_2 := (HB.out.cell (World.block_lt_of_cell? w _ hx236_2)).trans hx236_2;replace hx236_3 := (HB.out.cell (World.block_lt_of_cell? w _ hx236_3)).trans hx236_3;replace p236 := eq_true p236;replace q236 := eq_true q236;have p237 : 0 ≤ (x3_1 : Int) := ofD;have q237 : x3_1 < (l0.length : Int) := ofD;obtain ⟨ad237, e237, hx237_0, hx237_1, hx237_2, hx237_3⟩ := at_T36 HR0.out x3_1 p237 q237;obtain rfl : ad236 = ad237 := (by injection e237);replace hx237_0 := (HB.out.cell (World.block_lt_of_cell? w _ hx237_0)).trans hx237_0;replace hx237_1 := (HB.out.cell (World.block_lt_of_cell? w _ hx237_1)).trans hx237_1;replace hx237_2 := (HB.out.cell (World.block_lt_of_cell? w _ hx237_2)).trans hx237_2;replace hx237_3 := (HB.out.cell (World.block_lt_of_cell? w _ hx237_3)).trans hx237_3;replace p237 := eq_true p237;replace q237 := eq_true q237;go_wp2
               repeat (go_quiet (fail); try go_wp2)
               go_ret
               exact ⟨zz1, (zz0 HB)⟩
              ·rw [if_neg c26] at H
               have c26b0 : (((rd_T36 l0 x4_3).f0).toList == ((rd_T36 l0 x3_1).f0).toList) = false := beq_eq_false_iff_ne.mpr c26;have c26b1 : (((rd_T36 l0 x4_3).f0).toList != ((rd_T36 l0 x3_1).f0).toList) = true := bne_iff_ne.mpr c26;have H' := Aside0.mk H;clear H;have p236 : 0 ≤ (x4_3 : Int) := ofD;have q236 : x4_3 < (l0.length : Int) := ofD;obtain ⟨ad236, e236, hx236_0, hx236_1, hx236_2, hx236_3⟩ := at_T36 HR0.out x4_3 p236 q236;cases e236
               replace hx236_0 := (HB.out.cell (World.block_lt_of_cell? w _ hx236_0)).trans hx236_0;replace hx236_1 := (HB.out.cell (World.block_lt_of_cell? w _ hx236_1)).trans hx236_1;replace hx236_2 := (HB.out.cell (World.block_lt_of_cell? w _ hx236_2)).trans hx236_2;replace hx236_3 := (HB.out.cell (World.block_lt_of_cell? w _ hx236_3)).trans hx236_3;replace p236 := eq_true p236;replace q236 := eq_true q236;have p237 : 0 ≤ (x3_1 : Int) := ofD;have q237 : x3_1 < (l0.length : Int) := ofD;obtain ⟨ad237, e237, hx237_0, hx237_1, hx237_2, hx237_3⟩ := at_T36 HR0.out x3_1 p237 q237;obtain rfl : ad236 = ad237 := (by injection e237);replace hx237_0 := (HB.out.cell (World.block_lt_of_cell? w _ hx237_0)).trans hx237_0;replace hx237_1 := (HB.out.cell (World.block_lt_of_cell? w _ hx237_1)).trans hx237_1;replace hx237_2 := (HB.out.cell (World.block_lt_of_cell? w _ hx237_2)).trans hx237_2;replace hx237_3 := (HB.out.cell (World.block_lt_of_cell? w _ hx237_3)).trans hx237_3;replace p237 := eq_true p237;replace q237 := eq_true q237;go_wp2
               repeat (go_quiet (fail); try go_wp2)
               go_roundg k3
               case measure => have := HK1.out; have := HJ2.out; have := HK3.out; omega
               case rel => exact ⟨(wrap64 (x4_3 + 1)), zz3, H', ⟨(by have := HK1.out; have := HJ2.out; have := HK3.out; omega)⟩, ⟨(zz0 HB)⟩⟩
             ·rw [if_neg c25] at H
              exact absurd H (by simp)
            ·rw [if_neg c24] at H
             exact absurd H (by simp)
           ·rw [if_neg c23] at H
            exact absurd H (by simp)
          ·rw [if_neg c22] at H
           exact absurd H (by simp)
         ·rw [if_neg c21] at H
          have c21b0 : decide (x4_3 < x3_1) = false := decide_eq_false c21;clear c21;have H' := Aside0.mk H;clear H;go_wp2
          repeat (go_quiet (fail); try go_wp2)
          go_roundg k3
          case measure => have := HK1.out; have := HJ2.out; have := HK3.out; omega
          case rel => exact ⟨(wrap64 (x3_1 + 1)), zz3, H', ⟨(by have := HK1.out; have := HJ2.out; have := HK3.out; omega)⟩, ⟨(zz0 HB)⟩⟩
   ·rw [if_neg c2] at H
    have c2b0 : decide (x3_1 < (l0.length : Int)) = false := decide_eq_false c2;clear c2;obtain rfl := Option.some.inj H;go_wp2
    repeat (go_quiet (fail); try go_wp2)
    go_ret
    exact ⟨zz1, (zz0 HB)⟩
def spec_l11At.l0 : Nat → List (S36) → ByteArray → Int → Option (ByteArray × ByteArray × ByteArray × Int × Bool)
 | 0, _, _, _ => none
 | k + 1, x0, x1, x6 => if x6 < (x0.length : Int) then (if 0 ≤ x6 then (if ((rd_T36 x0 x6).f0).toList = x1.toList then (some ((rd_T36 x0 x6).f0, (rd_T36 x0 x6).f1, (rd_T36 x0 x6).f2, (rd_T36 x0 x6).f3, true)) else (spec_l11At.l0 k x0 x1 (wrap64 (x6 + 1)))) else (none)) else (some ((⟨#[]⟩ : ByteArray), (⟨#[]⟩ : ByteArray), (⟨#[]⟩ : ByteArray), 0, false))
def spec_l11At.f (k : Nat) (l0 : List (S36)) (a1 : ByteArray) : Option (ByteArray × ByteArray × ByteArray × Int × Bool) := spec_l11At.l0 k l0 a1 0
set_option maxHeartbeats 8000000 in
set_option maxRecDepth 100000 in
theorem spec_l11At.calls (k : Nat) (A0 : Option Addr) (c0 : Nat) (l0 : List (S36)) (a1 : ByteArray) (r1 : ByteArray) (r2 : ByteArray) (r3 : ByteArray) (r4 : Int) (r5 : Bool) (w : World) (hr0 : Kd.C k36 w A0 l0.length l0) (hc0 : l0.length ≤ c0) (h : spec_l11At.f k l0 a1 = some (r1, r2, r3, r4, r5)) :
  Calls Tryd.prog 23 #[.slice A0 l0.length c0, .string a1] w fun e w' => e = .returned (.tuple #[.agg #[.string r1, .string r2, .string r3, .int .i64 r4], .bool r5]) ∧ Below w.heap.size w w' := by
 have hu36 := Tryd.underlying36;have HR0 := Aside0.mk hr0;have HC0 := Aside0.mk hc0;clear hr0 hc0;have HB := Aside0.mk (Below.refl w.heap.size w);have H : (spec_l11At.l0 k l0 a1 0) = some (r1, r2, r3, r4, r5) := h;clear h;have H' := Aside0.mk H;clear H;go_enter Tryd.func23, Tryd.ntmps23;go_wp2_with (first | ((with_reducible refine gate_dst (N := 4) rfl ?_); refine boxE 4 #[.string (⟨#[]⟩ : ByteArray), .string (⟨#[]⟩ : ByteArray), .string (⟨#[]⟩ : ByteArray), .int .i64 0] 36 ?_; intro gb418 hg w3 hbox hb; have n0_ := Aside0.mk (below_step (zz0 HB) hb); have n1_ := Aside0.mk (hbox); have n2_ := Aside0.mk ((by rw [hg]; exact (below_size (zz0 HB)) : w.heap.size ≤ gb418)); have n3_ := Aside0.mk ((by rw [hg]; exact (below_size (zz0 HB)) : w.heap.size ≤ gb418)); clear HB; have HB := n0_; have BK418 := n1_; have GW418 := n2_; have GE418 := n3_; clear n0_ n1_ n2_ n3_; clear hb hbox hg))
 go_loopg [6] k (fun kq v6 w' => ∃ (x6_1 : Int) (x419000_1 : ByteArray) (x419001_1 : ByteArray) (x419002_1 : ByteArray) (x419003_1 : Int), v6 = .int .i64 x6_1 ∧ Aside0 (spec_l11At.l0 kq l0 a1 x6_1 = some (r1, r2, r3, r4, r5)) ∧ Aside0 (kq ≤ k) ∧ Aside0 (w'.heap[gb418]? = some (.cells #[.string x419000_1, .string x419001_1, .string x419002_1, .int .i64 x419003_1] 36 (0, 0))) ∧ Aside0 (Below w.heap.size w w'))
 case atStart => exact ⟨(0), ((⟨#[]⟩ : ByteArray)), ((⟨#[]⟩ : ByteArray)), ((⟨#[]⟩ : ByteArray)), (0), zz3, H', ⟨Nat.le_refl _⟩, ⟨(zz6 BK418)⟩, ⟨(zz2 HB GE418)⟩⟩
 case round =>
  clear H';obtain ⟨x6_1, x419000_1, x419001_1, x419002_1, x419003_1, rfl, HA, HK1, BK418, HB⟩ := hrel;cases gk with
  | zero => exact absurd HA.out (by simp [spec_l11At.l0])
  | succ k1 =>
   have H := HA.out;clear HA;simp only [spec_l11At.l0] at H
   by_cases c4 : x6_1 < (l0.length : Int)
   ·rw [if_pos c4] at H
    have c4b0 : decide (x6_1 < (l0.length : Int)) = true := decide_eq_true c4;clear c4;by_cases c5 : 0 ≤ x6_1
    ·rw [if_pos c5] at H
     have c5b0 : decide (0 ≤ x6_1) = true := decide_eq_true c5;clear c5;by_cases c6 : ((rd_T36 l0 x6_1).f0).toList = a1.toList
     ·rw [if_pos c6] at H
      have c6b0 : (((rd_T36 l0 x6_1).f0).toList == a1.toList) = true := beq_iff_eq.mpr c6;have c6b1 : (((rd_T36 l0 x6_1).f0).toList != a1.toList) = false := bne_eq_false_iff_eq.mpr c6;clear c6;simp only [Option.some.injEq, Prod.mk.injEq] at H
      obtain ⟨rfl, rfl, rfl, rfl, rfl⟩ := H;have p419 : 0 ≤ (x6_1 : Int) := ofD;have q419 : x6_1 < (l0.length : Int) := ofD;obtain ⟨ad419, e419, hx419_0, hx419_1, hx419_2, hx419_3⟩ := at_T36 HR0.out x6_1 p419 q419;cases e419
      replace hx419_0 := (HB.out.cell (World.block_lt_of_cell? w _ hx419_0)).trans hx419_0;replace hx419_1 := (HB.out.cell (World.block_lt_of_cell? w _ hx419_1)).trans hx419_1;replace hx419_2 := (HB.out.cell (World.block_lt_of_cell? w _ hx419_2)).trans hx419_2;replace hx419_3 := (HB.out.cell (World.block_lt_of_cell? w _ hx419_3)).trans hx419_3;replace p419 := eq_true p419;replace q419 := eq_true q419;have p420 : 0 ≤ (x6_1 : Int) := ofD;have q420 : x6_1 < (l0.length : Int) := ofD;obtain ⟨ad420, e420, hx420_0, hx420_1, hx420_2, hx420_3⟩ := at_T36 HR0.out x6_1 p420 q420;obtain rfl : ad419 = ad420 := (by injection e420);replace hx420_0 := (HB.out.cell (World.block_lt_of_cell? w _ hx420_0)).trans hx420_0;replace hx420_1 := (HB.out.cell (World.block_lt_of_cell? w _ hx420_1)).trans hx420_1;replace hx420_2 := (HB.out.cell (World.block_lt_of_cell? w _ hx420_2)).trans hx420_2;replace hx420_3 := (HB.out.cell (World.block_lt_of_cell? w _ hx420_3)).trans hx420_3;replace p420 := eq_true p420;replace q420 := eq_true q420;obtain ⟨_, _, _, _, _, _, _, _⟩ := cf4 BK418;go_wp2
      refine bodyPost_ret (results_ct rfl _ _ gb418 36 #[.string ((rd_T36 l0 x6_1).f0), .string ((rd_T36 l0 x6_1).f1), .string ((rd_T36 l0 x6_1).f2), .int .i64 ((rd_T36 l0 x6_1).f3)] (0, 0) _ rfl (zz43 BK418) Tryd.underlying36 rfl (by kernel_rfl)) rfl ?_;exact ⟨zz1, (zz2 HB GE418)⟩
     ·rw [if_neg c6] at H
      have c6b0 : (((rd_T36 l0 x6_1).f0).toList == a1.toList) = false := beq_eq_false_iff_ne.mpr c6;have c6b1 : (((rd_T36 l0 x6_1).f0).toList != a1.toList) = true := bne_iff_ne.mpr c6;have H' := Aside0.mk H;clear H;have p419 : 0 ≤ (x6_1 : Int) := ofD;have q419 : x6_1 < (l0.length : Int) := ofD;obtain ⟨ad419, e419, hx419_0, hx419_1, hx419_2, hx419_3⟩ := at_T36 HR0.out x6_1 p419 q419;cases e419
      replace hx419_0 := (HB.out.cell (World.block_lt_of_cell? w _ hx419_0)).trans hx419_0;replace hx419_1 := (HB.out.cell (World.block_lt_of_cell? w _ hx419_1)).trans hx419_1;replace hx419_2 := (HB.out.cell (World.block_lt_of_cell? w _ hx419_2)).trans hx419_2;replace hx419_3 := (HB.out.cell (World.block_lt_of_cell? w _ hx419_3)).trans hx419_3;replace p419 := eq_true p419;replace q419 := eq_true q419;go_wp2
      go_roundg k1
      case measure => have := HK1.out; omega
      case rel => exact ⟨(wrap64 (x6_1 + 1)), (x419000_1), (x419001_1), (x419002_1), (x419003_1), zz3, H', ⟨(zz5 HK1)⟩, ⟨(zz6 BK418)⟩, ⟨(zz2 HB GE418)⟩⟩
    ·rw [if_neg c5] at H
     exact absurd H (by simp)
   ·rw [if_neg c4] at H
    have c4b0 : decide (x6_1 < (l0.length : Int)) = false := decide_eq_false c4;clear c4;simp only [Option.some.injEq, Prod.mk.injEq] at H
    obtain ⟨rfl, rfl, rfl, rfl, rfl⟩ := H;obtain ⟨_, _, _, _, _, _, _, _⟩ := cf4 BK418;go_wp2
    refine bodyPost_ret (results_ct rfl _ _ gb418 36 #[.string (⟨#[]⟩ : ByteArray), .string (⟨#[]⟩ : ByteArray), .string (⟨#[]⟩ : ByteArray), .int .i64 0] (0, 0) _ rfl (zz43 BK418) Tryd.underlying36 rfl (by kernel_rfl)) rfl ?_;exact ⟨zz1, (zz2 HB GE418)⟩
def spec_l11Get.f (k : Nat) (l0 : List (S36)) (a1 : ByteArray) (a2 : Int) : Option (Int × ByteArray) := (spec_l11At.f k l0 a1).bind fun bt421 => (if bt421.2.2.2.2 = true then (if a2 < bt421.2.2.2.1 then (some (3, (⟨#[]⟩ : ByteArray))) else (if bt421.2.2.1.toList = ([] : List UInt8) then (some (1, bt421.2.1)) else (some (2, bt421.2.2.1)))) else (some (0, (⟨#[]⟩ : ByteArray))))
set_option maxHeartbeats 8000000 in
set_option maxRecDepth 100000 in
theorem spec_l11Get.calls (k : Nat) (A0 : Option Addr) (c0 : Nat) (l0 : List (S36)) (a1 : ByteArray) (a2 : Int) (r1 : Int) (r2 : ByteArray) (w : World) (hr0 : Kd.C k36 w A0 l0.length l0) (hc0 : l0.length ≤ c0) (h : spec_l11Get.f k l0 a1 a2 = some (r1, r2)) :
  Calls Tryd.prog 18 #[.slice A0 l0.length c0, .string a1, .int .i64 a2] w fun e w' => e = .returned (.tuple #[.int .i64 r1, .string r2]) ∧ Below w.heap.size w w' := by
 have hu36 := Tryd.underlying36;have HR0 := Aside0.mk hr0;have HC0 := Aside0.mk hc0;clear hr0 hc0;have HB := Aside0.mk (Below.refl w.heap.size w);have H : ((spec_l11At.f k l0 a1).bind fun bt421 => (if bt421.2.2.2.2 = true then (if a2 < bt421.2.2.2.1 then (some (3, (⟨#[]⟩ : ByteArray))) else (if bt421.2.2.1.toList = ([] : List UInt8) then (some (1, bt421.2.1)) else (some (2, bt421.2.2.1)))) else (some (0, (⟨#[]⟩ : ByteArray))))) = some (r1, r2) := h;clear h;replace H := bindA H;obtain ⟨⟨t421, t422, t423, t424, t425⟩, A4, H⟩ := H;try dsimp -simprocs only at H
 by_cases c5 : t425 = true
 ·subst c5
  rw [if_pos rfl] at H;by_cases c6 : a2 < t424
  ·rw [if_pos c6] at H
   have c6b0 : decide (a2 < t424) = true := decide_eq_true c6;clear c6;simp only [Option.some.injEq, Prod.mk.injEq] at H
   obtain ⟨rfl, rfl⟩ := H;go_enter Tryd.func18, Tryd.ntmps18;go_wp2_with (first | (go_at_call 23; (with_reducible refine (spec_l11At.calls k _ _ l0 a1 t421 t422 t423 t424 true _ ?side1 ?side2 A4.out).mono ?_); (case side1 => exact (zz63 HR0)); (case side2 => exact HC0.out); rintro e w7 ⟨rfl, hb⟩; have n0_ := Aside0.mk (below_step (zz0 HB) hb); clear HB; have HB := n0_; clear n0_; (try clear hb)) | ((with_reducible refine gate_dst (N := 8) rfl ?_); refine boxE 8 #[.string (⟨#[]⟩ : ByteArray), .string (⟨#[]⟩ : ByteArray), .string (⟨#[]⟩ : ByteArray), .int .i64 0] 36 ?_; intro gb426 hg w8 hbox hb; have n0_ := Aside0.mk (below_step (zz0 HB) hb); have n1_ := Aside0.mk (hbox); have n2_ := Aside0.mk ((by rw [hg]; exact (below_size (zz0 HB)) : w.heap.size ≤ gb426)); have n3_ := Aside0.mk ((by rw [hg]; exact (below_size (zz0 HB)) : w.heap.size ≤ gb426)); clear HB; have HB := n0_; have BK426 := n1_; have GW426 := n2_; have GE426 := n3_; clear n0_ n1_ n2_ n3_; clear hb hbox hg; obtain ⟨_, _, _, _, _, _, _, _⟩ := cf4 BK426))
   repeat (go_quiet (first | (go_at_call 23; (with_reducible refine (spec_l11At.calls k _ _ l0 a1 t421 t422 t423 t424 true _ ?side1 ?side2 A4.out).mono ?_); (case side1 => exact (zz63 HR0)); (case side2 => exact HC0.out); rintro e w7 ⟨rfl, hb⟩; have n0_ := Aside0.mk (below_step (zz0 HB) hb); clear HB; have HB := n0_; clear n0_; (try clear hb)) | ((with_reducible refine gate_dst (N := 8) rfl ?_); refine boxE 8 #[.string (⟨#[]⟩ : ByteArray), .string (⟨#[]⟩ : ByteArray), .string (⟨#[]⟩ : ByteArray), .int .i64 0] 36 ?_; intro gb426 hg w8 hbox hb; have n0_ := Aside0.mk (below_step (zz0 HB) hb); have n1_ := Aside0.mk (hbox); have n2_ := Aside0.mk ((by rw [hg]; exact (below_size (zz0 HB)) : w.heap.size ≤ gb426)); have n3_ := Aside0.mk ((by rw [hg]; exact (below_size (zz0 HB)) : w.heap.size ≤ gb426)); clear HB; have HB := n0_; have BK426 := n1_; have GW426 := n2_; have GE426 := n3_; clear n0_ n1_ n2_ n3_; clear hb hbox hg; obtain ⟨_, _, _, _, _, _, _, _⟩ := cf4 BK426)); try go_wp2_with (first | (go_at_call 23; (with_reducible refine (spec_l11At.calls k _ _ l0 a1 t421 t422 t423 t424 true _ ?side1 ?side2 A4.out).mono ?_); (case side1 => exact (zz63 HR0)); (case side2 => exact HC0.out); rintro e w7 ⟨rfl, hb⟩; have n0_ := Aside0.mk (below_step (zz0 HB) hb); clear HB; have HB := n0_; clear n0_; (try clear hb)) | ((with_reducible refine gate_dst (N := 8) rfl ?_); refine boxE 8 #[.string (⟨#[]⟩ : ByteArray), .string (⟨#[]⟩ : ByteArray), .string (⟨#[]⟩ : ByteArray), .int .i64 0] 36 ?_; intro gb426 hg w8 hbox hb; have n0_ := Aside0.mk (below_step (zz0 HB) hb); have n1_ := Aside0.mk (hbox); have n2_ := Aside0.mk ((by rw [hg]; exact (below_size (zz0 HB)) : w.heap.size ≤ gb426)); have n3_ := Aside0.mk ((by rw [hg]; exact (below_size (zz0 HB)) : w.heap.size ≤ gb426)); clear HB; have HB := n0_; have BK426 := n1_; have GW426 := n2_; have GE426 := n3_; clear n0_ n1_ n2_ n3_; clear hb hbox hg; obtain ⟨_, _, _, _, _, _, _, _⟩ := cf4 BK426)))
   go_ret2
   exact ⟨zz1, (zz2 HB GE426)⟩
  ·rw [if_neg c6] at H
   have c6b0 : decide (a2 < t424) = false := decide_eq_false c6;clear c6;by_cases c10 : t423.toList = ([] : List UInt8)
   ·rw [if_pos c10] at H
    have c10b0 : (t423.toList == ([] : List UInt8)) = true := beq_iff_eq.mpr c10;have c10b1 : (t423.toList != ([] : List UInt8)) = false := bne_eq_false_iff_eq.mpr c10;clear c10;simp only [Option.some.injEq, Prod.mk.injEq] at H
    obtain ⟨rfl, rfl⟩ := H;go_enter Tryd.func18, Tryd.ntmps18;go_wp2_with (first | (go_at_call 23; (with_reducible refine (spec_l11At.calls k _ _ l0 a1 t421 t422 t423 t424 true _ ?side1 ?side2 A4.out).mono ?_); (case side1 => exact (zz63 HR0)); (case side2 => exact HC0.out); rintro e w11 ⟨rfl, hb⟩; have n0_ := Aside0.mk (below_step (zz0 HB) hb); clear HB; have HB := n0_; clear n0_; (try clear hb)) | ((with_reducible refine gate_dst (N := 8) rfl ?_); refine boxE 8 #[.string (⟨#[]⟩ : ByteArray), .string (⟨#[]⟩ : ByteArray), .string (⟨#[]⟩ : ByteArray), .int .i64 0] 36 ?_; intro gb426 hg w12 hbox hb; have n0_ := Aside0.mk (below_step (zz0 HB) hb); have n1_ := Aside0.mk (hbox); have n2_ := Aside0.mk ((by rw [hg]; exact (below_size (zz0 HB)) : w.heap.size ≤ gb426)); have n3_ := Aside0.mk ((by rw [hg]; exact (below_size (zz0 HB)) : w.heap.size ≤ gb426)); clear HB; have HB := n0_; have BK426 := n1_; have GW426 := n2_; have GE426 := n3_; clear n0_ n1_ n2_ n3_; clear hb hbox hg; obtain ⟨_, _, _, _, _, _, _, _⟩ := cf4 BK426))
    repeat (go_quiet (first | (go_at_call 23; (with_reducible refine (spec_l11At.calls k _ _ l0 a1 t421 t422 t423 t424 true _ ?side1 ?side2 A4.out).mono ?_); (case side1 => exact (zz63 HR0)); (case side2 => exact HC0.out); rintro e w11 ⟨rfl, hb⟩; have n0_ := Aside0.mk (below_step (zz0 HB) hb); clear HB; have HB := n0_; clear n0_; (try clear hb)) | ((with_reducible refine gate_dst (N := 8) rfl ?_); refine boxE 8 #[.string (⟨#[]⟩ : ByteArray), .string (⟨#[]⟩ : ByteArray), .string (⟨#[]⟩ : ByteArray), .int .i64 0] 36 ?_; intro gb426 hg w12 hbox hb; have n0_ := Aside0.mk (below_step (zz0 HB) hb); have n1_ := Aside0.mk (hbox); have n2_ := Aside0.mk ((by rw [hg]; exact (below_size (zz0 HB)) : w.heap.size ≤ gb426)); have n3_ := Aside0.mk ((by rw [hg]; exact (below_size (zz0 HB)) : w.heap.size ≤ gb426)); clear HB; have HB := n0_; have BK426 := n1_; have GW426 := n2_; have GE426 := n3_; clear n0_ n1_ n2_ n3_; clear hb hbox hg; obtain ⟨_, _, _, _, _, _, _, _⟩ := cf4 BK426)); try go_wp2_with (first | (go_at_call 23; (with_reducible refine (spec_l11At.calls k _ _ l0 a1 t421 t422 t423 t424 true _ ?side1 ?side2 A4.out).mono ?_); (case side1 => exact (zz63 HR0)); (case side2 => exact HC0.out); rintro e w11 ⟨rfl, hb⟩; have n0_ := Aside0.mk (below_step (zz0 HB) hb); clear HB; have HB := n0_; clear n0_; (try clear hb)) | ((with_reducible refine gate_dst (N := 8) rfl ?_); refine boxE 8 #[.string (⟨#[]⟩ : ByteArray), .string (⟨#[]⟩ : ByteArray), .string (⟨#[]⟩ : ByteArray), .int .i64 0] 36 ?_; intro gb426 hg w12 hbox hb; have n0_ := Aside0.mk (below_step (zz0 HB) hb); have n1_ := Aside0.mk (hbox); have n2_ := Aside0.mk ((by rw [hg]; exact (below_size (zz0 HB)) : w.heap.size ≤ gb426)); have n3_ := Aside0.mk ((by rw [hg]; exact (below_size (zz0 HB)) : w.heap.size ≤ gb426)); clear HB; have HB := n0_; have BK426 := n1_; have GW426 := n2_; have GE426 := n3_; clear n0_ n1_ n2_ n3_; clear hb hbox hg; obtain ⟨_, _, _, _, _, _, _, _⟩ := cf4 BK426)))
    go_ret2
    exact ⟨zz1, (zz2 HB GE426)⟩
   ·rw [if_neg c10] at H
    have c10b0 : (t423.toList == ([] : List UInt8)) = false := beq_eq_false_iff_ne.mpr c10;have c10b1 : (t423.toList != ([] : List UInt8)) = true := bne_iff_ne.mpr c10;simp only [Option.some.injEq, Prod.mk.injEq] at H
    obtain ⟨rfl, rfl⟩ := H;go_enter Tryd.func18, Tryd.ntmps18;go_wp2_with (first | (go_at_call 23; (with_reducible refine (spec_l11At.calls k _ _ l0 a1 t421 t422 t423 t424 true _ ?side1 ?side2 A4.out).mono ?_); (case side1 => exact (zz63 HR0)); (case side2 => exact HC0.out); rintro e w14 ⟨rfl, hb⟩; have n0_ := Aside0.mk (below_step (zz0 HB) hb); clear HB; have HB := n0_; clear n0_; (try clear hb)) | ((with_reducible refine gate_dst (N := 8) rfl ?_); refine boxE 8 #[.string (⟨#[]⟩ : ByteArray), .string (⟨#[]⟩ : ByteArray), .string (⟨#[]⟩ : ByteArray), .int .i64 0] 36 ?_; intro gb426 hg w15 hbox hb; have n0_ := Aside0.mk (below_step (zz0 HB) hb); have n1_ := Aside0.mk (hbox); have n2_ := Aside0.mk ((by rw [hg]; exact (below_size (zz0 HB)) : w.heap.size ≤ gb426)); have n3_ := Aside0.mk ((by rw [hg]; exact (below_size (zz0 HB)) : w.heap.size ≤ gb426)); clear HB; have HB := n0_; have BK426 := n1_; have GW426 := n2_; have GE426 := n3_; clear n0_ n1_ n2_ n3_; clear hb hbox hg; obtain ⟨_, _, _, _, _, _, _, _⟩ := cf4 BK426))
    repeat (go_quiet (first | (go_at_call 23; (with_reducible refine (spec_l11At.calls k _ _ l0 a1 t421 t422 t423 t424 true _ ?side1 ?side2 A4.out).mono ?_); (case side1 => exact (zz63 HR0)); (case side2 => exact HC0.out); rintro e w14 ⟨rfl, hb⟩; have n0_ := Aside0.mk (below_step (zz0 HB) hb); clear HB; have HB := n0_; clear n0_; (try clear hb)) | ((with_reducible refine gate_dst (N := 8) rfl ?_); refine boxE 8 #[.string (⟨#[]⟩ : ByteArray), .string (⟨#[]⟩ : ByteArray), .string (⟨#[]⟩ : ByteArray), .int .i64 0] 36 ?_; intro gb426 hg w15 hbox hb; have n0_ := Aside0.mk (below_step (zz0 HB) hb); have n1_ := Aside0.mk (hbox); have n2_ := Aside0.mk ((by rw [hg]; exact (below_size (zz0 HB)) : w.heap.size ≤ gb426)); have n3_ := Aside0.mk ((by rw [hg]; exact (below_size (zz0 HB)) : w.heap.size ≤ gb426)); clear HB; have HB := n0_; have BK426 := n1_; have GW426 := n2_; have GE426 := n3_; clear n0_ n1_ n2_ n3_; clear hb hbox hg; obtain ⟨_, _, _, _, _, _, _, _⟩ := cf4 BK426)); try go_wp2_with (first | (go_at_call 23; (with_reducible refine (spec_l11At.calls k _ _ l0 a1 t421 t422 t423 t424 true _ ?side1 ?side2 A4.out).mono ?_); (case side1 => exact (zz63 HR0)); (case side2 => exact HC0.out); rintro e w14 ⟨rfl, hb⟩; have n0_ := Aside0.mk (below_step (zz0 HB) hb); clear HB; have HB := n0_; clear n0_; (try clear hb)) | ((with_reducible refine gate_dst (N := 8) rfl ?_); refine boxE 8 #[.string (⟨#[]⟩ : ByteArray), .string (⟨#[]⟩ : ByteArray), .string (⟨#[]⟩ : ByteArray), .int .i64 0] 36 ?_; intro gb426 hg w15 hbox hb; have n0_ := Aside0.mk (below_step (zz0 HB) hb); have n1_ := Aside0.mk (hbox); have n2_ := Aside0.mk ((by rw [hg]; exact (below_size (zz0 HB)) : w.heap.size ≤ gb426)); have n3_ := Aside0.mk ((by rw [hg]; exact (below_size (zz0 HB)) : w.heap.size ≤ gb426)); clear HB; have HB := n0_; have BK426 := n1_; have GW426 := n2_; have GE426 := n3_; clear n0_ n1_ n2_ n3_; clear hb hbox hg; obtain ⟨_, _, _, _, _, _, _, _⟩ := cf4 BK426)))
    go_ret2
    exact ⟨zz1, (zz2 HB GE426)⟩
 ·replace c5 := Bool.eq_false_iff.mpr c5
  subst c5;rw [if_neg (show ¬ (false = true) by decide)] at H;simp only [Option.some.injEq, Prod.mk.injEq] at H
  obtain ⟨rfl, rfl⟩ := H;go_enter Tryd.func18, Tryd.ntmps18;go_wp2_with (first | (go_at_call 23; (with_reducible refine (spec_l11At.calls k _ _ l0 a1 t421 t422 t423 t424 false _ ?side1 ?side2 A4.out).mono ?_); (case side1 => exact (zz63 HR0)); (case side2 => exact HC0.out); rintro e w17 ⟨rfl, hb⟩; have n0_ := Aside0.mk (below_step (zz0 HB) hb); clear HB; have HB := n0_; clear n0_; (try clear hb)) | ((with_reducible refine gate_dst (N := 8) rfl ?_); refine boxE 8 #[.string (⟨#[]⟩ : ByteArray), .string (⟨#[]⟩ : ByteArray), .string (⟨#[]⟩ : ByteArray), .int .i64 0] 36 ?_; intro gb426 hg w18 hbox hb; have n0_ := Aside0.mk (below_step (zz0 HB) hb); have n1_ := Aside0.mk (hbox); have n2_ := Aside0.mk ((by rw [hg]; exact (below_size (zz0 HB)) : w.heap.size ≤ gb426)); have n3_ := Aside0.mk ((by rw [hg]; exact (below_size (zz0 HB)) : w.heap.size ≤ gb426)); clear HB; have HB := n0_; have BK426 := n1_; have GW426 := n2_; have GE426 := n3_; clear n0_ n1_ n2_ n3_; clear hb hbox hg; obtain ⟨_, _, _, _, _, _, _, _⟩ := cf4 BK426))
  repeat (go_quiet (first | (go_at_call 23; (with_reducible refine (spec_l11At.calls k _ _ l0 a1 t421 t422 t423 t424 false _ ?side1 ?side2 A4.out).mono ?_); (case side1 => exact (zz63 HR0)); (case side2 => exact HC0.out); rintro e w17 ⟨rfl, hb⟩; have n0_ := Aside0.mk (below_step (zz0 HB) hb); clear HB; have HB := n0_; clear n0_; (try clear hb)) | ((with_reducible refine gate_dst (N := 8) rfl ?_); refine boxE 8 #[.string (⟨#[]⟩ : ByteArray), .string (⟨#[]⟩ : ByteArray), .string (⟨#[]⟩ : ByteArray), .int .i64 0] 36 ?_; intro gb426 hg w18 hbox hb; have n0_ := Aside0.mk (below_step (zz0 HB) hb); have n1_ := Aside0.mk (hbox); have n2_ := Aside0.mk ((by rw [hg]; exact (below_size (zz0 HB)) : w.heap.size ≤ gb426)); have n3_ := Aside0.mk ((by rw [hg]; exact (below_size (zz0 HB)) : w.heap.size ≤ gb426)); clear HB; have HB := n0_; have BK426 := n1_; have GW426 := n2_; have GE426 := n3_; clear n0_ n1_ n2_ n3_; clear hb hbox hg; obtain ⟨_, _, _, _, _, _, _, _⟩ := cf4 BK426)); try go_wp2_with (first | (go_at_call 23; (with_reducible refine (spec_l11At.calls k _ _ l0 a1 t421 t422 t423 t424 false _ ?side1 ?side2 A4.out).mono ?_); (case side1 => exact (zz63 HR0)); (case side2 => exact HC0.out); rintro e w17 ⟨rfl, hb⟩; have n0_ := Aside0.mk (below_step (zz0 HB) hb); clear HB; have HB := n0_; clear n0_; (try clear hb)) | ((with_reducible refine gate_dst (N := 8) rfl ?_); refine boxE 8 #[.string (⟨#[]⟩ : ByteArray), .string (⟨#[]⟩ : ByteArray), .string (⟨#[]⟩ : ByteArray), .int .i64 0] 36 ?_; intro gb426 hg w18 hbox hb; have n0_ := Aside0.mk (below_step (zz0 HB) hb); have n1_ := Aside0.mk (hbox); have n2_ := Aside0.mk ((by rw [hg]; exact (below_size (zz0 HB)) : w.heap.size ≤ gb426)); have n3_ := Aside0.mk ((by rw [hg]; exact (below_size (zz0 HB)) : w.heap.size ≤ gb426)); clear HB; have HB := n0_; have BK426 := n1_; have GW426 := n2_; have GE426 := n3_; clear n0_ n1_ n2_ n3_; clear hb hbox hg; obtain ⟨_, _, _, _, _, _, _, _⟩ := cf4 BK426)))
  go_ret2
  exact ⟨zz1, (zz2 HB GE426)⟩
def spec_WorldGet.f (k : Nat) (l0 : List (S36)) (a1 : ByteArray) (a2 : Int) : Option (Int × ByteArray) := (spec_WorldOk.f k l0).bind fun t427 => (if t427 = true then (if a2 < 0 then (some (0, (⟨#[]⟩ : ByteArray))) else ((spec_l11Get.f k l0 a1 a2).bind fun bt428 => (some (bt428.1, bt428.2)))) else (some (0, (⟨#[]⟩ : ByteArray))))
set_option maxHeartbeats 8000000 in
set_option maxRecDepth 100000 in
theorem spec_WorldGet.calls (k : Nat) (A0 : Option Addr) (c0 : Nat) (l0 : List (S36)) (a1 : ByteArray) (a2 : Int) (r1 : Int) (r2 : ByteArray) (w : World) (hr0 : Kd.C k36 w A0 l0.length l0) (hc0 : l0.length ≤ c0) (h : spec_WorldGet.f k l0 a1 a2 = some (r1, r2)) :
  Calls Tryd.prog 10 #[.slice A0 l0.length c0, .string a1, .int .i64 a2] w fun e w' => e = .returned (.tuple #[.int .i64 r1, .string r2]) ∧ Below w.heap.size w w' := by
 have HR0 := Aside0.mk hr0;have HC0 := Aside0.mk hc0;clear hr0 hc0;have HB := Aside0.mk (Below.refl w.heap.size w);have H : ((spec_WorldOk.f k l0).bind fun t427 => (if t427 = true then (if a2 < 0 then (some (0, (⟨#[]⟩ : ByteArray))) else ((spec_l11Get.f k l0 a1 a2).bind fun bt428 => (some (bt428.1, bt428.2)))) else (some (0, (⟨#[]⟩ : ByteArray))))) = some (r1, r2) := h;clear h;replace H := bindA H;obtain ⟨t427, A4, H⟩ := H;by_cases c5 : t427 = true
 ·subst c5
  rw [if_pos rfl] at H;by_cases c6 : a2 < 0
  ·rw [if_pos c6] at H
   have c6b0 : decide (a2 < 0) = true := decide_eq_true c6;clear c6;simp only [Option.some.injEq, Prod.mk.injEq] at H
   obtain ⟨rfl, rfl⟩ := H;go_enter Tryd.func10, Tryd.ntmps10;go_wp2_with (first | ((with_reducible refine gate_callee (f := 6) rfl ?_); refine gsL (some 9) Tryd.func6 #[.slice A0 l0.length c0] ?_; (with_reducible refine (spec_WorldOk.calls k _ _ l0 true _ ?side1 ?side2 A4.out).mono ?_); (case side1 => exact (zz63 HR0)); (case side2 => exact HC0.out); rintro e w7 ⟨rfl, hb⟩; refine ⟨_, rfl, ?_⟩; have n0_ := Aside0.mk (below_step (zz0 HB) hb); clear HB; have HB := n0_; clear n0_; (try clear hb)))
   go_ret2
   exact ⟨zz1, (zz0 HB)⟩
  ·rw [if_neg c6] at H
   have c6b0 : decide (a2 < 0) = false := decide_eq_false c6;clear c6;replace H := bindA H;obtain ⟨⟨t428, t429⟩, A8, H⟩ := H;try dsimp -simprocs only at H
   simp only [Option.some.injEq, Prod.mk.injEq] at H
   obtain ⟨rfl, rfl⟩ := H;go_enter Tryd.func10, Tryd.ntmps10;go_wp2_with (first | ((with_reducible refine gate_callee (f := 6) rfl ?_); refine gsL (some 9) Tryd.func6 #[.slice A0 l0.length c0] ?_; (with_reducible refine (spec_WorldOk.calls k _ _ l0 true _ ?side1 ?side2 A4.out).mono ?_); (case side1 => exact (zz63 HR0)); (case side2 => exact HC0.out); rintro e w9 ⟨rfl, hb⟩; refine ⟨_, rfl, ?_⟩; have n0_ := Aside0.mk (below_step (zz0 HB) hb); clear HB; have HB := n0_; clear n0_; (try clear hb)) | ((with_reducible refine gate_callee (f := 18) rfl ?_); refine gsL (some 18) Tryd.func18 #[.slice A0 l0.length c0, .string a1, .int .i64 a2] ?_; (with_reducible refine (spec_l11Get.calls k _ _ l0 a1 a2 t428 t429 _ ?side1 ?side2 A8.out).mono ?_); (case side1 => exact (zz32 HR0 HB)); (case side2 => exact HC0.out); rintro e w10 ⟨rfl, hb⟩; refine ⟨_, rfl, ?_⟩; have n0_ := Aside0.mk (below_step (zz0 HB) hb); clear HB; have HB := n0_; clear n0_; (try clear hb)))
   go_ret2
   exact ⟨zz1, (zz0 HB)⟩
 ·replace c5 := Bool.eq_false_iff.mpr c5
  subst c5;rw [if_neg (show ¬ (false = true) by decide)] at H;simp only [Option.some.injEq, Prod.mk.injEq] at H
  obtain ⟨rfl, rfl⟩ := H;go_enter Tryd.func10, Tryd.ntmps10;go_wp2_with (first | ((with_reducible refine gate_callee (f := 6) rfl ?_); refine gsL (some 9) Tryd.func6 #[.slice A0 l0.length c0] ?_; (with_reducible refine (spec_WorldOk.calls k _ _ l0 false _ ?side1 ?side2 A4.out).mono ?_); (case side1 => exact (zz63 HR0)); (case side2 => exact HC0.out); rintro e w11 ⟨rfl, hb⟩; refine ⟨_, rfl, ?_⟩; have n0_ := Aside0.mk (below_step (zz0 HB) hb); clear HB; have HB := n0_; clear n0_; (try clear hb)))
  go_ret2
  exact ⟨zz1, (zz0 HB)⟩
end Go.Proofs.YtpnedbnpnekahaaDoor.P
end
section
namespace Go.Proofs
open Go.Shelf
def Tryd.lays156_ren : Go.Shelf.Ren := ⟨fun | 156 => 51 | 165 => 63 | 166 => 64 | 169 => 65 | 240 => 78 | 241 => 79 | 276 => 87 | 277 => 88 | n => n, fun | 31 => 45 | 9 => 9 | 3 => 3 | 4 => 4 | 0 => 0 | 20 => 20 | 72 => 81 | 76 => 85 | 70 => 79 | 37 => 63 | 75 => 84 | 127 => 97 | 164 => 104 | 5 => 5 | 80 => 87 | n => n, fun | n => n⟩
theorem Tryd.lays156 : Go.Proofs.Lays.n156 Tryd.prog Tryd.lays156_ren := {
 mixed := by kernel_rfl
 f156 := Tryd.func51.trans (congrArg some (by kernel_rfl))
 f165 := Tryd.func63.trans (congrArg some (by kernel_rfl))
 f166 := Tryd.func64.trans (congrArg some (by kernel_rfl))
 f169 := Tryd.func65.trans (congrArg some (by kernel_rfl))
 f240 := Tryd.func78.trans (congrArg some (by kernel_rfl))
 f241 := Tryd.func79.trans (congrArg some (by kernel_rfl))
 f276 := Tryd.func87.trans (congrArg some (by kernel_rfl))
 f277 := Tryd.func88.trans (congrArg some (by kernel_rfl))
 t0 := Tryd.underlying0
 a0 := Tryd.isAgg0
 z0 := Tryd.sizeOf0
 v0 := Tryd.zeroValue0
 t3 := Tryd.underlying3
 a3 := Tryd.isAgg3
 z3 := Tryd.sizeOf3
 v3 := Tryd.zeroValue3
 t4 := Tryd.underlying4
 a4 := Tryd.isAgg4
 z4 := Tryd.sizeOf4
 v4 := Tryd.zeroValue4
 t9 := Tryd.underlying9
 a9 := Tryd.isAgg9
 z9 := Tryd.sizeOf9
 v9 := Tryd.zeroValue9
 t20 := Tryd.underlying20
 a20 := Tryd.isAgg20
 z20 := Tryd.sizeOf20
 v20 := Tryd.zeroValue20
 t31 := Tryd.underlying45
 a31 := Tryd.isAgg45
 z31 := Tryd.sizeOf45
 v31 := Tryd.zeroValue45
 t37 := Tryd.underlying63
 a37 := Tryd.isAgg63
 z37 := Tryd.sizeOf63
 v37 := Tryd.zeroValue63
 t70 := Tryd.underlying79
 a70 := Tryd.isAgg79
 z70 := Tryd.sizeOf79
 v70 := Tryd.zeroValue79
 t72 := Tryd.underlying81
 a72 := Tryd.isAgg81
 z72 := Tryd.sizeOf81
 v72 := Tryd.zeroValue81
 t75 := Tryd.underlying84
 a75 := Tryd.isAgg84
 z75 := Tryd.sizeOf84
 v75 := Tryd.zeroValue84
 t76 := Tryd.underlying85
 a76 := Tryd.isAgg85
 z76 := Tryd.sizeOf85
 v76 := Tryd.zeroValue85
 t127 := Tryd.underlying97
 a127 := Tryd.isAgg97
 z127 := Tryd.sizeOf97
 v127 := Tryd.zeroValue97
 t164 := Tryd.underlying104
 a164 := Tryd.isAgg104
 z164 := Tryd.sizeOf104
 v164 := Tryd.zeroValue104 }
theorem Tryd.Builder_Extra_156 : Builder.Extra Tryd.prog Tryd.lays156_ren := {
 sizeBuilder := by kernel_rfl
 liesBuilder := by kernel_rfl
 t5 := Tryd.underlying5
 a5 := Tryd.isAgg5
 z5 := Tryd.sizeOf5
 v5 := Tryd.zeroValue5
 infoByte := by kernel_rfl
 cellsByte := by kernel_rfl
 sizeByte := by kernel_rfl
 neB5 := by decide }
open Go.RowKit in
theorem Tryd.strings_Join_none (a : Option Addr) (c : Nat) (sep : ByteArray) (w : World) :
  Calls Tryd.prog 51 #[.slice a 0 c, .string sep] w fun e w' => e = .returned (.string ⟨#[]⟩) ∧ w' = w := Any.strings_Join_none Tryd.lays156 Tryd.Builder_Extra_156 a c sep w
open Go.RowKit in
theorem Tryd.strings_Join (bk o c : Nat) (xs : List ByteArray) (sep : ByteArray) (w : World) (hcells : ∀ (j : Nat) x, xs[j]? = some x → w.cell? ⟨bk, o + j, none⟩ = some (.string x)) (hbk : bk < w.heap.size) (hN : xs.length ≤ 140737488355328) (hcap : xs.length ≤ c) (hlen : (Lib.join (xs.map (·.data.toList)) sep.data.toList).length ≤ 140737488355328) :
  Calls Tryd.prog 51 #[.slice (some ⟨bk, o, none⟩) xs.length c, .string sep] w fun e w' => e = .returned (.string ⟨(Lib.join (xs.map (·.data.toList)) sep.data.toList).toArray⟩) ∧ Below w.heap.size w w' := Any.strings_Join Tryd.lays156 Tryd.Builder_Extra_156 bk o c xs sep w hcells hbk hN hcap hlen
def Tryd.lays119_ren : Go.Shelf.Ren := ⟨fun | 119 => 72 | n => n, fun | 21 => 21 | 4 => 4 | n => n, fun | n => n⟩
theorem Tryd.lays119 : Go.Proofs.Lays.n119 Tryd.prog Tryd.lays119_ren := {
 mixed := by kernel_rfl
 f119 := Tryd.func72.trans (congrArg some (by kernel_rfl))
 t4 := Tryd.underlying4
 a4 := Tryd.isAgg4
 z4 := Tryd.sizeOf4
 v4 := Tryd.zeroValue4
 t21 := Tryd.underlying21
 a21 := Tryd.isAgg21
 z21 := Tryd.sizeOf21
 v21 := Tryd.zeroValue21 }
theorem Tryd.utf8_ValidRune (r : Int) (w : World) :
  Calls Tryd.prog 72 #[.int .i32 r] w fun e w' => e = .returned (.bool (Lib.validRune r)) ∧ w' = w := Any.utf8_ValidRune Tryd.lays119 r w
def Tryd.lays137_ren : Go.Shelf.Ren := ⟨fun | 137 => 71 | 217 => 66 | 266 => 80 | n => n, fun | 9 => 9 | 5 => 5 | 3 => 3 | n => n, fun | n => n⟩
theorem Tryd.lays137 : Go.Proofs.Lays.n137 Tryd.prog Tryd.lays137_ren := {
 mixed := by kernel_rfl
 f137 := Tryd.func71.trans (congrArg some (by kernel_rfl))
 f217 := Tryd.func66.trans (congrArg some (by kernel_rfl))
 f266 := Tryd.func80.trans (congrArg some (by kernel_rfl))
 t3 := Tryd.underlying3
 a3 := Tryd.isAgg3
 z3 := Tryd.sizeOf3
 v3 := Tryd.zeroValue3
 t5 := Tryd.underlying5
 a5 := Tryd.isAgg5
 z5 := Tryd.sizeOf5
 v5 := Tryd.zeroValue5
 t9 := Tryd.underlying9
 a9 := Tryd.isAgg9
 z9 := Tryd.sizeOf9
 v9 := Tryd.zeroValue9 }
open Go.RowKit in
theorem Tryd.strings_IndexByte (s : ByteArray) (c : Int) (w : World) :
  Calls Tryd.prog 71 #[.string s, .int .u8 c] w fun e w' => e = .returned (.int .i64 (Lib.indexByte s.data.toList c.toNat.toUInt8)) ∧ w' = w := Any.strings_IndexByte Tryd.lays137 s c w
def Tryd.lays210_ren : Go.Shelf.Ren := ⟨fun | 210 => 53 | 206 => 70 | n => n, fun | 9 => 9 | 4 => 4 | 3 => 3 | n => n, fun | n => n⟩
theorem Tryd.lays210 : Go.Proofs.Lays.n210 Tryd.prog Tryd.lays210_ren := {
 mixed := by kernel_rfl
 f206 := Tryd.func70.trans (congrArg some (by kernel_rfl))
 f210 := Tryd.func53.trans (congrArg some (by kernel_rfl))
 t3 := Tryd.underlying3
 a3 := Tryd.isAgg3
 z3 := Tryd.sizeOf3
 v3 := Tryd.zeroValue3
 t4 := Tryd.underlying4
 a4 := Tryd.isAgg4
 z4 := Tryd.sizeOf4
 v4 := Tryd.zeroValue4
 t9 := Tryd.underlying9
 a9 := Tryd.isAgg9
 z9 := Tryd.sizeOf9
 v9 := Tryd.zeroValue9 }
open Go.RowKit in
theorem Tryd.stringslite_CutPrefix (s p : ByteArray) (w : World) :
  Calls Tryd.prog 53 #[.string s, .string p] w fun e w' => e = .returned (.tuple #[.string ⟨(Lib.trimPrefix s.data.toList p.data.toList).toArray⟩, .bool (Lib.hasPrefix s.data.toList p.data.toList)]) ∧ w' = w := Any.stringslite_CutPrefix Tryd.lays210 s p w
def Tryd.lays103_ren : Go.Shelf.Ren := ⟨fun | 103 => 47 | 210 => 53 | 206 => 70 | n => n, fun | 9 => 9 | 4 => 4 | 24 => 60 | 3 => 3 | n => n, fun | n => n⟩
theorem Tryd.lays103 : Go.Proofs.Lays.n103 Tryd.prog Tryd.lays103_ren := {
 mixed := by kernel_rfl
 f103 := Tryd.func47.trans (congrArg some (by kernel_rfl))
 f206 := Tryd.func70.trans (congrArg some (by kernel_rfl))
 f210 := Tryd.func53.trans (congrArg some (by kernel_rfl))
 t3 := Tryd.underlying3
 a3 := Tryd.isAgg3
 z3 := Tryd.sizeOf3
 v3 := Tryd.zeroValue3
 t4 := Tryd.underlying4
 a4 := Tryd.isAgg4
 z4 := Tryd.sizeOf4
 v4 := Tryd.zeroValue4
 t9 := Tryd.underlying9
 a9 := Tryd.isAgg9
 z9 := Tryd.sizeOf9
 v9 := Tryd.zeroValue9
 t24 := Tryd.underlying60
 a24 := Tryd.isAgg60
 z24 := Tryd.sizeOf60
 v24 := Tryd.zeroValue60 }
open Go.RowKit in
theorem Tryd.strings_CutPrefix (s p : ByteArray) (w : World) :
  Calls Tryd.prog 47 #[.string s, .string p] w fun e w' => e = .returned (.tuple #[.string ⟨(Lib.trimPrefix s.data.toList p.data.toList).toArray⟩, .bool (Lib.hasPrefix s.data.toList p.data.toList)]) ∧ w' = w := Any.strings_CutPrefix Tryd.lays103 s p w
def Tryd.lays219_ren : Go.Shelf.Ren := ⟨fun | 219 => 52 | 217 => 66 | 225 => 67 | 224 => 68 | 267 => 69 | 266 => 80 | 314 => 81 | n => n, fun | 9 => 9 | 3 => 3 | 4 => 4 | 5 => 5 | 46 => 90 | 146 => 99 | 51 => 98 | n => n, fun | 1 => 0 | n => n⟩
theorem Tryd.lays219 : Go.Proofs.Lays.n219 Tryd.prog Tryd.lays219_ren := {
 mixed := by kernel_rfl
 f217 := Tryd.func66.trans (congrArg some (by kernel_rfl))
 f219 := Tryd.func52.trans (congrArg some (by kernel_rfl))
 f224 := Tryd.func68.trans (congrArg some (by kernel_rfl))
 f225 := Tryd.func67.trans (congrArg some (by kernel_rfl))
 f266 := Tryd.func80.trans (congrArg some (by kernel_rfl))
 f267 := Tryd.func69.trans (congrArg some (by kernel_rfl))
 f314 := Tryd.func81.trans (congrArg some (by kernel_rfl))
 t3 := Tryd.underlying3
 a3 := Tryd.isAgg3
 z3 := Tryd.sizeOf3
 v3 := Tryd.zeroValue3
 t4 := Tryd.underlying4
 a4 := Tryd.isAgg4
 z4 := Tryd.sizeOf4
 v4 := Tryd.zeroValue4
 t5 := Tryd.underlying5
 a5 := Tryd.isAgg5
 z5 := Tryd.sizeOf5
 v5 := Tryd.zeroValue5
 t9 := Tryd.underlying9
 a9 := Tryd.isAgg9
 z9 := Tryd.sizeOf9
 v9 := Tryd.zeroValue9
 t46 := Tryd.underlying90
 a46 := Tryd.isAgg90
 z46 := Tryd.sizeOf90
 v46 := Tryd.zeroValue90
 t51 := Tryd.underlying98
 a51 := Tryd.isAgg98
 z51 := Tryd.sizeOf98
 v51 := Tryd.zeroValue98
 t146 := Tryd.underlying99
 a146 := Tryd.isAgg99
 z146 := Tryd.sizeOf99
 v146 := Tryd.zeroValue99
 g1 := by kernel_rfl }
open Go.RowKit Go.Lib in
theorem Tryd.stringslite_Index_one (s : ByteArray) (c : UInt8) (w : World) :
  Calls Tryd.prog 52 #[.string s, .string ⟨#[c]⟩] w fun e w' => e = .returned (.int .i64 (Lib.indexByte s.data.toList c)) ∧ w' = w := Any.stringslite_Index_one Tryd.lays219 s c w
open Go.RowKit Go.Lib in
theorem Tryd.stringslite_Index (s sub : ByteArray) (m : Int) (w : World) (hs : s.size < 4294967281) (hm : w.cell? ⟨0, 0, none⟩ = some (.int .i64 m)) :
  Calls Tryd.prog 52 #[.string s, .string sub] w fun e w' => e = .returned (.int .i64 (Lib.index s.data.toList sub.data.toList)) ∧ w' = w := Any.stringslite_Index Tryd.lays219 s sub m w hs hm
def Tryd.lays143_ren : Go.Shelf.Ren := ⟨fun | 143 => 85 | 219 => 52 | 217 => 66 | 225 => 67 | 224 => 68 | 267 => 69 | 266 => 80 | 314 => 81 | n => n, fun | 9 => 9 | 3 => 3 | 4 => 4 | 5 => 5 | 46 => 90 | 146 => 99 | 51 => 98 | n => n, fun | 1 => 0 | n => n⟩
theorem Tryd.lays143 : Go.Proofs.Lays.n143 Tryd.prog Tryd.lays143_ren := {
 mixed := by kernel_rfl
 f143 := Tryd.func85.trans (congrArg some (by kernel_rfl))
 f217 := Tryd.func66.trans (congrArg some (by kernel_rfl))
 f219 := Tryd.func52.trans (congrArg some (by kernel_rfl))
 f224 := Tryd.func68.trans (congrArg some (by kernel_rfl))
 f225 := Tryd.func67.trans (congrArg some (by kernel_rfl))
 f266 := Tryd.func80.trans (congrArg some (by kernel_rfl))
 f267 := Tryd.func69.trans (congrArg some (by kernel_rfl))
 f314 := Tryd.func81.trans (congrArg some (by kernel_rfl))
 t3 := Tryd.underlying3
 a3 := Tryd.isAgg3
 z3 := Tryd.sizeOf3
 v3 := Tryd.zeroValue3
 t4 := Tryd.underlying4
 a4 := Tryd.isAgg4
 z4 := Tryd.sizeOf4
 v4 := Tryd.zeroValue4
 t5 := Tryd.underlying5
 a5 := Tryd.isAgg5
 z5 := Tryd.sizeOf5
 v5 := Tryd.zeroValue5
 t9 := Tryd.underlying9
 a9 := Tryd.isAgg9
 z9 := Tryd.sizeOf9
 v9 := Tryd.zeroValue9
 t46 := Tryd.underlying90
 a46 := Tryd.isAgg90
 z46 := Tryd.sizeOf90
 v46 := Tryd.zeroValue90
 t51 := Tryd.underlying98
 a51 := Tryd.isAgg98
 z51 := Tryd.sizeOf98
 v51 := Tryd.zeroValue98
 t146 := Tryd.underlying99
 a146 := Tryd.isAgg99
 z146 := Tryd.sizeOf99
 v146 := Tryd.zeroValue99
 g1 := by kernel_rfl }
open Go.RowKit Go.Lib in
theorem Tryd.strings_Index (s sub : ByteArray) (m : Int) (w : World) (hs : s.size < 4294967281) (hm : w.cell? ⟨0, 0, none⟩ = some (.int .i64 m)) :
  Calls Tryd.prog 85 #[.string s, .string sub] w fun e w' => e = .returned (.int .i64 (Lib.index s.data.toList sub.data.toList)) ∧ w' = w := Any.strings_Index Tryd.lays143 s sub m w hs hm
def Tryd.lays220_ren : Go.Shelf.Ren := ⟨fun | 220 => 46 | 219 => 52 | 217 => 66 | 225 => 67 | 224 => 68 | 267 => 69 | 266 => 80 | 314 => 81 | n => n, fun | 9 => 9 | 4 => 4 | 3 => 3 | 5 => 5 | 46 => 90 | 146 => 99 | 51 => 98 | n => n, fun | 1 => 0 | n => n⟩
theorem Tryd.lays220 : Go.Proofs.Lays.n220 Tryd.prog Tryd.lays220_ren := {
 mixed := by kernel_rfl
 f217 := Tryd.func66.trans (congrArg some (by kernel_rfl))
 f219 := Tryd.func52.trans (congrArg some (by kernel_rfl))
 f220 := Tryd.func46.trans (congrArg some (by kernel_rfl))
 f224 := Tryd.func68.trans (congrArg some (by kernel_rfl))
 f225 := Tryd.func67.trans (congrArg some (by kernel_rfl))
 f266 := Tryd.func80.trans (congrArg some (by kernel_rfl))
 f267 := Tryd.func69.trans (congrArg some (by kernel_rfl))
 f314 := Tryd.func81.trans (congrArg some (by kernel_rfl))
 t3 := Tryd.underlying3
 a3 := Tryd.isAgg3
 z3 := Tryd.sizeOf3
 v3 := Tryd.zeroValue3
 t4 := Tryd.underlying4
 a4 := Tryd.isAgg4
 z4 := Tryd.sizeOf4
 v4 := Tryd.zeroValue4
 t5 := Tryd.underlying5
 a5 := Tryd.isAgg5
 z5 := Tryd.sizeOf5
 v5 := Tryd.zeroValue5
 t9 := Tryd.underlying9
 a9 := Tryd.isAgg9
 z9 := Tryd.sizeOf9
 v9 := Tryd.zeroValue9
 t46 := Tryd.underlying90
 a46 := Tryd.isAgg90
 z46 := Tryd.sizeOf90
 v46 := Tryd.zeroValue90
 t51 := Tryd.underlying98
 a51 := Tryd.isAgg98
 z51 := Tryd.sizeOf98
 v51 := Tryd.zeroValue98
 t146 := Tryd.underlying99
 a146 := Tryd.isAgg99
 z146 := Tryd.sizeOf99
 v146 := Tryd.zeroValue99
 g1 := by kernel_rfl }
open Go.RowKit Go.Lib in
theorem Tryd.stringslite_Cut (s sep : ByteArray) (m : Int) (w : World) (hs : s.size < 4294967281) (hm : w.cell? ⟨0, 0, none⟩ = some (.int .i64 m)) :
  Calls Tryd.prog 46 #[.string s, .string sep] w fun e w' => e = .returned (.tuple #[.string ⟨(Lib.cut s.data.toList sep.data.toList).1.toArray⟩, .string ⟨(Lib.cut s.data.toList sep.data.toList).2.1.toArray⟩, .bool (Lib.cut s.data.toList sep.data.toList).2.2]) ∧ ∃ n, w' = w.drewN n := Any.stringslite_Cut Tryd.lays220 s sep m w hs hm
def Tryd.lays145_ren : Go.Shelf.Ren := ⟨fun | 145 => 43 | 220 => 46 | 219 => 52 | 217 => 66 | 225 => 67 | 224 => 68 | 267 => 69 | 266 => 80 | 314 => 81 | n => n, fun | 9 => 9 | 4 => 4 | 59 => 54 | 3 => 3 | 5 => 5 | 46 => 90 | 146 => 99 | 51 => 98 | n => n, fun | 1 => 0 | n => n⟩
theorem Tryd.lays145 : Go.Proofs.Lays.n145 Tryd.prog Tryd.lays145_ren := {
 mixed := by kernel_rfl
 f145 := Tryd.func43.trans (congrArg some (by kernel_rfl))
 f217 := Tryd.func66.trans (congrArg some (by kernel_rfl))
 f219 := Tryd.func52.trans (congrArg some (by kernel_rfl))
 f220 := Tryd.func46.trans (congrArg some (by kernel_rfl))
 f224 := Tryd.func68.trans (congrArg some (by kernel_rfl))
 f225 := Tryd.func67.trans (congrArg some (by kernel_rfl))
 f266 := Tryd.func80.trans (congrArg some (by kernel_rfl))
 f267 := Tryd.func69.trans (congrArg some (by kernel_rfl))
 f314 := Tryd.func81.trans (congrArg some (by kernel_rfl))
 t3 := Tryd.underlying3
 a3 := Tryd.isAgg3
 z3 := Tryd.sizeOf3
 v3 := Tryd.zeroValue3
 t4 := Tryd.underlying4
 a4 := Tryd.isAgg4
 z4 := Tryd.sizeOf4
 v4 := Tryd.zeroValue4
 t5 := Tryd.underlying5
 a5 := Tryd.isAgg5
 z5 := Tryd.sizeOf5
 v5 := Tryd.zeroValue5
 t9 := Tryd.underlying9
 a9 := Tryd.isAgg9
 z9 := Tryd.sizeOf9
 v9 := Tryd.zeroValue9
 t46 := Tryd.underlying90
 a46 := Tryd.isAgg90
 z46 := Tryd.sizeOf90
 v46 := Tryd.zeroValue90
 t51 := Tryd.underlying98
 a51 := Tryd.isAgg98
 z51 := Tryd.sizeOf98
 v51 := Tryd.zeroValue98
 t59 := Tryd.underlying54
 a59 := Tryd.isAgg54
 z59 := Tryd.sizeOf54
 v59 := Tryd.zeroValue54
 t146 := Tryd.underlying99
 a146 := Tryd.isAgg99
 z146 := Tryd.sizeOf99
 v146 := Tryd.zeroValue99
 g1 := by kernel_rfl }
open Go.RowKit Go.Lib in
theorem Tryd.strings_Cut (s sep : ByteArray) (m : Int) (w : World) (hs : s.size < 4294967281) (hm : w.cell? ⟨0, 0, none⟩ = some (.int .i64 m)) :
  Calls Tryd.prog 43 #[.string s, .string sep] w fun e w' => e = .returned (.tuple #[.string ⟨(Lib.cut s.data.toList sep.data.toList).1.toArray⟩, .string ⟨(Lib.cut s.data.toList sep.data.toList).2.1.toArray⟩, .bool (Lib.cut s.data.toList sep.data.toList).2.2]) ∧ ∃ n, w' = w.drewN n := Any.strings_Cut Tryd.lays145 s sep m w hs hm
def Tryd.lays138_ren : Go.Shelf.Ren := ⟨fun | 138 => 84 | 195 => 89 | 218 => 91 | 143 => 85 | 219 => 52 | 217 => 66 | 225 => 67 | 224 => 68 | 267 => 69 | 266 => 80 | 314 => 81 | n => n, fun | 9 => 9 | 3 => 3 | 4 => 4 | 5 => 5 | 0 => 0 | 46 => 90 | 146 => 99 | 51 => 98 | n => n, fun | 1 => 0 | n => n⟩
theorem Tryd.lays138 : Go.Proofs.Lays.n138 Tryd.prog Tryd.lays138_ren := {
 mixed := by kernel_rfl
 f138 := Tryd.func84.trans (congrArg some (by kernel_rfl))
 f143 := Tryd.func85.trans (congrArg some (by kernel_rfl))
 f195 := Tryd.func89.trans (congrArg some (by kernel_rfl))
 f217 := Tryd.func66.trans (congrArg some (by kernel_rfl))
 f218 := Tryd.func91.trans (congrArg some (by kernel_rfl))
 f219 := Tryd.func52.trans (congrArg some (by kernel_rfl))
 f224 := Tryd.func68.trans (congrArg some (by kernel_rfl))
 f225 := Tryd.func67.trans (congrArg some (by kernel_rfl))
 f266 := Tryd.func80.trans (congrArg some (by kernel_rfl))
 f267 := Tryd.func69.trans (congrArg some (by kernel_rfl))
 f314 := Tryd.func81.trans (congrArg some (by kernel_rfl))
 t0 := Tryd.underlying0
 a0 := Tryd.isAgg0
 z0 := Tryd.sizeOf0
 v0 := Tryd.zeroValue0
 t3 := Tryd.underlying3
 a3 := Tryd.isAgg3
 z3 := Tryd.sizeOf3
 v3 := Tryd.zeroValue3
 t4 := Tryd.underlying4
 a4 := Tryd.isAgg4
 z4 := Tryd.sizeOf4
 v4 := Tryd.zeroValue4
 t5 := Tryd.underlying5
 a5 := Tryd.isAgg5
 z5 := Tryd.sizeOf5
 v5 := Tryd.zeroValue5
 t9 := Tryd.underlying9
 a9 := Tryd.isAgg9
 z9 := Tryd.sizeOf9
 v9 := Tryd.zeroValue9
 t46 := Tryd.underlying90
 a46 := Tryd.isAgg90
 z46 := Tryd.sizeOf90
 v46 := Tryd.zeroValue90
 t51 := Tryd.underlying98
 a51 := Tryd.isAgg98
 z51 := Tryd.sizeOf98
 v51 := Tryd.zeroValue98
 t146 := Tryd.underlying99
 a146 := Tryd.isAgg99
 z146 := Tryd.sizeOf99
 v146 := Tryd.zeroValue99
 g1 := by kernel_rfl }
open Go.RowKit Go.Lib in
theorem Tryd.strings_Count_one (s : ByteArray) (c : UInt8) (w : World) :
  Calls Tryd.prog 84 #[.string s, .string ⟨#[c]⟩] w fun e w' => e = .returned (.int .i64 (Lib.countByte s.data.toList c)) ∧ w' = w := Any.strings_Count_one Tryd.lays138 s c w
open Go.RowKit Go.Lib in
theorem Tryd.strings_Count (s sub : ByteArray) (m : Int) (w : World) (hs : s.size < 4294967281) (hm : w.cell? ⟨0, 0, none⟩ = some (.int .i64 m)) (h2 : 2 ≤ sub.size) :
  Calls Tryd.prog 84 #[.string s, .string sub] w fun e w' => e = .returned (.int .i64 (Lib.countB s sub)) ∧ w' = w := Any.strings_Count Tryd.lays138 s sub m w hs hm h2
def Tryd.lays206_ren : Go.Shelf.Ren := ⟨fun | 206 => 70 | n => n, fun | 9 => 9 | 4 => 4 | 3 => 3 | n => n, fun | n => n⟩
theorem Tryd.lays206 : Go.Proofs.Lays.n206 Tryd.prog Tryd.lays206_ren := {
 mixed := by kernel_rfl
 f206 := Tryd.func70.trans (congrArg some (by kernel_rfl))
 t3 := Tryd.underlying3
 a3 := Tryd.isAgg3
 z3 := Tryd.sizeOf3
 v3 := Tryd.zeroValue3
 t4 := Tryd.underlying4
 a4 := Tryd.isAgg4
 z4 := Tryd.sizeOf4
 v4 := Tryd.zeroValue4
 t9 := Tryd.underlying9
 a9 := Tryd.isAgg9
 z9 := Tryd.sizeOf9
 v9 := Tryd.zeroValue9 }
open Go.RowKit Go.Lib in
theorem Tryd.stringslite_HasPrefix (s p : ByteArray) (w : World) :
  Calls Tryd.prog 70 #[.string s, .string p] w fun e w' => e = .returned (.bool (Lib.hasPrefix s.data.toList p.data.toList)) ∧ w' = w := Any.stringslite_HasPrefix Tryd.lays206 s p w
def Tryd.lays221_ren : Go.Shelf.Ren := ⟨fun | 221 => 75 | 268 => 83 | 138 => 84 | 143 => 85 | 195 => 89 | 197 => 90 | 218 => 91 | 219 => 52 | 260 => 92 | 217 => 66 | 225 => 67 | 224 => 68 | 267 => 69 | 266 => 80 | 314 => 81 | n => n, fun | 9 => 9 | 3 => 3 | 31 => 45 | 4 => 4 | 0 => 0 | 105 => 108 | 21 => 21 | 5 => 5 | 46 => 90 | 119 => 110 | 139 => 113 | 138 => 112 | 146 => 99 | 51 => 98 | n => n, fun | 1 => 0 | 3 => 1 | 4 => 2 | n => n⟩
theorem Tryd.lays221 : Go.Proofs.Lays.n221 Tryd.prog Tryd.lays221_ren := {
 mixed := by kernel_rfl
 f138 := Tryd.func84.trans (congrArg some (by kernel_rfl))
 f143 := Tryd.func85.trans (congrArg some (by kernel_rfl))
 f195 := Tryd.func89.trans (congrArg some (by kernel_rfl))
 f197 := Tryd.func90.trans (congrArg some (by kernel_rfl))
 f217 := Tryd.func66.trans (congrArg some (by kernel_rfl))
 f218 := Tryd.func91.trans (congrArg some (by kernel_rfl))
 f219 := Tryd.func52.trans (congrArg some (by kernel_rfl))
 f221 := Tryd.func75.trans (congrArg some (by kernel_rfl))
 f224 := Tryd.func68.trans (congrArg some (by kernel_rfl))
 f225 := Tryd.func67.trans (congrArg some (by kernel_rfl))
 f260 := Tryd.func92.trans (congrArg some (by kernel_rfl))
 f266 := Tryd.func80.trans (congrArg some (by kernel_rfl))
 f267 := Tryd.func69.trans (congrArg some (by kernel_rfl))
 f268 := Tryd.func83.trans (congrArg some (by kernel_rfl))
 f314 := Tryd.func81.trans (congrArg some (by kernel_rfl))
 t0 := Tryd.underlying0
 a0 := Tryd.isAgg0
 z0 := Tryd.sizeOf0
 v0 := Tryd.zeroValue0
 t3 := Tryd.underlying3
 a3 := Tryd.isAgg3
 z3 := Tryd.sizeOf3
 v3 := Tryd.zeroValue3
 t4 := Tryd.underlying4
 a4 := Tryd.isAgg4
 z4 := Tryd.sizeOf4
 v4 := Tryd.zeroValue4
 t5 := Tryd.underlying5
 a5 := Tryd.isAgg5
 z5 := Tryd.sizeOf5
 v5 := Tryd.zeroValue5
 t9 := Tryd.underlying9
 a9 := Tryd.isAgg9
 z9 := Tryd.sizeOf9
 v9 := Tryd.zeroValue9
 t21 := Tryd.underlying21
 a21 := Tryd.isAgg21
 z21 := Tryd.sizeOf21
 v21 := Tryd.zeroValue21
 t31 := Tryd.underlying45
 a31 := Tryd.isAgg45
 z31 := Tryd.sizeOf45
 v31 := Tryd.zeroValue45
 t46 := Tryd.underlying90
 a46 := Tryd.isAgg90
 z46 := Tryd.sizeOf90
 v46 := Tryd.zeroValue90
 t51 := Tryd.underlying98
 a51 := Tryd.isAgg98
 z51 := Tryd.sizeOf98
 v51 := Tryd.zeroValue98
 t105 := Tryd.underlying108
 a105 := Tryd.isAgg108
 z105 := Tryd.sizeOf108
 v105 := Tryd.zeroValue108
 t119 := Tryd.underlying110
 a119 := Tryd.isAgg110
 z119 := Tryd.sizeOf110
 t138 := Tryd.underlying112
 a138 := Tryd.isAgg112
 z138 := Tryd.sizeOf112
 v138 := Tryd.zeroValue112
 t139 := Tryd.underlying113
 a139 := Tryd.isAgg113
 z139 := Tryd.sizeOf113
 v139 := Tryd.zeroValue113
 t146 := Tryd.underlying99
 a146 := Tryd.isAgg99
 z146 := Tryd.sizeOf99
 v146 := Tryd.zeroValue99
 g1 := by kernel_rfl
 g3 := by kernel_rfl
 g4 := by kernel_rfl }
open Go.RowKit Go.Lib in
theorem Tryd.strings_genSplit (s sep : ByteArray) (sv : Nat) (n : Int) (N : Nat) (m : Int) (w : World) (hs : s.size < 4294967281) (hm : w.cell? ⟨0, 0, none⟩ = some (.int .i64 m)) (h1 : 1 ≤ sep.size) (hsv : sv ≤ sep.size) (hn0 : n ≠ 0) (hn63 : n ≤ 9223372036854775807) (hN : (N : Int) = min (if n < 0 then (Lib.countB s sep : Int) + 1 else n) ((s.size : Int) + 1)) :
  Calls Tryd.prog 75 #[.string s, .string sep, .int .i64 sv, .int .i64 n] w fun e w' =>
   e = .returned (.slice (some ⟨w.heap.size, 0, none⟩) (Lib.splitB sep sv (N - 1) s).length N) ∧ w' = w.alloc (.cells (Lib.cellsOf (Lib.splitB sep sv (N - 1) s) N) 9) := Any.strings_genSplit Tryd.lays221 (by kernel_rfl) s sep sv n N m w hs hm h1 hsv hn0 hn63 hN
def Tryd.lays146_ren : Go.Shelf.Ren := ⟨fun | 146 => 60 | 221 => 75 | 268 => 83 | 138 => 84 | 143 => 85 | 195 => 89 | 197 => 90 | 218 => 91 | 219 => 52 | 260 => 92 | 217 => 66 | 225 => 67 | 224 => 68 | 267 => 69 | 266 => 80 | 314 => 81 | n => n, fun | 9 => 9 | 31 => 45 | 3 => 3 | 4 => 4 | 0 => 0 | 105 => 108 | 21 => 21 | 5 => 5 | 46 => 90 | 119 => 110 | 139 => 113 | 138 => 112 | 146 => 99 | 51 => 98 | n => n, fun | 1 => 0 | 3 => 1 | 4 => 2 | n => n⟩
theorem Tryd.lays146 : Go.Proofs.Lays.n146 Tryd.prog Tryd.lays146_ren := {
 mixed := by kernel_rfl
 f138 := Tryd.func84.trans (congrArg some (by kernel_rfl))
 f143 := Tryd.func85.trans (congrArg some (by kernel_rfl))
 f146 := Tryd.func60.trans (congrArg some (by kernel_rfl))
 f195 := Tryd.func89.trans (congrArg some (by kernel_rfl))
 f197 := Tryd.func90.trans (congrArg some (by kernel_rfl))
 f217 := Tryd.func66.trans (congrArg some (by kernel_rfl))
 f218 := Tryd.func91.trans (congrArg some (by kernel_rfl))
 f219 := Tryd.func52.trans (congrArg some (by kernel_rfl))
 f221 := Tryd.func75.trans (congrArg some (by kernel_rfl))
 f224 := Tryd.func68.trans (congrArg some (by kernel_rfl))
 f225 := Tryd.func67.trans (congrArg some (by kernel_rfl))
 f260 := Tryd.func92.trans (congrArg some (by kernel_rfl))
 f266 := Tryd.func80.trans (congrArg some (by kernel_rfl))
 f267 := Tryd.func69.trans (congrArg some (by kernel_rfl))
 f268 := Tryd.func83.trans (congrArg some (by kernel_rfl))
 f314 := Tryd.func81.trans (congrArg some (by kernel_rfl))
 t0 := Tryd.underlying0
 a0 := Tryd.isAgg0
 z0 := Tryd.sizeOf0
 v0 := Tryd.zeroValue0
 t3 := Tryd.underlying3
 a3 := Tryd.isAgg3
 z3 := Tryd.sizeOf3
 v3 := Tryd.zeroValue3
 t4 := Tryd.underlying4
 a4 := Tryd.isAgg4
 z4 := Tryd.sizeOf4
 v4 := Tryd.zeroValue4
 t5 := Tryd.underlying5
 a5 := Tryd.isAgg5
 z5 := Tryd.sizeOf5
 v5 := Tryd.zeroValue5
 t9 := Tryd.underlying9
 a9 := Tryd.isAgg9
 z9 := Tryd.sizeOf9
 v9 := Tryd.zeroValue9
 t21 := Tryd.underlying21
 a21 := Tryd.isAgg21
 z21 := Tryd.sizeOf21
 v21 := Tryd.zeroValue21
 t31 := Tryd.underlying45
 a31 := Tryd.isAgg45
 z31 := Tryd.sizeOf45
 v31 := Tryd.zeroValue45
 t46 := Tryd.underlying90
 a46 := Tryd.isAgg90
 z46 := Tryd.sizeOf90
 v46 := Tryd.zeroValue90
 t51 := Tryd.underlying98
 a51 := Tryd.isAgg98
 z51 := Tryd.sizeOf98
 v51 := Tryd.zeroValue98
 t105 := Tryd.underlying108
 a105 := Tryd.isAgg108
 z105 := Tryd.sizeOf108
 v105 := Tryd.zeroValue108
 t119 := Tryd.underlying110
 a119 := Tryd.isAgg110
 z119 := Tryd.sizeOf110
 t138 := Tryd.underlying112
 a138 := Tryd.isAgg112
 z138 := Tryd.sizeOf112
 v138 := Tryd.zeroValue112
 t139 := Tryd.underlying113
 a139 := Tryd.isAgg113
 z139 := Tryd.sizeOf113
 v139 := Tryd.zeroValue113
 t146 := Tryd.underlying99
 a146 := Tryd.isAgg99
 z146 := Tryd.sizeOf99
 v146 := Tryd.zeroValue99
 g1 := by kernel_rfl
 g3 := by kernel_rfl
 g4 := by kernel_rfl }
open Go.RowKit Go.Lib in
theorem Tryd.strings_Split (s sep : ByteArray) (m : Int) (w : World) (hs : s.size < 4294967281) (hm : w.cell? ⟨0, 0, none⟩ = some (.int .i64 m)) (h1 : 1 ≤ sep.size) :
  Calls Tryd.prog 60 #[.string s, .string sep] w fun e w' =>
   e = .returned (.slice (some ⟨w.heap.size, 0, none⟩) (Lib.countB s sep + 1) (Lib.countB s sep + 1)) ∧ w' = w.alloc (.cells ((Lib.splitB sep 0 (Lib.countB s sep) s).map Value.string).toArray 9) := Any.strings_Split Tryd.lays146 (by kernel_rfl) s sep m w hs hm h1
def Tryd.lays152_ren : Go.Shelf.Ren := ⟨fun | 152 => 54 | 137 => 71 | 119 => 72 | 224 => 68 | 225 => 67 | 217 => 66 | 266 => 80 | n => n, fun | 9 => 9 | 21 => 21 | 3 => 3 | 4 => 4 | 5 => 5 | 0 => 0 | 46 => 90 | n => n, fun | n => n⟩
theorem Tryd.lays152 : Go.Proofs.Lays.n152 Tryd.prog Tryd.lays152_ren := {
 mixed := by kernel_rfl
 f119 := Tryd.func72.trans (congrArg some (by kernel_rfl))
 f137 := Tryd.func71.trans (congrArg some (by kernel_rfl))
 f152 := Tryd.func54.trans (congrArg some (by kernel_rfl))
 f217 := Tryd.func66.trans (congrArg some (by kernel_rfl))
 f224 := Tryd.func68.trans (congrArg some (by kernel_rfl))
 f225 := Tryd.func67.trans (congrArg some (by kernel_rfl))
 f266 := Tryd.func80.trans (congrArg some (by kernel_rfl))
 t0 := Tryd.underlying0
 a0 := Tryd.isAgg0
 z0 := Tryd.sizeOf0
 v0 := Tryd.zeroValue0
 t3 := Tryd.underlying3
 a3 := Tryd.isAgg3
 z3 := Tryd.sizeOf3
 v3 := Tryd.zeroValue3
 t4 := Tryd.underlying4
 a4 := Tryd.isAgg4
 z4 := Tryd.sizeOf4
 v4 := Tryd.zeroValue4
 t5 := Tryd.underlying5
 a5 := Tryd.isAgg5
 z5 := Tryd.sizeOf5
 v5 := Tryd.zeroValue5
 t9 := Tryd.underlying9
 a9 := Tryd.isAgg9
 z9 := Tryd.sizeOf9
 v9 := Tryd.zeroValue9
 t21 := Tryd.underlying21
 a21 := Tryd.isAgg21
 z21 := Tryd.sizeOf21
 v21 := Tryd.zeroValue21
 t46 := Tryd.underlying90
 a46 := Tryd.isAgg90
 z46 := Tryd.sizeOf90
 v46 := Tryd.zeroValue90 }
open Go.RowKit Go.Lib in
theorem Tryd.strings_IndexRune_ascii (s : ByteArray) (r : Int) (w : World) (h0 : 0 ≤ r) (h1 : r < 128) :
  Calls Tryd.prog 54 #[.string s, .int .i32 r] w fun e w' => e = .returned (.int .i64 (Lib.indexByte s.data.toList r.toNat.toUInt8)) ∧ w' = w := Any.strings_IndexRune_ascii Tryd.lays152 s r w h0 h1
def Tryd.lays226_ren : Go.Shelf.Ren := ⟨fun | 226 => 55 | n => n, fun | 3 => 3 | 4 => 4 | n => n, fun | n => n⟩
theorem Tryd.lays226 : Go.Proofs.Lays.n226 Tryd.prog Tryd.lays226_ren := {
 mixed := by kernel_rfl
 f226 := Tryd.func55.trans (congrArg some (by kernel_rfl))
 t3 := Tryd.underlying3
 a3 := Tryd.isAgg3
 z3 := Tryd.sizeOf3
 v3 := Tryd.zeroValue3
 t4 := Tryd.underlying4
 a4 := Tryd.isAgg4
 z4 := Tryd.sizeOf4
 v4 := Tryd.zeroValue4 }
open Go.RowKit Go.Lib in
theorem Tryd.strings_shouldUseASCIISet (n : Int) (w : World) :
  Calls Tryd.prog 55 #[.int .i64 n] w fun e w' => e = .returned (.bool (decide (8 < n))) ∧ w' = w := Any.strings_shouldUseASCIISet Tryd.lays226 n w
def Tryd.lays153_ren : Go.Shelf.Ren := ⟨fun | 153 => 48 | 152 => 54 | 226 => 55 | 227 => 56 | 228 => 57 | 137 => 71 | 119 => 72 | 224 => 68 | 225 => 67 | 217 => 66 | 266 => 80 | n => n, fun | 9 => 9 | 3 => 3 | 4 => 4 | 5 => 5 | 21 => 21 | 117 => 76 | 116 => 75 | 0 => 0 | 46 => 90 | 124 => 93 | n => n, fun | n => n⟩
theorem Tryd.lays153 : Go.Proofs.Lays.n153 Tryd.prog Tryd.lays153_ren := {
 mixed := by kernel_rfl
 f119 := Tryd.func72.trans (congrArg some (by kernel_rfl))
 f137 := Tryd.func71.trans (congrArg some (by kernel_rfl))
 f152 := Tryd.func54.trans (congrArg some (by kernel_rfl))
 f153 := Tryd.func48.trans (congrArg some (by kernel_rfl))
 f217 := Tryd.func66.trans (congrArg some (by kernel_rfl))
 f224 := Tryd.func68.trans (congrArg some (by kernel_rfl))
 f225 := Tryd.func67.trans (congrArg some (by kernel_rfl))
 f226 := Tryd.func55.trans (congrArg some (by kernel_rfl))
 f227 := Tryd.func56.trans (congrArg some (by kernel_rfl))
 f228 := Tryd.func57.trans (congrArg some (by kernel_rfl))
 f266 := Tryd.func80.trans (congrArg some (by kernel_rfl))
 t0 := Tryd.underlying0
 a0 := Tryd.isAgg0
 z0 := Tryd.sizeOf0
 v0 := Tryd.zeroValue0
 t3 := Tryd.underlying3
 a3 := Tryd.isAgg3
 z3 := Tryd.sizeOf3
 v3 := Tryd.zeroValue3
 t4 := Tryd.underlying4
 a4 := Tryd.isAgg4
 z4 := Tryd.sizeOf4
 v4 := Tryd.zeroValue4
 t5 := Tryd.underlying5
 a5 := Tryd.isAgg5
 z5 := Tryd.sizeOf5
 v5 := Tryd.zeroValue5
 t9 := Tryd.underlying9
 a9 := Tryd.isAgg9
 z9 := Tryd.sizeOf9
 v9 := Tryd.zeroValue9
 t21 := Tryd.underlying21
 a21 := Tryd.isAgg21
 z21 := Tryd.sizeOf21
 v21 := Tryd.zeroValue21
 t46 := Tryd.underlying90
 a46 := Tryd.isAgg90
 z46 := Tryd.sizeOf90
 v46 := Tryd.zeroValue90
 t116 := Tryd.underlying75
 a116 := Tryd.isAgg75
 z116 := Tryd.sizeOf75
 t117 := Tryd.underlying76
 a117 := Tryd.isAgg76
 z117 := Tryd.sizeOf76
 v117 := Tryd.zeroValue76
 t124 := Tryd.underlying93
 a124 := Tryd.isAgg93
 z124 := Tryd.sizeOf93
 v124 := Tryd.zeroValue93 }
open Go.RowKit Go.Lib in
theorem Tryd.strings_IndexAny_long (hv116 : ∀ w, (zeroValue 75).run Tryd.prog w = .ok (.agg (Array.replicate 256 (.bool false))) w) (s chars : ByteArray) (w : World) (h2 : 2 ≤ chars.size) (h8 : 8 < s.size) (hs : s.size < 4294967281) (hcs : chars.size < 4294967281) (hascii : ∀ (j : Nat) b, chars.data.toList[j]? = some b → b.toNat < 128) :
  Calls Tryd.prog 48 #[.string s, .string chars] w fun e w' => e = .returned (.int .i64 (Lib.indexAny s.data.toList chars.data.toList)) ∧ w' = ((w.alloc (.cells (Lib.setCells chars.data.toList) 75)).alloc (.cells (Lib.setCells chars.data.toList) 75)) := Any.strings_IndexAny_long Tryd.lays153 hv116 (by kernel_rfl) s chars w h2 h8 hs hcs hascii
open Go.RowKit Go.Lib in
theorem Tryd.strings_IndexAny (hv116 : ∀ w, (zeroValue 75).run Tryd.prog w = .ok (.agg (Array.replicate 256 (.bool false))) w) (s chars : ByteArray) (w : World) (hs : s.size < 4294967281) (hcs : chars.size < 4294967281) (has : ∀ (j : Nat) b, s.data.toList[j]? = some b → b.toNat < 128) (hac : ∀ (j : Nat) b, chars.data.toList[j]? = some b → b.toNat < 128) :
  Calls Tryd.prog 48 #[.string s, .string chars] w fun e w' => e = .returned (.int .i64 (Lib.indexAny s.data.toList chars.data.toList)) ∧ Below w.heap.size w w' := Any.strings_IndexAny Tryd.lays153 hv116 (by kernel_rfl) s chars w hs hcs has hac
def Tryd.laysNm216_ren : Go.Shelf.Ren := ⟨fun | 16 => 59 | n => n, fun | 24 => 45 | 9 => 9 | 4 => 4 | n => n, fun | n => n⟩
theorem Tryd.laysNm216 : Go.Proofs.Lays2.n16 Tryd.prog Tryd.laysNm216_ren := {
 mixed := by kernel_rfl
 f16 := Tryd.func59.trans (congrArg some (by kernel_rfl))
 t4 := Tryd.underlying4
 a4 := Tryd.isAgg4
 z4 := Tryd.sizeOf4
 v4 := Tryd.zeroValue4
 t9 := Tryd.underlying9
 a9 := Tryd.isAgg9
 z9 := Tryd.sizeOf9
 v9 := Tryd.zeroValue9
 t24 := Tryd.underlying45
 a24 := Tryd.isAgg45
 z24 := Tryd.sizeOf45
 v24 := Tryd.zeroValue45
 i9 := by kernel_rfl }
open Go.RowKit Go.Lib in
theorem Tryd.slices_Clone_string (b off n c : Nat) (zs : List ByteArray) (w : World) (hz : n ≤ zs.length) (hbig : n * 16 ≤ 140737488355328) (hc : ∀ j, j < zs.length → w.cell? ⟨b, off + j, none⟩ = some (.string (zs.getD j ByteArray.empty))) :
  Calls Tryd.prog 59 #[.slice (some ⟨b, off, none⟩) n c] w fun e w' => ∃ v', e = .returned v' ∧ w'.ownsRow w.heap.size 9 1 v' n ((zs.take n).map (Value.string)) ∧ v' ≠ .slice none 0 0 ∧ Below w.heap.size w w' := Any.slices_Clone_string Tryd.laysNm216 b off n c zs w hz hbig hc
open Go.RowKit Go.Lib in
theorem Tryd.slices_Clone_string_nil (n c : Nat) (w : World) :
  Calls Tryd.prog 59 #[.slice none n c] w fun e w' => e = .returned (.slice none 0 0) ∧ w' = w := Any.slices_Clone_string_nil Tryd.laysNm216 n c w
open Go.RowKit Go.Lib in
theorem Tryd.slices_Clone_string_zero (a : Addr) (c : Nat) (w : World) :
  Calls Tryd.prog 59 #[.slice (some a) 0 c] w fun e w' => ∃ v', e = .returned v' ∧ w'.ownsRow w.heap.size 9 1 v' 0 [] ∧ v' ≠ .slice none 0 0 ∧ Below w.heap.size w w' := Any.slices_Clone_string_zero Tryd.laysNm216 a c w
end Go.Proofs
end
section
namespace Go.Proofs.YtpnedbnpnekahaaDoor.P
open Go.RowKit Go.Proofs.YtpnedbnpnekahaaDoorW.PrintWords Go.Proofs.YtpnedbnpnekahaaDoorW.PrintLast Go.Proofs.YtpnedbnpnekahaaDoorW.PrintMore Go.Proofs.YtpnedbnpnekahaaDoor.B Go.Proofs.YtpnedbnpnekahaaDoor.Ad
set_option linter.unusedVariables false
set_option linter.unusedSimpArgs false
theorem row_at {w : World} {A : Option Addr} {xs : List ByteArray} (h : Kd.C Kd.string w A xs.length xs) (hn : 0 < xs.length) :
  ∃ bk o, A = some ⟨bk, o, none⟩ ∧ bk < w.heap.size ∧ ∀ (j : Nat) x, xs[j]? = some x → w.cell? ⟨bk, o + j, none⟩ = some (.string x) := by
 obtain ⟨_, _, h3⟩ := h
 obtain ⟨ad, rfl, hc⟩ := h3 hn
 have cells : ∀ (j : Nat) x, xs[j]? = some x → w.cell? (ad.add j) = some (.string x) := by
  intro j x hx
  obtain ⟨c, hl, hk, hcell⟩ := hc j x hx
  have hk' : c = [Value.string x] := hk
  subst hk'
  have := hcell 0 (.string x) rfl
  rw [show j * Kd.string.sz + 0 = j from by show j * 1 + 0 = j; omega] at this
  exact this
 have h0 := cells 0 xs[0] (List.getElem?_eq_getElem hn)
 obtain ⟨bk, o, sp⟩ := ad
 have h0' : w.cell? ⟨bk, o, sp⟩ = some (.string xs[0]) := h0
 have hsp : sp = none := by
  cases sp with
  | none => rfl
  | some y =>
   unfold World.cell? at h0'
   simp at h0'
   split at h0' <;> simp at h0'
 subst hsp
 refine ⟨bk, o, rfl, ?_, fun j x hx => ?_⟩
 ·rcases Nat.lt_or_ge bk w.heap.size with h | h
  ·exact h
  ·unfold World.cell? at h0'
   simp [Array.getElem?_eq_none h] at h0'
 ·have := cells j x hx
  unfold Addr.add at this
  split at this
  ·rename_i hj; subst hj; exact this
  ·exact this
def strings_Join.f (l0 : List ByteArray) (a1 : ByteArray) : Option (ByteArray) :=
 if l0.length ≤ 140737488355328 ∧ (Lib.join (l0.map L) (L a1)).length ≤ 140737488355328 then some (ofL (Lib.join (l0.map L) (L a1))) else none
theorem strings_Join.calls (A0 : Option Addr) (c0 : Nat) (l0 : List ByteArray) (a1 : ByteArray) (r : ByteArray) (w : World) (hr0 : Kd.C Kd.string w A0 l0.length l0) (hc0 : l0.length ≤ c0) (h : strings_Join.f l0 a1 = some r) :
  Calls Tryd.prog 51 #[.slice A0 l0.length c0, .string a1] w fun e w' => e = .returned (.string r) ∧ Below w.heap.size w w' := by
 unfold strings_Join.f at h
 split at h
 ·rename_i hh
  obtain rfl := Option.some.inj h
  rcases Nat.eq_zero_or_pos l0.length with h0 | h0
  ·obtain rfl : l0 = [] := List.length_eq_zero_iff.1 h0
   exact (Tryd.strings_Join_none A0 c0 a1 w).mono fun e w' ⟨he, hw⟩ => ⟨he, hw ▸ Below.refl _ _⟩
  ·obtain ⟨bk, o, rfl, hb, hcells⟩ := row_at hr0 h0
   exact Tryd.strings_Join bk o c0 l0 a1 w hcells hb hh.1 hc0 hh.2
 ·cases h
end Go.Proofs.YtpnedbnpnekahaaDoor.P
end
section
namespace Go.Proofs.YtpnedbnpnekahaaDoor.P
open Go.RowKit Go.Proofs.YtpnedbnpnekahaaDoorW.PrintWords Go.Proofs.YtpnedbnpnekahaaDoorW.PrintLast Go.Proofs.YtpnedbnpnekahaaDoorW.PrintMore
attribute [local go_sem] max2_int min2_int max_two min_two max_three min_three max_four min_four
set_option linter.unusedVariables false
set_option linter.unusedSimpArgs false
def impl_writePath.f (a0_0 : ByteArray) (l0_1 : List ByteArray) (a0_2 : Bool) (a0_3 : ByteArray) : Option (ByteArray) := (strings_Join.f l0_1 (⟨#[47]⟩ : ByteArray)).bind fun t312 => (if 1 + t312.size ≤ 9223372036854775807 then (if a0_2 = true then (if 1 + a0_3.size ≤ 9223372036854775807 then (if 1 + t312.size + 1 + a0_3.size ≤ 9223372036854775807 then (some (((⟨#[47]⟩ : ByteArray) ++ t312) ++ ((⟨#[63]⟩ : ByteArray) ++ a0_3))) else (none)) else (none)) else (some ((⟨#[47]⟩ : ByteArray) ++ t312))) else (none))
set_option maxHeartbeats 8000000 in
set_option maxRecDepth 100000 in
theorem impl_writePath.calls (a0_0 : ByteArray) (A0_1 : Option Addr) (c0_1 : Nat) (l0_1 : List ByteArray) (a0_2 : Bool) (a0_3 : ByteArray) (r : ByteArray) (w : World) (hr0_1 : Kd.C Kd.string w A0_1 l0_1.length l0_1) (hc0_1 : l0_1.length ≤ c0_1) (h : impl_writePath.f a0_0 l0_1 a0_2 a0_3 = some r) :
  Calls Tryd.prog 45 #[.agg #[.string a0_0, .slice A0_1 l0_1.length c0_1, .bool a0_2, .string a0_3]] w fun e w' => e = .returned (.string r) ∧ Below w.heap.size w w' := by
 have hu47 := Tryd.underlying47;have HR0_1 := Aside0.mk hr0_1;have HC0_1 := Aside0.mk hc0_1;clear hr0_1 hc0_1;have HB := Aside0.mk (Below.refl w.heap.size w);have H : ((strings_Join.f l0_1 (⟨#[47]⟩ : ByteArray)).bind fun t312 => (if 1 + t312.size ≤ 9223372036854775807 then (if a0_2 = true then (if 1 + a0_3.size ≤ 9223372036854775807 then (if 1 + t312.size + 1 + a0_3.size ≤ 9223372036854775807 then (some (((⟨#[47]⟩ : ByteArray) ++ t312) ++ ((⟨#[63]⟩ : ByteArray) ++ a0_3))) else (none)) else (none)) else (some ((⟨#[47]⟩ : ByteArray) ++ t312))) else (none))) = some r := h;clear h;replace H := bindA H;obtain ⟨t312, A2, H⟩ := H;by_cases c3 : 1 + t312.size ≤ 9223372036854775807
 ·rw [if_pos c3] at H
  have c3b0 := eq_true c3;have c3b1 : decide (1 + t312.size ≤ 9223372036854775807) = true := decide_eq_true c3;try have c3b2 : (9223372036854775807 < 1 + t312.size) = False := eq_false (Nat.not_lt.2 c3)
  by_cases c4 : a0_2 = true
  ·subst c4
   rw [if_pos rfl] at H;by_cases c5 : 1 + a0_3.size ≤ 9223372036854775807
   ·rw [if_pos c5] at H
    have c5b0 := eq_true c5;have c5b1 : decide (1 + a0_3.size ≤ 9223372036854775807) = true := decide_eq_true c5;try have c5b2 : (9223372036854775807 < 1 + a0_3.size) = False := eq_false (Nat.not_lt.2 c5)
    by_cases c6 : 1 + t312.size + 1 + a0_3.size ≤ 9223372036854775807
    ·rw [if_pos c6] at H
     have c6b0 := eq_true c6;have c6b1 : decide (1 + t312.size + 1 + a0_3.size ≤ 9223372036854775807) = true := decide_eq_true c6;try have c6b2 : (9223372036854775807 < 1 + t312.size + 1 + a0_3.size) = False := eq_false (Nat.not_lt.2 c6)
     obtain rfl := Option.some.inj H;go_enter Tryd.func45, Tryd.ntmps45;go_wp2_with (first | ((with_reducible refine gate_dst (N := 1) rfl ?_); refine boxE 1 #[.string a0_0, .slice A0_1 l0_1.length c0_1, .bool true, .string a0_3] 47 ?_; intro gb311 hg w7 hbox hb; have n0_ := Aside0.mk (below_step (zz0 HB) hb); have n1_ := Aside0.mk (hbox); have n2_ := Aside0.mk ((by rw [hg]; exact (below_size (zz0 HB)) : w.heap.size ≤ gb311)); have n3_ := Aside0.mk ((by rw [hg]; exact (below_size (zz0 HB)) : w.heap.size ≤ gb311)); clear HB; have HB := n0_; have BK311 := n1_; have GW311 := n2_; have GE311 := n3_; clear n0_ n1_ n2_ n3_; clear hb hbox hg; obtain ⟨_, _, _, _, _, _, _, _⟩ := cf4 BK311) | ((with_reducible refine gate_callee (f := 51) rfl ?_); refine gsL (some 6) Tryd.func51 #[.slice A0_1 l0_1.length c0_1, .string (⟨#[47]⟩ : ByteArray)] ?_; (with_reducible refine (strings_Join.calls _ _ l0_1 (⟨#[47]⟩ : ByteArray) t312 _ ?side1 ?side2 A2.out).mono ?_); (case side1 => exact (zz32 HR0_1 HB)); (case side2 => exact HC0_1.out); rintro e w9 ⟨rfl, hb⟩; refine ⟨_, rfl, ?_⟩; have n0_ := Aside0.mk (blk_below (zz6 BK311) hb); have n1_ := Aside0.mk (below_step (zz2 HB GE311) hb); clear BK311; clear HB; have BK311 := n0_; have HB := n1_; clear n0_ n1_; (try clear hb); obtain ⟨_, _, _, _, _, _, _, _⟩ := cf4 BK311))
     go_ret
     exact ⟨zz1, (zz2 HB GE311)⟩
    ·rw [if_neg c6] at H
     exact absurd H (by simp)
   ·rw [if_neg c5] at H
    exact absurd H (by simp)
  ·replace c4 := Bool.eq_false_iff.mpr c4
   subst c4;rw [if_neg (show ¬ (false = true) by decide)] at H;obtain rfl := Option.some.inj H;go_enter Tryd.func45, Tryd.ntmps45;go_wp2_with (first | ((with_reducible refine gate_dst (N := 1) rfl ?_); refine boxE 1 #[.string a0_0, .slice A0_1 l0_1.length c0_1, .bool false, .string a0_3] 47 ?_; intro gb311 hg w11 hbox hb; have n0_ := Aside0.mk (below_step (zz0 HB) hb); have n1_ := Aside0.mk (hbox); have n2_ := Aside0.mk ((by rw [hg]; exact (below_size (zz0 HB)) : w.heap.size ≤ gb311)); have n3_ := Aside0.mk ((by rw [hg]; exact (below_size (zz0 HB)) : w.heap.size ≤ gb311)); clear HB; have HB := n0_; have BK311 := n1_; have GW311 := n2_; have GE311 := n3_; clear n0_ n1_ n2_ n3_; clear hb hbox hg; obtain ⟨_, _, _, _, _, _, _, _⟩ := cf4 BK311) | ((with_reducible refine gate_callee (f := 51) rfl ?_); refine gsL (some 6) Tryd.func51 #[.slice A0_1 l0_1.length c0_1, .string (⟨#[47]⟩ : ByteArray)] ?_; (with_reducible refine (strings_Join.calls _ _ l0_1 (⟨#[47]⟩ : ByteArray) t312 _ ?side1 ?side2 A2.out).mono ?_); (case side1 => exact (zz32 HR0_1 HB)); (case side2 => exact HC0_1.out); rintro e w13 ⟨rfl, hb⟩; refine ⟨_, rfl, ?_⟩; have n0_ := Aside0.mk (blk_below (zz6 BK311) hb); have n1_ := Aside0.mk (below_step (zz2 HB GE311) hb); clear BK311; clear HB; have BK311 := n0_; have HB := n1_; clear n0_ n1_; (try clear hb); obtain ⟨_, _, _, _, _, _, _, _⟩ := cf4 BK311))
   go_ret
   exact ⟨zz1, (zz2 HB GE311)⟩
 ·rw [if_neg c3] at H
  exact absurd H (by simp)
def impl_writeAddr.f (a0_0 : ByteArray) (l0_1 : List ByteArray) (a0_2 : Bool) (a0_3 : ByteArray) : Option (ByteArray) := if 2 + a0_0.size ≤ 9223372036854775807 then ((impl_writePath.f a0_0 l0_1 a0_2 a0_3).bind fun t314 => (if 2 + a0_0.size + t314.size ≤ 9223372036854775807 then (some (((⟨#[47, 47]⟩ : ByteArray) ++ a0_0) ++ t314)) else (none))) else (none)
set_option maxHeartbeats 8000000 in
set_option maxRecDepth 100000 in
theorem impl_writeAddr.calls (a0_0 : ByteArray) (A0_1 : Option Addr) (c0_1 : Nat) (l0_1 : List ByteArray) (a0_2 : Bool) (a0_3 : ByteArray) (r : ByteArray) (w : World) (hr0_1 : Kd.C Kd.string w A0_1 l0_1.length l0_1) (hc0_1 : l0_1.length ≤ c0_1) (h : impl_writeAddr.f a0_0 l0_1 a0_2 a0_3 = some r) :
  Calls Tryd.prog 39 #[.agg #[.string a0_0, .slice A0_1 l0_1.length c0_1, .bool a0_2, .string a0_3]] w fun e w' => e = .returned (.string r) ∧ Below w.heap.size w w' := by
 have hu47 := Tryd.underlying47;have HR0_1 := Aside0.mk hr0_1;have HC0_1 := Aside0.mk hc0_1;clear hr0_1 hc0_1;have HB := Aside0.mk (Below.refl w.heap.size w);have H : (if 2 + a0_0.size ≤ 9223372036854775807 then ((impl_writePath.f a0_0 l0_1 a0_2 a0_3).bind fun t314 => (if 2 + a0_0.size + t314.size ≤ 9223372036854775807 then (some (((⟨#[47, 47]⟩ : ByteArray) ++ a0_0) ++ t314)) else (none))) else (none)) = some r := h;clear h;by_cases c2 : 2 + a0_0.size ≤ 9223372036854775807
 ·rw [if_pos c2] at H
  have c2b0 := eq_true c2;have c2b1 : decide (2 + a0_0.size ≤ 9223372036854775807) = true := decide_eq_true c2;try have c2b2 : (9223372036854775807 < 2 + a0_0.size) = False := eq_false (Nat.not_lt.2 c2)
  replace H := bindA H;obtain ⟨t314, A3, H⟩ := H;by_cases c4 : 2 + a0_0.size + t314.size ≤ 9223372036854775807
  ·rw [if_pos c4] at H
   have c4b0 := eq_true c4;have c4b1 : decide (2 + a0_0.size + t314.size ≤ 9223372036854775807) = true := decide_eq_true c4;try have c4b2 : (9223372036854775807 < 2 + a0_0.size + t314.size) = False := eq_false (Nat.not_lt.2 c4)
   obtain rfl := Option.some.inj H;go_enter Tryd.func39, Tryd.ntmps39;try go_wp2_with (first | ((with_reducible refine gate_dst (N := 1) rfl ?_); refine boxE 1 #[.string a0_0, .slice A0_1 l0_1.length c0_1, .bool a0_2, .string a0_3] 47 ?_; intro gb313 hg w5 hbox hb; have n0_ := Aside0.mk (below_step (zz0 HB) hb); have n1_ := Aside0.mk (hbox); have n2_ := Aside0.mk ((by rw [hg]; exact (below_size (zz0 HB)) : w.heap.size ≤ gb313)); have n3_ := Aside0.mk ((by rw [hg]; exact (below_size (zz0 HB)) : w.heap.size ≤ gb313)); clear HB; have HB := n0_; have BK313 := n1_; have GW313 := n2_; have GE313 := n3_; clear n0_ n1_ n2_ n3_; clear hb hbox hg))
   have n0_ := Aside0.mk (blk_drew BK313.out);have n1_ := Aside0.mk (below_drew1 HB.out);clear BK313;clear HB;have BK313 := n0_;have HB := n1_;clear n0_ n1_;refine start_ (n := 7) (S := fun w' => w'.cell? ⟨gb313, 0, none⟩ = some (.string a0_0) ∧ w'.cell? ⟨gb313, 1, none⟩ = some (.slice A0_1 l0_1.length c0_1) ∧ w'.cell? ⟨gb313, 2, none⟩ = some (.bool a0_2) ∧ w'.cell? ⟨gb313, 3, none⟩ = some (.string a0_3)) (ds := []) #[false, false, false, false, false, false, false] (by kernel_rfl) rfl rfl ⟨(blk_cell BK313.out 0).trans rfl, (blk_cell BK313.out 1).trans rfl, (blk_cell BK313.out 2).trans rfl, (blk_cell BK313.out 3).trans rfl⟩ (fun hHeld => ?_);generalize w5.drew = w6 at BK313 HB hHeld ⊢;refine pure_ (i := 0) (N := some 3) (v := ?_) (a' := ?_) #[true, false, false, false, false, false, false] rfl rfl (by kernel_rfl) (fun _ _ _ h => h) (Or.inl ⟨by rfl, ?_⟩) ?_ ?_;rotate_left
   ·intro w'
    go_simp
    with_reducible rfl
   rotate_left
   ·simp only [Act.put, List.setIfInBounds_toArray, List.set_cons_zero, List.set_cons_succ, i64_w, i32_w]
    rfl
   refine take_ (i := 1) (N := some 4) (v := ?_) (a' := ?_) #[true, true, false, false, false, false, false] rfl rfl (by kernel_rfl) (fun _ _ _ h => h) (Or.inl ⟨by rfl, ?_⟩) hHeld ?_ ?_;rotate_left
   ·rintro w' ⟨s0, s1, s2, s3⟩
    go_simp
    with_reducible rfl
   rotate_left
   ·simp only [Act.put, List.setIfInBounds_toArray, List.set_cons_zero, List.set_cons_succ, i64_w, i32_w]
    rfl
   refine pure_ (i := 2) (N := some 5) (v := ?_) (a' := ?_) #[true, true, true, false, false, false, false] rfl rfl (by kernel_rfl) (fun _ _ _ h => h) (Or.inl ⟨by rfl, ?_⟩) ?_ ?_;rotate_left
   ·intro w'
    go_simp
    with_reducible rfl
   rotate_left
   ·simp only [Act.put, List.setIfInBounds_toArray, List.set_cons_zero, List.set_cons_succ, i64_w, i32_w]
    rfl
   refine take_ (i := 3) (N := some 6) (v := ?_) (a' := ?_) #[true, true, true, true, false, false, false] rfl rfl (by kernel_rfl) (fun _ _ _ h => h) (Or.inl ⟨by rfl, ?_⟩) hHeld ?_ ?_;rotate_left
   ·rintro w' ⟨s0, s1, s2, s3⟩
    go_simp
    with_reducible rfl
   rotate_left
   ·simp only [Act.put, List.setIfInBounds_toArray, List.set_cons_zero, List.set_cons_succ, i64_w, i32_w]
    rfl
   refine one_ (i := 4) (N := some 7) #[true, true, true, true, true, false, false] rfl rfl (by kernel_rfl) (by decide) (fun K hK => ?_);refine goes_ Tryd.func45 (by kernel_rfl) rfl #[.agg #[.string a0_0, .slice A0_1 l0_1.length c0_1, .bool a0_2, .string a0_3]] (by rfl) rfl rfl zz16 ?_;with_reducible refine (impl_writePath.calls a0_0 _ _ l0_1 a0_2 a0_3 t314 _ ?side1 ?side2 A3.out).mono ?_
   (case side1 => exact (zz32 HR0_1 HB))
   (case side2 => exact HC0_1.out)
   rintro e w7 ⟨rfl, hb⟩;refine ⟨_, rfl, ?_⟩;have n0_ := Aside0.mk (blk_below (zz6 BK313) hb);have n1_ := Aside0.mk (below_step (zz2 HB GE313) hb);clear BK313;clear HB;have BK313 := n0_;have HB := n1_;clear n0_ n1_;(try clear hb)
   (try clear hb2)
   (try clear hk)
   (try clear hi)
   refine hK.out _ _ ⟨(blk_cell BK313.out 0).trans rfl, (blk_cell BK313.out 1).trans rfl, (blk_cell BK313.out 2).trans rfl, (blk_cell BK313.out 3).trans rfl⟩ (fun hHeld => ?_);clear hK K;refine norm_ (a' := ?_) ?_ ?_;rotate_left
   ·show Act.put _ (some 7) _ = _
    simp only [Act.put, List.setIfInBounds_toArray, List.set_cons_zero, List.set_cons_succ, i64_w, i32_w]
    rfl
   refine pure_ (i := 5) (N := some 8) (v := ?_) (a' := ?_) #[true, true, true, true, true, true, false] rfl rfl (by kernel_rfl) (fun _ _ _ h => h) (Or.inl ⟨by rfl, ?_⟩) ?_ ?_;rotate_left
   ·intro w'
    go_simp
    with_reducible rfl
   rotate_left
   ·simp only [Act.put, List.setIfInBounds_toArray, List.set_cons_zero, List.set_cons_succ, i64_w, i32_w]
    rfl
   refine pure_ (i := 6) (N := some 2) (v := ?_) (a' := ?_) #[true, true, true, true, true, true, true] rfl rfl (by kernel_rfl) (fun _ _ _ h => h) (Or.inl ⟨by rfl, ?_⟩) ?_ ?_;rotate_left
   ·intro w'
    go_simp
    with_reducible rfl
   rotate_left
   ·simp only [Act.put, List.setIfInBounds_toArray, List.set_cons_zero, List.set_cons_succ, i64_w, i32_w]
    rfl
   refine done_ (by kernel_rfl) ?_;try go_wp2
   go_ret
   exact ⟨zz1, (zz2 HB GE313)⟩
  ·rw [if_neg c4] at H
   exact absurd H (by simp)
 ·rw [if_neg c2] at H
  exact absurd H (by simp)
end Go.Proofs.YtpnedbnpnekahaaDoor.P
end
section
namespace Go.Proofs.YtpnedbnpnekahaaDoor.P
open Go.RowKit Go.Proofs.YtpnedbnpnekahaaDoorW.PrintWords Go.Proofs.YtpnedbnpnekahaaDoorW.PrintLast Go.Proofs.YtpnedbnpnekahaaDoorW.PrintMore Go.Proofs.YtpnedbnpnekahaaDoor.B Go.Proofs.YtpnedbnpnekahaaDoor.Ad
set_option linter.unusedVariables false
set_option linter.unusedSimpArgs false
def stringslite_Index.f (a0 : ByteArray) (a1 : ByteArray) : Option (Int) := match L a1 with
 | [c] => some (Lib.indexByte (L a0) c)
 | _ => none
theorem one_of_L {a : ByteArray} {c : UInt8} (h : L a = [c]) : a = ⟨#[c]⟩ := L_inj (by rw [h])
theorem stringslite_Index.calls (a0 : ByteArray) (a1 : ByteArray) (r : Int) (w : World) (h : stringslite_Index.f a0 a1 = some r) :
  Calls Tryd.prog 52 #[.string a0, .string a1] w fun e w' => e = .returned (.int .i64 r) ∧ Below w.heap.size w w' := by
 unfold stringslite_Index.f at h
 split at h
 ·rename_i c hc
  obtain rfl := Option.some.inj h
  obtain rfl := one_of_L hc
  exact (Tryd.stringslite_Index_one a0 c w).mono fun e w' ⟨he, hw⟩ => ⟨he, hw ▸ Below.refl _ _⟩
 ·cases h
def strings_Count.f (a0 : ByteArray) (a1 : ByteArray) : Option (Int) := match L a1 with
 | [c] => some (Lib.countByte (L a0) c)
 | _ => none
theorem strings_Count.calls (a0 : ByteArray) (a1 : ByteArray) (r : Int) (w : World) (h : strings_Count.f a0 a1 = some r) :
  Calls Tryd.prog 84 #[.string a0, .string a1] w fun e w' => e = .returned (.int .i64 r) ∧ Below w.heap.size w w' := by
 unfold strings_Count.f at h
 split at h
 ·rename_i c hc
  obtain rfl := Option.some.inj h
  obtain rfl := one_of_L hc
  exact (Tryd.strings_Count_one a0 c w).mono fun e w' ⟨he, hw⟩ => ⟨he, hw ▸ Below.refl _ _⟩
 ·cases h
end Go.Proofs.YtpnedbnpnekahaaDoor.P
end
section
namespace Go.Proofs.YtpnedbnpnekahaaDoor.P
open Go.RowKit Go.Proofs.YtpnedbnpnekahaaDoorW.PrintWords Go.Proofs.YtpnedbnpnekahaaDoorW.PrintLast Go.Proofs.YtpnedbnpnekahaaDoorW.PrintMore
attribute [local go_sem] max2_int min2_int max_two min_two max_three min_three max_four min_four
set_option linter.unusedVariables false
set_option linter.unusedSimpArgs false
def stringslite_Cut.f (a0 : ByteArray) (a1 : ByteArray) : Option (ByteArray × ByteArray × Bool) := (stringslite_Index.f a0 a1).bind fun t250 => (if t250 ≥ 0 then (if 0 ≤ t250 then (if t250 ≤ (a0.size : Int) then (if 0 ≤ (wrap64 (t250 + (a1.size : Int))) then (if (wrap64 (t250 + (a1.size : Int))) ≤ (a0.size : Int) then (some (a0.extract 0 (t250 : Int).toNat, a0.extract ((wrap64 (t250 + (a1.size : Int))) : Int).toNat a0.size, true)) else (none)) else (none)) else (none)) else (none)) else (some (a0, (⟨#[]⟩ : ByteArray), false)))
set_option maxHeartbeats 8000000 in
set_option maxRecDepth 100000 in
theorem stringslite_Cut.calls (a0 : ByteArray) (a1 : ByteArray) (r1 : ByteArray) (r2 : ByteArray) (r3 : Bool) (w : World) (h : stringslite_Cut.f a0 a1 = some (r1, r2, r3)) :
  Calls Tryd.prog 46 #[.string a0, .string a1] w fun e w' => e = .returned (.tuple #[.string r1, .string r2, .bool r3]) ∧ Below w.heap.size w w' := by
 have HB := Aside0.mk (Below.refl w.heap.size w);have H : ((stringslite_Index.f a0 a1).bind fun t250 => (if t250 ≥ 0 then (if 0 ≤ t250 then (if t250 ≤ (a0.size : Int) then (if 0 ≤ (wrap64 (t250 + (a1.size : Int))) then (if (wrap64 (t250 + (a1.size : Int))) ≤ (a0.size : Int) then (some (a0.extract 0 (t250 : Int).toNat, a0.extract ((wrap64 (t250 + (a1.size : Int))) : Int).toNat a0.size, true)) else (none)) else (none)) else (none)) else (none)) else (some (a0, (⟨#[]⟩ : ByteArray), false)))) = some (r1, r2, r3) := h;clear h;replace H := bindA H;obtain ⟨t250, A3, H⟩ := H;by_cases c4 : t250 ≥ 0
 ·rw [if_pos c4] at H
  have c4b0 : decide (0 ≤ t250) = true := decide_eq_true c4;clear c4;by_cases c5 : 0 ≤ t250
  ·rw [if_pos c5] at H
   have c5b0 := eq_true c5;have c5b1 : decide (0 ≤ t250) = true := decide_eq_true c5;clear c5;by_cases c6 : t250 ≤ (a0.size : Int)
   ·rw [if_pos c6] at H
    have c6b0 := eq_true c6;have c6b1 : decide (t250 ≤ (a0.size : Int)) = true := decide_eq_true c6;clear c6;obtain ⟨ji7, hji7⟩ : ∃ j_ : Int, (wrap64 (t250 + (a1.size : Int))) = j_ := ⟨_, rfl⟩;replace H : (if 0 ≤ (ji7) then (if (ji7) ≤ (a0.size : Int) then (some (a0.extract 0 (t250 : Int).toNat, a0.extract ((ji7) : Int).toNat a0.size, true)) else (none)) else (none)) = some (r1, r2, r3) := by first | (rw [hji7] at H; exact H) | (simp only [hji7] at H ⊢; exact H)
    (try rw [hji7] at A3)
    have hji7w : (IntKind.i64.wrap (t250 + (a1.size : Int))) = ji7 := (i64_w _).trans hji7;by_cases c8 : 0 ≤ (ji7)
    ·rw [if_pos c8] at H
     have c8b0 := eq_true c8;have c8b1 : decide (0 ≤ (ji7)) = true := decide_eq_true c8;clear c8;by_cases c9 : (ji7) ≤ (a0.size : Int)
     ·rw [if_pos c9] at H
      have c9b0 := eq_true c9;have c9b1 : decide ((ji7) ≤ (a0.size : Int)) = true := decide_eq_true c9;clear c9;simp only [Option.some.injEq, Prod.mk.injEq] at H
      obtain ⟨rfl, rfl, rfl⟩ := H;go_enter Tryd.func46, Tryd.ntmps46;go_wp2_with (first | (go_at_call 52; (with_reducible refine (stringslite_Index.calls a0 a1 t250 _ A3.out).mono ?_); rintro e w10 ⟨rfl, hb⟩; have n0_ := Aside0.mk (below_step (zz0 HB) hb); clear HB; have HB := n0_; clear n0_; (try clear hb)))
      repeat (go_quiet (first | (go_at_call 52; (with_reducible refine (stringslite_Index.calls a0 a1 t250 _ A3.out).mono ?_); rintro e w10 ⟨rfl, hb⟩; have n0_ := Aside0.mk (below_step (zz0 HB) hb); clear HB; have HB := n0_; clear n0_; (try clear hb))); try go_wp2_with (first | (go_at_call 52; (with_reducible refine (stringslite_Index.calls a0 a1 t250 _ A3.out).mono ?_); rintro e w10 ⟨rfl, hb⟩; have n0_ := Aside0.mk (below_step (zz0 HB) hb); clear HB; have HB := n0_; clear n0_; (try clear hb))))
      go_ret3
      exact ⟨(by first | rfl | (simp [errW_none, errW_some] <;> rfl) | (simp only [← hji7]; first | rfl | (simp [errW_none, errW_some] <;> rfl)) | (simp [*, errW_none, errW_some] <;> rfl)), (zz0 HB)⟩
     ·rw [if_neg c9] at H
      exact absurd H (by simp)
    ·rw [if_neg c8] at H
     exact absurd H (by simp)
   ·rw [if_neg c6] at H
    exact absurd H (by simp)
  ·rw [if_neg c5] at H
   exact absurd H (by simp)
 ·rw [if_neg c4] at H
  have c4b0 : decide (0 ≤ t250) = false := decide_eq_false c4;clear c4;simp only [Option.some.injEq, Prod.mk.injEq] at H
  obtain ⟨rfl, rfl, rfl⟩ := H;go_enter Tryd.func46, Tryd.ntmps46;go_wp2_with (first | (go_at_call 52; (with_reducible refine (stringslite_Index.calls a0 a1 t250 _ A3.out).mono ?_); rintro e w11 ⟨rfl, hb⟩; have n0_ := Aside0.mk (below_step (zz0 HB) hb); clear HB; have HB := n0_; clear n0_; (try clear hb)))
  repeat (go_quiet (first | (go_at_call 52; (with_reducible refine (stringslite_Index.calls a0 a1 t250 _ A3.out).mono ?_); rintro e w11 ⟨rfl, hb⟩; have n0_ := Aside0.mk (below_step (zz0 HB) hb); clear HB; have HB := n0_; clear n0_; (try clear hb))); try go_wp2_with (first | (go_at_call 52; (with_reducible refine (stringslite_Index.calls a0 a1 t250 _ A3.out).mono ?_); rintro e w11 ⟨rfl, hb⟩; have n0_ := Aside0.mk (below_step (zz0 HB) hb); clear HB; have HB := n0_; clear n0_; (try clear hb))))
  go_ret3
  exact ⟨zz1, (zz0 HB)⟩
def strings_Cut.f (a0 : ByteArray) (a1 : ByteArray) : Option (ByteArray × ByteArray × Bool) := (stringslite_Cut.f a0 a1).bind fun bt251 => (some (bt251.1, bt251.2.1, bt251.2.2))
set_option maxHeartbeats 8000000 in
set_option maxRecDepth 100000 in
theorem strings_Cut.calls (a0 : ByteArray) (a1 : ByteArray) (r1 : ByteArray) (r2 : ByteArray) (r3 : Bool) (w : World) (h : strings_Cut.f a0 a1 = some (r1, r2, r3)) :
  Calls Tryd.prog 43 #[.string a0, .string a1] w fun e w' => e = .returned (.tuple #[.string r1, .string r2, .bool r3]) ∧ Below w.heap.size w w' := by
 have HB := Aside0.mk (Below.refl w.heap.size w);have H : ((stringslite_Cut.f a0 a1).bind fun bt251 => (some (bt251.1, bt251.2.1, bt251.2.2))) = some (r1, r2, r3) := h;clear h;replace H := bindA H;obtain ⟨⟨t251, t252, t253⟩, A3, H⟩ := H;try dsimp -simprocs only at H
 simp only [Option.some.injEq, Prod.mk.injEq] at H
 obtain ⟨rfl, rfl, rfl⟩ := H;go_enter Tryd.func43, Tryd.ntmps43;go_wp2_with (first | ((with_reducible refine gate_callee (f := 46) rfl ?_); refine gsL (some 9) Tryd.func46 #[.string a0, .string a1] ?_; (with_reducible refine (stringslite_Cut.calls a0 a1 t251 t252 t253 _ A3.out).mono ?_); rintro e w4 ⟨rfl, hb⟩; refine ⟨_, rfl, ?_⟩; have n0_ := Aside0.mk (below_step (zz0 HB) hb); clear HB; have HB := n0_; clear n0_; (try clear hb)))
 go_ret3
 exact ⟨zz1, (zz0 HB)⟩
def stringslite_HasPrefix.f (a0 : ByteArray) (a1 : ByteArray) : Option (Bool) := if (a0.size : Int) ≥ (a1.size : Int) then (if 0 ≤ (a1.size : Int) then (if (a1.size : Int) ≤ (a0.size : Int) then (some ((a0.extract 0 ((a1.size : Int) : Int).toNat).toList == a1.toList)) else (none)) else (none)) else (some false)
set_option maxHeartbeats 8000000 in
set_option maxRecDepth 100000 in
theorem stringslite_HasPrefix.calls (a0 : ByteArray) (a1 : ByteArray) (r : Bool) (w : World) (h : stringslite_HasPrefix.f a0 a1 = some r) :
  Calls Tryd.prog 70 #[.string a0, .string a1] w fun e w' => e = .returned (.bool r) ∧ Drawn0 w w' := by
 have H : (if (a0.size : Int) ≥ (a1.size : Int) then (if 0 ≤ (a1.size : Int) then (if (a1.size : Int) ≤ (a0.size : Int) then (some ((a0.extract 0 ((a1.size : Int) : Int).toNat).toList == a1.toList)) else (none)) else (none)) else (some false)) = some r := h;clear h;by_cases c3 : (a0.size : Int) ≥ (a1.size : Int)
 ·rw [if_pos c3] at H
  have c3b0 : decide ((a1.size : Int) ≤ (a0.size : Int)) = true := decide_eq_true c3;have c3b1 : decide (a1.size ≤ a0.size) = true := decide_eq_true (Int.ofNat_le.mp c3);clear c3;by_cases c4 : 0 ≤ (a1.size : Int)
  ·rw [if_pos c4] at H
   have c4b0 := eq_true c4;have c4b1 : decide (0 ≤ (a1.size : Int)) = true := decide_eq_true c4;clear c4;by_cases c5 : (a1.size : Int) ≤ (a0.size : Int)
   ·rw [if_pos c5] at H
    have c5b0 := eq_true c5;have c5b1 : decide ((a1.size : Int) ≤ (a0.size : Int)) = true := decide_eq_true c5;clear c5;obtain rfl := Option.some.inj H;go_enter Tryd.func70, Tryd.ntmps70;go_wp2
    go_ret
    exact ⟨zz3, zz17⟩
   ·rw [if_neg c5] at H
    exact absurd H (by simp)
  ·rw [if_neg c4] at H
   exact absurd H (by simp)
 ·rw [if_neg c3] at H
  have c3b0 : decide ((a1.size : Int) ≤ (a0.size : Int)) = false := decide_eq_false c3;have c3b1 : decide (a1.size ≤ a0.size) = false := decide_eq_false (fun h => c3 (Int.ofNat_le.mpr h));clear c3;obtain rfl := Option.some.inj H;go_enter Tryd.func70, Tryd.ntmps70;go_wp2
  go_ret
  exact ⟨zz3, zz17⟩
def stringslite_CutPrefix.f (a0 : ByteArray) (a1 : ByteArray) : Option (ByteArray × Bool) := (stringslite_HasPrefix.f a0 a1).bind fun t254 => (if t254 = true then (if 0 ≤ (a1.size : Int) then (if (a1.size : Int) ≤ (a0.size : Int) then (some (a0.extract ((a1.size : Int) : Int).toNat a0.size, true)) else (none)) else (none)) else (some (a0, false)))
set_option maxHeartbeats 8000000 in
set_option maxRecDepth 100000 in
theorem stringslite_CutPrefix.calls (a0 : ByteArray) (a1 : ByteArray) (r1 : ByteArray) (r2 : Bool) (w : World) (h : stringslite_CutPrefix.f a0 a1 = some (r1, r2)) :
  Calls Tryd.prog 53 #[.string a0, .string a1] w fun e w' => e = .returned (.tuple #[.string r1, .bool r2]) ∧ Drawn0 w w' := by
 have H : ((stringslite_HasPrefix.f a0 a1).bind fun t254 => (if t254 = true then (if 0 ≤ (a1.size : Int) then (if (a1.size : Int) ≤ (a0.size : Int) then (some (a0.extract ((a1.size : Int) : Int).toNat a0.size, true)) else (none)) else (none)) else (some (a0, false)))) = some (r1, r2) := h;clear h;replace H := bindA H;obtain ⟨t254, A3, H⟩ := H;by_cases c4 : t254 = true
 ·subst c4
  rw [if_pos rfl] at H;by_cases c5 : 0 ≤ (a1.size : Int)
  ·rw [if_pos c5] at H
   have c5b0 := eq_true c5;have c5b1 : decide (0 ≤ (a1.size : Int)) = true := decide_eq_true c5;clear c5;by_cases c6 : (a1.size : Int) ≤ (a0.size : Int)
   ·rw [if_pos c6] at H
    have c6b0 := eq_true c6;have c6b1 : decide ((a1.size : Int) ≤ (a0.size : Int)) = true := decide_eq_true c6;clear c6;simp only [Option.some.injEq, Prod.mk.injEq] at H
    obtain ⟨rfl, rfl⟩ := H;go_enter Tryd.func53, Tryd.ntmps53;go_wp2_with (first | ((with_reducible refine gate_callee (f := 70) rfl ?_); refine gsL (some 8) Tryd.func70 #[.string a0, .string a1] ?_; (with_reducible refine (stringslite_HasPrefix.calls a0 a1 true _ A3.out).mono ?_); rintro e w' ⟨rfl, ⟨nd, rfl⟩⟩; refine ⟨_, rfl, ?_⟩))
    go_ret2
    exact ⟨zz3, zz17⟩
   ·rw [if_neg c6] at H
    exact absurd H (by simp)
  ·rw [if_neg c5] at H
   exact absurd H (by simp)
 ·replace c4 := Bool.eq_false_iff.mpr c4
  subst c4;rw [if_neg (show ¬ (false = true) by decide)] at H;simp only [Option.some.injEq, Prod.mk.injEq] at H
  obtain ⟨rfl, rfl⟩ := H;go_enter Tryd.func53, Tryd.ntmps53;go_wp2_with (first | ((with_reducible refine gate_callee (f := 70) rfl ?_); refine gsL (some 8) Tryd.func70 #[.string a0, .string a1] ?_; (with_reducible refine (stringslite_HasPrefix.calls a0 a1 false _ A3.out).mono ?_); rintro e w' ⟨rfl, ⟨nd, rfl⟩⟩; refine ⟨_, rfl, ?_⟩))
  go_ret2
  exact ⟨zz3, zz17⟩
def strings_CutPrefix.f (a0 : ByteArray) (a1 : ByteArray) : Option (ByteArray × Bool) := (stringslite_CutPrefix.f a0 a1).bind fun bt255 => (some (bt255.1, bt255.2))
set_option maxHeartbeats 8000000 in
set_option maxRecDepth 100000 in
theorem strings_CutPrefix.calls (a0 : ByteArray) (a1 : ByteArray) (r1 : ByteArray) (r2 : Bool) (w : World) (h : strings_CutPrefix.f a0 a1 = some (r1, r2)) :
  Calls Tryd.prog 47 #[.string a0, .string a1] w fun e w' => e = .returned (.tuple #[.string r1, .bool r2]) ∧ Drawn0 w w' := by
 have H : ((stringslite_CutPrefix.f a0 a1).bind fun bt255 => (some (bt255.1, bt255.2))) = some (r1, r2) := h;clear h;replace H := bindA H;obtain ⟨⟨t255, t256⟩, A3, H⟩ := H;try dsimp -simprocs only at H
 simp only [Option.some.injEq, Prod.mk.injEq] at H
 obtain ⟨rfl, rfl⟩ := H;go_enter Tryd.func47, Tryd.ntmps47;go_wp2_with (first | ((with_reducible refine gate_callee (f := 53) rfl ?_); refine gsL (some 8) Tryd.func53 #[.string a0, .string a1] ?_; (with_reducible refine (stringslite_CutPrefix.calls a0 a1 t255 t256 _ A3.out).mono ?_); rintro e w' ⟨rfl, ⟨nd, rfl⟩⟩; refine ⟨_, rfl, ?_⟩))
 go_ret2
 exact ⟨zz3, zz17⟩
end Go.Proofs.YtpnedbnpnekahaaDoor.P
end
section
namespace Go.Proofs.YtpnedbnpnekahaaDoor.P
open Go.RowKit Go.Proofs.YtpnedbnpnekahaaDoorW.PrintWords Go.Proofs.YtpnedbnpnekahaaDoorW.PrintLast Go.Proofs.YtpnedbnpnekahaaDoorW.PrintMore
set_option linter.unusedVariables false
set_option linter.unusedSimpArgs false
def hexS : ByteArray := ⟨#[48, 49, 50, 51, 52, 53, 54, 55, 56, 57, 65, 66, 67, 68, 69, 70]⟩
def figAt (k : Nat) : Nat := if k < 10 then 48 + k else 55 + k
def figI (b : Int) : Int × Bool := if 48 ≤ b ∧ b ≤ 57 then (b - 48, true) else if 65 ≤ b ∧ b ≤ 70 then (b - 55, true) else (0, false)
def impl_figureValue.f (a0 : Int) : Option (Int × Bool) := if 0 ≤ a0 ∧ a0 < 256 then some (figI (if 97 ≤ a0 ∧ a0 ≤ 102 then a0 - 32 else a0)) else none
theorem hex_at : ∀ k : Nat, k < 16 → hexS.size = 16 ∧ ∃ h : k < hexS.size, (hexS[k]'h).toNat = figAt k := by decide +kernel
theorem fig_hit {k : Nat} {b : Int} (hk : k < 16) (h : (figAt k : Int) = b) : figI b = ((k : Int), true) := by
 unfold figAt at h; unfold figI
 split at h
 ·rw [if_pos (by omega)]; congr 1; omega
 ·rw [if_neg (by omega), if_pos (by omega)]; congr 1; omega
theorem fig_miss {b : Int} (h : ∀ j : Nat, j < 16 → (figAt j : Int) ≠ b) : figI b = (0, false) := by
 unfold figI
 split
 ·rename_i hh
  exact absurd (by unfold figAt; rw [if_pos (by omega)]; omega) (h (b - 48).toNat (by omega))
 ·split
  ·rename_i hh
   exact absurd (by unfold figAt; rw [if_neg (by omega)]; omega) (h (b - 55).toNat (by omega))
  ·rfl
set_option maxHeartbeats 1000000 in
set_option maxRecDepth 1000000 in
theorem impl_figureValue.calls (a0 : Int) (r0 : Int) (r1 : Bool) (w : World) (h : impl_figureValue.f a0 = some (r0, r1)) :
  Calls Tryd.prog 82 #[.int .u8 a0] w fun e w' => e = .returned (.tuple #[.int .i64 r0, .bool r1]) ∧ Below w.heap.size w w' := by
 unfold impl_figureValue.f at h
 split at h
 case isFalse => cases h
 rename_i hh
 have h := Option.some.inj h
 obtain ⟨b, hb⟩ : ∃ b, b = (if 97 ≤ a0 ∧ a0 ≤ 102 then a0 - 32 else a0) := ⟨_, rfl⟩
 rw [← hb] at h
 by_cases h1 : 97 ≤ a0
 ·by_cases h2 : a0 ≤ 102
  ·rw [if_pos ⟨h1, h2⟩] at hb
   go_enter Tryd.func82, Tryd.ntmps82
   go_wp2
   go_loopw [4] (fun n w' => ∃ k : Nat, k ≤ 16 ∧ w' = w.iter hexS k ∧ ∀ j : Nat, j < k → (figAt j : Int) ≠ (a0 - 32)) (fun _ w' => 16 - w'.iterPos w.heap.size)
   case atStart => exact ⟨0, by omega, rfl, fun j hj => absurd hj (by omega)⟩
   case round =>
    obtain ⟨k, hk, rfl, hne⟩ := hrel
    have hbel : ∀ p, Below w.heap.size w (w.iter hexS p) := fun p => (Below.refl _ _).alloc (Nat.le_refl _) _
    by_cases hlt : k < 16
    ·obtain ⟨hsz, hx, hf⟩ := hex_at k hlt
     have hnx : ∀ ty, (Instr.next (.pointer (some ⟨w.heap.size, 0, none⟩)) true ty).run Tryd.prog (w.iter hexS k) = .ok (.tuple #[.bool true, .int .i64 k, .int .i32 (figAt k : Nat)]) (w.iter hexS (k + 1)) := fun ty => by
      have hfl : figAt k < 128 := by unfold figAt; split <;> omega
      rw [← hf]
      exact run_next_ascii w hexS k ty hx (by rw [hf]; exact hfl)
     by_cases he : (figAt k : Int) = (a0 - 32)
     ·have hr := fig_hit hlt he
      rw [← hb, h, Prod.mk.injEq] at hr
      obtain ⟨rfl, rfl⟩ := hr
      go_wp2
      go_ret2
      exact ⟨rfl, hbel _⟩
     ·go_wp2
      refine ⟨⟨k + 1, by omega, rfl, fun j hj => ?_⟩, by simp; omega⟩
      by_cases e : j = k
      ·subst e; exact he
      ·exact hne j (by omega)
    ·obtain rfl : k = 16 := by omega
     have hr := fig_miss hne
     rw [← hb, h, Prod.mk.injEq] at hr
     obtain ⟨rfl, rfl⟩ := hr
     have hnx : ∀ ty, (Instr.next (.pointer (some ⟨w.heap.size, 0, none⟩)) true ty).run Tryd.prog (w.iter hexS 16) = _ := fun ty => run_next_end w hexS 16 ty (by decide)
     go_wp2
     go_ret2
     exact ⟨rfl, hbel _⟩
  ·rw [if_neg (fun e => h2 e.2)] at hb
   go_enter Tryd.func82, Tryd.ntmps82
   go_wp2
   go_loopw [4] (fun n w' => ∃ k : Nat, k ≤ 16 ∧ w' = w.iter hexS k ∧ ∀ j : Nat, j < k → (figAt j : Int) ≠ a0) (fun _ w' => 16 - w'.iterPos w.heap.size)
   case atStart => exact ⟨0, by omega, rfl, fun j hj => absurd hj (by omega)⟩
   case round =>
    obtain ⟨k, hk, rfl, hne⟩ := hrel
    have hbel : ∀ p, Below w.heap.size w (w.iter hexS p) := fun p => (Below.refl _ _).alloc (Nat.le_refl _) _
    by_cases hlt : k < 16
    ·obtain ⟨hsz, hx, hf⟩ := hex_at k hlt
     have hnx : ∀ ty, (Instr.next (.pointer (some ⟨w.heap.size, 0, none⟩)) true ty).run Tryd.prog (w.iter hexS k) = .ok (.tuple #[.bool true, .int .i64 k, .int .i32 (figAt k : Nat)]) (w.iter hexS (k + 1)) := fun ty => by
      have hfl : figAt k < 128 := by unfold figAt; split <;> omega
      rw [← hf]
      exact run_next_ascii w hexS k ty hx (by rw [hf]; exact hfl)
     by_cases he : (figAt k : Int) = a0
     ·have hr := fig_hit hlt he
      rw [← hb, h, Prod.mk.injEq] at hr
      obtain ⟨rfl, rfl⟩ := hr
      go_wp2
      go_ret2
      exact ⟨rfl, hbel _⟩
     ·go_wp2
      refine ⟨⟨k + 1, by omega, rfl, fun j hj => ?_⟩, by simp; omega⟩
      by_cases e : j = k
      ·subst e; exact he
      ·exact hne j (by omega)
    ·obtain rfl : k = 16 := by omega
     have hr := fig_miss hne
     rw [← hb, h, Prod.mk.injEq] at hr
     obtain ⟨rfl, rfl⟩ := hr
     have hnx : ∀ ty, (Instr.next (.pointer (some ⟨w.heap.size, 0, none⟩)) true ty).run Tryd.prog (w.iter hexS 16) = _ := fun ty => run_next_end w hexS 16 ty (by decide)
     go_wp2
     go_ret2
     exact ⟨rfl, hbel _⟩
 ·rw [if_neg (fun e => h1 e.1)] at hb
  go_enter Tryd.func82, Tryd.ntmps82
  go_wp2
  go_loopw [4] (fun n w' => ∃ k : Nat, k ≤ 16 ∧ w' = w.iter hexS k ∧ ∀ j : Nat, j < k → (figAt j : Int) ≠ a0) (fun _ w' => 16 - w'.iterPos w.heap.size)
  case atStart => exact ⟨0, by omega, rfl, fun j hj => absurd hj (by omega)⟩
  case round =>
   obtain ⟨k, hk, rfl, hne⟩ := hrel
   have hbel : ∀ p, Below w.heap.size w (w.iter hexS p) := fun p => (Below.refl _ _).alloc (Nat.le_refl _) _
   by_cases hlt : k < 16
   ·obtain ⟨hsz, hx, hf⟩ := hex_at k hlt
    have hnx : ∀ ty, (Instr.next (.pointer (some ⟨w.heap.size, 0, none⟩)) true ty).run Tryd.prog (w.iter hexS k) = .ok (.tuple #[.bool true, .int .i64 k, .int .i32 (figAt k : Nat)]) (w.iter hexS (k + 1)) := fun ty => by
     have hfl : figAt k < 128 := by unfold figAt; split <;> omega
     rw [← hf]
     exact run_next_ascii w hexS k ty hx (by rw [hf]; exact hfl)
    by_cases he : (figAt k : Int) = a0
    ·have hr := fig_hit hlt he
     rw [← hb, h, Prod.mk.injEq] at hr
     obtain ⟨rfl, rfl⟩ := hr
     go_wp2
     go_ret2
     exact ⟨rfl, hbel _⟩
    ·go_wp2
     refine ⟨⟨k + 1, by omega, rfl, fun j hj => ?_⟩, by simp; omega⟩
     by_cases e : j = k
     ·subst e; exact he
     ·exact hne j (by omega)
   ·obtain rfl : k = 16 := by omega
    have hr := fig_miss hne
    rw [← hb, h, Prod.mk.injEq] at hr
    obtain ⟨rfl, rfl⟩ := hr
    have hnx : ∀ ty, (Instr.next (.pointer (some ⟨w.heap.size, 0, none⟩)) true ty).run Tryd.prog (w.iter hexS 16) = _ := fun ty => run_next_end w hexS 16 ty (by decide)
    go_wp2
    go_ret2
    exact ⟨rfl, hbel _⟩
end Go.Proofs.YtpnedbnpnekahaaDoor.P
end
