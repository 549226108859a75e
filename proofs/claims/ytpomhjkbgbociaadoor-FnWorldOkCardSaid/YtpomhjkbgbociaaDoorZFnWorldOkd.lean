/- Part 4 of the proof of FnWorldOk: the plain functions of what it reaches, that Go comes to just their answers, what they answer, and the words that the walks use; conditions: each theorem's own. -/
import Derived.Test.YtpomhjkbgbociaaDoorZFnWorldOkb
import Derived.Test.YtpomhjkbgbociaaDoorZFnWorldOkc
import Derived.Shelf.Strings.Builder1
import Derived.Shelf.Strings.Builder2
import Derived.Shelf.Strings.OnBuilder
import Derived.Shelf.Small.Utf8
import Derived.Shelf.Small.Strs
import Derived.Shelf.Small.Wraps
import Derived.Shelf.Strings.BuilderF
import Derived.Shelf.Strings.BuilderK
import Derived.Shelf.Utf8.RuneCount
import Derived.Shelf.Strings.Builder2Cap
import Derived.Shelf.Strings.Search1
import Derived.Shelf.Strings.Search2
import Derived.Shelf.Strings.Search3
import Derived.Shelf.Strings.Cut
import Derived.Shelf.Strings.Count
import Derived.Shelf.LaysM
import Derived.Shelf.Strings.Shaped
import Derived.Shelf.Strings.Prefix
import Derived.Shelf.Strings.Split
import Derived.Shelf.Strings.SplitShaped
import Derived.Shelf.Unicode.Decode
import Derived.Shelf.Strings.Runes
import Derived.Shelf.Strings.RuneCount
import Derived.Shelf.Strings.IndexAny
import Derived.Shelf.Strings.AsciiSet
import Derived.Shelf.Strings.IndexAnyAll
import Derived.Shelf.Strings.Explode
import Derived.Shelf.Unicode.DecodeSlow
import Derived.Shelf.Unicode.DecodeAny
import Derived.Shelf.Strings.BuilderCap
import Derived.Ground.Names2Prog
import Derived.Shelf.Slices.Clone
import Derived.Ground.SlgnProg
import Derived.Shelf.SlicesE.Clone
import Derived.Test.YtpomhjkbgbociaaDoorProg
import Derived.Test.YtpomhjkbgbociaaDoorZFnWorldOka
import Derived.Laws.BitsLemmas
import Derived.Lib.Strings
import Derived.Laws.RangeAny
import Derived.LoopTactic
import Derived.OneCell
import Derived.Lib.ConvBytes
import Derived.Laws.Runes
import Derived.Laws.RangeString
import Derived.Laws.Strings3
import Derived.Lib.IndexAny
import Derived.Lib.IndexBytes
import Derived.Deep.LoopGhost

section
namespace Go.Proofs.YtpomhjkbgbociaaDoor.P
open Go.RowKit Go.Proofs.YtpomhjkbgbociaaDoorW.PrintWords Go.Proofs.YtpomhjkbgbociaaDoorW.PrintLast Go.Proofs.YtpomhjkbgbociaaDoorW.PrintMore
attribute [local go_sem] max2_int min2_int max_two min_two max_three min_three max_four min_four
set_option linter.unusedVariables false
set_option linter.unusedSimpArgs false
set_option maxHeartbeats 8000000
set_option maxRecDepth 100000
def spec_l71Off.l0 : Nat → List (S32) → Int → List Int → Int → Option ((List (S32)) × Int)
 | 0, _, _, _, _ => none
 | k + 1, x3, x4, x1000, x1001 => if x4 < 12 then ((spec_l6Dec.f k x4).bind fun t416 => (if 6 + t416.size ≤ 9223372036854775807 then (if x3.length < 2513169434916 then (spec_l71Off.l0 k (x3 ++ [(⟨(⟨#[47, 47, 97, 98, 47, 122]⟩ : ByteArray) ++ t416, (⟨#[]⟩ : ByteArray), (⟨#[]⟩ : ByteArray), 0⟩ : S32)]) (wrap64 (x4 + 1)) x1000 x1001) else (none)) else (none))) else (some (x3, x1001))
def spec_l71Off.f (k : Nat) (s0_0 : List Int) (s0_1 : Int) : Option ((List (S32)) × Int) := (spec_l71World.f k s0_0 s0_1).bind fun bt396 => ((spec_l6Rd_pick.f k s0_0 bt396.2 16).bind fun bt400 => (if bt400.1 > 0 then (some (bt396.1, bt400.2)) else ((spec_l6Rd_pick.f k s0_0 bt400.2 5).bind fun bt402 => (if bt402.1 = 0 then (if 0 < (bt396.1.length : Int) then (if bt396.1.length < 2513169434916 then (some ((bt396.1 ++ [(⟨(rd_T32 bt396.1 0).f0, (rd_T32 bt396.1 0).f1, (rd_T32 bt396.1 0).f2, (rd_T32 bt396.1 0).f3⟩ : S32)]), bt402.2)) else (none)) else (none)) else (if bt402.1 = 1 then (if 0 < (bt396.1.length : Int) then (some ((bt396.1.set (0 : Int).toNat (⟨(rd_T32 bt396.1 0).f0, (rd_T32 bt396.1 0).f1, (rd_T32 bt396.1 0).f2, 10⟩ : S32)), bt402.2)) else (none)) else (if bt402.1 = 2 then ((spec_l6Rd_of.f k s0_0 bt402.2 (([(⟨#[47, 47, 65, 66, 47, 97]⟩ : ByteArray), (⟨#[]⟩ : ByteArray), (⟨#[47, 47, 97, 98]⟩ : ByteArray)] : List ByteArray))).bind fun bt412 => (if 0 < (bt396.1.length : Int) then (some ((bt396.1.set (0 : Int).toNat (⟨bt412.1, (rd_T32 bt396.1 0).f1, (rd_T32 bt396.1 0).f2, (rd_T32 bt396.1 0).f3⟩ : S32)), bt412.2)) else (none))) else (if bt402.1 = 3 then (if 0 < (bt396.1.length : Int) then (some ((bt396.1.set (0 : Int).toNat (⟨(rd_T32 bt396.1 0).f0, (rd_T32 bt396.1 0).f1, (⟨#[120]⟩ : ByteArray), (rd_T32 bt396.1 0).f3⟩ : S32)), bt402.2)) else (none)) else (spec_l71Off.l0 k bt396.1 0 s0_0 bt402.2))))))))
theorem spec_l71Off.calls (k : Nat) (g : Nat) (s0_0 : List Int) (s0_1 : Int) (r1 : List (S32)) (r2 : Int) (w0 w : World) (hI : IsS50 w0 w g s0_0 s0_1) (hB : Below w0.heap.size w0 w) (h : spec_l71Off.f k s0_0 s0_1 = some (r1, r2)) :
  Calls Tryd.prog 10 #[.pointer (some ⟨g, 0, none⟩)] w fun e w' => ∃ v0_ : Value, e = .returned (v0_) ∧ Kd.R k32 32 w' w.heap.size (fun _ => True) v0_ r1 ∧ IsS50 w0 w' g s0_0 r2 ∧ Below w0.heap.size w0 w' ∧ KeepBut w w' g none := by
 have hu32 := Tryd.underlying32;have HI0 := A_ hI;have HK := A_ (KeepBut.refl w g none);have HL := A_ hB.size;clear hI;have HW0 := A_ hB.size;have HB := A_ hB;clear hB;unfold spec_l71Off.f at h
 have H := h;clear h;replace H := bindA H;obtain ⟨⟨t396, t399⟩, A2, H⟩ := H;try dsimp only at H
 replace H := bindA H;obtain ⟨⟨t400, t401⟩, A3, H⟩ := H;try dsimp only at H
 have HF4 := A_ H;clear H;go_enter Tryd.func10, Tryd.ntmps10;go_upto_if 9 with (first | ((with_reducible refine gC (f := 20) rfl ?_); refine gsL (some 6) Tryd.func20 #[.pointer (some ⟨g, 0, none⟩)] ?_; (with_reducible refine mV (spec_l71World.calls k g s0_0 s0_1 t396 t399 w0 _ ?side1 ?side2 A2.out) ?_); (case side1 => exact (zz7 HI0)); (case side2 => exact (zz9 HB HI0)); rintro v397 w5 ⟨ho0, hi, hb, hk⟩; have HO398 := A_ (Kd.R_lower ho0 (keep_size (w := w) (g := g) (row := none) (zz8 HK))); replace HK := A_ (KeepBut.trans (zz8 HK) hk (.inl rfl)); replace HB := A_ (hb); replace HI0 := A_ (hi); (try clear hb hk hi ho0)) | ((with_reducible refine gC (f := 11) rfl ?_); refine gsL (some 8) Tryd.func11 #[.pointer (some ⟨g, 0, none⟩), .int .i64 16] ?_; (with_reducible refine mR (spec_l6Rd_pick.calls k g s0_0 t399 16 t400 t401 w0 _ ?side1 ?side2 A3.out) ?_); (case side1 => exact (zz7 HI0)); (case side2 => exact (zz9 HB HI0)); rintro w6 ⟨hi, hb, hk⟩; replace HO398 := A_ (Kd.R_mono (Kd.R_keep (IsS50.apart (show IsS50 w0 _ g s0_0 t399 from (zz7 HI0)) (zz18 HO398) (by decide)) hk (fun _ h => h.2)) (fun _ h => h.1)); replace HK := A_ (KeepBut.trans (zz8 HK) hk (.inl rfl)); replace HB := A_ (hb); replace HI0 := A_ (hi); (try clear hb hk hi)))
 obtain ⟨H⟩ := HF4;replace H := iteEg H;rcases H with ⟨c7b0, H⟩ | ⟨c7b0, H⟩
 ·(first | rw [c7b0] | (simp only [i64_w, i32_w]; rw [c7b0]) | skip)
  simp only [Option.some.injEq, Prod.mk.injEq] at H
  obtain ⟨rfl, rfl⟩ := H;go_wp2
  go_ret
  exact ⟨_, zz11, (zz18 HO398), (zz7 HI0), (zz9 HB HI0), (zz8 HK)⟩
 ·(first | rw [c7b0] | (simp only [i64_w, i32_w]; rw [c7b0]) | skip)
  replace H := bindA H;obtain ⟨⟨t402, t403⟩, A8, H⟩ := H;try dsimp only at H
  have HF9 := A_ H;clear H;go_upto_if 24 with (first | ((with_reducible refine gC (f := 11) rfl ?_); refine gsL (some 12) Tryd.func11 #[.pointer (some ⟨g, 0, none⟩), .int .i64 5] ?_; (with_reducible refine mR (spec_l6Rd_pick.calls k g s0_0 t401 5 t402 t403 w0 _ ?side1 ?side2 A8.out) ?_); (case side1 => exact (zz7 HI0)); (case side2 => exact (zz9 HB HI0)); rintro w10 ⟨hi, hb, hk⟩; replace HO398 := A_ (Kd.R_mono (Kd.R_keep (IsS50.apart (show IsS50 w0 _ g s0_0 t401 from (zz7 HI0)) (zz18 HO398) (by decide)) hk (fun _ h => h.2)) (fun _ h => h.1)); replace HK := A_ (KeepBut.trans (zz8 HK) hk (.inl rfl)); replace HB := A_ (hb); replace HI0 := A_ (hi); (try clear hb hk hi)))
  obtain ⟨H⟩ := HF9;replace H := iteEq H;rcases H with ⟨c11b0, c11b1, H⟩ | ⟨c11b0, c11b1, c11, H⟩
  ·(first | rw [c11b0] | (simp only [i64_w, i32_w]; rw [c11b0]) | skip)
   replace H := iteN H;obtain ⟨c12, H⟩ := H;have c12b0 := dT c12;have c12b1 : decide (0 < t396.length) = true := dT (by omega);clear c12;replace H := iteN H;obtain ⟨c13, H⟩ := H;have LMc13 := A_ c13;clear c13;obtain ⟨y405, Ny405⟩ := toY (t396 ++ [(⟨(rd_T32 t396 0).f0, (rd_T32 t396 0).f1, (rd_T32 t396 0).f2, (rd_T32 t396 0).f3⟩ : S32)]);(first | with_reducible replace H := bindZ Ny405 H | rw [← Ny405.out] at H | skip)
   simp only [Option.some.injEq, Prod.mk.injEq] at H
   obtain ⟨rfl, rfl⟩ := H;obtain ⟨Ao14, co14, eo14⟩ := Kd.R_slice HO398.out;subst eo14;have p404 : 0 ≤ (0 : Int) := (by omega);have q404 : 0 < (t396.length : Int) := ofD;obtain ⟨ad404, e404, hx404_0, hx404_1, hx404_2, hx404_3⟩ := at_T32 (Kd.R_reads' HO398.out).2.2 0 p404 q404;cases e404
   have qi404 : (0 < t396.length) = True := eq_true (by omega);(try rw [show ((0 : Int)).toNat = 0 from rfl] at hx404_0)
   (try rw [show 0 * 4 = 0 from rfl] at hx404_0)
   (try rw [Addr.add_zero'] at hx404_0)
   (try rw [show ((0 : Int)).toNat = 0 from rfl] at hx404_1)
   (try rw [show 0 * 4 = 0 from rfl] at hx404_1)
   (try rw [Addr.add_zero'] at hx404_1)
   (try rw [show ((0 : Int)).toNat = 0 from rfl] at hx404_2)
   (try rw [show 0 * 4 = 0 from rfl] at hx404_2)
   (try rw [Addr.add_zero'] at hx404_2)
   (try rw [show ((0 : Int)).toNat = 0 from rfl] at hx404_3)
   (try rw [show 0 * 4 = 0 from rfl] at hx404_3)
   (try rw [Addr.add_zero'] at hx404_3)
   replace p404 := eq_true p404;replace q404 := eq_true q404;go_wp2_with (first | ((with_reducible refine gate_builtin (b := .append) (xs := #[.tmp 26, .tmp 30]) rfl ?_); at_builtin; refine Kd.R_append k32 w.heap.size rfl (.tmp 26) (.tmp 30) 23 32 (.agg #[(.string ⟨#[]⟩), (.string ⟨#[]⟩), (.string ⟨#[]⟩), (.int .i64 0)]) 56 rfl Tryd.underlying23 info32 rfl (by decide) (by omega) (.slice (some ad404) t396.length co14) t396 (⟨(rd_T32 t396 0).f0, (rd_T32 t396 0).f1, (rd_T32 t396 0).f2, (rd_T32 t396 0).f3⟩ : S32) [.string ((rd_T32 t396 0).f0), .string ((rd_T32 t396 0).f1), .string ((rd_T32 t396 0).f2), .int .i64 ((rd_T32 t396 0).f3)] (fun _ => True) (fun _ => False) rfl rfl ?aP (fun _ hk => hk.elim) ?aF ?aO (Below.refl _ _) ?aS ?aL ?_; (case aP => exact k32_mkM _ _ _ (⟨(rd_T32 t396 0).f0, (rd_T32 t396 0).f1, (rd_T32 t396 0).f2, (rd_T32 t396 0).f3⟩ : S32)); (case aF => exact (fun _ _ => trivial)); (case aO => exact (zz18 HO398)); (case aS => exact (keep_size (w := w) (g := g) (row := none) (zz8 HK))); (case aL => exact (zz21 LMc13)); intro v406 w15 ho hb hg hat; rw [← Ny405.out] at ho; replace HB := A_ (below_weaken (zz9 HB HI0) HL.out hb); replace HI0 := A_ (IsS50.grown (zz7 HI0) hg (IsS50.own_ne HI0.out HO398.out (by decide))); replace HK := A_ (KeepBut.trans (zz8 HK) (KeepBut.of_grown hg g) (Kd.R_base2 HO398.out)); have HO407 := A_ (ho); clear HO398; clear ho hb hg hat))
   go_ret
   exact ⟨_, zz11, (zz18 HO407), (zz7 HI0), (zz9 HB HI0), (zz8 HK)⟩
  ·(first | rw [c11b0] | (simp only [i64_w, i32_w]; rw [c11b0]) | skip)
   replace H := iteEq H;rcases H with ⟨c16b0, c16b1, H⟩ | ⟨c16b0, c16b1, c16, H⟩
   ·replace H := iteN H
    obtain ⟨c17, H⟩ := H;have c17b0 := dT c17;have c17b1 : decide (0 < t396.length) = true := dT (by omega);clear c17;obtain ⟨y408, Ny408⟩ := toY (t396.set (0 : Int).toNat (⟨(rd_T32 t396 0).f0, (rd_T32 t396 0).f1, (rd_T32 t396 0).f2, 10⟩ : S32));(first | with_reducible replace H := bindZ Ny408 H | rw [← Ny408.out] at H | skip)
    simp only [Option.some.injEq, Prod.mk.injEq] at H
    obtain ⟨rfl, rfl⟩ := H;have p18 : 0 ≤ (0 : Int) := (by omega);have q18 : (0 : Int) < ((t396.length : Int) : Int) := ofD;have qi18 : (0 < t396.length) = True := eq_true (by omega);obtain ⟨go18, co18, eo18, gb18, gl18, cl18, HG18⟩ := Kd.R_form HO398.out (by omega);(first | cases eo18 | (injection eo18 with ea_ en_ ec_; (first | subst ea_ | (injection ea_ with ea_; subst ea_)); subst ec_; clear en_))
    have GB18 := A_ gb18;have GG18 := A_ HG18;clear gb18 gl18 HG18;obtain ⟨ce18, hcl18, hM18, hcc18, hfr18⟩ := Kd.R_elem HO398.out z32 (0 : Int) p18 q18;obtain rfl := k32_openM hM18;have hx18_0 : w10.cell? ⟨go18, (0 : Int).toNat * 4, none⟩ = some (.string ((rd_T32 t396 0).f0)) := hcc18 0 _ rfl;have hx18_1 : w10.cell? ⟨go18, (0 : Int).toNat * 4 + 1, none⟩ = some (.string ((rd_T32 t396 0).f1)) := hcc18 1 _ rfl;have hx18_2 : w10.cell? ⟨go18, (0 : Int).toNat * 4 + 2, none⟩ = some (.string ((rd_T32 t396 0).f2)) := hcc18 2 _ rfl;have hx18_3 : w10.cell? ⟨go18, (0 : Int).toNat * 4 + 3, none⟩ = some (.int .i64 ((rd_T32 t396 0).f3)) := hcc18 3 _ rfl;have hf18_0 : w10.frozen? ⟨go18, (0 : Int).toNat * 4, none⟩ = false := hfr18 0;have hf18_1 : w10.frozen? ⟨go18, (0 : Int).toNat * 4 + 1, none⟩ = false := hfr18 1;have hf18_2 : w10.frozen? ⟨go18, (0 : Int).toNat * 4 + 2, none⟩ = false := hfr18 2;have hf18_3 : w10.frozen? ⟨go18, (0 : Int).toNat * 4 + 3, none⟩ = false := hfr18 3;clear hcl18 hcc18 hfr18 hM18;(try rw [show ((0 : Int)).toNat = 0 from rfl] at hx18_0)
    (try simp only [Nat.reduceMul, Nat.zero_mul, Nat.zero_add, Nat.reduceAdd] at hx18_0)
    (try rw [show ((0 : Int)).toNat = 0 from rfl] at hf18_0)
    (try simp only [Nat.reduceMul, Nat.zero_mul, Nat.zero_add, Nat.reduceAdd] at hf18_0)
    (try rw [show ((0 : Int)).toNat = 0 from rfl] at hx18_1)
    (try simp only [Nat.reduceMul, Nat.zero_mul, Nat.zero_add, Nat.reduceAdd] at hx18_1)
    (try rw [show ((0 : Int)).toNat = 0 from rfl] at hf18_1)
    (try simp only [Nat.reduceMul, Nat.zero_mul, Nat.zero_add, Nat.reduceAdd] at hf18_1)
    (try rw [show ((0 : Int)).toNat = 0 from rfl] at hx18_2)
    (try simp only [Nat.reduceMul, Nat.zero_mul, Nat.zero_add, Nat.reduceAdd] at hx18_2)
    (try rw [show ((0 : Int)).toNat = 0 from rfl] at hf18_2)
    (try simp only [Nat.reduceMul, Nat.zero_mul, Nat.zero_add, Nat.reduceAdd] at hf18_2)
    (try rw [show ((0 : Int)).toNat = 0 from rfl] at hx18_3)
    (try simp only [Nat.reduceMul, Nat.zero_mul, Nat.zero_add, Nat.reduceAdd] at hx18_3)
    (try rw [show ((0 : Int)).toNat = 0 from rfl] at hf18_3)
    (try simp only [Nat.reduceMul, Nat.zero_mul, Nat.zero_add, Nat.reduceAdd] at hf18_3)
    replace p18 := eq_true p18;replace q18 := eq_true q18;have HX19 := A_ (show Kd.R k32 32 w10 w.heap.size (fun _ => True) (.slice (some ⟨go18, 0, none⟩) t396.length co18) t396 from (zz18 HO398));obtain ⟨ce19, hcl19, hM19, hcc19, hfr19⟩ := Kd.R_elem HX19.out z32 (0 : Int) (by omega) (by have h_ : (0 : Int) < ((t396.length : Int) : Int) := ofD; first | exact h_ | (have e_ := (Kd.R_reads' HO398.out).1; omega) | simpa using h_);obtain rfl := k32_openM hM19;have HP19 := Kd.R_seg HX19.out (0 : Int) (by omega) (by have h_ : (0 : Int) < ((t396.length : Int) : Int) := ofD; first | exact h_ | (have e_ := (Kd.R_reads' HO398.out).1; omega) | simpa using h_) (seg := [.int .i64 10]) (j := 3) hcl19 hcc19 (show 4 ≤ 4 from by decide) (x' := (⟨(rd_T32 t396 0).f0, (rd_T32 t396 0).f1, (rd_T32 t396 0).f2, 10⟩ : S32)) (k32_mkM _ _ _ (⟨(rd_T32 t396 0).f0, (rd_T32 t396 0).f1, (rd_T32 t396 0).f2, 10⟩ : S32) ) (fun _ hk => hk);have hx19_3 := hcc19 3 _ rfl;(try simp only [show (k32).sz = 4 from rfl, Nat.mul_one, Nat.add_zero] at hx19_3)
    (try rw [show ((0 : Int)).toNat = 0 from rfl] at hx19_3)
    (try simp only [Nat.reduceMul, Nat.zero_mul, Nat.zero_add, Nat.reduceAdd] at hx19_3)
    have hf19_3 := hfr19 3;(try simp only [show (k32).sz = 4 from rfl, Nat.mul_one, Nat.add_zero] at hf19_3)
    (try rw [show ((0 : Int)).toNat = 0 from rfl] at hf19_3)
    (try simp only [Nat.reduceMul, Nat.zero_mul, Nat.zero_add, Nat.reduceAdd] at hf19_3)
    clear hcl19 hcc19 hfr19 hM19;go_wp2_with (first | ((with_reducible refine gate_store (t := 3) (p := 36) rfl ?_); refine store_event (t := 3) (p := 36) (v := ?vo_w20) (w1 := (w10.setCell ⟨go18, 3, none⟩ (.int .i64 10))) ?hg ?ho ?hn ?hr ?_; (case ho => rfl); (case hg => rfl); (case hn => rfl); (case hr => exact zz16); intro w20 hw; have hg : w10.grownBy w20 (some go18) := (by rw [hw]; exact HP19.2); have hp_ : Kd.R k32 32 w20 w.heap.size (fun _ => True) (.slice (some ⟨go18, 0, none⟩) t396.length co18) y408 := (by rw [hw, Ny408.out]; exact HP19.1); clear HP19; replace HI0 := A_ (IsS50.grown (zz7 HI0) hg (IsS50.own_ne HI0.out HO398.out (by decide))); replace HB := A_ ((by rw [hw]; exact below_set (HB.out) (Nat.le_trans HL.out GB18.out) : Below w0.heap.size w0 w20)); replace HK := A_ (KeepBut.trans (zz8 HK) (KeepBut.of_grown hg g) (Kd.R_base2 HO398.out)); replace HO398 := A_ (hp_); clear hg hw hp_))
    go_ret
    exact ⟨_, zz11, (zz18 HO398), (zz7 HI0), (zz9 HB HI0), (zz8 HK)⟩
   ·replace H := iteEq H
    rcases H with ⟨c21b0, c21b1, H⟩ | ⟨c21b0, c21b1, c21, H⟩
    ·obtain ⟨y409, hy409⟩ : ∃ y_ : List ByteArray, y_ = (([(⟨#[47, 47, 65, 66, 47, 97]⟩ : ByteArray), (⟨#[]⟩ : ByteArray), (⟨#[47, 47, 97, 98]⟩ : ByteArray)] : List ByteArray)) := ⟨_, rfl⟩
     replace H : ((spec_l6Rd_of.f k s0_0 t403 y409).bind fun bt412 => (if 0 < (t396.length : Int) then (some ((t396.set (0 : Int).toNat (⟨bt412.1, (rd_T32 t396 0).f1, (rd_T32 t396 0).f2, (rd_T32 t396 0).f3⟩ : S32)), bt412.2)) else (none))) = some (r1, r2) := by first | (rw [hy409]; with_reducible exact H) | (have H2_ := (Option.bind_some _ _).symm.trans H; rw [hy409]; with_reducible exact H2_) | (have H2_ := (Option.bind_some _ _).symm.trans H; with_reducible exact H2_) | with_reducible exact H | (rw [hy409]; exact H) | exact H
     have Ny409 := A_ hy409;clear hy409;replace H := bindA H;obtain ⟨⟨t412, t413⟩, A22, H⟩ := H;try dsimp only at H
     replace H := iteN H;obtain ⟨c23, H⟩ := H;have c23b0 := dT c23;have c23b1 : decide (0 < t396.length) = true := dT (by omega);clear c23;obtain ⟨y414, Ny414⟩ := toY (t396.set (0 : Int).toNat (⟨t412, (rd_T32 t396 0).f1, (rd_T32 t396 0).f2, (rd_T32 t396 0).f3⟩ : S32));(first | with_reducible replace H := bindZ Ny414 H | rw [← Ny414.out] at H | skip)
     simp only [Option.some.injEq, Prod.mk.injEq] at H
     obtain ⟨rfl, rfl⟩ := H;go_wp2_with (first | ((with_reducible refine gD (N := 41) rfl ?_); refine Kd.R_lit Kd.string _ 9 ?hg (N := 41) ?hd (xs := ([(⟨#[47, 47, 65, 66, 47, 97]⟩ : ByteArray), (⟨#[]⟩ : ByteArray), (⟨#[47, 47, 97, 98]⟩ : ByteArray)] : List ByteArray)) (inner := [.string (⟨#[47, 47, 65, 66, 47, 97]⟩ : ByteArray), .string (⟨#[]⟩ : ByteArray), .string (⟨#[47, 47, 97, 98]⟩ : ByteArray)]) (ok := fun _ => True) (okp := fun _ => True) ?hr ?hp (fun _ hk => hk) trivial (Below.refl _ _) (Nat.le_refl _) (by simp) ?_; (case hd => rfl); (case hg => rfl); (case hr => exact zz16); (case hp => exact (Reps.one (show Kd.M Kd.string _ _ _ (⟨#[47, 47, 65, 66, 47, 97]⟩ : ByteArray) [.string (⟨#[47, 47, 65, 66, 47, 97]⟩ : ByteArray)] from rfl) (Reps.one (show Kd.M Kd.string _ _ _ (⟨#[]⟩ : ByteArray) [.string (⟨#[]⟩ : ByteArray)] from rfl) (Reps.one (show Kd.M Kd.string _ _ _ (⟨#[47, 47, 97, 98]⟩ : ByteArray) [.string (⟨#[47, 47, 97, 98]⟩ : ByteArray)] from rfl) (Reps.none _ _))))); intro v410 w25 ho26 hb hg_ hnew_; clear hg_ hnew_; (first | rw [← Ny409.out] at ho26 | (simp only [Int.reduceToNat] at ho26; rw [← Ny409.out] at ho26)); replace HO398 := A_ (rB (zz18 HO398) hb); have HO411 := A_ (Kd.R_lower ho26 (keep_size (w := w) (g := g) (row := none) (zz8 HK))); replace HK := A_ (KeepBut.trans (zz8 HK) (KeepBut.of_below hb g none) (.inl rfl)); replace HB := A_ (bS (zz9 HB HI0) hb); replace HI0 := A_ (IsS50.below (zz7 HI0) hb); clear hb ho26; obtain ⟨Ao27, co27, eo27⟩ := Kd.R_slice HO411.out; subst eo27) | ((with_reducible refine gC (f := 12) rfl ?_); refine gsL (some 42) Tryd.func12 #[.pointer (some ⟨g, 0, none⟩), .slice Ao27 y409.length co27] ?_; (with_reducible refine mR (spec_l6Rd_of.calls k g s0_0 t403 _ _ y409 t412 t413 w0 _ ?side1 ?side2 ?side3 ?side4 ?side5 A22.out) ?_); (case side1 => exact (zz7 HI0)); (case side2 => exact (zz9 HB HI0)); (case side3 => exact (zz37 HO411)); (case side4 => exact (Kd.R_reads' HO411.out).2.1); (case side5 => exact far_slice (IsS50.own_ne HI0.out HO411.out (by decide))); rintro w28 ⟨hi, hb, hk⟩; replace HO398 := A_ (Kd.R_mono (Kd.R_keep (IsS50.apart (show IsS50 w0 _ g s0_0 t403 from (zz7 HI0)) (zz18 HO398) (by decide)) hk (fun _ h => h.2)) (fun _ h => h.1)); replace HO411 := A_ (Kd.R_mono (Kd.R_keep (IsS50.apart (show IsS50 w0 _ g s0_0 t403 from (zz7 HI0)) (zz18 HO411) (by decide)) hk (fun _ h => h.2)) (fun _ h => h.1)); replace HK := A_ (KeepBut.trans (zz8 HK) hk (.inl rfl)); replace HB := A_ (hb); replace HI0 := A_ (hi); (try clear hb hk hi); have p24 : 0 ≤ (0 : Int) := (by omega); have q24 : (0 : Int) < ((t396.length : Int) : Int) := ofD; have qi24 : (0 < t396.length) = True := eq_true (by omega); obtain ⟨go24, co24, eo24, gb24, gl24, cl24, HG24⟩ := Kd.R_form HO398.out (by omega); (first | cases eo24 | (injection eo24 with ea_ en_ ec_; (first | subst ea_ | (injection ea_ with ea_; subst ea_)); subst ec_; clear en_)); have GB24 := A_ gb24; have GG24 := A_ HG24; clear gb24 gl24 HG24; obtain ⟨ce24, hcl24, hM24, hcc24, hfr24⟩ := Kd.R_elem HO398.out z32 (0 : Int) p24 q24; obtain rfl := k32_openM hM24; have hx24_0 : w28.cell? ⟨go24, (0 : Int).toNat * 4, none⟩ = some (.string ((rd_T32 t396 0).f0)) := hcc24 0 _ rfl; have hx24_1 : w28.cell? ⟨go24, (0 : Int).toNat * 4 + 1, none⟩ = some (.string ((rd_T32 t396 0).f1)) := hcc24 1 _ rfl; have hx24_2 : w28.cell? ⟨go24, (0 : Int).toNat * 4 + 2, none⟩ = some (.string ((rd_T32 t396 0).f2)) := hcc24 2 _ rfl; have hx24_3 : w28.cell? ⟨go24, (0 : Int).toNat * 4 + 3, none⟩ = some (.int .i64 ((rd_T32 t396 0).f3)) := hcc24 3 _ rfl; have hf24_0 : w28.frozen? ⟨go24, (0 : Int).toNat * 4, none⟩ = false := hfr24 0; have hf24_1 : w28.frozen? ⟨go24, (0 : Int).toNat * 4 + 1, none⟩ = false := hfr24 1; have hf24_2 : w28.frozen? ⟨go24, (0 : Int).toNat * 4 + 2, none⟩ = false := hfr24 2; have hf24_3 : w28.frozen? ⟨go24, (0 : Int).toNat * 4 + 3, none⟩ = false := hfr24 3; clear hcl24 hcc24 hfr24 hM24; (try rw [show ((0 : Int)).toNat = 0 from rfl] at hx24_0); (try simp only [Nat.reduceMul, Nat.zero_mul, Nat.zero_add, Nat.reduceAdd] at hx24_0); (try rw [show ((0 : Int)).toNat = 0 from rfl] at hf24_0); (try simp only [Nat.reduceMul, Nat.zero_mul, Nat.zero_add, Nat.reduceAdd] at hf24_0); (try rw [show ((0 : Int)).toNat = 0 from rfl] at hx24_1); (try simp only [Nat.reduceMul, Nat.zero_mul, Nat.zero_add, Nat.reduceAdd] at hx24_1); (try rw [show ((0 : Int)).toNat = 0 from rfl] at hf24_1); (try simp only [Nat.reduceMul, Nat.zero_mul, Nat.zero_add, Nat.reduceAdd] at hf24_1); (try rw [show ((0 : Int)).toNat = 0 from rfl] at hx24_2); (try simp only [Nat.reduceMul, Nat.zero_mul, Nat.zero_add, Nat.reduceAdd] at hx24_2); (try rw [show ((0 : Int)).toNat = 0 from rfl] at hf24_2); (try simp only [Nat.reduceMul, Nat.zero_mul, Nat.zero_add, Nat.reduceAdd] at hf24_2); (try rw [show ((0 : Int)).toNat = 0 from rfl] at hx24_3); (try simp only [Nat.reduceMul, Nat.zero_mul, Nat.zero_add, Nat.reduceAdd] at hx24_3); (try rw [show ((0 : Int)).toNat = 0 from rfl] at hf24_3); (try simp only [Nat.reduceMul, Nat.zero_mul, Nat.zero_add, Nat.reduceAdd] at hf24_3); replace p24 := eq_true p24; replace q24 := eq_true q24; have HX29 := A_ (show Kd.R k32 32 w28 w.heap.size (fun _ => True) (.slice (some ⟨go24, 0, none⟩) t396.length co24) t396 from (zz18 HO398)); obtain ⟨ce29, hcl29, hM29, hcc29, hfr29⟩ := Kd.R_elem HX29.out z32 (0 : Int) (by omega) (by have h_ : (0 : Int) < ((t396.length : Int) : Int) := ofD; first | exact h_ | (have e_ := (Kd.R_reads' HO398.out).1; omega) | simpa using h_); obtain rfl := k32_openM hM29; have HP29 := Kd.R_seg HX29.out (0 : Int) (by omega) (by have h_ : (0 : Int) < ((t396.length : Int) : Int) := ofD; first | exact h_ | (have e_ := (Kd.R_reads' HO398.out).1; omega) | simpa using h_) (seg := [.string t412]) (j := 0) hcl29 hcc29 (show 1 ≤ 4 from by decide) (x' := (⟨t412, (rd_T32 t396 0).f1, (rd_T32 t396 0).f2, (rd_T32 t396 0).f3⟩ : S32)) (k32_mkM _ _ _ (⟨t412, (rd_T32 t396 0).f1, (rd_T32 t396 0).f2, (rd_T32 t396 0).f3⟩ : S32) ) (fun _ hk => hk); have hx29_0 := hcc29 0 _ rfl; (try simp only [show (k32).sz = 4 from rfl, Nat.mul_one, Nat.add_zero] at hx29_0); (try rw [show ((0 : Int)).toNat = 0 from rfl] at hx29_0); (try simp only [Nat.reduceMul, Nat.zero_mul, Nat.zero_add, Nat.reduceAdd] at hx29_0); have hf29_0 := hfr29 0; (try simp only [show (k32).sz = 4 from rfl, Nat.mul_one, Nat.add_zero] at hf29_0); (try rw [show ((0 : Int)).toNat = 0 from rfl] at hf29_0); (try simp only [Nat.reduceMul, Nat.zero_mul, Nat.zero_add, Nat.reduceAdd] at hf29_0); clear hcl29 hcc29 hfr29 hM29) | ((with_reducible refine gate_store (t := 9) (p := 44) rfl ?_); refine store_event (t := 9) (p := 44) (v := ?vo_w30) (w1 := (w28.setCell ⟨go24, 0, none⟩ (.string t412))) ?hg ?ho ?hn ?hr ?_; (case ho => rfl); (case hg => rfl); (case hn => rfl); (case hr => exact zz16); intro w30 hw; have hg : w28.grownBy w30 (some go24) := (by rw [hw]; exact HP29.2); have hp_ : Kd.R k32 32 w30 w.heap.size (fun _ => True) (.slice (some ⟨go24, 0, none⟩) t396.length co24) y414 := (by rw [hw, Ny414.out]; exact HP29.1); clear HP29; replace HI0 := A_ (IsS50.grown (zz7 HI0) hg (IsS50.own_ne HI0.out HO398.out (by decide))); replace HO411 := A_ (Kd.R_over' (v := (.slice (some ⟨go24, 0, none⟩) t396.length co24)) (zz18 HO411) (Kd.R_typed HO398.out) (by decide) hg); replace HB := A_ ((by rw [hw]; exact below_set (HB.out) (Nat.le_trans HL.out GB24.out) : Below w0.heap.size w0 w30)); replace HK := A_ (KeepBut.trans (zz8 HK) (KeepBut.of_grown hg g) (Kd.R_base2 HO398.out)); replace HO398 := A_ (hp_); clear hg hw hp_))
     go_ret
     exact ⟨_, zz11, (zz18 HO398), (zz7 HI0), (zz9 HB HI0), (zz8 HK)⟩
    ·replace H := iteEq H
     rcases H with ⟨c31b0, c31b1, H⟩ | ⟨c31b0, c31b1, c31, H⟩
     ·replace H := iteN H
      obtain ⟨c32, H⟩ := H;have c32b0 := dT c32;have c32b1 : decide (0 < t396.length) = true := dT (by omega);clear c32;obtain ⟨y415, Ny415⟩ := toY (t396.set (0 : Int).toNat (⟨(rd_T32 t396 0).f0, (rd_T32 t396 0).f1, (⟨#[120]⟩ : ByteArray), (rd_T32 t396 0).f3⟩ : S32));(first | with_reducible replace H := bindZ Ny415 H | rw [← Ny415.out] at H | skip)
      simp only [Option.some.injEq, Prod.mk.injEq] at H
      obtain ⟨rfl, rfl⟩ := H;have p33 : 0 ≤ (0 : Int) := (by omega);have q33 : (0 : Int) < ((t396.length : Int) : Int) := ofD;have qi33 : (0 < t396.length) = True := eq_true (by omega);obtain ⟨go33, co33, eo33, gb33, gl33, cl33, HG33⟩ := Kd.R_form HO398.out (by omega);(first | cases eo33 | (injection eo33 with ea_ en_ ec_; (first | subst ea_ | (injection ea_ with ea_; subst ea_)); subst ec_; clear en_))
      have GB33 := A_ gb33;have GG33 := A_ HG33;clear gb33 gl33 HG33;obtain ⟨ce33, hcl33, hM33, hcc33, hfr33⟩ := Kd.R_elem HO398.out z32 (0 : Int) p33 q33;obtain rfl := k32_openM hM33;have hx33_0 : w10.cell? ⟨go33, (0 : Int).toNat * 4, none⟩ = some (.string ((rd_T32 t396 0).f0)) := hcc33 0 _ rfl;have hx33_1 : w10.cell? ⟨go33, (0 : Int).toNat * 4 + 1, none⟩ = some (.string ((rd_T32 t396 0).f1)) := hcc33 1 _ rfl;have hx33_2 : w10.cell? ⟨go33, (0 : Int).toNat * 4 + 2, none⟩ = some (.string ((rd_T32 t396 0).f2)) := hcc33 2 _ rfl;have hx33_3 : w10.cell? ⟨go33, (0 : Int).toNat * 4 + 3, none⟩ = some (.int .i64 ((rd_T32 t396 0).f3)) := hcc33 3 _ rfl;have hf33_0 : w10.frozen? ⟨go33, (0 : Int).toNat * 4, none⟩ = false := hfr33 0;have hf33_1 : w10.frozen? ⟨go33, (0 : Int).toNat * 4 + 1, none⟩ = false := hfr33 1;have hf33_2 : w10.frozen? ⟨go33, (0 : Int).toNat * 4 + 2, none⟩ = false := hfr33 2;have hf33_3 : w10.frozen? ⟨go33, (0 : Int).toNat * 4 + 3, none⟩ = false := hfr33 3;clear hcl33 hcc33 hfr33 hM33;(try rw [show ((0 : Int)).toNat = 0 from rfl] at hx33_0)
      (try simp only [Nat.reduceMul, Nat.zero_mul, Nat.zero_add, Nat.reduceAdd] at hx33_0)
      (try rw [show ((0 : Int)).toNat = 0 from rfl] at hf33_0)
      (try simp only [Nat.reduceMul, Nat.zero_mul, Nat.zero_add, Nat.reduceAdd] at hf33_0)
      (try rw [show ((0 : Int)).toNat = 0 from rfl] at hx33_1)
      (try simp only [Nat.reduceMul, Nat.zero_mul, Nat.zero_add, Nat.reduceAdd] at hx33_1)
      (try rw [show ((0 : Int)).toNat = 0 from rfl] at hf33_1)
      (try simp only [Nat.reduceMul, Nat.zero_mul, Nat.zero_add, Nat.reduceAdd] at hf33_1)
      (try rw [show ((0 : Int)).toNat = 0 from rfl] at hx33_2)
      (try simp only [Nat.reduceMul, Nat.zero_mul, Nat.zero_add, Nat.reduceAdd] at hx33_2)
      (try rw [show ((0 : Int)).toNat = 0 from rfl] at hf33_2)
      (try simp only [Nat.reduceMul, Nat.zero_mul, Nat.zero_add, Nat.reduceAdd] at hf33_2)
      (try rw [show ((0 : Int)).toNat = 0 from rfl] at hx33_3)
      (try simp only [Nat.reduceMul, Nat.zero_mul, Nat.zero_add, Nat.reduceAdd] at hx33_3)
      (try rw [show ((0 : Int)).toNat = 0 from rfl] at hf33_3)
      (try simp only [Nat.reduceMul, Nat.zero_mul, Nat.zero_add, Nat.reduceAdd] at hf33_3)
      replace p33 := eq_true p33;replace q33 := eq_true q33;have HX34 := A_ (show Kd.R k32 32 w10 w.heap.size (fun _ => True) (.slice (some ⟨go33, 0, none⟩) t396.length co33) t396 from (zz18 HO398));obtain ⟨ce34, hcl34, hM34, hcc34, hfr34⟩ := Kd.R_elem HX34.out z32 (0 : Int) (by omega) (by have h_ : (0 : Int) < ((t396.length : Int) : Int) := ofD; first | exact h_ | (have e_ := (Kd.R_reads' HO398.out).1; omega) | simpa using h_);obtain rfl := k32_openM hM34;have HP34 := Kd.R_seg HX34.out (0 : Int) (by omega) (by have h_ : (0 : Int) < ((t396.length : Int) : Int) := ofD; first | exact h_ | (have e_ := (Kd.R_reads' HO398.out).1; omega) | simpa using h_) (seg := [.string (⟨#[120]⟩ : ByteArray)]) (j := 2) hcl34 hcc34 (show 3 ≤ 4 from by decide) (x' := (⟨(rd_T32 t396 0).f0, (rd_T32 t396 0).f1, (⟨#[120]⟩ : ByteArray), (rd_T32 t396 0).f3⟩ : S32)) (k32_mkM _ _ _ (⟨(rd_T32 t396 0).f0, (rd_T32 t396 0).f1, (⟨#[120]⟩ : ByteArray), (rd_T32 t396 0).f3⟩ : S32) ) (fun _ hk => hk);have hx34_2 := hcc34 2 _ rfl;(try simp only [show (k32).sz = 4 from rfl, Nat.mul_one, Nat.add_zero] at hx34_2)
      (try rw [show ((0 : Int)).toNat = 0 from rfl] at hx34_2)
      (try simp only [Nat.reduceMul, Nat.zero_mul, Nat.zero_add, Nat.reduceAdd] at hx34_2)
      have hf34_2 := hfr34 2;(try simp only [show (k32).sz = 4 from rfl, Nat.mul_one, Nat.add_zero] at hf34_2)
      (try rw [show ((0 : Int)).toNat = 0 from rfl] at hf34_2)
      (try simp only [Nat.reduceMul, Nat.zero_mul, Nat.zero_add, Nat.reduceAdd] at hf34_2)
      clear hcl34 hcc34 hfr34 hM34;go_wp2_with (first | ((with_reducible refine gate_store (t := 9) (p := 49) rfl ?_); refine store_event (t := 9) (p := 49) (v := ?vo_w35) (w1 := (w10.setCell ⟨go33, 2, none⟩ (.string (⟨#[120]⟩ : ByteArray)))) ?hg ?ho ?hn ?hr ?_; (case ho => rfl); (case hg => rfl); (case hn => rfl); (case hr => exact zz16); intro w35 hw; have hg : w10.grownBy w35 (some go33) := (by rw [hw]; exact HP34.2); have hp_ : Kd.R k32 32 w35 w.heap.size (fun _ => True) (.slice (some ⟨go33, 0, none⟩) t396.length co33) y415 := (by rw [hw, Ny415.out]; exact HP34.1); clear HP34; replace HI0 := A_ (IsS50.grown (zz7 HI0) hg (IsS50.own_ne HI0.out HO398.out (by decide))); replace HB := A_ ((by rw [hw]; exact below_set (HB.out) (Nat.le_trans HL.out GB33.out) : Below w0.heap.size w0 w35)); replace HK := A_ (KeepBut.trans (zz8 HK) (KeepBut.of_grown hg g) (Kd.R_base2 HO398.out)); replace HO398 := A_ (hp_); clear hg hw hp_))
      go_ret
      exact ⟨_, zz11, (zz18 HO398), (zz7 HI0), (zz9 HB HI0), (zz8 HK)⟩
     ·have H' := A_ H
      clear H;go_wp2
      go_loopg [3, 4] k (fun kq v3 v4 w' => ∃ (x3_1 : List (S32)) (x4_1 : Int), v4 = .int .i64 x4_1 ∧ Aside0 (spec_l71Off.l0 kq x3_1 x4_1 s0_0 t403 = some (r1, r2)) ∧ Aside0 (kq ≤ k) ∧ Aside0 (Kd.R k32 32 w' w.heap.size (fun _ => True) v3 x3_1) ∧ Aside0 (IsS50 w0 w' g s0_0 t403) ∧ Aside0 (KeepBut w w' g none) ∧ Aside0 (Below w0.heap.size w0 w'))
      case atStart => exact ⟨(t396), (0), zz5, H', ⟨Nat.le_refl _⟩, ⟨(zz18 HO398)⟩, ⟨(zz7 HI0)⟩, ⟨(zz8 HK)⟩, ⟨(zz9 HB HI0)⟩⟩
      case round =>
       clear H';obtain ⟨x3_1, x4_1, rfl, HA, HK1, HO_3, HI0, HK, HB⟩ := hrel;cases gk with
       | zero => exact absurd HA.out (by simp [spec_l71Off.l0])
       | succ k1 =>
        obtain ⟨H⟩ := HA;simp only [spec_l71Off.l0] at H
        replace H := iteEd H;rcases H with ⟨c36b0, H⟩ | ⟨c36b0, H⟩
        ·replace H := Option.bind_eq_some_iff.mp H
         obtain ⟨t416, A370, H⟩ := H;replace H : (if 6 + t416.size ≤ 9223372036854775807 then (if x3_1.length < 2513169434916 then (spec_l71Off.l0 k1 (x3_1 ++ [(⟨(⟨#[47, 47, 97, 98, 47, 122]⟩ : ByteArray) ++ t416, (⟨#[]⟩ : ByteArray), (⟨#[]⟩ : ByteArray), 0⟩ : S32)]) (wrap64 (x4_1 + 1)) s0_0 t403) else (none)) else (none)) = some (r1, r2) := H;have A37 := A_ A370;clear A370;replace H := iteN H;obtain ⟨c38, H⟩ := H;have c38b0 := eq_true c38;have c38b1 := dT c38;try have c38b2 : (9223372036854775807 < 6 + t416.size) = False := eq_false (Nat.not_lt.2 c38)
         replace H := iteN H;obtain ⟨c39, H⟩ := H;have LMc39 := A_ c39;clear c39;obtain ⟨y417, Ny417⟩ := toY (x3_1 ++ [(⟨(⟨#[47, 47, 97, 98, 47, 122]⟩ : ByteArray) ++ t416, (⟨#[]⟩ : ByteArray), (⟨#[]⟩ : ByteArray), 0⟩ : S32)]);(first | with_reducible replace H := bindZ Ny417 H | rw [← Ny417.out] at H | skip)
         have H' := A_ H;clear H;go_wp2_with (first | ((with_reducible refine gC (f := 21) rfl ?_); refine gsL (some 19) Tryd.func21 #[.int .i64 x4_1] ?_; (with_reducible refine mR (spec_l6Dec.calls k1 x4_1 t416 _ A37.out) ?_); rintro w40 hb; replace HO_3 := A_ (rB (zz18 HO_3) hb); replace HK := A_ (KeepBut.trans (zz8 HK) (KeepBut.of_below hb g none) (.inl rfl)); replace HB := A_ (bS (zz9 HB HI0) hb); replace HI0 := A_ (IsS50.below (zz7 HI0) hb); (try clear hb)) | ((with_reducible refine gate_builtin (b := .append) (xs := #[.tmp 17, .tmp 22]) rfl ?_); at_builtin; refine Kd.R_append k32 w.heap.size rfl (.tmp 17) (.tmp 22) 23 32 (.agg #[(.string ⟨#[]⟩), (.string ⟨#[]⟩), (.string ⟨#[]⟩), (.int .i64 0)]) 56 rfl Tryd.underlying23 info32 rfl (by decide) (by omega) u3 x3_1 (⟨(⟨#[47, 47, 97, 98, 47, 122]⟩ : ByteArray) ++ t416, (⟨#[]⟩ : ByteArray), (⟨#[]⟩ : ByteArray), 0⟩ : S32) [.string ((⟨#[47, 47, 97, 98, 47, 122]⟩ : ByteArray) ++ t416), .string (⟨#[]⟩ : ByteArray), .string (⟨#[]⟩ : ByteArray), .int .i64 0] (fun _ => True) (fun _ => False) rfl rfl ?aP (fun _ hk => hk.elim) ?aF ?aO (Below.refl _ _) ?aS ?aL ?_; (case aP => exact k32_mkM _ _ _ (⟨(⟨#[47, 47, 97, 98, 47, 122]⟩ : ByteArray) ++ t416, (⟨#[]⟩ : ByteArray), (⟨#[]⟩ : ByteArray), 0⟩ : S32)); (case aF => exact (fun _ _ => trivial)); (case aO => exact (zz18 HO_3)); (case aS => exact (keep_size (w := w) (g := g) (row := none) (zz8 HK))); (case aL => exact (zz21 LMc39)); intro v418 w41 ho hb hg hat; rw [← Ny417.out] at ho; replace HB := A_ (below_weaken (zz9 HB HI0) HL.out hb); replace HI0 := A_ (IsS50.grown (zz7 HI0) hg (IsS50.own_ne HI0.out HO_3.out (by decide))); replace HK := A_ (KeepBut.trans (zz8 HK) (KeepBut.of_grown hg g) (Kd.R_base2 HO_3.out)); have HO419 := A_ (ho); clear HO_3; clear ho hb hg hat))
         go_roundg k1
         case measure => have := HK1.out; omega
         case rel => exact ⟨(y417), (wrap64 (x4_1 + 1)), zz5, H', ⟨(zz21 HK1)⟩, ⟨(zz18 HO419)⟩, ⟨(zz7 HI0)⟩, ⟨(zz8 HK)⟩, ⟨(zz9 HB HI0)⟩⟩
        ·simp only [Option.some.injEq, Prod.mk.injEq] at H
         obtain ⟨rfl, rfl⟩ := H;go_wp2
         go_ret
         exact ⟨_, zz11, (zz18 HO_3), (zz7 HI0), (zz9 HB HI0), (zz8 HK)⟩
def spec_DrawWorldOk.f (k : Nat) (l0 : List Int) : Option ((List (S32))) := (spec_l6Open.f l0).bind fun bt420 => ((spec_l71Off.f k bt420.1 bt420.2).bind fun bt423 => ((spec_l6Rd_pick.f k bt420.1 bt423.2 4).bind fun bt427 => (if bt427.1 = 0 then (if (bt423.1.length : Int) > 0 then ((spec_l6Rd_of.f k bt420.1 bt427.2 (([(⟨#[47, 47, 97, 98, 47, 46, 46]⟩ : ByteArray), (⟨#[47, 47, 97, 98, 47, 97]⟩ : ByteArray), (⟨#[97, 98]⟩ : ByteArray), (⟨#[47, 47, 101, 47]⟩ : ByteArray)] : List ByteArray))).bind fun bt432 => (if 0 ≤ (wrap64 ((bt423.1.length : Int) - 1)) then (if (wrap64 ((bt423.1.length : Int) - 1)) < (bt423.1.length : Int) then (some (bt423.1.set ((wrap64 ((bt423.1.length : Int) - 1)) : Int).toNat (⟨bt432.1, (rd_T32 bt423.1 (wrap64 ((bt423.1.length : Int) - 1))).f1, (rd_T32 bt423.1 (wrap64 ((bt423.1.length : Int) - 1))).f2, (rd_T32 bt423.1 (wrap64 ((bt423.1.length : Int) - 1))).f3⟩ : S32))) else (none)) else (none))) else (some bt423.1)) else (some bt423.1))))
theorem spec_DrawWorldOk.calls (k : Nat) (A0 : Option Addr) (c0 : Nat) (l0 : List Int) (r : List (S32)) (w : World) (hr0 : Kd.C (Kd.int .u8) w A0 l0.length l0) (hc0 : l0.length ≤ c0) (h : spec_DrawWorldOk.f k l0 = some r) :
  Calls Tryd.prog 4 #[.slice A0 l0.length c0] w fun e w' => ∃ v0_ : Value, e = .returned (v0_) ∧ Kd.R k32 32 w' w.heap.size (fun _ => True) v0_ r ∧ Below w.heap.size w w' := by
 have HR0 := A_ hr0;have HC0 := A_ hc0;clear hr0 hc0;have HB := A_ (Below.refl w.heap.size w);unfold spec_DrawWorldOk.f at h
 have H := h;clear h;replace H := bindA H;obtain ⟨⟨t420, t421⟩, A2, H⟩ := H;try dsimp only at H
 replace H := bindA H;obtain ⟨⟨t423, t426⟩, A3, H⟩ := H;try dsimp only at H
 replace H := bindA H;obtain ⟨⟨t427, t428⟩, A4, H⟩ := H;try dsimp only at H
 have HF5 := A_ H;clear H;go_enter Tryd.func4, Tryd.ntmps4;go_wp2_with (first | ((with_reducible refine gC (f := 9) rfl ?_); refine gsL (some 6) Tryd.func9 #[.slice A0 l0.length c0] ?_; (with_reducible refine mV (spec_l6Open.calls _ _ l0 t420 t421 w _ ?side1 ?side2 ?side3 A2.out) ?_); (case side1 => exact (zz2 HB)); (case side2 => exact HR0.out); (case side3 => exact HC0.out); rintro g422 w6 ⟨hi, hb, hb2⟩; replace HB := A_ (hb); have HI422 := A_ (hi); (try clear hb hb2 hi)) | ((with_reducible refine gC (f := 10) rfl ?_); refine gsL (some 8) Tryd.func10 #[.pointer (some ⟨g422, 0, none⟩)] ?_; (with_reducible refine mV (spec_l71Off.calls k g422 t420 t421 t423 t426 w _ ?side1 ?side2 A3.out) ?_); (case side1 => exact (zz7 HI422)); (case side2 => exact (zz9 HB HI422)); rintro v424 w7 ⟨ho0, hi, hb, hk⟩; have HO425 := A_ (Kd.R_lower ho0 (below_size (zz9 HB HI422))); replace HB := A_ (hb); replace HI422 := A_ (hi); (try clear hb hk hi ho0)) | ((with_reducible refine gC (f := 11) rfl ?_); refine gsL (some 10) Tryd.func11 #[.pointer (some ⟨g422, 0, none⟩), .int .i64 4] ?_; (with_reducible refine mR (spec_l6Rd_pick.calls k g422 t420 t426 4 t427 t428 w _ ?side1 ?side2 A4.out) ?_); (case side1 => exact (zz7 HI422)); (case side2 => exact (zz9 HB HI422)); rintro w8 ⟨hi, hb, hk⟩; replace HO425 := A_ (Kd.R_mono (Kd.R_keep (IsS50.apart (show IsS50 w _ g422 t420 t426 from (zz7 HI422)) (zz18 HO425) (by decide)) hk (fun _ h => h.2)) (fun _ h => h.1)); replace HB := A_ (hb); replace HI422 := A_ (hi); (try clear hb hk hi)) | ((with_reducible refine atG ?_ ?_ fun K_ hK_ => ?_); rfl; exact undecG) | ((with_reducible refine atI ?_ fun K_ hK_ => ?_); exact undecI))
 refine unG hK_ ?_; clear hK_ K_;obtain ⟨H⟩ := HF5;replace H := iteE H;rcases H with ⟨c9, H⟩ | ⟨c9, H⟩
 ·obtain ⟨c9b0, c9b1⟩ := eqT c9
  (first | refine iteT ?_ | refine iteF ?_ | skip)
  clear c9;(first | rw [c9b0] | (simp only [i64_w, i32_w]; rw [c9b0]) | skip)
  replace H := iteE H;rcases H with ⟨c10, H⟩ | ⟨c10, H⟩
  ·have c10b0 := gtT c10
   have c10b1 : decide (0 < t423.length) = true := dT (by omega);clear c10;obtain ⟨y429, Ny429⟩ := toY (([(⟨#[47, 47, 97, 98, 47, 46, 46]⟩ : ByteArray), (⟨#[47, 47, 97, 98, 47, 97]⟩ : ByteArray), (⟨#[97, 98]⟩ : ByteArray), (⟨#[47, 47, 101, 47]⟩ : ByteArray)] : List ByteArray));(first | with_reducible replace H := bindZ Ny429 H | rw [← Ny429.out] at H | skip)
   replace H := bindA H;obtain ⟨⟨t432, t433⟩, A11, H⟩ := H;try dsimp only at H
   obtain ⟨ji12, hji12⟩ : ∃ j_ : Int, (wrap64 ((t423.length : Int) - 1)) = j_ := ⟨_, rfl⟩;(first | rw [hji12] at H | simp only [hji12] at H)
   (try rw [hji12] at A11)
   have hji12w : (IntKind.i64.wrap ((t423.length : Int) - 1)) = ji12 := (i64_w _).trans hji12;replace H := iteNd H;obtain ⟨c13b0, H⟩ := H;replace H := iteNd H;obtain ⟨c14b0, H⟩ := H;obtain ⟨y434, Ny434⟩ := toY (t423.set ((ji12) : Int).toNat (⟨t432, (rd_T32 t423 (ji12)).f1, (rd_T32 t423 (ji12)).f2, (rd_T32 t423 (ji12)).f3⟩ : S32));(first | with_reducible replace H := bindZ Ny434 H | rw [← Ny434.out] at H | skip)
   obtain rfl := sI H;obtain ⟨Ao16, co16, eo16⟩ := Kd.R_slice HO425.out;subst eo16;go_wp2_with (first | ((with_reducible refine gD (N := 22) rfl ?_); (try (refine gate_guard (by rfl) ?_; dsimp only)); refine Kd.R_lit Kd.string _ 9 ?hg (N := 22) ?hd (xs := ([(⟨#[47, 47, 97, 98, 47, 46, 46]⟩ : ByteArray), (⟨#[47, 47, 97, 98, 47, 97]⟩ : ByteArray), (⟨#[97, 98]⟩ : ByteArray), (⟨#[47, 47, 101, 47]⟩ : ByteArray)] : List ByteArray)) (inner := [.string (⟨#[47, 47, 97, 98, 47, 46, 46]⟩ : ByteArray), .string (⟨#[47, 47, 97, 98, 47, 97]⟩ : ByteArray), .string (⟨#[97, 98]⟩ : ByteArray), .string (⟨#[47, 47, 101, 47]⟩ : ByteArray)]) (ok := fun _ => True) (okp := fun _ => True) ?hr ?hp (fun _ hk => hk) trivial (Below.refl _ _) (Nat.le_refl _) (by simp) ?_; (case hd => rfl); (case hg => rfl); (case hr => exact zz16); (case hp => exact (Reps.one (show Kd.M Kd.string _ _ _ (⟨#[47, 47, 97, 98, 47, 46, 46]⟩ : ByteArray) [.string (⟨#[47, 47, 97, 98, 47, 46, 46]⟩ : ByteArray)] from rfl) (Reps.one (show Kd.M Kd.string _ _ _ (⟨#[47, 47, 97, 98, 47, 97]⟩ : ByteArray) [.string (⟨#[47, 47, 97, 98, 47, 97]⟩ : ByteArray)] from rfl) (Reps.one (show Kd.M Kd.string _ _ _ (⟨#[97, 98]⟩ : ByteArray) [.string (⟨#[97, 98]⟩ : ByteArray)] from rfl) (Reps.one (show Kd.M Kd.string _ _ _ (⟨#[47, 47, 101, 47]⟩ : ByteArray) [.string (⟨#[47, 47, 101, 47]⟩ : ByteArray)] from rfl) (Reps.none _ _)))))); intro v430 w17 ho18 hb hg_ hnew_; clear hg_ hnew_; (first | rw [← Ny429.out] at ho18 | (simp only [Int.reduceToNat] at ho18; rw [← Ny429.out] at ho18)); replace HO425 := A_ (rB (zz18 HO425) hb); have HO431 := A_ (Kd.R_lower ho18 (below_size (zz9 HB HI422))); replace HB := A_ (bS (zz9 HB HI422) hb); replace HI422 := A_ (IsS50.below (zz7 HI422) hb); clear hb ho18; obtain ⟨Ao19, co19, eo19⟩ := Kd.R_slice HO431.out; subst eo19) | ((with_reducible refine gC (f := 12) rfl ?_); refine gsL (some 23) Tryd.func12 #[.pointer (some ⟨g422, 0, none⟩), .slice Ao19 y429.length co19] ?_; (with_reducible refine mR (spec_l6Rd_of.calls k g422 t420 t428 _ _ y429 t432 t433 w _ ?side1 ?side2 ?side3 ?side4 ?side5 A11.out) ?_); (case side1 => exact (zz7 HI422)); (case side2 => exact (zz9 HB HI422)); (case side3 => exact (zz37 HO431)); (case side4 => exact (Kd.R_reads' HO431.out).2.1); (case side5 => exact far_slice (IsS50.own_ne HI422.out HO431.out (by decide))); rintro w20 ⟨hi, hb, hk⟩; replace HO425 := A_ (Kd.R_mono (Kd.R_keep (IsS50.apart (show IsS50 w _ g422 t420 t428 from (zz7 HI422)) (zz18 HO425) (by decide)) hk (fun _ h => h.2)) (fun _ h => h.1)); replace HO431 := A_ (Kd.R_mono (Kd.R_keep (IsS50.apart (show IsS50 w _ g422 t420 t428 from (zz7 HI422)) (zz18 HO431) (by decide)) hk (fun _ h => h.2)) (fun _ h => h.1)); replace HB := A_ (hb); replace HI422 := A_ (hi); (try clear hb hk hi); have p15 : 0 ≤ ((ji12) : Int) := ofD; have q15 : ((ji12) : Int) < ((t423.length : Int) : Int) := ofD; obtain ⟨go15, co15, eo15, gb15, gl15, cl15, HG15⟩ := Kd.R_form HO425.out (by omega); (first | cases eo15 | (injection eo15 with ea_ en_ ec_; (first | subst ea_ | (injection ea_ with ea_; subst ea_)); subst ec_; clear en_)); have GB15 := A_ gb15; have GG15 := A_ HG15; clear gb15 gl15 HG15; obtain ⟨ce15, hcl15, hM15, hcc15, hfr15⟩ := Kd.R_elem HO425.out z32 ((ji12) : Int) p15 q15; obtain rfl := k32_openM hM15; have hx15_0 : w20.cell? ⟨go15, ((ji12) : Int).toNat * 4, none⟩ = some (.string ((rd_T32 t423 (ji12)).f0)) := hcc15 0 _ rfl; have hx15_1 : w20.cell? ⟨go15, ((ji12) : Int).toNat * 4 + 1, none⟩ = some (.string ((rd_T32 t423 (ji12)).f1)) := hcc15 1 _ rfl; have hx15_2 : w20.cell? ⟨go15, ((ji12) : Int).toNat * 4 + 2, none⟩ = some (.string ((rd_T32 t423 (ji12)).f2)) := hcc15 2 _ rfl; have hx15_3 : w20.cell? ⟨go15, ((ji12) : Int).toNat * 4 + 3, none⟩ = some (.int .i64 ((rd_T32 t423 (ji12)).f3)) := hcc15 3 _ rfl; have hf15_0 : w20.frozen? ⟨go15, ((ji12) : Int).toNat * 4, none⟩ = false := hfr15 0; have hf15_1 : w20.frozen? ⟨go15, ((ji12) : Int).toNat * 4 + 1, none⟩ = false := hfr15 1; have hf15_2 : w20.frozen? ⟨go15, ((ji12) : Int).toNat * 4 + 2, none⟩ = false := hfr15 2; have hf15_3 : w20.frozen? ⟨go15, ((ji12) : Int).toNat * 4 + 3, none⟩ = false := hfr15 3; clear hcl15 hcc15 hfr15 hM15; replace p15 := eq_true p15; replace q15 := eq_true q15; have HX21 := A_ (show Kd.R k32 32 w20 w.heap.size (fun _ => True) (.slice (some ⟨go15, 0, none⟩) t423.length co16) t423 from (zz18 HO425)); obtain ⟨ce21, hcl21, hM21, hcc21, hfr21⟩ := Kd.R_elem HX21.out z32 ((ji12) : Int) ofD (by have h_ : ((ji12) : Int) < ((t423.length : Int) : Int) := ofD; first | exact h_ | (have e_ := (Kd.R_reads' HO425.out).1; omega) | simpa using h_); obtain rfl := k32_openM hM21; have HP21 := Kd.R_seg HX21.out ((ji12) : Int) ofD (by have h_ : ((ji12) : Int) < ((t423.length : Int) : Int) := ofD; first | exact h_ | (have e_ := (Kd.R_reads' HO425.out).1; omega) | simpa using h_) (seg := [.string t432]) (j := 0) hcl21 hcc21 (show 1 ≤ 4 from by decide) (x' := (⟨t432, (rd_T32 t423 (ji12)).f1, (rd_T32 t423 (ji12)).f2, (rd_T32 t423 (ji12)).f3⟩ : S32)) (k32_mkM _ _ _ (⟨t432, (rd_T32 t423 (ji12)).f1, (rd_T32 t423 (ji12)).f2, (rd_T32 t423 (ji12)).f3⟩ : S32) ) (fun _ hk => hk); have hx21_0 := hcc21 0 _ rfl; (try simp only [show (k32).sz = 4 from rfl, Nat.mul_one, Nat.add_zero] at hx21_0); have hf21_0 := hfr21 0; (try simp only [show (k32).sz = 4 from rfl, Nat.mul_one, Nat.add_zero] at hf21_0); clear hcl21 hcc21 hfr21 hM21) | ((with_reducible refine gate_store (t := 9) (p := 25) rfl ?_); refine store_event (t := 9) (p := 25) (v := ?vo_w22) (w1 := (w20.setCell ⟨go15, ((ji12) : Int).toNat * 4, none⟩ (.string t432))) ?hg ?ho ?hn ?hr ?_; (case ho => rfl); (case hg => rfl); (case hn => rfl); (case hr => exact zz16); intro w22 hw; have hg : w20.grownBy w22 (some go15) := (by rw [hw]; exact HP21.2); have hp_ : Kd.R k32 32 w22 w.heap.size (fun _ => True) (.slice (some ⟨go15, 0, none⟩) t423.length co16) y434 := (by rw [hw, Ny434.out]; exact HP21.1); clear HP21; replace HI422 := A_ (IsS50.grown (zz7 HI422) hg (IsS50.own_ne HI422.out HO425.out (by decide))); replace HO431 := A_ (Kd.R_over' (v := (.slice (some ⟨go15, 0, none⟩) t423.length co16)) (zz18 HO431) (Kd.R_typed HO425.out) (by decide) hg); replace HO425 := A_ (hp_); replace HB := A_ ((by rw [hw]; exact below_set (HB.out) GB15.out : Below w.heap.size w w22)); clear hg hw hp_))
   go_ret
   exact ⟨_, (by first | rfl | (simp [errW_none, errW_some] <;> rfl) | (simp only [← hji12]; first | rfl | (simp [errW_none, errW_some] <;> rfl)) | (simp [*, errW_none, errW_some] <;> rfl)), (zz18 HO425), (zz9 HB HI422)⟩
  ·have c10b0 := gtF c10
   have c10b1 : decide (0 < t423.length) = false := dF (by omega);clear c10;obtain rfl := sI H;obtain ⟨Ao23, co23, eo23⟩ := Kd.R_slice HO425.out;subst eo23;go_wp2
   go_ret
   exact ⟨_, zz11, (zz18 HO425), (zz9 HB HI422)⟩
 ·obtain ⟨c9b0, c9b1⟩ := eqF c9
  (first | refine iteT ?_ | refine iteF ?_ | skip)
  (first | rw [c9b0] | (simp only [i64_w, i32_w]; rw [c9b0]) | skip)
  obtain rfl := sI H;(try ((with_reducible refine upS ?_); go_simp))
  go_wp2
  go_ret
  exact ⟨_, zz11, (zz18 HO425), (zz9 HB HI422)⟩
end Go.Proofs.YtpomhjkbgbociaaDoor.P
end
section
namespace Go.Proofs
open Go.Shelf
def Tryd.lays156_ren : Go.Shelf.Ren := ⟨fun | 156 => 55 | 165 => 75 | 166 => 76 | 169 => 77 | 240 => 90 | 241 => 91 | 276 => 98 | 277 => 99 | n => n, fun | 31 => 26 | 9 => 9 | 3 => 3 | 4 => 4 | 0 => 0 | 20 => 20 | 72 => 96 | 76 => 100 | 70 => 94 | 37 => 22 | 75 => 99 | 127 => 110 | 164 => 115 | 5 => 5 | 80 => 102 | n => n, fun | n => n⟩
theorem Tryd.lays156 : Go.Proofs.Lays.n156 Tryd.prog Tryd.lays156_ren := {
 mixed := by kernel_rfl
 f156 := Tryd.func55.trans (congrArg some (by kernel_rfl))
 f165 := Tryd.func75.trans (congrArg some (by kernel_rfl))
 f166 := Tryd.func76.trans (congrArg some (by kernel_rfl))
 f169 := Tryd.func77.trans (congrArg some (by kernel_rfl))
 f240 := Tryd.func90.trans (congrArg some (by kernel_rfl))
 f241 := Tryd.func91.trans (congrArg some (by kernel_rfl))
 f276 := Tryd.func98.trans (congrArg some (by kernel_rfl))
 f277 := Tryd.func99.trans (congrArg some (by kernel_rfl))
 t0 := Tryd.underlying0
 a0 := Tryd.isAgg0
 z0 := Tryd.sizeOf0
 v0 := Tryd.zeroValue0
 t3 := Tryd.underlying3
 a3 := Tryd.isAgg3
 z3 := Tryd.sizeOf3
 v3 := Tryd.zeroValue3
 t4 := Tryd.underlying4
 a4 := Tryd.isAgg4
 z4 := Tryd.sizeOf4
 v4 := Tryd.zeroValue4
 t9 := Tryd.underlying9
 a9 := Tryd.isAgg9
 z9 := Tryd.sizeOf9
 v9 := Tryd.zeroValue9
 t20 := Tryd.underlying20
 a20 := Tryd.isAgg20
 z20 := Tryd.sizeOf20
 v20 := Tryd.zeroValue20
 t31 := Tryd.underlying26
 a31 := Tryd.isAgg26
 z31 := Tryd.sizeOf26
 v31 := Tryd.zeroValue26
 t37 := Tryd.underlying22
 a37 := Tryd.isAgg22
 z37 := Tryd.sizeOf22
 v37 := Tryd.zeroValue22
 t70 := Tryd.underlying94
 a70 := Tryd.isAgg94
 z70 := Tryd.sizeOf94
 v70 := Tryd.zeroValue94
 t72 := Tryd.underlying96
 a72 := Tryd.isAgg96
 z72 := Tryd.sizeOf96
 v72 := Tryd.zeroValue96
 t75 := Tryd.underlying99
 a75 := Tryd.isAgg99
 z75 := Tryd.sizeOf99
 v75 := Tryd.zeroValue99
 t76 := Tryd.underlying100
 a76 := Tryd.isAgg100
 z76 := Tryd.sizeOf100
 v76 := Tryd.zeroValue100
 t127 := Tryd.underlying110
 a127 := Tryd.isAgg110
 z127 := Tryd.sizeOf110
 v127 := Tryd.zeroValue110
 t164 := Tryd.underlying115
 a164 := Tryd.isAgg115
 z164 := Tryd.sizeOf115
 v164 := Tryd.zeroValue115 }
theorem Tryd.Builder_Extra_156 : Builder.Extra Tryd.prog Tryd.lays156_ren := {
 sizeBuilder := by kernel_rfl
 liesBuilder := by kernel_rfl
 t5 := Tryd.underlying5
 a5 := Tryd.isAgg5
 z5 := Tryd.sizeOf5
 v5 := Tryd.zeroValue5
 infoByte := by kernel_rfl
 cellsByte := by kernel_rfl
 sizeByte := by kernel_rfl
 neB5 := by decide }
open Go.RowKit in
theorem Tryd.strings_Join_none (a : Option Addr) (c : Nat) (sep : ByteArray) (w : World) :
  Calls Tryd.prog 55 #[.slice a 0 c, .string sep] w fun e w' => e = .returned (.string ⟨#[]⟩) ∧ w' = w := Any.strings_Join_none Tryd.lays156 Tryd.Builder_Extra_156 a c sep w
open Go.RowKit in
theorem Tryd.strings_Join (bk o c : Nat) (xs : List ByteArray) (sep : ByteArray) (w : World) (hcells : ∀ (j : Nat) x, xs[j]? = some x → w.cell? ⟨bk, o + j, none⟩ = some (.string x)) (hbk : bk < w.heap.size) (hN : xs.length ≤ 140737488355328) (hcap : xs.length ≤ c) (hlen : (Lib.join (xs.map (·.data.toList)) sep.data.toList).length ≤ 140737488355328) :
  Calls Tryd.prog 55 #[.slice (some ⟨bk, o, none⟩) xs.length c, .string sep] w fun e w' => e = .returned (.string ⟨(Lib.join (xs.map (·.data.toList)) sep.data.toList).toArray⟩) ∧ Below w.heap.size w w' := Any.strings_Join Tryd.lays156 Tryd.Builder_Extra_156 bk o c xs sep w hcells hbk hN hcap hlen
def Tryd.lays119_ren : Go.Shelf.Ren := ⟨fun | 119 => 71 | n => n, fun | 21 => 21 | 4 => 4 | n => n, fun | n => n⟩
theorem Tryd.lays119 : Go.Proofs.Lays.n119 Tryd.prog Tryd.lays119_ren := {
 mixed := by kernel_rfl
 f119 := Tryd.func71.trans (congrArg some (by kernel_rfl))
 t4 := Tryd.underlying4
 a4 := Tryd.isAgg4
 z4 := Tryd.sizeOf4
 v4 := Tryd.zeroValue4
 t21 := Tryd.underlying21
 a21 := Tryd.isAgg21
 z21 := Tryd.sizeOf21
 v21 := Tryd.zeroValue21 }
theorem Tryd.utf8_ValidRune (r : Int) (w : World) :
  Calls Tryd.prog 71 #[.int .i32 r] w fun e w' => e = .returned (.bool (Lib.validRune r)) ∧ w' = w := Any.utf8_ValidRune Tryd.lays119 r w
def Tryd.lays137_ren : Go.Shelf.Ren := ⟨fun | 137 => 70 | 217 => 65 | 266 => 84 | n => n, fun | 9 => 9 | 5 => 5 | 3 => 3 | n => n, fun | n => n⟩
theorem Tryd.lays137 : Go.Proofs.Lays.n137 Tryd.prog Tryd.lays137_ren := {
 mixed := by kernel_rfl
 f137 := Tryd.func70.trans (congrArg some (by kernel_rfl))
 f217 := Tryd.func65.trans (congrArg some (by kernel_rfl))
 f266 := Tryd.func84.trans (congrArg some (by kernel_rfl))
 t3 := Tryd.underlying3
 a3 := Tryd.isAgg3
 z3 := Tryd.sizeOf3
 v3 := Tryd.zeroValue3
 t5 := Tryd.underlying5
 a5 := Tryd.isAgg5
 z5 := Tryd.sizeOf5
 v5 := Tryd.zeroValue5
 t9 := Tryd.underlying9
 a9 := Tryd.isAgg9
 z9 := Tryd.sizeOf9
 v9 := Tryd.zeroValue9 }
open Go.RowKit in
theorem Tryd.strings_IndexByte (s : ByteArray) (c : Int) (w : World) :
  Calls Tryd.prog 70 #[.string s, .int .u8 c] w fun e w' => e = .returned (.int .i64 (Lib.indexByte s.data.toList c.toNat.toUInt8)) ∧ w' = w := Any.strings_IndexByte Tryd.lays137 s c w
def Tryd.lays210_ren : Go.Shelf.Ren := ⟨fun | 210 => 45 | 206 => 69 | n => n, fun | 9 => 9 | 4 => 4 | 3 => 3 | n => n, fun | n => n⟩
theorem Tryd.lays210 : Go.Proofs.Lays.n210 Tryd.prog Tryd.lays210_ren := {
 mixed := by kernel_rfl
 f206 := Tryd.func69.trans (congrArg some (by kernel_rfl))
 f210 := Tryd.func45.trans (congrArg some (by kernel_rfl))
 t3 := Tryd.underlying3
 a3 := Tryd.isAgg3
 z3 := Tryd.sizeOf3
 v3 := Tryd.zeroValue3
 t4 := Tryd.underlying4
 a4 := Tryd.isAgg4
 z4 := Tryd.sizeOf4
 v4 := Tryd.zeroValue4
 t9 := Tryd.underlying9
 a9 := Tryd.isAgg9
 z9 := Tryd.sizeOf9
 v9 := Tryd.zeroValue9 }
open Go.RowKit in
theorem Tryd.stringslite_CutPrefix (s p : ByteArray) (w : World) :
  Calls Tryd.prog 45 #[.string s, .string p] w fun e w' => e = .returned (.tuple #[.string ⟨(Lib.trimPrefix s.data.toList p.data.toList).toArray⟩, .bool (Lib.hasPrefix s.data.toList p.data.toList)]) ∧ w' = w := Any.stringslite_CutPrefix Tryd.lays210 s p w
def Tryd.lays103_ren : Go.Shelf.Ren := ⟨fun | 103 => 26 | 210 => 45 | 206 => 69 | n => n, fun | 9 => 9 | 4 => 4 | 24 => 53 | 3 => 3 | n => n, fun | n => n⟩
theorem Tryd.lays103 : Go.Proofs.Lays.n103 Tryd.prog Tryd.lays103_ren := {
 mixed := by kernel_rfl
 f103 := Tryd.func26.trans (congrArg some (by kernel_rfl))
 f206 := Tryd.func69.trans (congrArg some (by kernel_rfl))
 f210 := Tryd.func45.trans (congrArg some (by kernel_rfl))
 t3 := Tryd.underlying3
 a3 := Tryd.isAgg3
 z3 := Tryd.sizeOf3
 v3 := Tryd.zeroValue3
 t4 := Tryd.underlying4
 a4 := Tryd.isAgg4
 z4 := Tryd.sizeOf4
 v4 := Tryd.zeroValue4
 t9 := Tryd.underlying9
 a9 := Tryd.isAgg9
 z9 := Tryd.sizeOf9
 v9 := Tryd.zeroValue9
 t24 := Tryd.underlying53
 a24 := Tryd.isAgg53
 z24 := Tryd.sizeOf53
 v24 := Tryd.zeroValue53 }
open Go.RowKit in
theorem Tryd.strings_CutPrefix (s p : ByteArray) (w : World) :
  Calls Tryd.prog 26 #[.string s, .string p] w fun e w' => e = .returned (.tuple #[.string ⟨(Lib.trimPrefix s.data.toList p.data.toList).toArray⟩, .bool (Lib.hasPrefix s.data.toList p.data.toList)]) ∧ w' = w := Any.strings_CutPrefix Tryd.lays103 s p w
def Tryd.lays219_ren : Go.Shelf.Ren := ⟨fun | 219 => 44 | 217 => 65 | 225 => 66 | 224 => 67 | 267 => 68 | 266 => 84 | 314 => 85 | n => n, fun | 9 => 9 | 3 => 3 | 4 => 4 | 5 => 5 | 46 => 87 | 146 => 105 | 51 => 104 | n => n, fun | 1 => 0 | n => n⟩
theorem Tryd.lays219 : Go.Proofs.Lays.n219 Tryd.prog Tryd.lays219_ren := {
 mixed := by kernel_rfl
 f217 := Tryd.func65.trans (congrArg some (by kernel_rfl))
 f219 := Tryd.func44.trans (congrArg some (by kernel_rfl))
 f224 := Tryd.func67.trans (congrArg some (by kernel_rfl))
 f225 := Tryd.func66.trans (congrArg some (by kernel_rfl))
 f266 := Tryd.func84.trans (congrArg some (by kernel_rfl))
 f267 := Tryd.func68.trans (congrArg some (by kernel_rfl))
 f314 := Tryd.func85.trans (congrArg some (by kernel_rfl))
 t3 := Tryd.underlying3
 a3 := Tryd.isAgg3
 z3 := Tryd.sizeOf3
 v3 := Tryd.zeroValue3
 t4 := Tryd.underlying4
 a4 := Tryd.isAgg4
 z4 := Tryd.sizeOf4
 v4 := Tryd.zeroValue4
 t5 := Tryd.underlying5
 a5 := Tryd.isAgg5
 z5 := Tryd.sizeOf5
 v5 := Tryd.zeroValue5
 t9 := Tryd.underlying9
 a9 := Tryd.isAgg9
 z9 := Tryd.sizeOf9
 v9 := Tryd.zeroValue9
 t46 := Tryd.underlying87
 a46 := Tryd.isAgg87
 z46 := Tryd.sizeOf87
 v46 := Tryd.zeroValue87
 t51 := Tryd.underlying104
 a51 := Tryd.isAgg104
 z51 := Tryd.sizeOf104
 v51 := Tryd.zeroValue104
 t146 := Tryd.underlying105
 a146 := Tryd.isAgg105
 z146 := Tryd.sizeOf105
 v146 := Tryd.zeroValue105
 g1 := by kernel_rfl }
open Go.RowKit Go.Lib in
theorem Tryd.stringslite_Index_one (s : ByteArray) (c : UInt8) (w : World) :
  Calls Tryd.prog 44 #[.string s, .string ⟨#[c]⟩] w fun e w' => e = .returned (.int .i64 (Lib.indexByte s.data.toList c)) ∧ w' = w := Any.stringslite_Index_one Tryd.lays219 s c w
open Go.RowKit Go.Lib in
theorem Tryd.stringslite_Index (s sub : ByteArray) (m : Int) (w : World) (hs : s.size < 4294967281) (hm : w.cell? ⟨0, 0, none⟩ = some (.int .i64 m)) :
  Calls Tryd.prog 44 #[.string s, .string sub] w fun e w' => e = .returned (.int .i64 (Lib.index s.data.toList sub.data.toList)) ∧ w' = w := Any.stringslite_Index Tryd.lays219 s sub m w hs hm
def Tryd.lays143_ren : Go.Shelf.Ren := ⟨fun | 143 => 89 | 219 => 44 | 217 => 65 | 225 => 66 | 224 => 67 | 267 => 68 | 266 => 84 | 314 => 85 | n => n, fun | 9 => 9 | 3 => 3 | 4 => 4 | 5 => 5 | 46 => 87 | 146 => 105 | 51 => 104 | n => n, fun | 1 => 0 | n => n⟩
theorem Tryd.lays143 : Go.Proofs.Lays.n143 Tryd.prog Tryd.lays143_ren := {
 mixed := by kernel_rfl
 f143 := Tryd.func89.trans (congrArg some (by kernel_rfl))
 f217 := Tryd.func65.trans (congrArg some (by kernel_rfl))
 f219 := Tryd.func44.trans (congrArg some (by kernel_rfl))
 f224 := Tryd.func67.trans (congrArg some (by kernel_rfl))
 f225 := Tryd.func66.trans (congrArg some (by kernel_rfl))
 f266 := Tryd.func84.trans (congrArg some (by kernel_rfl))
 f267 := Tryd.func68.trans (congrArg some (by kernel_rfl))
 f314 := Tryd.func85.trans (congrArg some (by kernel_rfl))
 t3 := Tryd.underlying3
 a3 := Tryd.isAgg3
 z3 := Tryd.sizeOf3
 v3 := Tryd.zeroValue3
 t4 := Tryd.underlying4
 a4 := Tryd.isAgg4
 z4 := Tryd.sizeOf4
 v4 := Tryd.zeroValue4
 t5 := Tryd.underlying5
 a5 := Tryd.isAgg5
 z5 := Tryd.sizeOf5
 v5 := Tryd.zeroValue5
 t9 := Tryd.underlying9
 a9 := Tryd.isAgg9
 z9 := Tryd.sizeOf9
 v9 := Tryd.zeroValue9
 t46 := Tryd.underlying87
 a46 := Tryd.isAgg87
 z46 := Tryd.sizeOf87
 v46 := Tryd.zeroValue87
 t51 := Tryd.underlying104
 a51 := Tryd.isAgg104
 z51 := Tryd.sizeOf104
 v51 := Tryd.zeroValue104
 t146 := Tryd.underlying105
 a146 := Tryd.isAgg105
 z146 := Tryd.sizeOf105
 v146 := Tryd.zeroValue105
 g1 := by kernel_rfl }
open Go.RowKit Go.Lib in
theorem Tryd.strings_Index (s sub : ByteArray) (m : Int) (w : World) (hs : s.size < 4294967281) (hm : w.cell? ⟨0, 0, none⟩ = some (.int .i64 m)) :
  Calls Tryd.prog 89 #[.string s, .string sub] w fun e w' => e = .returned (.int .i64 (Lib.index s.data.toList sub.data.toList)) ∧ w' = w := Any.strings_Index Tryd.lays143 s sub m w hs hm
def Tryd.lays220_ren : Go.Shelf.Ren := ⟨fun | 220 => 25 | 219 => 44 | 217 => 65 | 225 => 66 | 224 => 67 | 267 => 68 | 266 => 84 | 314 => 85 | n => n, fun | 9 => 9 | 4 => 4 | 3 => 3 | 5 => 5 | 46 => 87 | 146 => 105 | 51 => 104 | n => n, fun | 1 => 0 | n => n⟩
theorem Tryd.lays220 : Go.Proofs.Lays.n220 Tryd.prog Tryd.lays220_ren := {
 mixed := by kernel_rfl
 f217 := Tryd.func65.trans (congrArg some (by kernel_rfl))
 f219 := Tryd.func44.trans (congrArg some (by kernel_rfl))
 f220 := Tryd.func25.trans (congrArg some (by kernel_rfl))
 f224 := Tryd.func67.trans (congrArg some (by kernel_rfl))
 f225 := Tryd.func66.trans (congrArg some (by kernel_rfl))
 f266 := Tryd.func84.trans (congrArg some (by kernel_rfl))
 f267 := Tryd.func68.trans (congrArg some (by kernel_rfl))
 f314 := Tryd.func85.trans (congrArg some (by kernel_rfl))
 t3 := Tryd.underlying3
 a3 := Tryd.isAgg3
 z3 := Tryd.sizeOf3
 v3 := Tryd.zeroValue3
 t4 := Tryd.underlying4
 a4 := Tryd.isAgg4
 z4 := Tryd.sizeOf4
 v4 := Tryd.zeroValue4
 t5 := Tryd.underlying5
 a5 := Tryd.isAgg5
 z5 := Tryd.sizeOf5
 v5 := Tryd.zeroValue5
 t9 := Tryd.underlying9
 a9 := Tryd.isAgg9
 z9 := Tryd.sizeOf9
 v9 := Tryd.zeroValue9
 t46 := Tryd.underlying87
 a46 := Tryd.isAgg87
 z46 := Tryd.sizeOf87
 v46 := Tryd.zeroValue87
 t51 := Tryd.underlying104
 a51 := Tryd.isAgg104
 z51 := Tryd.sizeOf104
 v51 := Tryd.zeroValue104
 t146 := Tryd.underlying105
 a146 := Tryd.isAgg105
 z146 := Tryd.sizeOf105
 v146 := Tryd.zeroValue105
 g1 := by kernel_rfl }
open Go.RowKit Go.Lib in
theorem Tryd.stringslite_Cut (s sep : ByteArray) (m : Int) (w : World) (hs : s.size < 4294967281) (hm : w.cell? ⟨0, 0, none⟩ = some (.int .i64 m)) :
  Calls Tryd.prog 25 #[.string s, .string sep] w fun e w' => e = .returned (.tuple #[.string ⟨(Lib.cut s.data.toList sep.data.toList).1.toArray⟩, .string ⟨(Lib.cut s.data.toList sep.data.toList).2.1.toArray⟩, .bool (Lib.cut s.data.toList sep.data.toList).2.2]) ∧ ∃ n, w' = w.drewN n := Any.stringslite_Cut Tryd.lays220 s sep m w hs hm
def Tryd.lays145_ren : Go.Shelf.Ren := ⟨fun | 145 => 16 | 220 => 25 | 219 => 44 | 217 => 65 | 225 => 66 | 224 => 67 | 267 => 68 | 266 => 84 | 314 => 85 | n => n, fun | 9 => 9 | 4 => 4 | 59 => 46 | 3 => 3 | 5 => 5 | 46 => 87 | 146 => 105 | 51 => 104 | n => n, fun | 1 => 0 | n => n⟩
theorem Tryd.lays145 : Go.Proofs.Lays.n145 Tryd.prog Tryd.lays145_ren := {
 mixed := by kernel_rfl
 f145 := Tryd.func16.trans (congrArg some (by kernel_rfl))
 f217 := Tryd.func65.trans (congrArg some (by kernel_rfl))
 f219 := Tryd.func44.trans (congrArg some (by kernel_rfl))
 f220 := Tryd.func25.trans (congrArg some (by kernel_rfl))
 f224 := Tryd.func67.trans (congrArg some (by kernel_rfl))
 f225 := Tryd.func66.trans (congrArg some (by kernel_rfl))
 f266 := Tryd.func84.trans (congrArg some (by kernel_rfl))
 f267 := Tryd.func68.trans (congrArg some (by kernel_rfl))
 f314 := Tryd.func85.trans (congrArg some (by kernel_rfl))
 t3 := Tryd.underlying3
 a3 := Tryd.isAgg3
 z3 := Tryd.sizeOf3
 v3 := Tryd.zeroValue3
 t4 := Tryd.underlying4
 a4 := Tryd.isAgg4
 z4 := Tryd.sizeOf4
 v4 := Tryd.zeroValue4
 t5 := Tryd.underlying5
 a5 := Tryd.isAgg5
 z5 := Tryd.sizeOf5
 v5 := Tryd.zeroValue5
 t9 := Tryd.underlying9
 a9 := Tryd.isAgg9
 z9 := Tryd.sizeOf9
 v9 := Tryd.zeroValue9
 t46 := Tryd.underlying87
 a46 := Tryd.isAgg87
 z46 := Tryd.sizeOf87
 v46 := Tryd.zeroValue87
 t51 := Tryd.underlying104
 a51 := Tryd.isAgg104
 z51 := Tryd.sizeOf104
 v51 := Tryd.zeroValue104
 t59 := Tryd.underlying46
 a59 := Tryd.isAgg46
 z59 := Tryd.sizeOf46
 v59 := Tryd.zeroValue46
 t146 := Tryd.underlying105
 a146 := Tryd.isAgg105
 z146 := Tryd.sizeOf105
 v146 := Tryd.zeroValue105
 g1 := by kernel_rfl }
open Go.RowKit Go.Lib in
theorem Tryd.strings_Cut (s sep : ByteArray) (m : Int) (w : World) (hs : s.size < 4294967281) (hm : w.cell? ⟨0, 0, none⟩ = some (.int .i64 m)) :
  Calls Tryd.prog 16 #[.string s, .string sep] w fun e w' => e = .returned (.tuple #[.string ⟨(Lib.cut s.data.toList sep.data.toList).1.toArray⟩, .string ⟨(Lib.cut s.data.toList sep.data.toList).2.1.toArray⟩, .bool (Lib.cut s.data.toList sep.data.toList).2.2]) ∧ ∃ n, w' = w.drewN n := Any.strings_Cut Tryd.lays145 s sep m w hs hm
def Tryd.lays138_ren : Go.Shelf.Ren := ⟨fun | 138 => 88 | 195 => 95 | 218 => 97 | 143 => 89 | 219 => 44 | 217 => 65 | 225 => 66 | 224 => 67 | 267 => 68 | 266 => 84 | 314 => 85 | n => n, fun | 9 => 9 | 3 => 3 | 4 => 4 | 5 => 5 | 0 => 0 | 46 => 87 | 146 => 105 | 51 => 104 | n => n, fun | 1 => 0 | n => n⟩
theorem Tryd.lays138 : Go.Proofs.Lays.n138 Tryd.prog Tryd.lays138_ren := {
 mixed := by kernel_rfl
 f138 := Tryd.func88.trans (congrArg some (by kernel_rfl))
 f143 := Tryd.func89.trans (congrArg some (by kernel_rfl))
 f195 := Tryd.func95.trans (congrArg some (by kernel_rfl))
 f217 := Tryd.func65.trans (congrArg some (by kernel_rfl))
 f218 := Tryd.func97.trans (congrArg some (by kernel_rfl))
 f219 := Tryd.func44.trans (congrArg some (by kernel_rfl))
 f224 := Tryd.func67.trans (congrArg some (by kernel_rfl))
 f225 := Tryd.func66.trans (congrArg some (by kernel_rfl))
 f266 := Tryd.func84.trans (congrArg some (by kernel_rfl))
 f267 := Tryd.func68.trans (congrArg some (by kernel_rfl))
 f314 := Tryd.func85.trans (congrArg some (by kernel_rfl))
 t0 := Tryd.underlying0
 a0 := Tryd.isAgg0
 z0 := Tryd.sizeOf0
 v0 := Tryd.zeroValue0
 t3 := Tryd.underlying3
 a3 := Tryd.isAgg3
 z3 := Tryd.sizeOf3
 v3 := Tryd.zeroValue3
 t4 := Tryd.underlying4
 a4 := Tryd.isAgg4
 z4 := Tryd.sizeOf4
 v4 := Tryd.zeroValue4
 t5 := Tryd.underlying5
 a5 := Tryd.isAgg5
 z5 := Tryd.sizeOf5
 v5 := Tryd.zeroValue5
 t9 := Tryd.underlying9
 a9 := Tryd.isAgg9
 z9 := Tryd.sizeOf9
 v9 := Tryd.zeroValue9
 t46 := Tryd.underlying87
 a46 := Tryd.isAgg87
 z46 := Tryd.sizeOf87
 v46 := Tryd.zeroValue87
 t51 := Tryd.underlying104
 a51 := Tryd.isAgg104
 z51 := Tryd.sizeOf104
 v51 := Tryd.zeroValue104
 t146 := Tryd.underlying105
 a146 := Tryd.isAgg105
 z146 := Tryd.sizeOf105
 v146 := Tryd.zeroValue105
 g1 := by kernel_rfl }
open Go.RowKit Go.Lib in
theorem Tryd.strings_Count_one (s : ByteArray) (c : UInt8) (w : World) :
  Calls Tryd.prog 88 #[.string s, .string ⟨#[c]⟩] w fun e w' => e = .returned (.int .i64 (Lib.countByte s.data.toList c)) ∧ w' = w := Any.strings_Count_one Tryd.lays138 s c w
open Go.RowKit Go.Lib in
theorem Tryd.strings_Count (s sub : ByteArray) (m : Int) (w : World) (hs : s.size < 4294967281) (hm : w.cell? ⟨0, 0, none⟩ = some (.int .i64 m)) (h2 : 2 ≤ sub.size) :
  Calls Tryd.prog 88 #[.string s, .string sub] w fun e w' => e = .returned (.int .i64 (Lib.countB s sub)) ∧ w' = w := Any.strings_Count Tryd.lays138 s sub m w hs hm h2
def Tryd.lays206_ren : Go.Shelf.Ren := ⟨fun | 206 => 69 | n => n, fun | 9 => 9 | 4 => 4 | 3 => 3 | n => n, fun | n => n⟩
theorem Tryd.lays206 : Go.Proofs.Lays.n206 Tryd.prog Tryd.lays206_ren := {
 mixed := by kernel_rfl
 f206 := Tryd.func69.trans (congrArg some (by kernel_rfl))
 t3 := Tryd.underlying3
 a3 := Tryd.isAgg3
 z3 := Tryd.sizeOf3
 v3 := Tryd.zeroValue3
 t4 := Tryd.underlying4
 a4 := Tryd.isAgg4
 z4 := Tryd.sizeOf4
 v4 := Tryd.zeroValue4
 t9 := Tryd.underlying9
 a9 := Tryd.isAgg9
 z9 := Tryd.sizeOf9
 v9 := Tryd.zeroValue9 }
open Go.RowKit Go.Lib in
theorem Tryd.stringslite_HasPrefix (s p : ByteArray) (w : World) :
  Calls Tryd.prog 69 #[.string s, .string p] w fun e w' => e = .returned (.bool (Lib.hasPrefix s.data.toList p.data.toList)) ∧ w' = w := Any.stringslite_HasPrefix Tryd.lays206 s p w
def Tryd.lays221_ren : Go.Shelf.Ren := ⟨fun | 221 => 74 | 268 => 87 | 138 => 88 | 143 => 89 | 195 => 95 | 197 => 96 | 218 => 97 | 219 => 44 | 260 => 100 | 217 => 65 | 225 => 66 | 224 => 67 | 267 => 68 | 266 => 84 | 314 => 85 | n => n, fun | 9 => 9 | 3 => 3 | 31 => 26 | 4 => 4 | 0 => 0 | 105 => 113 | 21 => 21 | 5 => 5 | 46 => 87 | 119 => 118 | 139 => 121 | 138 => 120 | 146 => 105 | 51 => 104 | n => n, fun | 1 => 0 | 3 => 1 | 4 => 2 | n => n⟩
theorem Tryd.lays221 : Go.Proofs.Lays.n221 Tryd.prog Tryd.lays221_ren := {
 mixed := by kernel_rfl
 f138 := Tryd.func88.trans (congrArg some (by kernel_rfl))
 f143 := Tryd.func89.trans (congrArg some (by kernel_rfl))
 f195 := Tryd.func95.trans (congrArg some (by kernel_rfl))
 f197 := Tryd.func96.trans (congrArg some (by kernel_rfl))
 f217 := Tryd.func65.trans (congrArg some (by kernel_rfl))
 f218 := Tryd.func97.trans (congrArg some (by kernel_rfl))
 f219 := Tryd.func44.trans (congrArg some (by kernel_rfl))
 f221 := Tryd.func74.trans (congrArg some (by kernel_rfl))
 f224 := Tryd.func67.trans (congrArg some (by kernel_rfl))
 f225 := Tryd.func66.trans (congrArg some (by kernel_rfl))
 f260 := Tryd.func100.trans (congrArg some (by kernel_rfl))
 f266 := Tryd.func84.trans (congrArg some (by kernel_rfl))
 f267 := Tryd.func68.trans (congrArg some (by kernel_rfl))
 f268 := Tryd.func87.trans (congrArg some (by kernel_rfl))
 f314 := Tryd.func85.trans (congrArg some (by kernel_rfl))
 t0 := Tryd.underlying0
 a0 := Tryd.isAgg0
 z0 := Tryd.sizeOf0
 v0 := Tryd.zeroValue0
 t3 := Tryd.underlying3
 a3 := Tryd.isAgg3
 z3 := Tryd.sizeOf3
 v3 := Tryd.zeroValue3
 t4 := Tryd.underlying4
 a4 := Tryd.isAgg4
 z4 := Tryd.sizeOf4
 v4 := Tryd.zeroValue4
 t5 := Tryd.underlying5
 a5 := Tryd.isAgg5
 z5 := Tryd.sizeOf5
 v5 := Tryd.zeroValue5
 t9 := Tryd.underlying9
 a9 := Tryd.isAgg9
 z9 := Tryd.sizeOf9
 v9 := Tryd.zeroValue9
 t21 := Tryd.underlying21
 a21 := Tryd.isAgg21
 z21 := Tryd.sizeOf21
 v21 := Tryd.zeroValue21
 t31 := Tryd.underlying26
 a31 := Tryd.isAgg26
 z31 := Tryd.sizeOf26
 v31 := Tryd.zeroValue26
 t46 := Tryd.underlying87
 a46 := Tryd.isAgg87
 z46 := Tryd.sizeOf87
 v46 := Tryd.zeroValue87
 t51 := Tryd.underlying104
 a51 := Tryd.isAgg104
 z51 := Tryd.sizeOf104
 v51 := Tryd.zeroValue104
 t105 := Tryd.underlying113
 a105 := Tryd.isAgg113
 z105 := Tryd.sizeOf113
 v105 := Tryd.zeroValue113
 t119 := Tryd.underlying118
 a119 := Tryd.isAgg118
 z119 := Tryd.sizeOf118
 t138 := Tryd.underlying120
 a138 := Tryd.isAgg120
 z138 := Tryd.sizeOf120
 v138 := Tryd.zeroValue120
 t139 := Tryd.underlying121
 a139 := Tryd.isAgg121
 z139 := Tryd.sizeOf121
 v139 := Tryd.zeroValue121
 t146 := Tryd.underlying105
 a146 := Tryd.isAgg105
 z146 := Tryd.sizeOf105
 v146 := Tryd.zeroValue105
 g1 := by kernel_rfl
 g3 := by kernel_rfl
 g4 := by kernel_rfl }
open Go.RowKit Go.Lib in
theorem Tryd.strings_genSplit (s sep : ByteArray) (sv : Nat) (n : Int) (N : Nat) (m : Int) (w : World) (hs : s.size < 4294967281) (hm : w.cell? ⟨0, 0, none⟩ = some (.int .i64 m)) (h1 : 1 ≤ sep.size) (hsv : sv ≤ sep.size) (hn0 : n ≠ 0) (hn63 : n ≤ 9223372036854775807) (hN : (N : Int) = min (if n < 0 then (Lib.countB s sep : Int) + 1 else n) ((s.size : Int) + 1)) :
  Calls Tryd.prog 74 #[.string s, .string sep, .int .i64 sv, .int .i64 n] w fun e w' =>
   e = .returned (.slice (some ⟨w.heap.size, 0, none⟩) (Lib.splitB sep sv (N - 1) s).length N) ∧ w' = w.alloc (.cells (Lib.cellsOf (Lib.splitB sep sv (N - 1) s) N) 9) := Any.strings_genSplit Tryd.lays221 (by kernel_rfl) s sep sv n N m w hs hm h1 hsv hn0 hn63 hN
def Tryd.lays146_ren : Go.Shelf.Ren := ⟨fun | 146 => 52 | 221 => 74 | 268 => 87 | 138 => 88 | 143 => 89 | 195 => 95 | 197 => 96 | 218 => 97 | 219 => 44 | 260 => 100 | 217 => 65 | 225 => 66 | 224 => 67 | 267 => 68 | 266 => 84 | 314 => 85 | n => n, fun | 9 => 9 | 31 => 26 | 3 => 3 | 4 => 4 | 0 => 0 | 105 => 113 | 21 => 21 | 5 => 5 | 46 => 87 | 119 => 118 | 139 => 121 | 138 => 120 | 146 => 105 | 51 => 104 | n => n, fun | 1 => 0 | 3 => 1 | 4 => 2 | n => n⟩
theorem Tryd.lays146 : Go.Proofs.Lays.n146 Tryd.prog Tryd.lays146_ren := {
 mixed := by kernel_rfl
 f138 := Tryd.func88.trans (congrArg some (by kernel_rfl))
 f143 := Tryd.func89.trans (congrArg some (by kernel_rfl))
 f146 := Tryd.func52.trans (congrArg some (by kernel_rfl))
 f195 := Tryd.func95.trans (congrArg some (by kernel_rfl))
 f197 := Tryd.func96.trans (congrArg some (by kernel_rfl))
 f217 := Tryd.func65.trans (congrArg some (by kernel_rfl))
 f218 := Tryd.func97.trans (congrArg some (by kernel_rfl))
 f219 := Tryd.func44.trans (congrArg some (by kernel_rfl))
 f221 := Tryd.func74.trans (congrArg some (by kernel_rfl))
 f224 := Tryd.func67.trans (congrArg some (by kernel_rfl))
 f225 := Tryd.func66.trans (congrArg some (by kernel_rfl))
 f260 := Tryd.func100.trans (congrArg some (by kernel_rfl))
 f266 := Tryd.func84.trans (congrArg some (by kernel_rfl))
 f267 := Tryd.func68.trans (congrArg some (by kernel_rfl))
 f268 := Tryd.func87.trans (congrArg some (by kernel_rfl))
 f314 := Tryd.func85.trans (congrArg some (by kernel_rfl))
 t0 := Tryd.underlying0
 a0 := Tryd.isAgg0
 z0 := Tryd.sizeOf0
 v0 := Tryd.zeroValue0
 t3 := Tryd.underlying3
 a3 := Tryd.isAgg3
 z3 := Tryd.sizeOf3
 v3 := Tryd.zeroValue3
 t4 := Tryd.underlying4
 a4 := Tryd.isAgg4
 z4 := Tryd.sizeOf4
 v4 := Tryd.zeroValue4
 t5 := Tryd.underlying5
 a5 := Tryd.isAgg5
 z5 := Tryd.sizeOf5
 v5 := Tryd.zeroValue5
 t9 := Tryd.underlying9
 a9 := Tryd.isAgg9
 z9 := Tryd.sizeOf9
 v9 := Tryd.zeroValue9
 t21 := Tryd.underlying21
 a21 := Tryd.isAgg21
 z21 := Tryd.sizeOf21
 v21 := Tryd.zeroValue21
 t31 := Tryd.underlying26
 a31 := Tryd.isAgg26
 z31 := Tryd.sizeOf26
 v31 := Tryd.zeroValue26
 t46 := Tryd.underlying87
 a46 := Tryd.isAgg87
 z46 := Tryd.sizeOf87
 v46 := Tryd.zeroValue87
 t51 := Tryd.underlying104
 a51 := Tryd.isAgg104
 z51 := Tryd.sizeOf104
 v51 := Tryd.zeroValue104
 t105 := Tryd.underlying113
 a105 := Tryd.isAgg113
 z105 := Tryd.sizeOf113
 v105 := Tryd.zeroValue113
 t119 := Tryd.underlying118
 a119 := Tryd.isAgg118
 z119 := Tryd.sizeOf118
 t138 := Tryd.underlying120
 a138 := Tryd.isAgg120
 z138 := Tryd.sizeOf120
 v138 := Tryd.zeroValue120
 t139 := Tryd.underlying121
 a139 := Tryd.isAgg121
 z139 := Tryd.sizeOf121
 v139 := Tryd.zeroValue121
 t146 := Tryd.underlying105
 a146 := Tryd.isAgg105
 z146 := Tryd.sizeOf105
 v146 := Tryd.zeroValue105
 g1 := by kernel_rfl
 g3 := by kernel_rfl
 g4 := by kernel_rfl }
open Go.RowKit Go.Lib in
theorem Tryd.strings_Split (s sep : ByteArray) (m : Int) (w : World) (hs : s.size < 4294967281) (hm : w.cell? ⟨0, 0, none⟩ = some (.int .i64 m)) (h1 : 1 ≤ sep.size) :
  Calls Tryd.prog 52 #[.string s, .string sep] w fun e w' =>
   e = .returned (.slice (some ⟨w.heap.size, 0, none⟩) (Lib.countB s sep + 1) (Lib.countB s sep + 1)) ∧ w' = w.alloc (.cells ((Lib.splitB sep 0 (Lib.countB s sep) s).map Value.string).toArray 9) := Any.strings_Split Tryd.lays146 (by kernel_rfl) s sep m w hs hm h1
def Tryd.lays152_ren : Go.Shelf.Ren := ⟨fun | 152 => 46 | 137 => 70 | 119 => 71 | 224 => 67 | 225 => 66 | 217 => 65 | 266 => 84 | n => n, fun | 9 => 9 | 21 => 21 | 3 => 3 | 4 => 4 | 5 => 5 | 0 => 0 | 46 => 87 | n => n, fun | n => n⟩
theorem Tryd.lays152 : Go.Proofs.Lays.n152 Tryd.prog Tryd.lays152_ren := {
 mixed := by kernel_rfl
 f119 := Tryd.func71.trans (congrArg some (by kernel_rfl))
 f137 := Tryd.func70.trans (congrArg some (by kernel_rfl))
 f152 := Tryd.func46.trans (congrArg some (by kernel_rfl))
 f217 := Tryd.func65.trans (congrArg some (by kernel_rfl))
 f224 := Tryd.func67.trans (congrArg some (by kernel_rfl))
 f225 := Tryd.func66.trans (congrArg some (by kernel_rfl))
 f266 := Tryd.func84.trans (congrArg some (by kernel_rfl))
 t0 := Tryd.underlying0
 a0 := Tryd.isAgg0
 z0 := Tryd.sizeOf0
 v0 := Tryd.zeroValue0
 t3 := Tryd.underlying3
 a3 := Tryd.isAgg3
 z3 := Tryd.sizeOf3
 v3 := Tryd.zeroValue3
 t4 := Tryd.underlying4
 a4 := Tryd.isAgg4
 z4 := Tryd.sizeOf4
 v4 := Tryd.zeroValue4
 t5 := Tryd.underlying5
 a5 := Tryd.isAgg5
 z5 := Tryd.sizeOf5
 v5 := Tryd.zeroValue5
 t9 := Tryd.underlying9
 a9 := Tryd.isAgg9
 z9 := Tryd.sizeOf9
 v9 := Tryd.zeroValue9
 t21 := Tryd.underlying21
 a21 := Tryd.isAgg21
 z21 := Tryd.sizeOf21
 v21 := Tryd.zeroValue21
 t46 := Tryd.underlying87
 a46 := Tryd.isAgg87
 z46 := Tryd.sizeOf87
 v46 := Tryd.zeroValue87 }
open Go.RowKit Go.Lib in
theorem Tryd.strings_IndexRune_ascii (s : ByteArray) (r : Int) (w : World) (h0 : 0 ≤ r) (h1 : r < 128) :
  Calls Tryd.prog 46 #[.string s, .int .i32 r] w fun e w' => e = .returned (.int .i64 (Lib.indexByte s.data.toList r.toNat.toUInt8)) ∧ w' = w := Any.strings_IndexRune_ascii Tryd.lays152 s r w h0 h1
def Tryd.lays226_ren : Go.Shelf.Ren := ⟨fun | 226 => 47 | n => n, fun | 3 => 3 | 4 => 4 | n => n, fun | n => n⟩
theorem Tryd.lays226 : Go.Proofs.Lays.n226 Tryd.prog Tryd.lays226_ren := {
 mixed := by kernel_rfl
 f226 := Tryd.func47.trans (congrArg some (by kernel_rfl))
 t3 := Tryd.underlying3
 a3 := Tryd.isAgg3
 z3 := Tryd.sizeOf3
 v3 := Tryd.zeroValue3
 t4 := Tryd.underlying4
 a4 := Tryd.isAgg4
 z4 := Tryd.sizeOf4
 v4 := Tryd.zeroValue4 }
open Go.RowKit Go.Lib in
theorem Tryd.strings_shouldUseASCIISet (n : Int) (w : World) :
  Calls Tryd.prog 47 #[.int .i64 n] w fun e w' => e = .returned (.bool (decide (8 < n))) ∧ w' = w := Any.strings_shouldUseASCIISet Tryd.lays226 n w
def Tryd.lays153_ren : Go.Shelf.Ren := ⟨fun | 153 => 27 | 152 => 46 | 226 => 47 | 227 => 48 | 228 => 49 | 137 => 70 | 119 => 71 | 224 => 67 | 225 => 66 | 217 => 65 | 266 => 84 | n => n, fun | 9 => 9 | 3 => 3 | 4 => 4 | 5 => 5 | 21 => 21 | 117 => 71 | 116 => 70 | 0 => 0 | 46 => 87 | 124 => 90 | n => n, fun | n => n⟩
theorem Tryd.lays153 : Go.Proofs.Lays.n153 Tryd.prog Tryd.lays153_ren := {
 mixed := by kernel_rfl
 f119 := Tryd.func71.trans (congrArg some (by kernel_rfl))
 f137 := Tryd.func70.trans (congrArg some (by kernel_rfl))
 f152 := Tryd.func46.trans (congrArg some (by kernel_rfl))
 f153 := Tryd.func27.trans (congrArg some (by kernel_rfl))
 f217 := Tryd.func65.trans (congrArg some (by kernel_rfl))
 f224 := Tryd.func67.trans (congrArg some (by kernel_rfl))
 f225 := Tryd.func66.trans (congrArg some (by kernel_rfl))
 f226 := Tryd.func47.trans (congrArg some (by kernel_rfl))
 f227 := Tryd.func48.trans (congrArg some (by kernel_rfl))
 f228 := Tryd.func49.trans (congrArg some (by kernel_rfl))
 f266 := Tryd.func84.trans (congrArg some (by kernel_rfl))
 t0 := Tryd.underlying0
 a0 := Tryd.isAgg0
 z0 := Tryd.sizeOf0
 v0 := Tryd.zeroValue0
 t3 := Tryd.underlying3
 a3 := Tryd.isAgg3
 z3 := Tryd.sizeOf3
 v3 := Tryd.zeroValue3
 t4 := Tryd.underlying4
 a4 := Tryd.isAgg4
 z4 := Tryd.sizeOf4
 v4 := Tryd.zeroValue4
 t5 := Tryd.underlying5
 a5 := Tryd.isAgg5
 z5 := Tryd.sizeOf5
 v5 := Tryd.zeroValue5
 t9 := Tryd.underlying9
 a9 := Tryd.isAgg9
 z9 := Tryd.sizeOf9
 v9 := Tryd.zeroValue9
 t21 := Tryd.underlying21
 a21 := Tryd.isAgg21
 z21 := Tryd.sizeOf21
 v21 := Tryd.zeroValue21
 t46 := Tryd.underlying87
 a46 := Tryd.isAgg87
 z46 := Tryd.sizeOf87
 v46 := Tryd.zeroValue87
 t116 := Tryd.underlying70
 a116 := Tryd.isAgg70
 z116 := Tryd.sizeOf70
 t117 := Tryd.underlying71
 a117 := Tryd.isAgg71
 z117 := Tryd.sizeOf71
 v117 := Tryd.zeroValue71
 t124 := Tryd.underlying90
 a124 := Tryd.isAgg90
 z124 := Tryd.sizeOf90
 v124 := Tryd.zeroValue90 }
open Go.RowKit Go.Lib in
theorem Tryd.strings_IndexAny_long (hv116 : ∀ w, (zeroValue 70).run Tryd.prog w = .ok (.agg (Array.replicate 256 (.bool false))) w) (s chars : ByteArray) (w : World) (h2 : 2 ≤ chars.size) (h8 : 8 < s.size) (hs : s.size < 4294967281) (hcs : chars.size < 4294967281) (hascii : ∀ (j : Nat) b, chars.data.toList[j]? = some b → b.toNat < 128) :
  Calls Tryd.prog 27 #[.string s, .string chars] w fun e w' => e = .returned (.int .i64 (Lib.indexAny s.data.toList chars.data.toList)) ∧ w' = ((w.alloc (.cells (Lib.setCells chars.data.toList) 70)).alloc (.cells (Lib.setCells chars.data.toList) 70)) := Any.strings_IndexAny_long Tryd.lays153 hv116 (by kernel_rfl) s chars w h2 h8 hs hcs hascii
open Go.RowKit Go.Lib in
theorem Tryd.strings_IndexAny (hv116 : ∀ w, (zeroValue 70).run Tryd.prog w = .ok (.agg (Array.replicate 256 (.bool false))) w) (s chars : ByteArray) (w : World) (hs : s.size < 4294967281) (hcs : chars.size < 4294967281) (has : ∀ (j : Nat) b, s.data.toList[j]? = some b → b.toNat < 128) (hac : ∀ (j : Nat) b, chars.data.toList[j]? = some b → b.toNat < 128) :
  Calls Tryd.prog 27 #[.string s, .string chars] w fun e w' => e = .returned (.int .i64 (Lib.indexAny s.data.toList chars.data.toList)) ∧ Below w.heap.size w w' := Any.strings_IndexAny Tryd.lays153 hv116 (by kernel_rfl) s chars w hs hcs has hac
def Tryd.laysNm216_ren : Go.Shelf.Ren := ⟨fun | 16 => 51 | n => n, fun | 24 => 26 | 9 => 9 | 4 => 4 | n => n, fun | n => n⟩
theorem Tryd.laysNm216 : Go.Proofs.Lays2.n16 Tryd.prog Tryd.laysNm216_ren := {
 mixed := by kernel_rfl
 f16 := Tryd.func51.trans (congrArg some (by kernel_rfl))
 t4 := Tryd.underlying4
 a4 := Tryd.isAgg4
 z4 := Tryd.sizeOf4
 v4 := Tryd.zeroValue4
 t9 := Tryd.underlying9
 a9 := Tryd.isAgg9
 z9 := Tryd.sizeOf9
 v9 := Tryd.zeroValue9
 t24 := Tryd.underlying26
 a24 := Tryd.isAgg26
 z24 := Tryd.sizeOf26
 v24 := Tryd.zeroValue26
 i9 := by kernel_rfl }
open Go.RowKit Go.Lib in
theorem Tryd.slices_Clone_string (b off n c : Nat) (zs : List ByteArray) (w : World) (hz : n ≤ zs.length) (hbig : n * 16 ≤ 140737488355328) (hc : ∀ j, j < zs.length → w.cell? ⟨b, off + j, none⟩ = some (.string (zs.getD j ByteArray.empty))) :
  Calls Tryd.prog 51 #[.slice (some ⟨b, off, none⟩) n c] w fun e w' => ∃ v', e = .returned v' ∧ w'.ownsRow w.heap.size 9 1 v' n ((zs.take n).map (Value.string)) ∧ v' ≠ .slice none 0 0 ∧ Below w.heap.size w w' := Any.slices_Clone_string Tryd.laysNm216 b off n c zs w hz hbig hc
open Go.RowKit Go.Lib in
theorem Tryd.slices_Clone_string_nil (n c : Nat) (w : World) :
  Calls Tryd.prog 51 #[.slice none n c] w fun e w' => e = .returned (.slice none 0 0) ∧ w' = w := Any.slices_Clone_string_nil Tryd.laysNm216 n c w
open Go.RowKit Go.Lib in
theorem Tryd.slices_Clone_string_zero (a : Addr) (c : Nat) (w : World) :
  Calls Tryd.prog 51 #[.slice (some a) 0 c] w fun e w' => ∃ v', e = .returned v' ∧ w'.ownsRow w.heap.size 9 1 v' 0 [] ∧ v' ≠ .slice none 0 0 ∧ Below w.heap.size w w' := Any.slices_Clone_string_zero Tryd.laysNm216 a c w
end Go.Proofs
end
section
namespace Go.Proofs.YtpomhjkbgbociaaDoor.B
open Go.RowKit Go.Proofs.YtpomhjkbgbociaaDoorW.PrintWords Go.Proofs.YtpomhjkbgbociaaDoorW.PrintLast Go.Proofs.YtpomhjkbgbociaaDoorW.PrintMore
set_option linter.unusedVariables false
set_option linter.unusedSimpArgs false
theorem w64 {n : Int} (h0 : -9223372036854775808 ≤ n) (h1 : n < 9223372036854775808) : wrap64 n = n := by
 unfold wrap64; omega
theorem tmod_nn {a b : Int} (h0 : 0 ≤ a) (h1 : 0 < b) : 0 ≤ Int.tmod a b ∧ Int.tmod a b < b :=
 ⟨Int.tmod_nonneg _ h0, Int.tmod_lt_of_pos _ h1⟩
theorem tdiv_nn {a b : Int} (h0 : 0 ≤ a) (h1 : 0 < b) : 0 ≤ Int.tdiv a b ∧ Int.tdiv a b ≤ a := by
 rw [Int.tdiv_eq_ediv_of_nonneg h0]
 exact ⟨Int.ediv_nonneg h0 (by omega), Int.ediv_le_self _ h0⟩
theorem xor_nn {a b : Int} (h0 : 0 ≤ a) (h1 : a < 2 ^ 62) (h2 : 0 ≤ b) (h3 : b < 2 ^ 62) :
  0 ≤ Go.bits .xor .i64 a b ∧ Go.bits .xor .i64 a b < 2 ^ 62 := by
 obtain ⟨x, rfl⟩ := Int.eq_ofNat_of_zero_le h0
 obtain ⟨y, rfl⟩ := Int.eq_ofNat_of_zero_le h2
 have hx : x < 2 ^ 62 := by exact_mod_cast h1
 have hy : y < 2 ^ 62 := by exact_mod_cast h3
 have hx' : x % 2 ^ IntKind.i64.bits = x := Nat.mod_eq_of_lt (Nat.lt_of_lt_of_le hx (by decide))
 have hy' : y % 2 ^ IntKind.i64.bits = y := Nat.mod_eq_of_lt (Nat.lt_of_lt_of_le hy (by decide))
 have hz : x ^^^ y < 2 ^ 62 := Nat.xor_lt_two_pow hx hy
 have e : Go.bits .xor .i64 (x : Int) (y : Int) = ((x ^^^ y : Nat) : Int) := by
  simp only [Go.bits, BitVec.ofInt_natCast, BitVec.toNat_xor, BitVec.toNat_ofNat, hx', hy']
  rw [IntKind.wrap_i64]
  have : ((x ^^^ y : Nat) : Int) < 2 ^ 62 := by exact_mod_cast hz
  omega
 rw [e]
 exact ⟨Int.natCast_nonneg _, by exact_mod_cast hz⟩
theorem rd_byte {b : List Int} (hb : ∀ x ∈ b, 0 ≤ x ∧ x ≤ 255) (i : Int) : 0 ≤ rd b i ∧ rd b i ≤ 255 := by
 unfold rd
 rw [List.getD_eq_getElem?_getD]
 cases h : b[i.toNat]? with
 | none => simp
 | some v => simpa using hb v (List.mem_of_getElem? h)
theorem wf_u8 {x : Int} (h : (Lit.int .u8 x).wf = true) : 0 ≤ x ∧ x ≤ 255 := by
 simp [Lit.wf, IntKind.min, IntKind.max, IntKind.signed, IntKind.bits] at h
 omega
abbrev L (s : ByteArray) : List UInt8 := s.data.toList
theorem L_size (s : ByteArray) : (L s).length = s.size := (Lib.size_eq s).symm
theorem L_app (a b : ByteArray) : L (a ++ b) = L a ++ L b := by simp [L]
theorem L_ext (s : ByteArray) (a b : Nat) : L (s.extract a b) = ((L s).drop a).take (b - a) := Lib.extract_data s a b
theorem L_inj {a b : ByteArray} (h : L a = L b) : a = b := by
 cases a; cases b; congr 1; exact Array.toList_inj.1 h
theorem toList_inj {a b : ByteArray} : a.toList = b.toList ↔ a = b := by
 rw [Lib.toList_data, Lib.toList_data]; exact ⟨fun h => L_inj h, fun h => by rw [h]⟩
theorem toList_nil {a : ByteArray} : a.toList = ([] : List UInt8) ↔ a.size = 0 := by
 rw [Lib.toList_data, Lib.size_eq]; exact List.length_eq_zero_iff.symm
theorem bt_L (s : ByteArray) (i : Nat) : bt s i = (((L s).getD i 0).toNat : Int) := by
 unfold bt
 simp only [Int.toNat_natCast]
 split
 ·rename_i h
  rw [List.getD_eq_getElem?_getD, List.getElem?_eq_getElem (by rw [L_size]; exact h)]
  simp [L]
  rfl
 ·rename_i h
  rw [List.getD_eq_getElem?_getD, List.getElem?_eq_none (by rw [L_size]; omega)]
  rfl
theorem Ev_succ {α : Type} {g : Nat → Option α} {r : α} (h : Ev (fun k => g (k + 1)) r) : Ev g r := Ev.step (f := fun k => g (k + 1)) (fun _ => rfl) h
end Go.Proofs.YtpomhjkbgbociaaDoor.B
end
section
namespace Go.Proofs.YtpomhjkbgbociaaDoor.Ad
open Go.RowKit Go.Proofs.YtpomhjkbgbociaaDoorW.PrintWords Go.Proofs.YtpomhjkbgbociaaDoor.B
set_option linter.unusedVariables false
set_option linter.unusedSimpArgs false
abbrev ofL (l : List UInt8) : ByteArray := ⟨l.toArray⟩
theorem L_of (l : List UInt8) : L (ofL l) = l := by simp [L]
theorem of_L (s : ByteArray) : ofL (L s) = s := by apply L_inj; simp [L]
theorem ofL_app (a b : List UInt8) : ofL (a ++ b) = ofL a ++ ofL b := by apply L_inj; rw [L_of, L_app, L_of, L_of]
theorem ofL_size (l : List UInt8) : (ofL l).size = l.length := by rw [← L_size, L_of]
def plainB (c : UInt8) : Bool := (decide (97 ≤ c.toNat) && decide (c.toNat ≤ 122)) || (decide (48 ≤ c.toNat) && decide (c.toNat ≤ 57)) || c.toNat == 46 || c.toNat == 45
def hexN (c : UInt8) : Option Nat :=
 if 48 ≤ c.toNat ∧ c.toNat ≤ 57 then some (c.toNat - 48) else if 97 ≤ c.toNat ∧ c.toNat ≤ 102 then some (c.toNat - 87) else if 65 ≤ c.toNat ∧ c.toNat ≤ 70 then some (c.toNat - 55) else none
theorem hexN_lt {c : UInt8} {x : Nat} (h : hexN c = some x) : x < 16 := by
 unfold hexN at h
 split at h
 ·injection h; omega
 ·split at h
  ·injection h; omega
  ·split at h
   ·injection h; omega
   ·cases h
def fig (n : Nat) : UInt8 := if n < 10 then UInt8.ofNat (48 + n) else UInt8.ofNat (55 + n)
def encN (n : Nat) : List UInt8 := if plainB (UInt8.ofNat n) then [UInt8.ofNat n] else [37, fig (n / 16), fig (n % 16)]
theorem encN_len (n : Nat) : (encN n).length ≤ 3 := by unfold encN; split <;> simp
def esc : List UInt8 → Option (List UInt8)
 | [] => some []
 | c :: r => if c = 37 then (match r with
   | a :: b :: q => (match hexN a, hexN b with
    | some x, some y => (esc q).map (encN (x * 16 + y) ++ ·)
    | _, _ => none)
   | _ => none) else (esc r).map (encN c.toNat ++ ·)
theorem esc_short {r : List UInt8} (h : r.length ≤ 1) : esc (37 :: r) = none := by
 match r, h with
 | [], _ => simp [esc]
 | [_], _ => simp [esc]
 | _ :: _ :: _, h => simp at h
theorem esc_bad1 {a : UInt8} (b : UInt8) (q : List UInt8) (h : hexN a = none) : esc (37 :: a :: b :: q) = none := by simp [esc, h]
theorem esc_bad2 (a : UInt8) {b : UInt8} (q : List UInt8) (h : hexN b = none) : esc (37 :: a :: b :: q) = none := by
 cases ha : hexN a <;> simp [esc, h, ha]
theorem esc_sign {a b : UInt8} {x y : Nat} (q : List UInt8) (ha : hexN a = some x) (hb : hexN b = some y) : esc (37 :: a :: b :: q) = (esc q).map (encN (x * 16 + y) ++ ·) := by simp [esc, ha, hb]
theorem esc_plain {c : UInt8} (r : List UInt8) (h : c ≠ 37) : esc (c :: r) = (esc r).map (encN c.toNat ++ ·) := by rw [esc.eq_def]; exact if_neg h
def escO (o : Option (List UInt8)) : ByteArray × Bool := match o with
 | some r => (ofL r, true)
 | none => (⟨#[]⟩, false)
def escNorm (s : ByteArray) : ByteArray × Bool := if s.size > 60 then (⟨#[]⟩, false) else escO (esc (L s))
def isNorm (s : ByteArray) : Bool := (escNorm s).2 && ((escNorm s).1.toList == s.toList)
theorem esc_len (n : Nat) : ∀ (l r : List UInt8), l.length ≤ n → esc l = some r → r.length ≤ 3 * l.length := by
 induction n with
 | zero =>
  intro l r hl h
  obtain rfl : l = [] := List.length_eq_zero_iff.1 (by omega)
  simp [esc] at h
  subst h
  simp
 | succ n ih =>
  intro l r hl h
  match l, hl, h with
  | [], _, h => simp [esc] at h; subst h; simp
  | c :: q, hl, h =>
   unfold esc at h
   split at h
   ·match q, hl, h with
    | a :: b :: q', hl, h =>
     simp only at h
     split at h
     ·obtain ⟨t, ht, rfl⟩ := Option.map_eq_some_iff.1 h
      have := ih q' t (by simp at hl; omega) ht
      exact Nat.le_trans (by rw [List.length_append]; exact Nat.add_le_add (encN_len _) this) (by simp only [List.length_cons]; omega)
     ·cases h
    | [], _, h => simp at h
    | [_], _, h => simp at h
   ·obtain ⟨t, ht, rfl⟩ := Option.map_eq_some_iff.1 h
    have := ih q t (by simp at hl; omega) ht
    exact Nat.le_trans (by rw [List.length_append]; exact Nat.add_le_add (encN_len _) this) (by simp only [List.length_cons]; omega)
theorem escNorm_size (s : ByteArray) : (escNorm s).1.size ≤ 180 := by
 unfold escNorm
 split
 ·exact Nat.zero_le _
 ·unfold escO
  split
  ·rename_i h1 _ r h
   have := esc_len _ _ _ (Nat.le_refl _) h
   rw [ofL_size]
   rw [L_size] at this
   omega
  ·exact Nat.zero_le _
def body : List ByteArray → ByteArray
 | [] => ⟨#[47]⟩
 | p :: r => r.foldl (fun a q => (a ++ ⟨#[47]⟩) ++ q) ((⟨#[47]⟩ : ByteArray) ++ p)
def pathB (parts : List ByteArray) (asks : Bool) (ask : ByteArray) : ByteArray := if asks = true then (body parts ++ ⟨#[63]⟩) ++ ask else body parts
def textB (house : ByteArray) (parts : List ByteArray) (asks : Bool) (ask : ByteArray) : ByteArray := ((⟨#[47, 47]⟩ : ByteArray) ++ house) ++ pathB parts asks ask
def partOk (p : ByteArray) : Bool := isNorm p && !(p.toList == []) && !(p.toList == [46]) && !(p.toList == [46, 46])
def smallFrom (s : ByteArray) : Nat → Nat → Bool
 | 0, _ => true
 | d + 1, i => if bt s i < 97 then false else if bt s i > 122 then false else smallFrom s d (i + 1)
def isSmall (s : ByteArray) : Bool := smallFrom s s.size 0
def isHouse (s : ByteArray) : Bool := decide (1 ≤ s.size) && decide (s.size ≤ 5) && isSmall s
def addrOk (house : ByteArray) (parts : List ByteArray) (asks : Bool) (ask : ByteArray) : Bool :=
 isHouse house && decide (parts.length ≤ 5) && isNorm ask && (asks || ask.toList == []) && parts.all partOk && decide ((textB house parts asks ask).size ≤ 60)
def addrText (house : ByteArray) (parts : List ByteArray) (asks : Bool) (ask : ByteArray) : ByteArray := if addrOk house parts asks ask = true then textB house parts asks ask else ⟨#[]⟩
theorem isNorm_size {s : ByteArray} (h : isNorm s = true) : s.size ≤ 60 := by
 unfold isNorm escNorm at h
 split at h
 ·simp at h
 ·omega
def sm (b : UInt8) : UInt8 := if 65 ≤ b.toNat ∧ b.toNat ≤ 90 then b + 32 else b
def smallB (s : ByteArray) : ByteArray := ofL ((L s).map sm)
end Go.Proofs.YtpomhjkbgbociaaDoor.Ad
end
section
namespace Go.Proofs.YtpomhjkbgbociaaDoor.P
open Go.RowKit Go.Proofs.YtpomhjkbgbociaaDoorW.PrintWords Go.Proofs.YtpomhjkbgbociaaDoorW.PrintLast Go.Proofs.YtpomhjkbgbociaaDoorW.PrintMore Go.Proofs.YtpomhjkbgbociaaDoor.B Go.Proofs.YtpomhjkbgbociaaDoor.Ad
set_option linter.unusedVariables false
set_option linter.unusedSimpArgs false
def stringslite_Index.f (a0 : ByteArray) (a1 : ByteArray) : Option (Int) := match L a1 with
 | [c] => some (Lib.indexByte (L a0) c)
 | _ => none
theorem one_of_L {a : ByteArray} {c : UInt8} (h : L a = [c]) : a = ⟨#[c]⟩ := L_inj (by rw [h])
theorem stringslite_Index.calls (a0 : ByteArray) (a1 : ByteArray) (r : Int) (w : World) (h : stringslite_Index.f a0 a1 = some r) :
  Calls Tryd.prog 44 #[.string a0, .string a1] w fun e w' => e = .returned (.int .i64 r) ∧ Below w.heap.size w w' := by
 unfold stringslite_Index.f at h
 split at h
 ·rename_i c hc
  obtain rfl := Option.some.inj h
  obtain rfl := one_of_L hc
  exact (Tryd.stringslite_Index_one a0 c w).mono fun e w' ⟨he, hw⟩ => ⟨he, hw ▸ Below.refl _ _⟩
 ·cases h
def strings_Count.f (a0 : ByteArray) (a1 : ByteArray) : Option (Int) := match L a1 with
 | [c] => some (Lib.countByte (L a0) c)
 | _ => none
theorem strings_Count.calls (a0 : ByteArray) (a1 : ByteArray) (r : Int) (w : World) (h : strings_Count.f a0 a1 = some r) :
  Calls Tryd.prog 88 #[.string a0, .string a1] w fun e w' => e = .returned (.int .i64 r) ∧ Below w.heap.size w w' := by
 unfold strings_Count.f at h
 split at h
 ·rename_i c hc
  obtain rfl := Option.some.inj h
  obtain rfl := one_of_L hc
  exact (Tryd.strings_Count_one a0 c w).mono fun e w' ⟨he, hw⟩ => ⟨he, hw ▸ Below.refl _ _⟩
 ·cases h
end Go.Proofs.YtpomhjkbgbociaaDoor.P
end
section
namespace Go.Proofs.YtpomhjkbgbociaaDoor.P
open Go.RowKit Go.Proofs.YtpomhjkbgbociaaDoorW.PrintWords Go.Proofs.YtpomhjkbgbociaaDoorW.PrintLast Go.Proofs.YtpomhjkbgbociaaDoorW.PrintMore
attribute [local go_sem] max2_int min2_int max_two min_two max_three min_three max_four min_four
set_option linter.unusedVariables false
set_option linter.unusedSimpArgs false
set_option maxHeartbeats 8000000
set_option maxRecDepth 100000
def stringslite_Cut.f (a0 : ByteArray) (a1 : ByteArray) : Option (ByteArray × ByteArray × Bool) := (stringslite_Index.f a0 a1).bind fun t435 => (if t435 ≥ 0 then (if 0 ≤ t435 then (if t435 ≤ (a0.size : Int) then (if 0 ≤ (wrap64 (t435 + (a1.size : Int))) then (if (wrap64 (t435 + (a1.size : Int))) ≤ (a0.size : Int) then (some (a0.extract 0 (t435 : Int).toNat, a0.extract ((wrap64 (t435 + (a1.size : Int))) : Int).toNat a0.size, true)) else (none)) else (none)) else (none)) else (none)) else (some (a0, (⟨#[]⟩ : ByteArray), false)))
theorem stringslite_Cut.calls (a0 : ByteArray) (a1 : ByteArray) (r1 : ByteArray) (r2 : ByteArray) (r3 : Bool) (w : World) (h : stringslite_Cut.f a0 a1 = some (r1, r2, r3)) :
  Calls Tryd.prog 25 #[.string a0, .string a1] w fun e w' => e = .returned (.tuple #[.string r1, .string r2, .bool r3]) ∧ Below w.heap.size w w' := by
 have HB := A_ (Below.refl w.heap.size w);unfold stringslite_Cut.f at h
 have H := h;clear h;replace H := bindA H;obtain ⟨t435, A3, H⟩ := H;have HF4 := A_ H;clear H;go_enter Tryd.func25, Tryd.ntmps25;go_upto_if 12 with (first | (go_at_call 44; (with_reducible refine (stringslite_Index.calls a0 a1 t435 _ A3.out).mono ?_); rintro e w5 ⟨rfl, hb⟩; replace HB := A_ (bS (zz2 HB) hb); (try clear hb)))
 repeat (go_quiet (first | (go_at_call 44; (with_reducible refine (stringslite_Index.calls a0 a1 t435 _ A3.out).mono ?_); rintro e w5 ⟨rfl, hb⟩; replace HB := A_ (bS (zz2 HB) hb); (try clear hb))); go_upto_if 12 with (first | (go_at_call 44; (with_reducible refine (stringslite_Index.calls a0 a1 t435 _ A3.out).mono ?_); rintro e w5 ⟨rfl, hb⟩; replace HB := A_ (bS (zz2 HB) hb); (try clear hb))))
 obtain ⟨H⟩ := HF4;replace H := iteEe H;rcases H with ⟨c6b0, H⟩ | ⟨c6b0, H⟩
 ·(first | rw [c6b0] | (simp only [i64_w, i32_w]; rw [c6b0]) | skip)
  replace H := iteN H;obtain ⟨c7, H⟩ := H;have c7b0 := eq_true c7;have c7b1 := dT c7;clear c7;replace H := iteN H;obtain ⟨c8, H⟩ := H;have c8b0 := eq_true c8;have c8b1 := dT c8;clear c8;obtain ⟨ji9, hji9⟩ : ∃ j_ : Int, (wrap64 (t435 + (a1.size : Int))) = j_ := ⟨_, rfl⟩;(first | rw [hji9] at H | simp only [hji9] at H)
  have hji9w : (IntKind.i64.wrap (t435 + (a1.size : Int))) = ji9 := (i64_w _).trans hji9;replace H := iteN H;obtain ⟨c10, H⟩ := H;have c10b0 := eq_true c10;have c10b1 := dT c10;clear c10;replace H := iteN H;obtain ⟨c11, H⟩ := H;have c11b0 := eq_true c11;have c11b1 := dT c11;clear c11;simp only [Option.some.injEq, Prod.mk.injEq] at H
  obtain ⟨rfl, rfl, rfl⟩ := H;go_wp2
  repeat (go_quiet (fail); try go_wp2)
  go_ret3
  exact ⟨zz12, (zz2 HB)⟩
 ·(first | rw [c6b0] | (simp only [i64_w, i32_w]; rw [c6b0]) | skip)
  simp only [Option.some.injEq, Prod.mk.injEq] at H
  obtain ⟨rfl, rfl, rfl⟩ := H;go_wp2
  repeat (go_quiet (fail); try go_wp2)
  go_ret3
  exact ⟨zz11, (zz2 HB)⟩
def strings_Cut.f (a0 : ByteArray) (a1 : ByteArray) : Option (ByteArray × ByteArray × Bool) := (stringslite_Cut.f a0 a1).bind fun bt436 => (some (bt436.1, bt436.2.1, bt436.2.2))
theorem strings_Cut.calls (a0 : ByteArray) (a1 : ByteArray) (r1 : ByteArray) (r2 : ByteArray) (r3 : Bool) (w : World) (h : strings_Cut.f a0 a1 = some (r1, r2, r3)) :
  Calls Tryd.prog 16 #[.string a0, .string a1] w fun e w' => e = .returned (.tuple #[.string r1, .string r2, .bool r3]) ∧ Below w.heap.size w w' := by
 have HB := A_ (Below.refl w.heap.size w);unfold strings_Cut.f at h
 have H := h;clear h;replace H := bindA H;obtain ⟨⟨t436, t437, t438⟩, A3, H⟩ := H;try dsimp only at H
 simp only [Option.some.injEq, Prod.mk.injEq] at H
 obtain ⟨rfl, rfl, rfl⟩ := H;go_enter Tryd.func16, Tryd.ntmps16;go_wp2_with (first | ((with_reducible refine gC (f := 25) rfl ?_); refine gsL (some 9) Tryd.func25 #[.string a0, .string a1] ?_; (with_reducible refine mR (stringslite_Cut.calls a0 a1 t436 t437 t438 _ A3.out) ?_); rintro w4 hb; replace HB := A_ (bS (zz2 HB) hb); (try clear hb)))
 go_ret3
 exact ⟨zz11, (zz2 HB)⟩
def stringslite_HasPrefix.f (a0 : ByteArray) (a1 : ByteArray) : Option (Bool) := if (a0.size : Int) ≥ (a1.size : Int) then (if 0 ≤ (a1.size : Int) then (if (a1.size : Int) ≤ (a0.size : Int) then (some ((a0.extract 0 ((a1.size : Int) : Int).toNat).toList == a1.toList)) else (none)) else (none)) else (some false)
theorem stringslite_HasPrefix.calls (a0 : ByteArray) (a1 : ByteArray) (r : Bool) (w : World) (h : stringslite_HasPrefix.f a0 a1 = some r) :
  Calls Tryd.prog 69 #[.string a0, .string a1] w fun e w' => e = .returned (.bool r) ∧ Drawn0 w w' := by
 unfold stringslite_HasPrefix.f at h
 have H := h;clear h;replace H := iteE H;rcases H with ⟨c3, H⟩ | ⟨c3, H⟩
 ·have c3b0 := geT c3
  have c3b1 : decide (a1.size ≤ a0.size) = true := dT (Int.ofNat_le.mp c3);clear c3;replace H := iteN H;obtain ⟨c4, H⟩ := H;have c4b0 := eq_true c4;have c4b1 := dT c4;clear c4;replace H := iteN H;obtain ⟨c5, H⟩ := H;have c5b0 := eq_true c5;have c5b1 := dT c5;clear c5;obtain rfl := sI H;go_enter Tryd.func69, Tryd.ntmps69;go_wp2
  go_ret
  exact ⟨zz5, zz19⟩
 ·have c3b0 := geF c3
  have c3b1 : decide (a1.size ≤ a0.size) = false := dF (fun h => c3 (Int.ofNat_le.mpr h));clear c3;obtain rfl := sI H;go_enter Tryd.func69, Tryd.ntmps69;go_wp2
  go_ret
  exact ⟨zz5, zz19⟩
def stringslite_CutPrefix.f (a0 : ByteArray) (a1 : ByteArray) : Option (ByteArray × Bool) := (stringslite_HasPrefix.f a0 a1).bind fun t439 => (if t439 = true then (if 0 ≤ (a1.size : Int) then (if (a1.size : Int) ≤ (a0.size : Int) then (some (a0.extract ((a1.size : Int) : Int).toNat a0.size, true)) else (none)) else (none)) else (some (a0, false)))
theorem stringslite_CutPrefix.calls (a0 : ByteArray) (a1 : ByteArray) (r1 : ByteArray) (r2 : Bool) (w : World) (h : stringslite_CutPrefix.f a0 a1 = some (r1, r2)) :
  Calls Tryd.prog 45 #[.string a0, .string a1] w fun e w' => e = .returned (.tuple #[.string r1, .bool r2]) ∧ Drawn0 w w' := by
 unfold stringslite_CutPrefix.f at h
 have H := h;clear h;replace H := bindA H;obtain ⟨t439, A3, H⟩ := H;have HF4 := A_ H;clear H;go_enter Tryd.func45, Tryd.ntmps45;go_upto_if 9 with (first | ((with_reducible refine gC (f := 69) rfl ?_); refine gsL (some 8) Tryd.func69 #[.string a0, .string a1] ?_; (with_reducible refine (stringslite_HasPrefix.calls a0 a1 t439 _ A3.out).mono ?_); rintro e w' ⟨rfl, ⟨nd, rfl⟩⟩; refine ⟨_, rfl, ?_⟩))
 obtain ⟨H⟩ := HF4;replace H := iteB H;rcases H with ⟨rfl, H⟩ | ⟨rfl, H⟩
 ·replace H := iteN H
  obtain ⟨c6, H⟩ := H;have c6b0 := eq_true c6;have c6b1 := dT c6;clear c6;replace H := iteN H;obtain ⟨c7, H⟩ := H;have c7b0 := eq_true c7;have c7b1 := dT c7;clear c7;simp only [Option.some.injEq, Prod.mk.injEq] at H
  obtain ⟨rfl, rfl⟩ := H;go_wp2
  go_ret2
  exact ⟨zz5, zz19⟩
 ·simp only [Option.some.injEq, Prod.mk.injEq] at H
  obtain ⟨rfl, rfl⟩ := H;go_wp2
  go_ret2
  exact ⟨zz5, zz19⟩
def strings_CutPrefix.f (a0 : ByteArray) (a1 : ByteArray) : Option (ByteArray × Bool) := (stringslite_CutPrefix.f a0 a1).bind fun bt440 => (some (bt440.1, bt440.2))
theorem strings_CutPrefix.calls (a0 : ByteArray) (a1 : ByteArray) (r1 : ByteArray) (r2 : Bool) (w : World) (h : strings_CutPrefix.f a0 a1 = some (r1, r2)) :
  Calls Tryd.prog 26 #[.string a0, .string a1] w fun e w' => e = .returned (.tuple #[.string r1, .bool r2]) ∧ Drawn0 w w' := by
 unfold strings_CutPrefix.f at h
 have H := h;clear h;replace H := bindA H;obtain ⟨⟨t440, t441⟩, A3, H⟩ := H;try dsimp only at H
 simp only [Option.some.injEq, Prod.mk.injEq] at H
 obtain ⟨rfl, rfl⟩ := H;go_enter Tryd.func26, Tryd.ntmps26;go_wp2_with (first | ((with_reducible refine gC (f := 45) rfl ?_); refine gsL (some 8) Tryd.func45 #[.string a0, .string a1] ?_; (with_reducible refine (stringslite_CutPrefix.calls a0 a1 t440 t441 _ A3.out).mono ?_); rintro e w' ⟨rfl, ⟨nd, rfl⟩⟩; refine ⟨_, rfl, ?_⟩))
 go_ret2
 exact ⟨zz5, zz19⟩
end Go.Proofs.YtpomhjkbgbociaaDoor.P
end
section
namespace Go.Proofs.YtpomhjkbgbociaaDoor.P
open Go.RowKit Go.Proofs.YtpomhjkbgbociaaDoorW.PrintWords Go.Proofs.YtpomhjkbgbociaaDoorW.PrintLast Go.Proofs.YtpomhjkbgbociaaDoorW.PrintMore
set_option linter.unusedVariables false
set_option linter.unusedSimpArgs false
def hexS : ByteArray := ⟨#[48, 49, 50, 51, 52, 53, 54, 55, 56, 57, 65, 66, 67, 68, 69, 70]⟩
def figAt (k : Nat) : Nat := if k < 10 then 48 + k else 55 + k
def figI (b : Int) : Int × Bool := if 48 ≤ b ∧ b ≤ 57 then (b - 48, true) else if 65 ≤ b ∧ b ≤ 70 then (b - 55, true) else (0, false)
def impl_figureValue.f (a0 : Int) : Option (Int × Bool) := if 0 ≤ a0 ∧ a0 < 256 then some (figI (if 97 ≤ a0 ∧ a0 ≤ 102 then a0 - 32 else a0)) else none
theorem hex_at : ∀ k : Nat, k < 16 → hexS.size = 16 ∧ ∃ h : k < hexS.size, (hexS[k]'h).toNat = figAt k := by decide +kernel
theorem fig_hit {k : Nat} {b : Int} (hk : k < 16) (h : (figAt k : Int) = b) : figI b = ((k : Int), true) := by
 unfold figAt at h; unfold figI
 split at h
 ·rw [if_pos (by omega)]; congr 1; omega
 ·rw [if_neg (by omega), if_pos (by omega)]; congr 1; omega
theorem fig_miss {b : Int} (h : ∀ j : Nat, j < 16 → (figAt j : Int) ≠ b) : figI b = (0, false) := by
 unfold figI
 split
 ·rename_i hh
  exact absurd (by unfold figAt; rw [if_pos (by omega)]; omega) (h (b - 48).toNat (by omega))
 ·split
  ·rename_i hh
   exact absurd (by unfold figAt; rw [if_neg (by omega)]; omega) (h (b - 55).toNat (by omega))
  ·rfl
set_option maxHeartbeats 1000000 in
set_option maxRecDepth 1000000 in
theorem impl_figureValue.calls (a0 : Int) (r0 : Int) (r1 : Bool) (w : World) (h : impl_figureValue.f a0 = some (r0, r1)) :
  Calls Tryd.prog 86 #[.int .u8 a0] w fun e w' => e = .returned (.tuple #[.int .i64 r0, .bool r1]) ∧ Below w.heap.size w w' := by
 unfold impl_figureValue.f at h
 split at h
 case isFalse => cases h
 rename_i hh
 have h := Option.some.inj h
 obtain ⟨b, hb⟩ : ∃ b, b = (if 97 ≤ a0 ∧ a0 ≤ 102 then a0 - 32 else a0) := ⟨_, rfl⟩
 rw [← hb] at h
 by_cases h1 : 97 ≤ a0
 ·by_cases h2 : a0 ≤ 102
  ·rw [if_pos ⟨h1, h2⟩] at hb
   go_enter Tryd.func86, Tryd.ntmps86
   go_wp2
   go_loopw [4] (fun n w' => ∃ k : Nat, k ≤ 16 ∧ w' = w.iter hexS k ∧ ∀ j : Nat, j < k → (figAt j : Int) ≠ (a0 - 32)) (fun _ w' => 16 - w'.iterPos w.heap.size)
   case atStart => exact ⟨0, by omega, rfl, fun j hj => absurd hj (by omega)⟩
   case round =>
    obtain ⟨k, hk, rfl, hne⟩ := hrel
    have hbel : ∀ p, Below w.heap.size w (w.iter hexS p) := fun p => (Below.refl _ _).alloc (Nat.le_refl _) _
    by_cases hlt : k < 16
    ·obtain ⟨hsz, hx, hf⟩ := hex_at k hlt
     have hnx : ∀ ty, (Instr.next (.pointer (some ⟨w.heap.size, 0, none⟩)) true ty).run Tryd.prog (w.iter hexS k) = .ok (.tuple #[.bool true, .int .i64 k, .int .i32 (figAt k : Nat)]) (w.iter hexS (k + 1)) := fun ty => by
      have hfl : figAt k < 128 := by unfold figAt; split <;> omega
      rw [← hf]
      exact run_next_ascii w hexS k ty hx (by rw [hf]; exact hfl)
     by_cases he : (figAt k : Int) = (a0 - 32)
     ·have hr := fig_hit hlt he
      rw [← hb, h, Prod.mk.injEq] at hr
      obtain ⟨rfl, rfl⟩ := hr
      go_wp2
      go_ret2
      exact ⟨rfl, hbel _⟩
     ·go_wp2
      refine ⟨⟨k + 1, by omega, rfl, fun j hj => ?_⟩, by simp; omega⟩
      by_cases e : j = k
      ·subst e; exact he
      ·exact hne j (by omega)
    ·obtain rfl : k = 16 := by omega
     have hr := fig_miss hne
     rw [← hb, h, Prod.mk.injEq] at hr
     obtain ⟨rfl, rfl⟩ := hr
     have hnx : ∀ ty, (Instr.next (.pointer (some ⟨w.heap.size, 0, none⟩)) true ty).run Tryd.prog (w.iter hexS 16) = _ := fun ty => run_next_end w hexS 16 ty (by decide)
     go_wp2
     go_ret2
     exact ⟨rfl, hbel _⟩
  ·rw [if_neg (fun e => h2 e.2)] at hb
   go_enter Tryd.func86, Tryd.ntmps86
   go_wp2
   go_loopw [4] (fun n w' => ∃ k : Nat, k ≤ 16 ∧ w' = w.iter hexS k ∧ ∀ j : Nat, j < k → (figAt j : Int) ≠ a0) (fun _ w' => 16 - w'.iterPos w.heap.size)
   case atStart => exact ⟨0, by omega, rfl, fun j hj => absurd hj (by omega)⟩
   case round =>
    obtain ⟨k, hk, rfl, hne⟩ := hrel
    have hbel : ∀ p, Below w.heap.size w (w.iter hexS p) := fun p => (Below.refl _ _).alloc (Nat.le_refl _) _
    by_cases hlt : k < 16
    ·obtain ⟨hsz, hx, hf⟩ := hex_at k hlt
     have hnx : ∀ ty, (Instr.next (.pointer (some ⟨w.heap.size, 0, none⟩)) true ty).run Tryd.prog (w.iter hexS k) = .ok (.tuple #[.bool true, .int .i64 k, .int .i32 (figAt k : Nat)]) (w.iter hexS (k + 1)) := fun ty => by
      have hfl : figAt k < 128 := by unfold figAt; split <;> omega
      rw [← hf]
      exact run_next_ascii w hexS k ty hx (by rw [hf]; exact hfl)
     by_cases he : (figAt k : Int) = a0
     ·have hr := fig_hit hlt he
      rw [← hb, h, Prod.mk.injEq] at hr
      obtain ⟨rfl, rfl⟩ := hr
      go_wp2
      go_ret2
      exact ⟨rfl, hbel _⟩
     ·go_wp2
      refine ⟨⟨k + 1, by omega, rfl, fun j hj => ?_⟩, by simp; omega⟩
      by_cases e : j = k
      ·subst e; exact he
      ·exact hne j (by omega)
    ·obtain rfl : k = 16 := by omega
     have hr := fig_miss hne
     rw [← hb, h, Prod.mk.injEq] at hr
     obtain ⟨rfl, rfl⟩ := hr
     have hnx : ∀ ty, (Instr.next (.pointer (some ⟨w.heap.size, 0, none⟩)) true ty).run Tryd.prog (w.iter hexS 16) = _ := fun ty => run_next_end w hexS 16 ty (by decide)
     go_wp2
     go_ret2
     exact ⟨rfl, hbel _⟩
 ·rw [if_neg (fun e => h1 e.1)] at hb
  go_enter Tryd.func86, Tryd.ntmps86
  go_wp2
  go_loopw [4] (fun n w' => ∃ k : Nat, k ≤ 16 ∧ w' = w.iter hexS k ∧ ∀ j : Nat, j < k → (figAt j : Int) ≠ a0) (fun _ w' => 16 - w'.iterPos w.heap.size)
  case atStart => exact ⟨0, by omega, rfl, fun j hj => absurd hj (by omega)⟩
  case round =>
   obtain ⟨k, hk, rfl, hne⟩ := hrel
   have hbel : ∀ p, Below w.heap.size w (w.iter hexS p) := fun p => (Below.refl _ _).alloc (Nat.le_refl _) _
   by_cases hlt : k < 16
   ·obtain ⟨hsz, hx, hf⟩ := hex_at k hlt
    have hnx : ∀ ty, (Instr.next (.pointer (some ⟨w.heap.size, 0, none⟩)) true ty).run Tryd.prog (w.iter hexS k) = .ok (.tuple #[.bool true, .int .i64 k, .int .i32 (figAt k : Nat)]) (w.iter hexS (k + 1)) := fun ty => by
     have hfl : figAt k < 128 := by unfold figAt; split <;> omega
     rw [← hf]
     exact run_next_ascii w hexS k ty hx (by rw [hf]; exact hfl)
    by_cases he : (figAt k : Int) = a0
    ·have hr := fig_hit hlt he
     rw [← hb, h, Prod.mk.injEq] at hr
     obtain ⟨rfl, rfl⟩ := hr
     go_wp2
     go_ret2
     exact ⟨rfl, hbel _⟩
    ·go_wp2
     refine ⟨⟨k + 1, by omega, rfl, fun j hj => ?_⟩, by simp; omega⟩
     by_cases e : j = k
     ·subst e; exact he
     ·exact hne j (by omega)
   ·obtain rfl : k = 16 := by omega
    have hr := fig_miss hne
    rw [← hb, h, Prod.mk.injEq] at hr
    obtain ⟨rfl, rfl⟩ := hr
    have hnx : ∀ ty, (Instr.next (.pointer (some ⟨w.heap.size, 0, none⟩)) true ty).run Tryd.prog (w.iter hexS 16) = _ := fun ty => run_next_end w hexS 16 ty (by decide)
    go_wp2
    go_ret2
    exact ⟨rfl, hbel _⟩
end Go.Proofs.YtpomhjkbgbociaaDoor.P
end
section
namespace Go.Proofs.YtpomhjkbgbociaaDoor.P
open Go.RowKit Go.Proofs.YtpomhjkbgbociaaDoorW.PrintWords Go.Proofs.YtpomhjkbgbociaaDoorW.PrintLast Go.Proofs.YtpomhjkbgbociaaDoorW.PrintMore
attribute [local go_sem] max2_int min2_int max_two min_two max_three min_three max_four min_four
set_option linter.unusedVariables false
set_option linter.unusedSimpArgs false
set_option maxHeartbeats 8000000
set_option maxRecDepth 100000
def impl_signByte.f (a0 : ByteArray) (a1 : Int) : Option (Int × Bool) := if (wrap64 ((a0.size : Int) - a1)) < 3 then (some (0, false)) else (if 0 ≤ (wrap64 (a1 + 1)) then (if (wrap64 (a1 + 1)) < (a0.size : Int) then ((impl_figureValue.f (bt a0 (wrap64 (a1 + 1)))).bind fun bt447 => (if 0 ≤ (wrap64 (a1 + 2)) then (if (wrap64 (a1 + 2)) < (a0.size : Int) then ((impl_figureValue.f (bt a0 (wrap64 (a1 + 2)))).bind fun bt449 => (if bt447.2 = true then (if bt449.2 = true then (some ((wrap64 ((wrap64 (bt447.1 * 16)) + bt449.1)) % 256, true)) else (some (0, false))) else (some (0, false)))) else (none)) else (none))) else (none)) else (none))
theorem impl_signByte.calls (a0 : ByteArray) (a1 : Int) (r1 : Int) (r2 : Bool) (w : World) (h : impl_signByte.f a0 a1 = some (r1, r2)) :
  Calls Tryd.prog 72 #[.string a0, .int .i64 a1] w fun e w' => e = .returned (.tuple #[.int .u8 r1, .bool r2]) ∧ Below w.heap.size w w' := by
 have HB := A_ (Below.refl w.heap.size w);unfold impl_signByte.f at h
 have H := h;clear h;replace H := iteEd H;rcases H with ⟨c3b0, H⟩ | ⟨c3b0, H⟩
 ·simp only [Option.some.injEq, Prod.mk.injEq] at H
  obtain ⟨rfl, rfl⟩ := H;go_enter Tryd.func72, Tryd.ntmps72;go_wp2
  go_ret2
  exact ⟨zz11, (zz2 HB)⟩
 ·obtain ⟨ji4, hji4⟩ : ∃ j_ : Int, (wrap64 (a1 + 1)) = j_ := ⟨_, rfl⟩
  (first | rw [hji4] at H | simp only [hji4] at H)
  have hji4w : (IntKind.i64.wrap (a1 + 1)) = ji4 := (i64_w _).trans hji4;replace H := iteE H;rcases H with ⟨c5, H⟩ | ⟨c5, H⟩
  ·have c5b0 := dT c5
   clear c5;replace H := iteNd H;obtain ⟨c6b0, H⟩ := H;replace H := bindA H;obtain ⟨⟨t447, t448⟩, A8, H⟩ := H;try dsimp only at H
   obtain ⟨ji9, hji9⟩ : ∃ j_ : Int, (wrap64 (a1 + 2)) = j_ := ⟨_, rfl⟩;(first | rw [hji9] at H | simp only [hji9] at H)
   (try rw [hji9] at A8)
   have hji9w : (IntKind.i64.wrap (a1 + 2)) = ji9 := (i64_w _).trans hji9;replace H := iteNd H;obtain ⟨c10b0, H⟩ := H;replace H := iteNd H;obtain ⟨c11b0, H⟩ := H;replace H := bindA H;obtain ⟨⟨t449, t450⟩, A13, H⟩ := H;try dsimp only at H
   have HF14 := A_ H;clear H;have p7 : 0 ≤ ((ji4) : Int) := ofD;have q7 : (ji4) < (a0.size : Int) := ofD;have hx7 := bt_at a0 (ji4);replace p7 := eq_true p7;replace q7 := eq_true q7;go_enter Tryd.func72, Tryd.ntmps72;go_wp2_with (first | ((with_reducible refine gC (f := 86) rfl ?_); refine goesL_ (some 20) rfl rfl Tryd.func86 (by kernel_rfl) rfl #[.int .u8 (bt a0 (ji4))] rfl (by (try simp only [List.map_toArray, List.map_cons, List.map_nil]); first | done | (simp only [hji4]; rfl) | rfl | (simp only [List.length_drop, List.length_take]; rfl)) ?_; (with_reducible refine mR (impl_figureValue.calls (bt a0 (ji4)) t447 t448 _ A8.out) ?_); rintro w15 hb; replace HB := A_ (bS (zz2 HB) hb); (try clear hb); have p12 : 0 ≤ ((ji9) : Int) := ofD; have q12 : (ji9) < (a0.size : Int) := ofD; have hx12 := bt_at a0 (ji9); replace p12 := eq_true p12; replace q12 := eq_true q12) | ((with_reducible refine gC (f := 86) rfl ?_); refine goesL_ (some 28) rfl rfl Tryd.func86 (by kernel_rfl) rfl #[.int .u8 (bt a0 (ji9))] rfl (by (try simp only [List.map_toArray, List.map_cons, List.map_nil]); first | done | (simp only [hji9]; rfl) | rfl | (simp only [List.length_drop, List.length_take]; rfl)) ?_; (with_reducible refine mR (impl_figureValue.calls (bt a0 (ji9)) t449 t450 _ A13.out) ?_); rintro w16 hb; replace HB := A_ (bS (zz2 HB) hb); (try clear hb)) | ((with_reducible refine atG ?_ ?_ fun K_ hK_ => ?_); rfl; exact undecG) | ((with_reducible refine atI ?_ fun K_ hK_ => ?_); exact undecI))
   refine unG hK_ ?_; clear hK_ K_;obtain ⟨H⟩ := HF14;replace H := iteB H;rcases H with ⟨rfl, H⟩ | ⟨rfl, H⟩
   ·(first | refine iteT ?_ | refine iteF ?_ | skip)
    replace H := iteB H;rcases H with ⟨rfl, H⟩ | ⟨rfl, H⟩
    ·simp only [Option.some.injEq, Prod.mk.injEq] at H
     obtain ⟨rfl, rfl⟩ := H;go_wp2
     go_ret2
     exact ⟨zz148, (zz2 HB)⟩
    ·simp only [Option.some.injEq, Prod.mk.injEq] at H
     obtain ⟨rfl, rfl⟩ := H;go_wp2
     go_ret2
     exact ⟨zz148, (zz2 HB)⟩
   ·(first | refine iteT ?_ | refine iteF ?_ | skip)
    simp only [Option.some.injEq, Prod.mk.injEq] at H
    obtain ⟨rfl, rfl⟩ := H;(try ((with_reducible refine upS ?_); go_simp))
    go_wp2
    go_ret2
    exact ⟨zz148, (zz2 HB)⟩
  ·exact absurd H (by simp)
def impl_standsForItself.f (a0 : Int) : Option (Bool) := if a0 ≥ 97 then (if a0 ≤ 122 then (some true) else (if a0 ≥ 48 then (if a0 ≤ 57 then (some true) else (if a0 = 46 then (some true) else (some (a0 == 45)))) else (if a0 = 46 then (some true) else (some (a0 == 45))))) else (if a0 ≥ 48 then (if a0 ≤ 57 then (some true) else (if a0 = 46 then (some true) else (some (a0 == 45)))) else (if a0 = 46 then (some true) else (some (a0 == 45))))
theorem impl_standsForItself.calls (a0 : Int) (r : Bool) (w : World) (h : impl_standsForItself.f a0 = some r) :
  Calls Tryd.prog 73 #[.int .u8 a0] w fun e w' => e = .returned (.bool r) ∧ Drawn0 w w' := by
 unfold impl_standsForItself.f at h
 have H := h;clear h;replace H := iteEe H;rcases H with ⟨c2b0, H⟩ | ⟨c2b0, H⟩
 ·replace H := iteEd H
  rcases H with ⟨c3b0, H⟩ | ⟨c3b0, H⟩
  ·obtain rfl := sI H
   go_enter Tryd.func73, Tryd.ntmps73;go_wp2
   go_ret
   exact ⟨zz5, zz19⟩
  ·replace H := iteEe H
   rcases H with ⟨c4b0, H⟩ | ⟨c4b0, H⟩
   ·replace H := iteEd H
    rcases H with ⟨c5b0, H⟩ | ⟨c5b0, H⟩
    ·obtain rfl := sI H
     go_enter Tryd.func73, Tryd.ntmps73;go_wp2
     go_ret
     exact ⟨zz5, zz19⟩
    ·replace H := iteEq H
     rcases H with ⟨c6b0, c6b1, H⟩ | ⟨c6b0, c6b1, c6, H⟩
     ·obtain rfl := sI H
      go_enter Tryd.func73, Tryd.ntmps73;go_wp2
      go_ret
      exact ⟨zz5, zz19⟩
     ·obtain rfl := sI H
      go_enter Tryd.func73, Tryd.ntmps73;go_wp2
      go_ret
      exact ⟨zz5, zz19⟩
   ·replace H := iteEq H
    rcases H with ⟨c7b0, c7b1, H⟩ | ⟨c7b0, c7b1, c7, H⟩
    ·obtain rfl := sI H
     go_enter Tryd.func73, Tryd.ntmps73;go_wp2
     go_ret
     exact ⟨zz5, zz19⟩
    ·obtain rfl := sI H
     go_enter Tryd.func73, Tryd.ntmps73;go_wp2
     go_ret
     exact ⟨zz5, zz19⟩
 ·replace H := iteEe H
  rcases H with ⟨c8b0, H⟩ | ⟨c8b0, H⟩
  ·replace H := iteEd H
   rcases H with ⟨c9b0, H⟩ | ⟨c9b0, H⟩
   ·obtain rfl := sI H
    go_enter Tryd.func73, Tryd.ntmps73;go_wp2
    go_ret
    exact ⟨zz5, zz19⟩
   ·replace H := iteEq H
    rcases H with ⟨c10b0, c10b1, H⟩ | ⟨c10b0, c10b1, c10, H⟩
    ·obtain rfl := sI H
     go_enter Tryd.func73, Tryd.ntmps73;go_wp2
     go_ret
     exact ⟨zz5, zz19⟩
    ·obtain rfl := sI H
     go_enter Tryd.func73, Tryd.ntmps73;go_wp2
     go_ret
     exact ⟨zz5, zz19⟩
  ·replace H := iteEq H
   rcases H with ⟨c11b0, c11b1, H⟩ | ⟨c11b0, c11b1, c11, H⟩
   ·obtain rfl := sI H
    go_enter Tryd.func73, Tryd.ntmps73;go_wp2
    go_ret
    exact ⟨zz5, zz19⟩
   ·obtain rfl := sI H
    go_enter Tryd.func73, Tryd.ntmps73;go_wp2
    go_ret
    exact ⟨zz5, zz19⟩
def impl_EscNorm.l0 : Nat → ByteArray → List Int → Int → Option (ByteArray × Bool)
 | 0, _, _, _ => none
 | k + 1, x0, x4, x5 => if x5 < (x0.size : Int) then (if 0 ≤ x5 then (if (bt x0 x5) = 37 then ((impl_signByte.f x0 x5).bind fun bt451 => (if bt451.2 = true then ((impl_standsForItself.f bt451.1).bind fun t453 => (if t453 = true then (if x4.length < 140737488355328 then (impl_EscNorm.l0 k x0 (x4 ++ [bt451.1]) (wrap64 ((wrap64 (x5 + 2)) + 1))) else (none)) else (if 0 ≤ (bt451.1 / 16) then (if (bt451.1 / 16) < 16 then (if 0 ≤ (Go.bits .and .u8 bt451.1 15) then (if (Go.bits .and .u8 bt451.1 15) < 16 then ((some (([37, bt (⟨#[48, 49, 50, 51, 52, 53, 54, 55, 56, 57, 65, 66, 67, 68, 69, 70]⟩ : ByteArray) (bt451.1 / 16), bt (⟨#[48, 49, 50, 51, 52, 53, 54, 55, 56, 57, 65, 66, 67, 68, 69, 70]⟩ : ByteArray) (Go.bits .and .u8 bt451.1 15)] : List Int) : List Int)).bind fun y457 => (if x4.length + y457.length < 140737488355328 then (impl_EscNorm.l0 k x0 (x4 ++ y457) (wrap64 ((wrap64 (x5 + 2)) + 1))) else (none))) else (none)) else (none)) else (none)) else (none)))) else (some ((⟨#[]⟩ : ByteArray), false)))) else ((impl_standsForItself.f (bt x0 x5)).bind fun t463 => (if t463 = true then (if x4.length < 140737488355328 then (impl_EscNorm.l0 k x0 (x4 ++ [bt x0 x5]) (wrap64 (x5 + 1))) else (none)) else (if 0 ≤ ((bt x0 x5) / 16) then (if ((bt x0 x5) / 16) < 16 then (if 0 ≤ (Go.bits .and .u8 (bt x0 x5) 15) then (if (Go.bits .and .u8 (bt x0 x5) 15) < 16 then ((some (([37, bt (⟨#[48, 49, 50, 51, 52, 53, 54, 55, 56, 57, 65, 66, 67, 68, 69, 70]⟩ : ByteArray) ((bt x0 x5) / 16), bt (⟨#[48, 49, 50, 51, 52, 53, 54, 55, 56, 57, 65, 66, 67, 68, 69, 70]⟩ : ByteArray) (Go.bits .and .u8 (bt x0 x5) 15)] : List Int) : List Int)).bind fun y467 => (if x4.length + y467.length < 140737488355328 then (impl_EscNorm.l0 k x0 (x4 ++ y467) (wrap64 (x5 + 1))) else (none))) else (none)) else (none)) else (none)) else (none))))) else (none)) else (some (strOfNums x4, true))
def impl_EscNorm.f (k : Nat) (a0 : ByteArray) : Option (ByteArray × Bool) := if (a0.size : Int) > 60 then (some ((⟨#[]⟩ : ByteArray), false)) else (impl_EscNorm.l0 k a0 ([] : List Int) 0)
theorem impl_EscNorm.mono_l : ∀ k, (∀ y0 y1 y2, LeO (impl_EscNorm.l0 k y0 y1 y2) (impl_EscNorm.l0 (k + 1) y0 y1 y2))
 | 0 => by intros; intro r h; simp [impl_EscNorm.l0] at h
 | k + 1 => by
  have ih0 := impl_EscNorm.mono_l k; intros; unfold impl_EscNorm.l0;repeat' first | (with_reducible first | exact ih0 _ _ _ | exact LeO.refl _ | exact LeO.none _ | refine LeO.ite ?_ ?_ | refine LeO.bind ?_ (fun _ => ?_)) | exact LeO.none _ | refine LeO.ite ?_ ?_ | refine LeO.bind ?_ (fun _ => ?_)
def impl_EscNorm.T16 : Bool × List (List Nat × List Nat) := (true, [([], []), ([], []), ([1], [1]), ([2], [2]), ([], []), ([4], [4]), ([5], [5]), ([3, 6], [3, 6]), ([0, 7], [0, 7]), ([8, 8, 0, 1, 2, 3, 4, 5, 6, 7, 8], [0, 8])])
def impl_EscNorm.B16 : List Nat := [0, 0, 2, 6, 0, 16, 48, 126, 255, 511]
theorem impl_EscNorm.tab16 : rtab .any (opsOf Tryd.f50 16) = impl_EscNorm.T16 := by kernel_rfl
theorem impl_EscNorm.bits16 : waitsOk impl_EscNorm.T16.2 impl_EscNorm.B16 = true := by kernel_rfl
theorem impl_EscNorm.calls (k : Nat) (a0 : ByteArray) (r1 : ByteArray) (r2 : Bool) (w : World) (h : impl_EscNorm.f k a0 = some (r1, r2)) :
  Calls Tryd.prog 50 #[.string a0] w fun e w' => e = .returned (.tuple #[.string r1, .bool r2]) ∧ Below w.heap.size w w' := by
 have HB := A_ (Below.refl w.heap.size w);unfold impl_EscNorm.f at h
 have H := h;clear h;replace H := iteE H;rcases H with ⟨c2, H⟩ | ⟨c2, H⟩
 ·have c2b0 := gtT c2
  have c2b1 : decide (60 < a0.size) = true := dT (by omega);clear c2;simp only [Option.some.injEq, Prod.mk.injEq] at H
  obtain ⟨rfl, rfl⟩ := H;go_enter Tryd.func50, Tryd.ntmps50;go_wp2
  go_ret2
  exact ⟨zz11, (zz2 HB)⟩
 ·have c2b0 := gtF c2
  have c2b1 : decide (60 < a0.size) = false := dF (by omega);clear c2;have H' := A_ H;clear H;go_enter Tryd.func50, Tryd.ntmps50;go_wp2
  go_loopg [4, 5] k (fun kq v4 v5 w' => ∃ (x4_1 : List Int) (x5_1 : Int), v5 = .int .i64 x5_1 ∧ Aside0 (impl_EscNorm.l0 kq a0 x4_1 x5_1 = some (r1, r2)) ∧ Aside0 (kq ≤ k) ∧ Aside0 (Kd.R (Kd.int .u8) 5 w' w.heap.size (fun _ => True) v4 x4_1) ∧ Aside0 (Below w.heap.size w w'))
  case atStart => exact ⟨(([] : List Int)), (0), zz5, H', ⟨Nat.le_refl _⟩, ⟨zz72⟩, ⟨(zz2 HB)⟩⟩
  case round =>
   clear H';obtain ⟨x4_1, x5_1, rfl, HA, HK1, HO_4, HB⟩ := hrel;cases gk with
   | zero => exact absurd HA.out (by simp [impl_EscNorm.l0])
   | succ k1 =>
    obtain ⟨H⟩ := HA;simp only [impl_EscNorm.l0] at H
    replace H := iteEd H;rcases H with ⟨c3b0, H⟩ | ⟨c3b0, H⟩
    ·replace H := iteNd H
     obtain ⟨c4b0, H⟩ := H;replace H := iteEq H;rcases H with ⟨c6b0, c6b1, H⟩ | ⟨c6b0, c6b1, c6, H⟩
     ·replace H := Option.bind_eq_some_iff.mp H
      obtain ⟨⟨t451, t452⟩, A70, H⟩ := H;replace H : (if t452 = true then ((impl_standsForItself.f t451).bind fun t453 => (if t453 = true then (if x4_1.length < 140737488355328 then (impl_EscNorm.l0 k1 a0 (x4_1 ++ [t451]) (wrap64 ((wrap64 (x5_1 + 2)) + 1))) else (none)) else (if 0 ≤ (t451 / 16) then (if (t451 / 16) < 16 then (if 0 ≤ (Go.bits .and .u8 t451 15) then (if (Go.bits .and .u8 t451 15) < 16 then ((some (([37, bt (⟨#[48, 49, 50, 51, 52, 53, 54, 55, 56, 57, 65, 66, 67, 68, 69, 70]⟩ : ByteArray) (t451 / 16), bt (⟨#[48, 49, 50, 51, 52, 53, 54, 55, 56, 57, 65, 66, 67, 68, 69, 70]⟩ : ByteArray) (Go.bits .and .u8 t451 15)] : List Int) : List Int)).bind fun y457 => (if x4_1.length + y457.length < 140737488355328 then (impl_EscNorm.l0 k1 a0 (x4_1 ++ y457) (wrap64 ((wrap64 (x5_1 + 2)) + 1))) else (none))) else (none)) else (none)) else (none)) else (none)))) else (some ((⟨#[]⟩ : ByteArray), false))) = some (r1, r2) := H;have A7 := A_ A70;clear A70;replace H := iteB H;rcases H with ⟨rfl, H⟩ | ⟨rfl, H⟩
      ·replace H := Option.bind_eq_some_iff.mp H
       obtain ⟨t453, A90, H⟩ := H;replace H : (if t453 = true then (if x4_1.length < 140737488355328 then (impl_EscNorm.l0 k1 a0 (x4_1 ++ [t451]) (wrap64 ((wrap64 (x5_1 + 2)) + 1))) else (none)) else (if 0 ≤ (t451 / 16) then (if (t451 / 16) < 16 then (if 0 ≤ (Go.bits .and .u8 t451 15) then (if (Go.bits .and .u8 t451 15) < 16 then ((some (([37, bt (⟨#[48, 49, 50, 51, 52, 53, 54, 55, 56, 57, 65, 66, 67, 68, 69, 70]⟩ : ByteArray) (t451 / 16), bt (⟨#[48, 49, 50, 51, 52, 53, 54, 55, 56, 57, 65, 66, 67, 68, 69, 70]⟩ : ByteArray) (Go.bits .and .u8 t451 15)] : List Int) : List Int)).bind fun y457 => (if x4_1.length + y457.length < 140737488355328 then (impl_EscNorm.l0 k1 a0 (x4_1 ++ y457) (wrap64 ((wrap64 (x5_1 + 2)) + 1))) else (none))) else (none)) else (none)) else (none)) else (none))) = some (r1, r2) := H;have A9 := A_ A90;clear A90;replace H := iteB H;rcases H with ⟨rfl, H⟩ | ⟨rfl, H⟩
       ·replace H := iteN H
        obtain ⟨c11, H⟩ := H;have LMc11 := A_ c11;clear c11;obtain ⟨y454, Ny454⟩ := toY (x4_1 ++ [t451]);(first | with_reducible replace H := bindZ Ny454 H | rw [← Ny454.out] at H | skip)
        have H' := A_ H;clear H;have p5 : 0 ≤ (x5_1 : Int) := ofD;have q5 : x5_1 < (a0.size : Int) := ofD;have hx5 := bt_at a0 x5_1;replace p5 := eq_true p5;replace q5 := eq_true q5;go_wp2_with (first | ((with_reducible refine gC (f := 72) rfl ?_); refine gsL (some 26) Tryd.func72 #[.string a0, .int .i64 x5_1] ?_; (with_reducible refine mR (impl_signByte.calls a0 x5_1 t451 true _ A7.out) ?_); rintro w12 hb; replace HO_4 := A_ (rB (zz18 HO_4) hb); replace HB := A_ (bS (zz2 HB) hb); (try clear hb)) | ((with_reducible refine gC (f := 73) rfl ?_); refine gsL (some 35) Tryd.func73 #[.int .u8 t451] ?_; (with_reducible refine (impl_standsForItself.calls t451 true _ A9.out).mono ?_); rintro e w' ⟨rfl, ⟨nd, rfl⟩⟩; refine ⟨_, rfl, ?_⟩) | ((with_reducible refine gate_builtin (b := .append) (xs := #[.tmp 36, .tmp 38]) rfl ?_); at_builtin; refine Kd.R_append (Kd.int .u8) (w0 := w) w.heap.size rfl (.tmp 36) (.tmp 38) 22 5 (.int .u8 0) 1 rfl Tryd.underlying22 info5 rfl (by decide) (by omega) u4 x4_1 t451 [.int .u8 t451] (fun _ => True) (fun _ => False) rfl rfl ?aP (fun _ hk => hk.elim) ?aF ?aO ?aB ?aS ?aL ?_; (case aP => exact rfl); (case aB => exact (zz2 HB)); (case aF => exact (fun _ _ => trivial)); (case aO => exact (zz18 HO_4)); (case aS => exact (below_size (zz2 HB))); (case aL => exact (zz21 LMc11)); intro v455 w13 ho hb hg hat; rw [← Ny454.out] at ho; replace HB := A_ (hb); have HO456 := A_ (ho); clear HO_4; clear ho hb hg hat))
        go_roundg k1
        case measure => have := HK1.out; omega
        case rel => exact ⟨(y454), (wrap64 ((wrap64 (x5_1 + 2)) + 1)), zz5, H', ⟨(zz21 HK1)⟩, ⟨(zz18 HO456)⟩, ⟨(zz2 HB)⟩⟩
       ·obtain ⟨ji14, hji14⟩ : ∃ j_ : Int, (t451 / 16) = j_ := ⟨_, rfl⟩
        (first | rw [hji14] at H | simp only [hji14] at H)
        (try rw [hji14] at A7)
        (try rw [hji14] at A9)
        replace H := iteNd H;obtain ⟨c15b0, H⟩ := H;replace H := iteNd H;obtain ⟨c16b0, H⟩ := H;replace H := iteNd H;obtain ⟨c18b0, H⟩ := H;replace H := iteNd H;obtain ⟨c19b0, H⟩ := H;obtain ⟨y457, Ny457⟩ := toY (([37, bt (⟨#[48, 49, 50, 51, 52, 53, 54, 55, 56, 57, 65, 66, 67, 68, 69, 70]⟩ : ByteArray) (ji14), bt (⟨#[48, 49, 50, 51, 52, 53, 54, 55, 56, 57, 65, 66, 67, 68, 69, 70]⟩ : ByteArray) (Go.bits .and .u8 t451 15)] : List Int));(first | with_reducible replace H := bindZ Ny457 H | rw [← Ny457.out] at H | skip)
        replace H := iteN H;obtain ⟨c21, H⟩ := H;have LMc21 := A_ c21;clear c21;obtain ⟨y460, Ny460⟩ := toY (x4_1 ++ y457);(first | with_reducible replace H := bindZ Ny460 H | rw [← Ny460.out] at H | skip)
        have H' := A_ H;clear H;have p5 : 0 ≤ (x5_1 : Int) := ofD;have q5 : x5_1 < (a0.size : Int) := ofD;have hx5 := bt_at a0 x5_1;replace p5 := eq_true p5;replace q5 := eq_true q5;try go_wp2_with (first | ((with_reducible refine gC (f := 72) rfl ?_); refine gsL (some 26) Tryd.func72 #[.string a0, .int .i64 x5_1] ?_; (with_reducible refine mR (impl_signByte.calls a0 x5_1 t451 true _ A7.out) ?_); rintro w22 hb; replace HO_4 := A_ (rB (zz18 HO_4) hb); replace HB := A_ (bS (zz2 HB) hb); (try clear hb)) | ((with_reducible refine gC (f := 73) rfl ?_); refine gsL (some 35) Tryd.func73 #[.int .u8 t451] ?_; (with_reducible refine (impl_standsForItself.calls t451 false _ A9.out).mono ?_); rintro e w' ⟨rfl, ⟨nd, rfl⟩⟩; refine ⟨_, rfl, ?_⟩))
        (try (rw [drewN_self w22]; generalize hq_ : World.drewN w22 _ = w22; have n0_ : Aside0 (Kd.R (Kd.int .u8) 5 w22 w.heap.size (fun _ => True) u4 x4_1) := ⟨(by rw [← hq_]; exact (zz18 HO_4))⟩; have n1_ : Aside0 (Below w.heap.size w w22) := ⟨(by rw [← hq_]; exact (zz2 HB))⟩; clear HO_4 HB hq_; have HO_4 := n0_; have HB := n1_; clear n0_ n1_))
        replace HO_4 := A_ (Kd.R_drew HO_4.out);replace HB := A_ (below_drew1 HB.out);have p17 : 0 ≤ ((ji14) : Int) := ofD;have q17 : (ji14) < (16 : Int) := ofD;have hx17 := bt_at (⟨#[48, 49, 50, 51, 52, 53, 54, 55, 56, 57, 65, 66, 67, 68, 69, 70]⟩ : ByteArray) (ji14);replace p17 := eq_true p17;replace q17 := eq_true q17;have p20 : 0 ≤ ((Go.bits .and .u8 t451 15) : Int) := ofD;have q20 : (Go.bits .and .u8 t451 15) < (16 : Int) := ofD;have hx20 := bt_at (⟨#[48, 49, 50, 51, 52, 53, 54, 55, 56, 57, 65, 66, 67, 68, 69, 70]⟩ : ByteArray) (Go.bits .and .u8 t451 15);replace p20 := eq_true p20;replace q20 := eq_true q20;refine start_ (n := 10) (S := fun w' => True) (ds := []) #[false, false, false, false, false, false, false, false, false, false] (by kernel_rfl) rfl rfl trivial (fun hHeld => ?_); refine with_tabW impl_EscNorm.tab16 impl_EscNorm.bits16 (fun HT_ HW_ => ?_);generalize w22.drew = w23 at HO_4 HB hHeld ⊢;refine pureZ 0 (some 40) #[true, false, false, false, false, false, false, false, false, false] ?_;refine pureZ 1 (some 41) #[true, true, false, false, false, false, false, false, false, false] ?_;refine pureZ 2 (some 42) #[true, true, true, false, false, false, false, false, false, false] ?_;refine pureZ 4 (some 44) #[true, true, true, false, true, false, false, false, false, false] ?_;refine pureZ 5 (some 45) #[true, true, true, false, true, true, false, false, false, false] ?_;refine take_ (i := 3) (N := some 43) (v := ?_) (a' := ?_) #[true, true, true, true, true, true, false, false, false, false] rfl rfl (take_ofW HT_.out HW_.out (by kernel_rfl)) (fun _ _ _ h => h) (Or.inl ⟨by rfl, ?_⟩) hHeld ?_ ?_;rotate_left
        ·intro w' _
         go_simp
         with_reducible rfl
        rotate_left
        ·simp only [Act.put, List.setIfInBounds_toArray, List.set_cons_zero, List.set_cons_succ, i64_w, i32_w]
         rfl
        refine take_ (i := 6) (N := some 46) (v := ?_) (a' := ?_) #[true, true, true, true, true, true, true, false, false, false] rfl rfl (take_ofW HT_.out HW_.out (by kernel_rfl)) (fun _ _ _ h => h) (Or.inl ⟨by rfl, ?_⟩) hHeld ?_ ?_;rotate_left
        ·intro w' _
         go_simp
         with_reducible rfl
        rotate_left
        ·simp only [Act.put, List.setIfInBounds_toArray, List.set_cons_zero, List.set_cons_succ, i64_w, i32_w]
         rfl
        refine one_ (i := 7) (N := some 47) #[true, true, true, true, true, true, true, true, false, false] rfl rfl (one_of HT_.out (by kernel_rfl)) (by decide) (fun K hK => ?_);refine Kd.R_lit_step (Kd.int .u8) _ 5 ?hg (N := 47) ?hd (xs := ([37, bt (⟨#[48, 49, 50, 51, 52, 53, 54, 55, 56, 57, 65, 66, 67, 68, 69, 70]⟩ : ByteArray) (ji14), bt (⟨#[48, 49, 50, 51, 52, 53, 54, 55, 56, 57, 65, 66, 67, 68, 69, 70]⟩ : ByteArray) (Go.bits .and .u8 t451 15)] : List Int)) (inner := [.int .u8 37, .int .u8 (bt (⟨#[48, 49, 50, 51, 52, 53, 54, 55, 56, 57, 65, 66, 67, 68, 69, 70]⟩ : ByteArray) (ji14)), .int .u8 (bt (⟨#[48, 49, 50, 51, 52, 53, 54, 55, 56, 57, 65, 66, 67, 68, 69, 70]⟩ : ByteArray) (Go.bits .and .u8 t451 15))]) (ok := fun _ => True) (okp := fun _ => True) ?hr ?hp (fun _ hk => hk) trivial (Below.refl _ _) (Nat.le_refl _) (by simp) ?_; (case hd => rfl); (case hg => rfl); (case hr => exact zz16); (case hp => exact (Reps.one (show Kd.M (Kd.int .u8) _ _ _ 37 [.int .u8 37] from rfl) (Reps.one (show Kd.M (Kd.int .u8) _ _ _ (bt (⟨#[48, 49, 50, 51, 52, 53, 54, 55, 56, 57, 65, 66, 67, 68, 69, 70]⟩ : ByteArray) (ji14)) [.int .u8 (bt (⟨#[48, 49, 50, 51, 52, 53, 54, 55, 56, 57, 65, 66, 67, 68, 69, 70]⟩ : ByteArray) (ji14))] from rfl) (Reps.one (show Kd.M (Kd.int .u8) _ _ _ (bt (⟨#[48, 49, 50, 51, 52, 53, 54, 55, 56, 57, 65, 66, 67, 68, 69, 70]⟩ : ByteArray) (Go.bits .and .u8 t451 15)) [.int .u8 (bt (⟨#[48, 49, 50, 51, 52, 53, 54, 55, 56, 57, 65, 66, 67, 68, 69, 70]⟩ : ByteArray) (Go.bits .and .u8 t451 15))] from rfl) (Reps.none _ _)))));intro v458 w24 ho25 hb hg_ hnew_;clear hg_ hnew_;(first | rw [← Ny457.out] at ho25 | (simp only [Int.reduceToNat] at ho25; rw [← Ny457.out] at ho25))
        have HO459 := A_ (Kd.R_lower (Kd.R_new' ho25 (Kd.R_lt (zz18 HO_4))) (below_size (zz2 HB)));replace HO_4 := A_ (Kd.R_elder' (zz18 HO_4) (Kd.R_base ho25) hb);replace HB := A_ (bS (zz2 HB) hb);clear hb ho25;obtain ⟨Ao27, co27, eo27⟩ := Kd.R_slice HO459.out;(first | subst eo27 | (injection eo27 with f1_ f2_ f3_; have f4_ := f1_.symm; have f5_ := f3_.symm; clear f1_ f2_ f3_; subst f4_; subst f5_))
        refine hK.out _ _ trivial (fun hHeld => ?_);clear hK K;refine norm_ (a' := ?_) ?_ ?_;rotate_left
        ·show Act.put _ (some 47) _ = _
         simp only [Act.put, List.setIfInBounds_toArray, List.set_cons_zero, List.set_cons_succ, i64_w, i32_w]
         rfl
        refine one_ (i := 8) (N := some 48) #[true, true, true, true, true, true, true, true, true, false] rfl rfl (one_of HT_.out (by kernel_rfl)) (by decide) (fun K hK => ?_);refine Kd.R_append_rows_step (Kd.int .u8) (w0 := w) w.heap.size (by rfl) (.tmp 40) (.tmp 47) 22 5 (.int .u8 0) 1 rfl Tryd.underlying22 info5 rfl (by decide) (by omega) u4 x4_1 y457 _ _ _ (fun k_ => some k_ ≠ (.slice Ao27 y457.length co27 : Value).ownBlock) (fun _ => False) rfl rfl ?aO ?aR (fun _ _ h => h) (fun _ h => h.elim) ?aF ?aB ?aS ?aL ?_;(case aR => exact (zz37 HO459))
        (case aB => exact (zz2 HB))
        (case aF => exact (fun k_ hk => Kd.fresh' (Kd.R_lt (zz18 HO459)) k_ hk))
        (case aO => exact (zz74 HO_4))
        (case aS => exact (below_size (zz2 HB)))
        (case aL => exact (zz21 LMc21))
        intro v461 w26 ho hb hg hat;rw [← Ny460.out] at ho;replace HO459 := A_ (Kd.R_after (ok := (fun _ => True)) (zz18 HO459) hg hat);replace HB := A_ (hb);have HO462 := A_ (ho);clear HO_4;clear ho hb hg hat;refine hK.out _ _ trivial (fun hHeld => ?_);clear hK K;refine norm_ (a' := ?_) ?_ ?_;rotate_left
        ·show Act.put _ (some 48) _ = _
         simp only [Act.put, List.setIfInBounds_toArray, List.set_cons_zero, List.set_cons_succ, i64_w, i32_w]
         rfl
        refine pureZ 9 (some 4) #[true, true, true, true, true, true, true, true, true, true] ?_;refine done_ (done_of HT_.out (by kernel_rfl)) ?_;try go_wp2
        go_roundg k1
        case measure => have := HK1.out; omega
        case rel => exact ⟨(y460), (wrap64 ((wrap64 (x5_1 + 2)) + 1)), zz5, H', ⟨(zz21 HK1)⟩, ⟨(zz107 HO462)⟩, ⟨(zz2 HB)⟩⟩
      ·simp only [Option.some.injEq, Prod.mk.injEq] at H
       obtain ⟨rfl, rfl⟩ := H;have p5 : 0 ≤ (x5_1 : Int) := ofD;have q5 : x5_1 < (a0.size : Int) := ofD;have hx5 := bt_at a0 x5_1;replace p5 := eq_true p5;replace q5 := eq_true q5;go_wp2_with (first | ((with_reducible refine gC (f := 72) rfl ?_); refine gsL (some 26) Tryd.func72 #[.string a0, .int .i64 x5_1] ?_; (with_reducible refine mR (impl_signByte.calls a0 x5_1 t451 false _ A7.out) ?_); rintro w28 hb; replace HO_4 := A_ (rB (zz18 HO_4) hb); replace HB := A_ (bS (zz2 HB) hb); (try clear hb)))
       go_ret2
       exact ⟨zz11, (zz2 HB)⟩
     ·replace H := Option.bind_eq_some_iff.mp H
      obtain ⟨t463, A290, H⟩ := H;replace H : (if t463 = true then (if x4_1.length < 140737488355328 then (impl_EscNorm.l0 k1 a0 (x4_1 ++ [bt a0 x5_1]) (wrap64 (x5_1 + 1))) else (none)) else (if 0 ≤ ((bt a0 x5_1) / 16) then (if ((bt a0 x5_1) / 16) < 16 then (if 0 ≤ (Go.bits .and .u8 (bt a0 x5_1) 15) then (if (Go.bits .and .u8 (bt a0 x5_1) 15) < 16 then ((some (([37, bt (⟨#[48, 49, 50, 51, 52, 53, 54, 55, 56, 57, 65, 66, 67, 68, 69, 70]⟩ : ByteArray) ((bt a0 x5_1) / 16), bt (⟨#[48, 49, 50, 51, 52, 53, 54, 55, 56, 57, 65, 66, 67, 68, 69, 70]⟩ : ByteArray) (Go.bits .and .u8 (bt a0 x5_1) 15)] : List Int) : List Int)).bind fun y467 => (if x4_1.length + y467.length < 140737488355328 then (impl_EscNorm.l0 k1 a0 (x4_1 ++ y467) (wrap64 (x5_1 + 1))) else (none))) else (none)) else (none)) else (none)) else (none))) = some (r1, r2) := H;have A29 := A_ A290;clear A290;replace H := iteB H;rcases H with ⟨rfl, H⟩ | ⟨rfl, H⟩
      ·replace H := iteN H
       obtain ⟨c31, H⟩ := H;have LMc31 := A_ c31;clear c31;obtain ⟨y464, Ny464⟩ := toY (x4_1 ++ [bt a0 x5_1]);(first | with_reducible replace H := bindZ Ny464 H | rw [← Ny464.out] at H | skip)
       have H' := A_ H;clear H;have p5 : 0 ≤ (x5_1 : Int) := ofD;have q5 : x5_1 < (a0.size : Int) := ofD;have hx5 := bt_at a0 x5_1;replace p5 := eq_true p5;replace q5 := eq_true q5;go_wp2_with (first | ((with_reducible refine gC (f := 73) rfl ?_); refine gsL (some 35) Tryd.func73 #[.int .u8 (bt a0 x5_1)] ?_; (with_reducible refine (impl_standsForItself.calls (bt a0 x5_1) true _ A29.out).mono ?_); rintro e w' ⟨rfl, ⟨nd, rfl⟩⟩; refine ⟨_, rfl, ?_⟩) | ((with_reducible refine gate_builtin (b := .append) (xs := #[.tmp 36, .tmp 38]) rfl ?_); at_builtin; refine Kd.R_append (Kd.int .u8) (w0 := w) w.heap.size rfl (.tmp 36) (.tmp 38) 22 5 (.int .u8 0) 1 rfl Tryd.underlying22 info5 rfl (by decide) (by omega) u4 x4_1 (bt a0 x5_1) [.int .u8 (bt a0 x5_1)] (fun _ => True) (fun _ => False) rfl rfl ?aP (fun _ hk => hk.elim) ?aF ?aO ?aB ?aS ?aL ?_; (case aP => exact rfl); (case aB => exact (zz2 HB)); (case aF => exact (fun _ _ => trivial)); (case aO => exact (zz18 HO_4)); (case aS => exact (below_size (zz2 HB))); (case aL => exact (zz21 LMc31)); intro v465 w32 ho hb hg hat; rw [← Ny464.out] at ho; replace HB := A_ (hb); have HO466 := A_ (ho); clear HO_4; clear ho hb hg hat))
       go_roundg k1
       case measure => have := HK1.out; omega
       case rel => exact ⟨(y464), (wrap64 (x5_1 + 1)), zz5, H', ⟨(zz21 HK1)⟩, ⟨(zz18 HO466)⟩, ⟨(zz2 HB)⟩⟩
      ·obtain ⟨ji33, hji33⟩ : ∃ j_ : Int, ((bt a0 x5_1) / 16) = j_ := ⟨_, rfl⟩
       (first | rw [hji33] at H | simp only [hji33] at H)
       (try rw [hji33] at A29)
       replace H := iteNd H;obtain ⟨c34b0, H⟩ := H;replace H := iteNd H;obtain ⟨c35b0, H⟩ := H;replace H := iteNd H;obtain ⟨c37b0, H⟩ := H;replace H := iteNd H;obtain ⟨c38b0, H⟩ := H;obtain ⟨y467, Ny467⟩ := toY (([37, bt (⟨#[48, 49, 50, 51, 52, 53, 54, 55, 56, 57, 65, 66, 67, 68, 69, 70]⟩ : ByteArray) (ji33), bt (⟨#[48, 49, 50, 51, 52, 53, 54, 55, 56, 57, 65, 66, 67, 68, 69, 70]⟩ : ByteArray) (Go.bits .and .u8 (bt a0 x5_1) 15)] : List Int));(first | with_reducible replace H := bindZ Ny467 H | rw [← Ny467.out] at H | skip)
       replace H := iteN H;obtain ⟨c40, H⟩ := H;have LMc40 := A_ c40;clear c40;obtain ⟨y470, Ny470⟩ := toY (x4_1 ++ y467);(first | with_reducible replace H := bindZ Ny470 H | rw [← Ny470.out] at H | skip)
       have H' := A_ H;clear H;have p5 : 0 ≤ (x5_1 : Int) := ofD;have q5 : x5_1 < (a0.size : Int) := ofD;have hx5 := bt_at a0 x5_1;replace p5 := eq_true p5;replace q5 := eq_true q5;try go_wp2_with (first | ((with_reducible refine gC (f := 73) rfl ?_); refine gsL (some 35) Tryd.func73 #[.int .u8 (bt a0 x5_1)] ?_; (with_reducible refine (impl_standsForItself.calls (bt a0 x5_1) false _ A29.out).mono ?_); rintro e w' ⟨rfl, ⟨nd, rfl⟩⟩; refine ⟨_, rfl, ?_⟩))
       (try (rw [drewN_self wr]; generalize hq_ : World.drewN wr _ = wr; have n0_ : Aside0 (Kd.R (Kd.int .u8) 5 wr w.heap.size (fun _ => True) u4 x4_1) := ⟨(by rw [← hq_]; exact (zz18 HO_4))⟩; have n1_ : Aside0 (Below w.heap.size w wr) := ⟨(by rw [← hq_]; exact (zz2 HB))⟩; clear HO_4 HB hq_; have HO_4 := n0_; have HB := n1_; clear n0_ n1_))
       replace HO_4 := A_ (Kd.R_drew HO_4.out);replace HB := A_ (below_drew1 HB.out);have p36 : 0 ≤ ((ji33) : Int) := ofD;have q36 : (ji33) < (16 : Int) := ofD;have hx36 := bt_at (⟨#[48, 49, 50, 51, 52, 53, 54, 55, 56, 57, 65, 66, 67, 68, 69, 70]⟩ : ByteArray) (ji33);replace p36 := eq_true p36;replace q36 := eq_true q36;have p39 : 0 ≤ ((Go.bits .and .u8 (bt a0 x5_1) 15) : Int) := ofD;have q39 : (Go.bits .and .u8 (bt a0 x5_1) 15) < (16 : Int) := ofD;have hx39 := bt_at (⟨#[48, 49, 50, 51, 52, 53, 54, 55, 56, 57, 65, 66, 67, 68, 69, 70]⟩ : ByteArray) (Go.bits .and .u8 (bt a0 x5_1) 15);replace p39 := eq_true p39;replace q39 := eq_true q39;refine start_ (n := 10) (S := fun w' => True) (ds := []) #[false, false, false, false, false, false, false, false, false, false] (by kernel_rfl) rfl rfl trivial (fun hHeld => ?_); refine with_tabW impl_EscNorm.tab16 impl_EscNorm.bits16 (fun HT_ HW_ => ?_);generalize wr.drew = w41 at HO_4 HB hHeld ⊢;refine pureZ 0 (some 40) #[true, false, false, false, false, false, false, false, false, false] ?_;refine pureZ 1 (some 41) #[true, true, false, false, false, false, false, false, false, false] ?_;refine pureZ 2 (some 42) #[true, true, true, false, false, false, false, false, false, false] ?_;refine pureZ 4 (some 44) #[true, true, true, false, true, false, false, false, false, false] ?_;refine pureZ 5 (some 45) #[true, true, true, false, true, true, false, false, false, false] ?_;refine take_ (i := 3) (N := some 43) (v := ?_) (a' := ?_) #[true, true, true, true, true, true, false, false, false, false] rfl rfl (take_ofW HT_.out HW_.out (by kernel_rfl)) (fun _ _ _ h => h) (Or.inl ⟨by rfl, ?_⟩) hHeld ?_ ?_;rotate_left
       ·intro w' _
        go_simp
        with_reducible rfl
       rotate_left
       ·simp only [Act.put, List.setIfInBounds_toArray, List.set_cons_zero, List.set_cons_succ, i64_w, i32_w]
        rfl
       refine take_ (i := 6) (N := some 46) (v := ?_) (a' := ?_) #[true, true, true, true, true, true, true, false, false, false] rfl rfl (take_ofW HT_.out HW_.out (by kernel_rfl)) (fun _ _ _ h => h) (Or.inl ⟨by rfl, ?_⟩) hHeld ?_ ?_;rotate_left
       ·intro w' _
        go_simp
        with_reducible rfl
       rotate_left
       ·simp only [Act.put, List.setIfInBounds_toArray, List.set_cons_zero, List.set_cons_succ, i64_w, i32_w]
        rfl
       refine one_ (i := 7) (N := some 47) #[true, true, true, true, true, true, true, true, false, false] rfl rfl (one_of HT_.out (by kernel_rfl)) (by decide) (fun K hK => ?_);refine Kd.R_lit_step (Kd.int .u8) _ 5 ?hg (N := 47) ?hd (xs := ([37, bt (⟨#[48, 49, 50, 51, 52, 53, 54, 55, 56, 57, 65, 66, 67, 68, 69, 70]⟩ : ByteArray) (ji33), bt (⟨#[48, 49, 50, 51, 52, 53, 54, 55, 56, 57, 65, 66, 67, 68, 69, 70]⟩ : ByteArray) (Go.bits .and .u8 (bt a0 x5_1) 15)] : List Int)) (inner := [.int .u8 37, .int .u8 (bt (⟨#[48, 49, 50, 51, 52, 53, 54, 55, 56, 57, 65, 66, 67, 68, 69, 70]⟩ : ByteArray) (ji33)), .int .u8 (bt (⟨#[48, 49, 50, 51, 52, 53, 54, 55, 56, 57, 65, 66, 67, 68, 69, 70]⟩ : ByteArray) (Go.bits .and .u8 (bt a0 x5_1) 15))]) (ok := fun _ => True) (okp := fun _ => True) ?hr ?hp (fun _ hk => hk) trivial (Below.refl _ _) (Nat.le_refl _) (by simp) ?_; (case hd => rfl); (case hg => rfl); (case hr => exact zz16); (case hp => exact (Reps.one (show Kd.M (Kd.int .u8) _ _ _ 37 [.int .u8 37] from rfl) (Reps.one (show Kd.M (Kd.int .u8) _ _ _ (bt (⟨#[48, 49, 50, 51, 52, 53, 54, 55, 56, 57, 65, 66, 67, 68, 69, 70]⟩ : ByteArray) (ji33)) [.int .u8 (bt (⟨#[48, 49, 50, 51, 52, 53, 54, 55, 56, 57, 65, 66, 67, 68, 69, 70]⟩ : ByteArray) (ji33))] from rfl) (Reps.one (show Kd.M (Kd.int .u8) _ _ _ (bt (⟨#[48, 49, 50, 51, 52, 53, 54, 55, 56, 57, 65, 66, 67, 68, 69, 70]⟩ : ByteArray) (Go.bits .and .u8 (bt a0 x5_1) 15)) [.int .u8 (bt (⟨#[48, 49, 50, 51, 52, 53, 54, 55, 56, 57, 65, 66, 67, 68, 69, 70]⟩ : ByteArray) (Go.bits .and .u8 (bt a0 x5_1) 15))] from rfl) (Reps.none _ _)))));intro v468 w42 ho43 hb hg_ hnew_;clear hg_ hnew_;(first | rw [← Ny467.out] at ho43 | (simp only [Int.reduceToNat] at ho43; rw [← Ny467.out] at ho43))
       have HO469 := A_ (Kd.R_lower (Kd.R_new' ho43 (Kd.R_lt (zz18 HO_4))) (below_size (zz2 HB)));replace HO_4 := A_ (Kd.R_elder' (zz18 HO_4) (Kd.R_base ho43) hb);replace HB := A_ (bS (zz2 HB) hb);clear hb ho43;obtain ⟨Ao45, co45, eo45⟩ := Kd.R_slice HO469.out;(first | subst eo45 | (injection eo45 with f1_ f2_ f3_; have f4_ := f1_.symm; have f5_ := f3_.symm; clear f1_ f2_ f3_; subst f4_; subst f5_))
       refine hK.out _ _ trivial (fun hHeld => ?_);clear hK K;refine norm_ (a' := ?_) ?_ ?_;rotate_left
       ·show Act.put _ (some 47) _ = _
        simp only [Act.put, List.setIfInBounds_toArray, List.set_cons_zero, List.set_cons_succ, i64_w, i32_w]
        rfl
       refine one_ (i := 8) (N := some 48) #[true, true, true, true, true, true, true, true, true, false] rfl rfl (one_of HT_.out (by kernel_rfl)) (by decide) (fun K hK => ?_);refine Kd.R_append_rows_step (Kd.int .u8) (w0 := w) w.heap.size (by rfl) (.tmp 40) (.tmp 47) 22 5 (.int .u8 0) 1 rfl Tryd.underlying22 info5 rfl (by decide) (by omega) u4 x4_1 y467 _ _ _ (fun k_ => some k_ ≠ (.slice Ao45 y467.length co45 : Value).ownBlock) (fun _ => False) rfl rfl ?aO ?aR (fun _ _ h => h) (fun _ h => h.elim) ?aF ?aB ?aS ?aL ?_;(case aR => exact (zz37 HO469))
       (case aB => exact (zz2 HB))
       (case aF => exact (fun k_ hk => Kd.fresh' (Kd.R_lt (zz18 HO469)) k_ hk))
       (case aO => exact (zz74 HO_4))
       (case aS => exact (below_size (zz2 HB)))
       (case aL => exact (zz21 LMc40))
       intro v471 w44 ho hb hg hat;rw [← Ny470.out] at ho;replace HO469 := A_ (Kd.R_after (ok := (fun _ => True)) (zz18 HO469) hg hat);replace HB := A_ (hb);have HO472 := A_ (ho);clear HO_4;clear ho hb hg hat;refine hK.out _ _ trivial (fun hHeld => ?_);clear hK K;refine norm_ (a' := ?_) ?_ ?_;rotate_left
       ·show Act.put _ (some 48) _ = _
        simp only [Act.put, List.setIfInBounds_toArray, List.set_cons_zero, List.set_cons_succ, i64_w, i32_w]
        rfl
       refine pureZ 9 (some 4) #[true, true, true, true, true, true, true, true, true, true] ?_;refine done_ (done_of HT_.out (by kernel_rfl)) ?_;try go_wp2
       go_roundg k1
       case measure => have := HK1.out; omega
       case rel => exact ⟨(y470), (wrap64 (x5_1 + 1)), zz5, H', ⟨(zz21 HK1)⟩, ⟨(zz107 HO472)⟩, ⟨(zz2 HB)⟩⟩
    ·simp only [Option.some.injEq, Prod.mk.injEq] at H
     obtain ⟨rfl, rfl⟩ := H;have hcv46 := own_string (P := Tryd.prog) Tryd.underlying22 Tryd.underlying5 Tryd.underlying9 (Kd.own_of_R HO_4.out);go_wp2
     go_ret2
     exact ⟨zz11, (zz2 HB)⟩
end Go.Proofs.YtpomhjkbgbociaaDoor.P
end
section
namespace Go.Proofs.YtpomhjkbgbociaaDoor.P
open Go.RowKit Go.Proofs.YtpomhjkbgbociaaDoorW.PrintWords Go.Proofs.YtpomhjkbgbociaaDoorW.PrintLast Go.Proofs.YtpomhjkbgbociaaDoorW.PrintMore Go.Proofs.YtpomhjkbgbociaaDoor.B Go.Proofs.YtpomhjkbgbociaaDoor.Ad
set_option linter.unusedVariables false
set_option linter.unusedSimpArgs false
theorem row_at {w : World} {A : Option Addr} {xs : List ByteArray} (h : Kd.C Kd.string w A xs.length xs) (hn : 0 < xs.length) :
  ∃ bk o, A = some ⟨bk, o, none⟩ ∧ bk < w.heap.size ∧ ∀ (j : Nat) x, xs[j]? = some x → w.cell? ⟨bk, o + j, none⟩ = some (.string x) := by
 obtain ⟨_, _, h3⟩ := h
 obtain ⟨ad, rfl, hc⟩ := h3 hn
 have cells : ∀ (j : Nat) x, xs[j]? = some x → w.cell? (ad.add j) = some (.string x) := by
  intro j x hx
  obtain ⟨c, hl, hk, hcell⟩ := hc j x hx
  have hk' : c = [Value.string x] := hk
  subst hk'
  have := hcell 0 (.string x) rfl
  rw [show j * Kd.string.sz + 0 = j from by show j * 1 + 0 = j; omega] at this
  exact this
 have h0 := cells 0 xs[0] (List.getElem?_eq_getElem hn)
 obtain ⟨bk, o, sp⟩ := ad
 have h0' : w.cell? ⟨bk, o, sp⟩ = some (.string xs[0]) := h0
 have hsp : sp = none := by
  cases sp with
  | none => rfl
  | some y =>
   unfold World.cell? at h0'
   simp at h0'
   split at h0' <;> simp at h0'
 subst hsp
 refine ⟨bk, o, rfl, ?_, fun j x hx => ?_⟩
 ·rcases Nat.lt_or_ge bk w.heap.size with h | h
  ·exact h
  ·unfold World.cell? at h0'
   simp [Array.getElem?_eq_none h] at h0'
 ·have := cells j x hx
  unfold Addr.add at this
  split at this
  ·rename_i hj; subst hj; exact this
  ·exact this
def strings_Join.f (l0 : List ByteArray) (a1 : ByteArray) : Option (ByteArray) :=
 if l0.length ≤ 140737488355328 ∧ (Lib.join (l0.map L) (L a1)).length ≤ 140737488355328 then some (ofL (Lib.join (l0.map L) (L a1))) else none
theorem strings_Join.calls (A0 : Option Addr) (c0 : Nat) (l0 : List ByteArray) (a1 : ByteArray) (r : ByteArray) (w : World) (hr0 : Kd.C Kd.string w A0 l0.length l0) (hc0 : l0.length ≤ c0) (h : strings_Join.f l0 a1 = some r) :
  Calls Tryd.prog 55 #[.slice A0 l0.length c0, .string a1] w fun e w' => e = .returned (.string r) ∧ Below w.heap.size w w' := by
 unfold strings_Join.f at h
 split at h
 ·rename_i hh
  obtain rfl := Option.some.inj h
  rcases Nat.eq_zero_or_pos l0.length with h0 | h0
  ·obtain rfl : l0 = [] := List.length_eq_zero_iff.1 h0
   exact (Tryd.strings_Join_none A0 c0 a1 w).mono fun e w' ⟨he, hw⟩ => ⟨he, hw ▸ Below.refl _ _⟩
  ·obtain ⟨bk, o, rfl, hb, hcells⟩ := row_at hr0 h0
   exact Tryd.strings_Join bk o c0 l0 a1 w hcells hb hh.1 hc0 hh.2
 ·cases h
end Go.Proofs.YtpomhjkbgbociaaDoor.P
end
section
namespace Go.Proofs.YtpomhjkbgbociaaDoor.P
open Go.RowKit Go.Proofs.YtpomhjkbgbociaaDoorW.PrintWords Go.Proofs.YtpomhjkbgbociaaDoorW.PrintLast Go.Proofs.YtpomhjkbgbociaaDoorW.PrintMore
attribute [local go_sem] max2_int min2_int max_two min_two max_three min_three max_four min_four
set_option linter.unusedVariables false
set_option linter.unusedSimpArgs false
set_option maxHeartbeats 8000000
set_option maxRecDepth 100000
def impl_writePath.f (a0_0 : ByteArray) (l0_1 : List ByteArray) (a0_2 : Bool) (a0_3 : ByteArray) : Option (ByteArray) := (strings_Join.f l0_1 (⟨#[47]⟩ : ByteArray)).bind fun t443 => (if 1 + t443.size ≤ 9223372036854775807 then (if a0_2 = true then (if 1 + a0_3.size ≤ 9223372036854775807 then (if 1 + t443.size + 1 + a0_3.size ≤ 9223372036854775807 then (some (((⟨#[47]⟩ : ByteArray) ++ t443) ++ ((⟨#[63]⟩ : ByteArray) ++ a0_3))) else (none)) else (none)) else (some ((⟨#[47]⟩ : ByteArray) ++ t443))) else (none))
theorem impl_writePath.calls (a0_0 : ByteArray) (A0_1 : Option Addr) (c0_1 : Nat) (l0_1 : List ByteArray) (a0_2 : Bool) (a0_3 : ByteArray) (r : ByteArray) (w : World) (hr0_1 : Kd.C Kd.string w A0_1 l0_1.length l0_1) (hc0_1 : l0_1.length ≤ c0_1) (h : impl_writePath.f a0_0 l0_1 a0_2 a0_3 = some r) :
  Calls Tryd.prog 32 #[.agg #[.string a0_0, .slice A0_1 l0_1.length c0_1, .bool a0_2, .string a0_3]] w fun e w' => e = .returned (.string r) ∧ Below w.heap.size w w' := by
 have hu28 := Tryd.underlying28;have HR0_1 := A_ hr0_1;have HC0_1 := A_ hc0_1;clear hr0_1 hc0_1;have HB := A_ (Below.refl w.heap.size w);unfold impl_writePath.f at h
 have H := h;clear h;replace H := bindA H;obtain ⟨t443, A2, H⟩ := H;replace H := iteE H;rcases H with ⟨c3, H⟩ | ⟨c3, H⟩
 ·have c3b0 := eq_true c3
  have c3b1 := dT c3;try have c3b2 : (9223372036854775807 < 1 + t443.size) = False := eq_false (Nat.not_lt.2 c3)
  have HF4 := A_ H;clear H;go_enter Tryd.func32, Tryd.ntmps32;go_upto_if 9 with (first | ((with_reducible refine gD (N := 1) rfl ?_); refine boxE 1 #[.string a0_0, .slice A0_1 l0_1.length c0_1, .bool a0_2, .string a0_3] 28 ?_; intro gb442 hg w5 hbox hb; have BK442 := A_ (hbox); have GE442 := geB hg (zz2 HB); replace HB := A_ (bS (zz2 HB) hb); clear hb hbox hg; obtain ⟨_, _, _, _, _, _, _, _⟩ := cf4 BK442) | ((with_reducible refine gC (f := 55) rfl ?_); refine gsL (some 6) Tryd.func55 #[.slice A0_1 l0_1.length c0_1, .string (⟨#[47]⟩ : ByteArray)] ?_; (with_reducible refine mR (strings_Join.calls _ _ l0_1 (⟨#[47]⟩ : ByteArray) t443 _ ?side1 ?side2 A2.out) ?_); (case side1 => exact (zz58 HR0_1 HB)); (case side2 => exact HC0_1.out); rintro w7 hb; replace BK442 := A_ (bB (zz3 BK442) hb); replace HB := A_ (bS (zz4 HB GE442) hb); (try clear hb); obtain ⟨_, _, _, _, _, _, _, _⟩ := cf4 BK442))
  obtain ⟨H⟩ := HF4;replace H := iteB H;rcases H with ⟨rfl, H⟩ | ⟨rfl, H⟩
  ·replace H := iteN H
   obtain ⟨c10, H⟩ := H;have c10b0 := eq_true c10;have c10b1 := dT c10;try have c10b2 : (9223372036854775807 < 1 + a0_3.size) = False := eq_false (Nat.not_lt.2 c10)
   replace H := iteN H;obtain ⟨c11, H⟩ := H;have c11b0 := eq_true c11;have c11b1 := dT c11;try have c11b2 : (9223372036854775807 < 1 + t443.size + 1 + a0_3.size) = False := eq_false (Nat.not_lt.2 c11)
   obtain rfl := sI H;obtain ⟨_, _, _, _, _, _, _, _⟩ := cf4 BK442;go_wp2
   go_ret
   exact ⟨zz11, (zz4 HB GE442)⟩
  ·obtain rfl := sI H
   go_wp2
   go_ret
   exact ⟨zz11, (zz4 HB GE442)⟩
 ·exact absurd H (by simp)
def impl_writeAddr.f (a0_0 : ByteArray) (l0_1 : List ByteArray) (a0_2 : Bool) (a0_3 : ByteArray) : Option (ByteArray) := if 2 + a0_0.size ≤ 9223372036854775807 then ((impl_writePath.f a0_0 l0_1 a0_2 a0_3).bind fun t445 => (if 2 + a0_0.size + t445.size ≤ 9223372036854775807 then (some (((⟨#[47, 47]⟩ : ByteArray) ++ a0_0) ++ t445)) else (none))) else (none)
theorem impl_writeAddr.calls (a0_0 : ByteArray) (A0_1 : Option Addr) (c0_1 : Nat) (l0_1 : List ByteArray) (a0_2 : Bool) (a0_3 : ByteArray) (r : ByteArray) (w : World) (hr0_1 : Kd.C Kd.string w A0_1 l0_1.length l0_1) (hc0_1 : l0_1.length ≤ c0_1) (h : impl_writeAddr.f a0_0 l0_1 a0_2 a0_3 = some r) :
  Calls Tryd.prog 19 #[.agg #[.string a0_0, .slice A0_1 l0_1.length c0_1, .bool a0_2, .string a0_3]] w fun e w' => e = .returned (.string r) ∧ Below w.heap.size w w' := by
 have hu28 := Tryd.underlying28;have HR0_1 := A_ hr0_1;have HC0_1 := A_ hc0_1;clear hr0_1 hc0_1;have HB := A_ (Below.refl w.heap.size w);unfold impl_writeAddr.f at h
 have H := h;clear h;replace H := iteE H;rcases H with ⟨c2, H⟩ | ⟨c2, H⟩
 ·have c2b0 := eq_true c2
  have c2b1 := dT c2;try have c2b2 : (9223372036854775807 < 2 + a0_0.size) = False := eq_false (Nat.not_lt.2 c2)
  replace H := bindA H;obtain ⟨t445, A3, H⟩ := H;replace H := iteN H;obtain ⟨c4, H⟩ := H;have c4b0 := eq_true c4;have c4b1 := dT c4;try have c4b2 : (9223372036854775807 < 2 + a0_0.size + t445.size) = False := eq_false (Nat.not_lt.2 c4)
  obtain rfl := sI H;go_enter Tryd.func19, Tryd.ntmps19;try go_wp2_with (first | ((with_reducible refine gD (N := 1) rfl ?_); refine boxE 1 #[.string a0_0, .slice A0_1 l0_1.length c0_1, .bool a0_2, .string a0_3] 28 ?_; intro gb444 hg w5 hbox hb; have BK444 := A_ (hbox); have GE444 := geB hg (zz2 HB); replace HB := A_ (bS (zz2 HB) hb); clear hb hbox hg))
  replace BK444 := A_ (blk_drew BK444.out);replace HB := A_ (below_drew1 HB.out);refine start_ (n := 7) (S := fun w' => w'.cell? ⟨gb444, 0, none⟩ = some (.string a0_0) ∧ w'.cell? ⟨gb444, 1, none⟩ = some (.slice A0_1 l0_1.length c0_1) ∧ w'.cell? ⟨gb444, 2, none⟩ = some (.bool a0_2) ∧ w'.cell? ⟨gb444, 3, none⟩ = some (.string a0_3)) (ds := []) #[false, false, false, false, false, false, false] (by kernel_rfl) rfl rfl ⟨(blk_cell BK444.out 0).trans rfl, (blk_cell BK444.out 1).trans rfl, (blk_cell BK444.out 2).trans rfl, (blk_cell BK444.out 3).trans rfl⟩ (fun hHeld => ?_);generalize w5.drew = w6 at BK444 HB hHeld ⊢;refine pureY 0 (some 3) #[true, false, false, false, false, false, false] ?_;refine takeY4 1 (some 4) #[true, true, false, false, false, false, false] hHeld ?_;refine pureY 2 (some 5) #[true, true, true, false, false, false, false] ?_;refine takeY4 3 (some 6) #[true, true, true, true, false, false, false] hHeld ?_;refine one_ (i := 4) (N := some 7) #[true, true, true, true, true, false, false] rfl rfl (by kernel_rfl) (by decide) (fun K hK => ?_);refine goes_ Tryd.func32 (by kernel_rfl) rfl #[.agg #[.string a0_0, .slice A0_1 l0_1.length c0_1, .bool a0_2, .string a0_3]] (by rfl) rfl rfl zz17 ?_;with_reducible refine (impl_writePath.calls a0_0 _ _ l0_1 a0_2 a0_3 t445 _ ?side1 ?side2 A3.out).mono ?_
  (case side1 => exact (zz58 HR0_1 HB))
  (case side2 => exact HC0_1.out)
  rintro e w7 ⟨rfl, hb⟩;refine ⟨_, rfl, ?_⟩;replace BK444 := A_ (bB (zz3 BK444) hb);replace HB := A_ (bS (zz4 HB GE444) hb);(try clear hb)
  (try clear hb2)
  (try clear hk)
  (try clear hi)
  refine hK.out _ _ ⟨(blk_cell BK444.out 0).trans rfl, (blk_cell BK444.out 1).trans rfl, (blk_cell BK444.out 2).trans rfl, (blk_cell BK444.out 3).trans rfl⟩ (fun hHeld => ?_);clear hK K;refine norm_ (a' := ?_) ?_ ?_;rotate_left
  ·show Act.put _ (some 7) _ = _
   simp only [Act.put, List.setIfInBounds_toArray, List.set_cons_zero, List.set_cons_succ, i64_w, i32_w]
   rfl
  refine pureY 5 (some 8) #[true, true, true, true, true, true, false] ?_;refine pureY 6 (some 2) #[true, true, true, true, true, true, true] ?_;refine done_ (by kernel_rfl) ?_;try go_wp2
  go_ret
  exact ⟨zz11, (zz4 HB GE444)⟩
 ·exact absurd H (by simp)
def impl_allSmallLetters.l0 : Nat → ByteArray → Int → Option (Bool)
 | 0, _, _ => none
 | k + 1, x0, x3 => if x3 < (x0.size : Int) then (if 0 ≤ x3 then (if (bt x0 x3) < 97 then (some false) else (if (bt x0 x3) > 122 then (some false) else (impl_allSmallLetters.l0 k x0 (wrap64 (x3 + 1))))) else (none)) else (some true)
def impl_allSmallLetters.f (k : Nat) (a0 : ByteArray) : Option (Bool) := impl_allSmallLetters.l0 k a0 0
theorem impl_allSmallLetters.mono_l : ∀ k, (∀ y0 y1, LeO (impl_allSmallLetters.l0 k y0 y1) (impl_allSmallLetters.l0 (k + 1) y0 y1))
 | 0 => by intros; intro r h; simp [impl_allSmallLetters.l0] at h
 | k + 1 => by
  have ih0 := impl_allSmallLetters.mono_l k; intros; unfold impl_allSmallLetters.l0;repeat' first | (with_reducible first | exact ih0 _ _ | exact LeO.refl _ | exact LeO.none _ | refine LeO.ite ?_ ?_ | refine LeO.bind ?_ (fun _ => ?_)) | exact LeO.none _ | refine LeO.ite ?_ ?_ | refine LeO.bind ?_ (fun _ => ?_)
theorem impl_allSmallLetters.mono : ∀ a0 k, LeO (impl_allSmallLetters.f k a0) (impl_allSmallLetters.f (k + 1) a0) := by
 intro a0 k;have ih0 := impl_allSmallLetters.mono_l k;unfold impl_allSmallLetters.f
 repeat' first | (with_reducible first | exact ih0 _ _ | exact LeO.refl _ | exact LeO.none _ | refine LeO.ite ?_ ?_ | refine LeO.bind ?_ (fun _ => ?_)) | exact LeO.none _ | refine LeO.ite ?_ ?_ | refine LeO.bind ?_ (fun _ => ?_)
theorem impl_allSmallLetters.calls (k : Nat) (a0 : ByteArray) (r : Bool) (w : World) (h : impl_allSmallLetters.f k a0 = some r) :
  Calls Tryd.prog 54 #[.string a0] w fun e w' => e = .returned (.bool r) ∧ Drawn0 w w' := by
 unfold impl_allSmallLetters.f at h
 have H := h;clear h;have H' := A_ H;clear H;go_enter Tryd.func54, Tryd.ntmps54;go_wp2
 go_loopg [3] k (fun kq v3 w' => ∃ (x3_1 : Int), v3 = .int .i64 x3_1 ∧ Aside0 (impl_allSmallLetters.l0 kq a0 x3_1 = some r) ∧ Aside0 (kq ≤ k) ∧ Drawn0 w w')
 case atStart => exact ⟨(0), zz5, H', ⟨Nat.le_refl _⟩, zz19⟩
 case round =>
  clear H';obtain ⟨x3_1, rfl, HA, HK1, ⟨m1, rfl⟩⟩ := hrel;cases gk with
  | zero => exact absurd HA.out (by simp [impl_allSmallLetters.l0])
  | succ k1 =>
   obtain ⟨H⟩ := HA;simp only [impl_allSmallLetters.l0] at H
   replace H := iteEd H;rcases H with ⟨c2b0, H⟩ | ⟨c2b0, H⟩
   ·replace H := iteNd H
    obtain ⟨c3b0, H⟩ := H;replace H := iteEd H;rcases H with ⟨c5b0, H⟩ | ⟨c5b0, H⟩
    ·obtain rfl := sI H
     have p4 : 0 ≤ (x3_1 : Int) := ofD;have q4 : x3_1 < (a0.size : Int) := ofD;have hx4 := bt_at a0 x3_1;replace p4 := eq_true p4;replace q4 := eq_true q4;go_wp2
     go_ret
     exact ⟨zz5, zz19⟩
    ·replace H := iteEg H
     rcases H with ⟨c7b0, H⟩ | ⟨c7b0, H⟩
     ·obtain rfl := sI H
      have p4 : 0 ≤ (x3_1 : Int) := ofD;have q4 : x3_1 < (a0.size : Int) := ofD;have hx4 := bt_at a0 x3_1;replace p4 := eq_true p4;replace q4 := eq_true q4;have p6 : 0 ≤ (x3_1 : Int) := ofD;have q6 : x3_1 < (a0.size : Int) := ofD;have hx6 := bt_at a0 x3_1;replace p6 := eq_true p6;replace q6 := eq_true q6;go_wp2
      go_ret
      exact ⟨zz5, zz19⟩
     ·have H' := A_ H
      clear H;have p4 : 0 ≤ (x3_1 : Int) := ofD;have q4 : x3_1 < (a0.size : Int) := ofD;have hx4 := bt_at a0 x3_1;replace p4 := eq_true p4;replace q4 := eq_true q4;have p6 : 0 ≤ (x3_1 : Int) := ofD;have q6 : x3_1 < (a0.size : Int) := ofD;have hx6 := bt_at a0 x3_1;replace p6 := eq_true p6;replace q6 := eq_true q6;go_wp2
      go_roundg k1
      case measure => have := HK1.out; omega
      case rel => exact ⟨(wrap64 (x3_1 + 1)), zz5, H', ⟨(zz21 HK1)⟩, zz19⟩
   ·obtain rfl := sI H
    go_wp2
    go_ret
    exact ⟨zz5, zz19⟩
def impl_isHouse.f (k : Nat) (a0 : ByteArray) : Option (Bool) := if (a0.size : Int) ≥ 1 then (if (a0.size : Int) ≤ 5 then ((impl_allSmallLetters.f k a0).bind fun t446 => (some t446)) else (some false)) else (some false)
theorem impl_isHouse.calls (k : Nat) (a0 : ByteArray) (r : Bool) (w : World) (h : impl_isHouse.f k a0 = some r) :
  Calls Tryd.prog 30 #[.string a0] w fun e w' => e = .returned (.bool r) ∧ Drawn0 w w' := by
 unfold impl_isHouse.f at h
 have H := h;clear h;replace H := iteE H;rcases H with ⟨c2, H⟩ | ⟨c2, H⟩
 ·have c2b0 := geT c2
  have c2b1 : decide (1 ≤ a0.size) = true := dT (by omega);clear c2;replace H := iteE H;rcases H with ⟨c3, H⟩ | ⟨c3, H⟩
  ·have c3b0 := dT c3
   have c3b1 : decide (a0.size ≤ 5) = true := dT (by omega);clear c3;replace H := bindA H;obtain ⟨t446, A4, H⟩ := H;obtain rfl := sI H;go_enter Tryd.func30, Tryd.ntmps30;go_wp2_with (first | (go_at_call 54; (with_reducible refine (impl_allSmallLetters.calls k a0 t446 _ A4.out).mono ?_); rintro e w' ⟨rfl, ⟨nd, rfl⟩⟩))
   go_ret
   exact ⟨zz5, zz19⟩
  ·have c3b0 := dF c3
   have c3b1 : decide (a0.size ≤ 5) = false := dF (by omega);clear c3;obtain rfl := sI H;go_enter Tryd.func30, Tryd.ntmps30;go_wp2
   go_ret
   exact ⟨zz5, zz19⟩
 ·have c2b0 := geF c2
  have c2b1 : decide (1 ≤ a0.size) = false := dF (by omega);clear c2;obtain rfl := sI H;go_enter Tryd.func30, Tryd.ntmps30;go_wp2
  go_ret
  exact ⟨zz5, zz19⟩
def impl_isNormal.f (k : Nat) (a0 : ByteArray) : Option (Bool) := (impl_EscNorm.f k a0).bind fun bt473 => (if bt473.2 = true then (some (bt473.1.toList == a0.toList)) else (some false))
theorem impl_isNormal.calls (k : Nat) (a0 : ByteArray) (r : Bool) (w : World) (h : impl_isNormal.f k a0 = some r) :
  Calls Tryd.prog 31 #[.string a0] w fun e w' => e = .returned (.bool r) ∧ Below w.heap.size w w' := by
 have HB := A_ (Below.refl w.heap.size w);unfold impl_isNormal.f at h
 have H := h;clear h;replace H := bindA H;obtain ⟨⟨t473, t474⟩, A2, H⟩ := H;try dsimp only at H
 have HF3 := A_ H;clear H;go_enter Tryd.func31, Tryd.ntmps31;go_wp2_with (first | ((with_reducible refine gC (f := 50) rfl ?_); refine gsL (some 7) Tryd.func50 #[.string a0] ?_; (with_reducible refine mR (impl_EscNorm.calls k a0 t473 t474 _ A2.out) ?_); rintro w4 hb; replace HB := A_ (bS (zz2 HB) hb); (try clear hb)) | ((with_reducible refine atG ?_ ?_ fun K_ hK_ => ?_); rfl; exact undecG) | ((with_reducible refine atI ?_ fun K_ hK_ => ?_); exact undecI))
 refine unG hK_ ?_; clear hK_ K_;obtain ⟨H⟩ := HF3;replace H := iteB H;rcases H with ⟨rfl, H⟩ | ⟨rfl, H⟩
 ·(first | refine iteT ?_ | refine iteF ?_ | skip)
  obtain rfl := sI H;(try ((with_reducible refine upS ?_); go_simp))
  go_wp2
  go_ret
  exact ⟨zz11, (zz2 HB)⟩
 ·(first | refine iteT ?_ | refine iteF ?_ | skip)
  obtain rfl := sI H;(try ((with_reducible refine upS ?_); go_simp))
  go_wp2
  go_ret
  exact ⟨zz11, (zz2 HB)⟩
mutual
def impl_AddrOk.j0 : Nat → Bool → ByteArray → List ByteArray → Bool → ByteArray → Option (Bool)
 | 0, _, _, _, _, _ => none
 | k + 1, x14, x476000, x476001, x476002, x476003 => if x14 = true then (some false) else (impl_AddrOk.l0 k x476001 (x476001.length : Int) 0 x476000 x476001 x476002 x476003)
def impl_AddrOk.l0 : Nat → List ByteArray → Int → Int → ByteArray → List ByteArray → Bool → ByteArray → Option (Bool)
 | 0, _, _, _, _, _, _, _ => none
 | k + 1, x16, x17, x18, x476000, x476001, x476002, x476003 => if x18 < x17 then (if 0 ≤ x18 then (if x18 < (x16.length : Int) then (if (rdOf ByteArray.empty x16 x18).toList = ([] : List UInt8) then (some false) else (if (rdOf ByteArray.empty x16 x18).toList = ([46] : List UInt8) then (some false) else (if (rdOf ByteArray.empty x16 x18).toList = ([46, 46] : List UInt8) then (some false) else ((impl_isNormal.f k (rdOf ByteArray.empty x16 x18)).bind fun t478 => (if t478 = true then (impl_AddrOk.l0 k x16 x17 (wrap64 (x18 + 1)) x476000 x476001 x476002 x476003) else (some false)))))) else (none)) else (none)) else ((impl_isNormal.f k x476003).bind fun t479 => (if t479 = true then (if x476002 = true then ((impl_writeAddr.f x476000 x476001 x476002 x476003).bind fun t480 => (some (decide ((t480.size : Int) ≤ 60)))) else (if x476003.toList = ([] : List UInt8) then ((impl_writeAddr.f x476000 x476001 x476002 x476003).bind fun t481 => (some (decide ((t481.size : Int) ≤ 60)))) else (some false))) else (some false)))
end
def impl_AddrOk.f (k : Nat) (a0_0 : ByteArray) (l0_1 : List ByteArray) (a0_2 : Bool) (a0_3 : ByteArray) : Option (Bool) := (impl_isHouse.f k a0_0).bind fun t476 => (if t476 = true then (impl_AddrOk.j0 k (decide ((l0_1.length : Int) > 5)) a0_0 l0_1 a0_2 a0_3) else (impl_AddrOk.j0 k true a0_0 l0_1 a0_2 a0_3))
theorem impl_AddrOk.calls (k : Nat) (a0_0 : ByteArray) (A0_1 : Option Addr) (c0_1 : Nat) (l0_1 : List ByteArray) (a0_2 : Bool) (a0_3 : ByteArray) (r : Bool) (w : World) (hr0_1 : Kd.C Kd.string w A0_1 l0_1.length l0_1) (hc0_1 : l0_1.length ≤ c0_1) (h : impl_AddrOk.f k a0_0 l0_1 a0_2 a0_3 = some r) :
  Calls Tryd.prog 18 #[.agg #[.string a0_0, .slice A0_1 l0_1.length c0_1, .bool a0_2, .string a0_3]] w fun e w' => e = .returned (.bool r) ∧ Below w.heap.size w w' := by
 have hu28 := Tryd.underlying28;have HR0_1 := A_ hr0_1;have HC0_1 := A_ hc0_1;clear hr0_1 hc0_1;have HB := A_ (Below.refl w.heap.size w);unfold impl_AddrOk.f at h
 have H := h;clear h;have HC2 := A_ H;clear H;go_enter Tryd.func18, Tryd.ntmps18;go_upto_region 1 with (first | ((with_reducible refine gD (N := 1) rfl ?_); (try (refine gate_guard (by rfl) ?_; dsimp only)); refine boxE 1 #[.string a0_0, .slice A0_1 l0_1.length c0_1, .bool a0_2, .string a0_3] 28 ?_; intro gb475 hg w3 hbox hb; have BK475 := A_ (hbox); have GE475 := geB hg (zz2 HB); replace HB := A_ (bS (zz2 HB) hb); clear hb hbox hg))
 (try simp only [Act.put, List.setIfInBounds_toArray, List.set_cons_zero, List.set_cons_succ])
 go_cut [14] (fun v14 wc => ∃ (kq : Nat) (x14_1 : Bool), v14 = .bool x14_1 ∧ Aside0 (impl_AddrOk.j0 kq x14_1 a0_0 l0_1 a0_2 a0_3 = some r) ∧ Aside0 (kq ≤ k) ∧ Aside0 (wc.heap[gb475]? = some (.cells #[.string a0_0, (.slice A0_1 l0_1.length c0_1), .bool a0_2, .string a0_3] 28 (0, 0))) ∧ Aside0 (Below w.heap.size w wc))
 case first =>
  obtain ⟨H⟩ := HC2;replace H := bindA H;obtain ⟨t476, A4, H⟩ := H;have HF5 := A_ H;clear H;obtain ⟨_, _, _, _, _, _, _, _⟩ := cf4 BK475;go_wp2_with (first | ((with_reducible refine gC (f := 30) rfl ?_); refine gsL (some 7) Tryd.func30 #[.string a0_0] ?_; (with_reducible refine (impl_isHouse.calls k a0_0 t476 _ A4.out).mono ?_); rintro e w' ⟨rfl, ⟨nd, rfl⟩⟩; refine ⟨_, rfl, ?_⟩) | ((with_reducible refine atG ?_ ?_ fun K_ hK_ => ?_); rfl; exact undecG) | ((with_reducible refine atI ?_ fun K_ hK_ => ?_); exact undecI))
  refine unG hK_ ?_; clear hK_ K_;obtain ⟨H⟩ := HF5;replace H := iteB H;rcases H with ⟨rfl, H⟩ | ⟨rfl, H⟩
  ·(first | refine iteT ?_ | refine iteF ?_ | skip)
   have H' := A_ H;clear H;obtain ⟨_, _, _, _, _, _, _, _⟩ := cf4 BK475;(try ((with_reducible refine upS ?_); go_simp))
   go_wp2
   go_meet
   case rel => exact ⟨_, (decide ((l0_1.length : Int) > 5)), zz5, H', ⟨zz6⟩, ⟨(zz3 BK475)⟩, ⟨(zz4 HB GE475)⟩⟩
  ·(first | refine iteT ?_ | refine iteF ?_ | skip)
   have H' := A_ H;clear H;(try ((with_reducible refine upS ?_); go_simp))
   go_wp2
   go_meet
   case rel => exact ⟨_, (true), zz5, H', ⟨zz6⟩, ⟨(zz3 BK475)⟩, ⟨(zz4 HB GE475)⟩⟩
 case rest =>
  clear HC2;obtain ⟨kq, x14_1, rfl, HA, HJ1, BK475, HB⟩ := hcut;cases kq with
  | zero => exact absurd HA.out (by simp [impl_AddrOk.j0])
  | succ kj1 =>
   obtain ⟨H⟩ := HA;simp only [impl_AddrOk.j0] at H
   replace H := iteB H;rcases H with ⟨rfl, H⟩ | ⟨rfl, H⟩
   ·obtain rfl := sI H
    go_wp2
    go_ret
    exact ⟨zz11, (zz4 HB GE475)⟩
   ·have H' := A_ H
    clear H;obtain ⟨_, _, _, _, _, _, _, _⟩ := cf4 BK475;go_wp2
    go_loopg [18] kj1 (fun kq v18 w' => ∃ (x18_2 : Int), v18 = .int .i64 x18_2 ∧ Aside0 (impl_AddrOk.l0 kq l0_1 (l0_1.length : Int) x18_2 a0_0 l0_1 a0_2 a0_3 = some r) ∧ Aside0 (kq ≤ kj1) ∧ Aside0 (w'.heap[gb475]? = some (.cells #[.string a0_0, (.slice A0_1 l0_1.length c0_1), .bool a0_2, .string a0_3] 28 (0, 0))) ∧ Aside0 (Below w.heap.size w w'))
    case atStart => exact ⟨(0), zz5, H', ⟨Nat.le_refl _⟩, ⟨(zz3 BK475)⟩, ⟨(zz4 HB GE475)⟩⟩
    case round =>
     clear H';obtain ⟨x18_2, rfl, HA, HK2, BK475, HB⟩ := hrel;cases gk with
     | zero => exact absurd HA.out (by simp [impl_AddrOk.l0])
     | succ k2 =>
      obtain ⟨H⟩ := HA;simp only [impl_AddrOk.l0] at H
      replace H := iteEd H;rcases H with ⟨c11b0, H⟩ | ⟨c11b0, H⟩
      ·replace H := iteNd H
       obtain ⟨c12b0, H⟩ := H;replace H := iteNd H;obtain ⟨c13b0, H⟩ := H;replace H := iteEq H;rcases H with ⟨c14b0, c14b1, H⟩ | ⟨c14b0, c14b1, c14, H⟩
       ·obtain rfl := sI H
        obtain ⟨⟨ad477, e477, hx477_0⟩, p477, q477⟩ := atB (Kd.at_string HR0_1.out x18_2);cases e477
        replace hx477_0 := cbl HB hx477_0;go_wp2
        go_ret
        exact ⟨zz11, (zz4 HB GE475)⟩
       ·replace H := iteEq H
        rcases H with ⟨c15b0, c15b1, H⟩ | ⟨c15b0, c15b1, c15, H⟩
        ·obtain rfl := sI H
         obtain ⟨⟨ad477, e477, hx477_0⟩, p477, q477⟩ := atB (Kd.at_string HR0_1.out x18_2);cases e477
         replace hx477_0 := cbl HB hx477_0;go_wp2
         go_ret
         exact ⟨zz11, (zz4 HB GE475)⟩
        ·replace H := iteEq H
         rcases H with ⟨c16b0, c16b1, H⟩ | ⟨c16b0, c16b1, c16, H⟩
         ·obtain rfl := sI H
          obtain ⟨⟨ad477, e477, hx477_0⟩, p477, q477⟩ := atB (Kd.at_string HR0_1.out x18_2);cases e477
          replace hx477_0 := cbl HB hx477_0;go_wp2
          go_ret
          exact ⟨zz11, (zz4 HB GE475)⟩
         ·replace H := Option.bind_eq_some_iff.mp H
          obtain ⟨t478, A170, H⟩ := H;replace H : (if t478 = true then (impl_AddrOk.l0 k2 l0_1 (l0_1.length : Int) (wrap64 (x18_2 + 1)) a0_0 l0_1 a0_2 a0_3) else (some false)) = some r := H;have A17 := A_ A170;clear A170;have HF18 := A_ H;clear H;obtain ⟨⟨ad477, e477, hx477_0⟩, p477, q477⟩ := atB (Kd.at_string HR0_1.out x18_2);cases e477
          replace hx477_0 := cbl HB hx477_0;go_upto_if 36 with (first | (go_at_call 31; (with_reducible refine (impl_isNormal.calls k2 (rdOf ByteArray.empty l0_1 x18_2) t478 _ A17.out).mono ?_); rintro e w19 ⟨rfl, hb⟩; replace BK475 := A_ (bB (zz3 BK475) hb); replace HB := A_ (bS (zz4 HB GE475) hb); (try clear hb)))
          obtain ⟨H⟩ := HF18;replace H := iteB H;rcases H with ⟨rfl, H⟩ | ⟨rfl, H⟩
          ·have H' := A_ H
           clear H;go_wp2
           go_roundg k2
           case measure => have := HJ1.out; have := HK2.out; omega
           case rel => exact ⟨(wrap64 (x18_2 + 1)), zz5, H', ⟨(zz24 HJ1 HK2)⟩, ⟨(zz3 BK475)⟩, ⟨(zz4 HB GE475)⟩⟩
          ·obtain rfl := sI H
           go_wp2
           go_ret
           exact ⟨zz11, (zz4 HB GE475)⟩
      ·replace H := Option.bind_eq_some_iff.mp H
       obtain ⟨t479, A210, H⟩ := H;replace H : (if t479 = true then (if a0_2 = true then ((impl_writeAddr.f a0_0 l0_1 a0_2 a0_3).bind fun t480 => (some (decide ((t480.size : Int) ≤ 60)))) else (if a0_3.toList = ([] : List UInt8) then ((impl_writeAddr.f a0_0 l0_1 a0_2 a0_3).bind fun t481 => (some (decide ((t481.size : Int) ≤ 60)))) else (some false))) else (some false)) = some r := H;have A21 := A_ A210;clear A210;have HF22 := A_ H;clear H;obtain ⟨_, _, _, _, _, _, _, _⟩ := cf4 BK475;go_wp2_with (first | ((with_reducible refine gC (f := 31) rfl ?_); refine gsL (some 40) Tryd.func31 #[.string a0_3] ?_; (with_reducible refine mR (impl_isNormal.calls k2 a0_3 t479 _ A21.out) ?_); rintro w24 hb; replace BK475 := A_ (bB (zz3 BK475) hb); replace HB := A_ (bS (zz4 HB GE475) hb); (try clear hb)) | ((with_reducible refine atG ?_ ?_ fun K_ hK_ => ?_); rfl; exact undecG) | ((with_reducible refine atI ?_ fun K_ hK_ => ?_); exact undecI))
       refine unG hK_ ?_; clear hK_ K_;obtain ⟨H⟩ := HF22;replace H := iteB H;rcases H with ⟨rfl, H⟩ | ⟨rfl, H⟩
       ·(first | refine iteT ?_ | refine iteF ?_ | skip)
        replace H := iteB H;rcases H with ⟨rfl, H⟩ | ⟨rfl, H⟩
        ·replace H := Option.bind_eq_some_iff.mp H
         obtain ⟨t480, A270, H⟩ := H;replace H : (some (decide ((t480.size : Int) ≤ 60))) = some r := H;have A27 := A_ A270;clear A270;obtain rfl := sI H;obtain ⟨_, _, _, _, _, _, _, _⟩ := cf4 BK475;go_wp2_with (first | ((with_reducible refine gC (f := 19) rfl ?_); refine gsL (some 53) Tryd.func19 #[.agg #[.string a0_0, .slice A0_1 l0_1.length c0_1, .bool true, .string a0_3]] ?_; (with_reducible refine mR (impl_writeAddr.calls a0_0 _ _ l0_1 true a0_3 t480 _ ?side1 ?side2 A27.out) ?_); (case side1 => exact (zz58 HR0_1 HB)); (case side2 => exact HC0_1.out); rintro w29 hb; replace BK475 := A_ (bB (zz3 BK475) hb); replace HB := A_ (bS (zz4 HB GE475) hb); (try clear hb)))
         go_ret
         exact ⟨zz11, (zz4 HB GE475)⟩
        ·replace H := iteE H
         rcases H with ⟨c30, H⟩ | ⟨c30, H⟩
         ·obtain ⟨c30b0, c30b1⟩ := eqT c30
          clear c30;replace H := bindA H;obtain ⟨t481, A31, H⟩ := H;obtain rfl := sI H;obtain ⟨_, _, _, _, _, _, _, _⟩ := cf4 BK475;go_wp2_with (first | ((with_reducible refine gC (f := 19) rfl ?_); refine gsL (some 53) Tryd.func19 #[.agg #[.string a0_0, .slice A0_1 l0_1.length c0_1, .bool false, .string a0_3]] ?_; (with_reducible refine mR (impl_writeAddr.calls a0_0 _ _ l0_1 false a0_3 t481 _ ?side1 ?side2 A31.out) ?_); (case side1 => exact (zz58 HR0_1 HB)); (case side2 => exact HC0_1.out); rintro w33 hb; replace BK475 := A_ (bB (zz3 BK475) hb); replace HB := A_ (bS (zz4 HB GE475) hb); (try clear hb)))
          go_ret
          exact ⟨zz11, (zz4 HB GE475)⟩
         ·obtain ⟨c30b0, c30b1⟩ := eqF c30
          obtain rfl := sI H;obtain ⟨_, _, _, _, _, _, _, _⟩ := cf4 BK475;go_wp2
          go_ret
          exact ⟨zz11, (zz4 HB GE475)⟩
       ·(first | refine iteT ?_ | refine iteF ?_ | skip)
        obtain rfl := sI H;(try ((with_reducible refine upS ?_); go_simp))
        go_wp2
        go_ret
        exact ⟨zz11, (zz4 HB GE475)⟩
def strings_Index.f (a0 : ByteArray) (a1 : ByteArray) : Option (Int) := (stringslite_Index.f a0 a1).bind fun t482 => (some t482)
theorem strings_Index.calls (a0 : ByteArray) (a1 : ByteArray) (r : Int) (w : World) (h : strings_Index.f a0 a1 = some r) :
  Calls Tryd.prog 89 #[.string a0, .string a1] w fun e w' => e = .returned (.int .i64 r) ∧ Below w.heap.size w w' := by
 have HB := A_ (Below.refl w.heap.size w);unfold strings_Index.f at h
 have H := h;clear h;replace H := bindA H;obtain ⟨t482, A3, H⟩ := H;obtain rfl := sI H;go_enter Tryd.func89, Tryd.ntmps89;go_wp2_with (first | ((with_reducible refine gC (f := 44) rfl ?_); refine gsL (some 7) Tryd.func44 #[.string a0, .string a1] ?_; (with_reducible refine mR (stringslite_Index.calls a0 a1 t482 _ A3.out) ?_); rintro w4 hb; replace HB := A_ (bS (zz2 HB) hb); (try clear hb)))
 go_ret
 exact ⟨zz11, (zz2 HB)⟩
end Go.Proofs.YtpomhjkbgbociaaDoor.P
end
section
namespace Go.Proofs.YtpomhjkbgbociaaDoor.P
open Go.RowKit Go.Proofs.YtpomhjkbgbociaaDoorW.PrintWords Go.Proofs.YtpomhjkbgbociaaDoorW.PrintLast Go.Proofs.YtpomhjkbgbociaaDoorW.PrintMore
set_option linter.unusedVariables false
def strings_explode.f (a0 : ByteArray) (a1 : Int) : Option (List ByteArray) := none
theorem strings_explode.calls (a0 : ByteArray) (a1 : Int) (r : List ByteArray) (w : World) (h : strings_explode.f a0 a1 = some r) :
  Calls Tryd.prog 87 #[.string a0, .int .i64 a1] w fun e w' => ∃ v0_ : Value, e = .returned (v0_) ∧ Kd.R Kd.string 9 w' w.heap.size (fun _ => True) v0_ r ∧ Below w.heap.size w w' := by
 cases h
end Go.Proofs.YtpomhjkbgbociaaDoor.P
end
section
namespace Go.Proofs.YtpomhjkbgbociaaDoor.P
open Go.RowKit Go.Proofs.YtpomhjkbgbociaaDoorW.PrintWords Go.Proofs.YtpomhjkbgbociaaDoorW.PrintLast Go.Proofs.YtpomhjkbgbociaaDoorW.PrintMore
attribute [local go_sem] max2_int min2_int max_two min_two max_three min_three max_four min_four
set_option linter.unusedVariables false
set_option linter.unusedSimpArgs false
set_option maxHeartbeats 8000000
set_option maxRecDepth 100000
mutual
def strings_genSplit.j0 : Nat → ByteArray → ByteArray → Int → Int → Option (List ByteArray)
 | 0, _, _, _, _ => none
 | k + 1, x0, x1, x2, x3 => if 0 ≤ (mn x3 (wrap64 ((x0.size : Int) + 1))) then (if (mn x3 (wrap64 ((x0.size : Int) + 1)) : Int).toNat ≤ 17592186044416 then (strings_genSplit.l0 k x0 x1 x2 (wrap64 ((mn x3 (wrap64 ((x0.size : Int) + 1))) - 1)) (List.replicate (mn x3 (wrap64 ((x0.size : Int) + 1)) : Int).toNat (⟨#[]⟩ : ByteArray)) 0) else (none)) else (none)
def strings_genSplit.l0 : Nat → ByteArray → ByteArray → Int → Int → List ByteArray → Int → Option (List ByteArray)
 | 0, _, _, _, _, _, _ => none
 | k + 1, x0, x1, x2, x3, x9, x10 => if x10 < x3 then ((strings_Index.f x0 x1).bind fun t490 => (if t490 < 0 then (if 0 ≤ x10 then (if x10 < (x9.length : Int) then (if 0 ≤ (wrap64 (x10 + 1)) then (if (wrap64 (x10 + 1)) ≤ (x9.length : Int) then (some ((x9.set (x10 : Int).toNat x0).take ((wrap64 (x10 + 1)) : Int).toNat)) else (none)) else (none)) else (none)) else (none)) else (if 0 ≤ (wrap64 (t490 + x2)) then (if (wrap64 (t490 + x2)) ≤ (x0.size : Int) then (if 0 ≤ x10 then (if x10 < (x9.length : Int) then (if 0 ≤ (wrap64 (t490 + (x1.size : Int))) then (if (wrap64 (t490 + (x1.size : Int))) ≤ (x0.size : Int) then (strings_genSplit.l0 k (x0.extract ((wrap64 (t490 + (x1.size : Int))) : Int).toNat x0.size) x1 x2 x3 (x9.set (x10 : Int).toNat (x0.extract 0 ((wrap64 (t490 + x2)) : Int).toNat)) (wrap64 (x10 + 1))) else (none)) else (none)) else (none)) else (none)) else (none)) else (none)))) else (if 0 ≤ x10 then (if x10 < (x9.length : Int) then (if 0 ≤ (wrap64 (x10 + 1)) then (if (wrap64 (x10 + 1)) ≤ (x9.length : Int) then (some ((x9.set (x10 : Int).toNat x0).take ((wrap64 (x10 + 1)) : Int).toNat)) else (none)) else (none)) else (none)) else (none))
end
def strings_genSplit.f (k : Nat) (a0 : ByteArray) (a1 : ByteArray) (a2 : Int) (a3 : Int) : Option (List ByteArray) := if a3 = 0 then (some ([] : List ByteArray)) else (if a1.toList = ([] : List UInt8) then ((strings_explode.f a0 a3).bind fun t483 => (some t483)) else (if a3 < 0 then ((strings_Count.f a0 a1).bind fun t486 => (strings_genSplit.j0 k a0 a1 a2 (wrap64 (t486 + 1)))) else (strings_genSplit.j0 k a0 a1 a2 a3)))
theorem strings_genSplit.calls (k : Nat) (a0 : ByteArray) (a1 : ByteArray) (a2 : Int) (a3 : Int) (r : List ByteArray) (w : World) (h : strings_genSplit.f k a0 a1 a2 a3 = some r) :
  Calls Tryd.prog 74 #[.string a0, .string a1, .int .i64 a2, .int .i64 a3] w fun e w' => ∃ v0_ : Value, e = .returned (v0_) ∧ Kd.R Kd.string 9 w' w.heap.size (fun _ => True) v0_ r ∧ Below w.heap.size w w' := by
 have HB := A_ (Below.refl w.heap.size w);unfold strings_genSplit.f at h
 have H := h;clear h;replace H := iteEq H;rcases H with ⟨c5b0, c5b1, H⟩ | ⟨c5b0, c5b1, c5, H⟩
 ·obtain rfl := sI H
  go_enter Tryd.func74, Tryd.ntmps74;go_wp2
  go_ret
  exact ⟨_, zz11, zz72, (zz2 HB)⟩
 ·replace H := iteEq H
  rcases H with ⟨c6b0, c6b1, H⟩ | ⟨c6b0, c6b1, c6, H⟩
  ·replace H := Option.bind_eq_some_iff.mp H
   obtain ⟨t483, A70, H⟩ := H;replace H : (some t483) = some r := H;have A7 := A_ A70;clear A70;obtain rfl := sI H;go_enter Tryd.func74, Tryd.ntmps74;go_wp2_with (first | ((with_reducible refine gC (f := 87) rfl ?_); refine gsL (some 18) Tryd.func87 #[.string a0, .int .i64 a3] ?_; (with_reducible refine mV (strings_explode.calls a0 a3 t483 _ A7.out) ?_); rintro v484 w8 ⟨ho0, hb⟩; have HO485 := A_ (Kd.R_lower ho0 (below_size (zz2 HB))); replace HB := A_ (bS (zz2 HB) hb); (try clear hb ho0)))
   go_ret
   exact ⟨_, zz11, (zz18 HO485), (zz2 HB)⟩
  ·have HC9 := A_ H
   clear H;go_enter Tryd.func74, Tryd.ntmps74;go_upto_if 20 with (fail)
   go_cut [3] (fun v3 wc => ∃ (kq : Nat) (x3_8 : Int), v3 = .int .i64 x3_8 ∧ Aside0 (strings_genSplit.j0 kq a0 a1 a2 x3_8 = some r) ∧ Aside0 (kq ≤ k) ∧ Aside0 (Below w.heap.size w wc))
   case first =>
    obtain ⟨H⟩ := HC9;replace H := iteEd H;rcases H with ⟨c10b0, H⟩ | ⟨c10b0, H⟩
    ·(first | rw [c10b0] | (simp only [i64_w, i32_w]; rw [c10b0]) | skip)
     replace H := bindA H;obtain ⟨t486, A11, H⟩ := H;have H' := A_ H;clear H;go_wp2_with (first | ((with_reducible refine gC (f := 88) rfl ?_); refine gsL (some 23) Tryd.func88 #[.string a0, .string a1] ?_; (with_reducible refine mR (strings_Count.calls a0 a1 t486 _ A11.out) ?_); rintro w12 hb; replace HB := A_ (bS (zz2 HB) hb); (try clear hb)))
     go_meet
     case rel => exact ⟨_, (wrap64 (t486 + 1)), zz5, H', ⟨zz6⟩, ⟨(zz2 HB)⟩⟩
    ·(first | rw [c10b0] | (simp only [i64_w, i32_w]; rw [c10b0]) | skip)
     have H' := A_ H;clear H;go_wp2
     go_meet
     case rel => exact ⟨_, (a3), zz5, H', ⟨zz6⟩, ⟨(zz2 HB)⟩⟩
   case rest =>
    clear HC9;obtain ⟨kq, x3_8, rfl, HA, HJ8, HB⟩ := hcut;cases kq with
    | zero => exact absurd HA.out (by simp [strings_genSplit.j0])
    | succ kj8 =>
     obtain ⟨H⟩ := HA;simp only [strings_genSplit.j0] at H
     obtain ⟨ji13, hji13⟩ : ∃ j_ : Int, (mn x3_8 (wrap64 ((a0.size : Int) + 1))) = j_ := ⟨_, rfl⟩;(first | rw [hji13] at H | simp only [hji13] at H)
     have hji13_ : (if (wrap64 ((a0.size : Int) + 1)) < x3_8 then (wrap64 ((a0.size : Int) + 1)) else x3_8) = ji13 := hji13;replace H := iteE H;rcases H with ⟨c14, H⟩ | ⟨c14, H⟩
     ·have c14b0 := eq_true c14
      have c14b1 := dT c14;clear c14;replace H := iteN H;obtain ⟨c15, H⟩ := H;have c15b0 := eq_true c15;have c15b1 := dT c15;clear c15;obtain ⟨y487, Ny487⟩ := toY (List.replicate (ji13 : Int).toNat (⟨#[]⟩ : ByteArray));(first | with_reducible replace H := bindZ Ny487 H | rw [← Ny487.out] at H | skip)
      have H' := A_ H;clear H;go_wp2_with (first | ((with_reducible refine gD (N := 31) rfl ?_); refine Kd.R_make Kd.string _ 9 rfl (N := 31) rfl 26 _ _ rfl ji13 rfl rfl Tryd.underlying26 (.string ⟨#[]⟩) 16 info9 rfl (by decide) (by omega) (⟨#[]⟩ : ByteArray) (ok := fun _ => True) (okp := fun _ => True) rfl (fun _ hk => hk) trivial ofD (Nat.le_trans (Nat.mul_le_mul_right _ (ofD : ji13.toNat ≤ 17592186044416)) (by omega)) (Below.refl _ _) (Nat.le_refl _) ?_; intro v488 w16 ho17 hb hg_ hnew_; clear hg_ hnew_; (first | rw [← Ny487.out] at ho17 | (simp only [Int.reduceToNat] at ho17; rw [← Ny487.out] at ho17)); have HO489 := A_ (Kd.R_lower ho17 (below_size (zz2 HB))); replace HB := A_ (bS (zz2 HB) hb); clear hb ho17))
      go_loopg [0, 10] kj8 (fun kq v0 v10 w' => ∃ (x0_2 : ByteArray) (x9_2 : List ByteArray) (x10_2 : Int), v0 = .string x0_2 ∧ v10 = .int .i64 x10_2 ∧ Aside0 (strings_genSplit.l0 kq x0_2 a1 a2 (wrap64 ((ji13) - 1)) x9_2 x10_2 = some r) ∧ Aside0 (kq ≤ kj8) ∧ Aside0 (Kd.R Kd.string 9 w' w.heap.size (fun _ => True) v488 x9_2) ∧ Aside0 (Below w.heap.size w w'))
      case atStart => exact ⟨(a0), (y487), (0), zz5, zz5, H', ⟨Nat.le_refl _⟩, ⟨(zz18 HO489)⟩, ⟨(zz2 HB)⟩⟩
      case round =>
       clear H';obtain ⟨x0_2, x9_2, x10_2, rfl, rfl, HA, HK2, HO_9, HB⟩ := hrel;cases gk with
       | zero => exact absurd HA.out (by simp [strings_genSplit.l0])
       | succ k2 =>
        obtain ⟨H⟩ := HA;simp only [strings_genSplit.l0] at H
        replace H := iteEd H;rcases H with ⟨c18b0, H⟩ | ⟨c18b0, H⟩
        ·replace H := Option.bind_eq_some_iff.mp H
         obtain ⟨t490, A190, H⟩ := H;replace H : (if t490 < 0 then (if 0 ≤ x10_2 then (if x10_2 < (x9_2.length : Int) then (if 0 ≤ (wrap64 (x10_2 + 1)) then (if (wrap64 (x10_2 + 1)) ≤ (x9_2.length : Int) then (some ((x9_2.set (x10_2 : Int).toNat x0_2).take ((wrap64 (x10_2 + 1)) : Int).toNat)) else (none)) else (none)) else (none)) else (none)) else (if 0 ≤ (wrap64 (t490 + a2)) then (if (wrap64 (t490 + a2)) ≤ (x0_2.size : Int) then (if 0 ≤ x10_2 then (if x10_2 < (x9_2.length : Int) then (if 0 ≤ (wrap64 (t490 + (a1.size : Int))) then (if (wrap64 (t490 + (a1.size : Int))) ≤ (x0_2.size : Int) then (strings_genSplit.l0 k2 (x0_2.extract ((wrap64 (t490 + (a1.size : Int))) : Int).toNat x0_2.size) a1 a2 (wrap64 ((ji13) - 1)) (x9_2.set (x10_2 : Int).toNat (x0_2.extract 0 ((wrap64 (t490 + a2)) : Int).toNat)) (wrap64 (x10_2 + 1))) else (none)) else (none)) else (none)) else (none)) else (none)) else (none))) = some r := H;have A19 := A_ A190;clear A190;have HF20 := A_ H;clear H;go_upto_if 41 with (first | ((with_reducible refine gC (f := 89) rfl ?_); refine gsL (some 39) Tryd.func89 #[.string x0_2, .string a1] ?_; (with_reducible refine mR (strings_Index.calls x0_2 a1 t490 _ A19.out) ?_); rintro w21 hb; replace HO_9 := A_ (rB (zz18 HO_9) hb); replace HB := A_ (bS (zz2 HB) hb); (try clear hb)))
         obtain ⟨H⟩ := HF20;replace H := iteEd H;rcases H with ⟨c22b0, H⟩ | ⟨c22b0, H⟩
         ·(first | rw [c22b0] | (simp only [i64_w, i32_w]; rw [c22b0]) | skip)
          replace H := iteNd H;obtain ⟨c23b0, H⟩ := H;replace H := iteNd H;obtain ⟨c24b0, H⟩ := H;obtain ⟨y491, hy491⟩ : ∃ y_ : List ByteArray, y_ = (x9_2.set (x10_2 : Int).toNat x0_2) := ⟨_, rfl⟩;replace H : (if 0 ≤ (wrap64 (x10_2 + 1)) then (if (wrap64 (x10_2 + 1)) ≤ (x9_2.length : Int) then (some (y491.take ((wrap64 (x10_2 + 1)) : Int).toNat)) else (none)) else (none)) = some r := by first | (rw [hy491]; with_reducible exact H) | (have H2_ := (Option.bind_some _ _).symm.trans H; rw [hy491]; with_reducible exact H2_) | (have H2_ := (Option.bind_some _ _).symm.trans H; with_reducible exact H2_) | with_reducible exact H | (rw [hy491]; exact H) | exact H
          have Ny491 := A_ hy491;have Ly491 : y491.length ≤ x9_2.length ∧ x9_2.length ≤ y491.length := by rw [hy491, List.length_set]; exact ⟨Nat.le_refl _, Nat.le_refl _⟩
          have My491 := Ly491.1;replace Ly491 := Ly491.2;clear hy491;obtain ⟨ji26, hji26⟩ : ∃ j_ : Int, (wrap64 (x10_2 + 1)) = j_ := ⟨_, rfl⟩;(first | rw [hji26] at H | simp only [hji26] at H)
          have hji26w : (IntKind.i64.wrap (x10_2 + 1)) = ji26 := (i64_w _).trans hji26;replace H := iteN H;obtain ⟨c27, H⟩ := H;have c27b0 := eq_true c27;have c27b1 := dT c27;clear c27;replace H := iteN H;obtain ⟨c28, H⟩ := H;have c28b0 := eq_true c28;have c28b1 := dT c28;clear c28;obtain ⟨y492, Ny492⟩ := toY (y491.take ((ji26) : Int).toNat);(first | with_reducible replace H := bindZ Ny492 H | rw [← Ny492.out] at H | skip)
          obtain rfl := sI H;have p25 : 0 ≤ (x10_2 : Int) := ofD;have q25 : (x10_2 : Int) < ((x9_2.length : Int) : Int) := ofD;obtain ⟨go25, co25, eo25, gb25, gl25, cl25, HG25⟩ := Kd.R_form HO_9.out (by omega);(first | cases eo25 | (injection eo25 with ea_ en_ ec_; (first | subst ea_ | (injection ea_ with ea_; subst ea_)); subst ec_; clear en_))
          have GB25 := A_ gb25;have GG25 := A_ HG25;clear gb25 gl25 HG25;obtain ⟨hx25_0, hf25_0⟩ := Kd.R_celln (⟨#[]⟩ : ByteArray) HO_9.out (x10_2 : Int) p25 q25;replace p25 := eq_true p25;replace q25 := eq_true q25;have HP29 := Kd.R_putg HO_9.out (x10_2 : Int) x0_2;go_wp2_with (first | ((with_reducible refine gate_store (t := 9) (p := 61) rfl ?_); refine store_event (t := 9) (p := 61) (v := ?vo_w30) (w1 := (w21.setCell ⟨go25, (x10_2 : Int).toNat, none⟩ (.string x0_2))) ?hg ?ho ?hn ?hr ?_; (case ho => rfl); (case hg => rfl); (case hn => rfl); (case hr => exact zz16); intro w30 hw; have hg : w21.grownBy w30 (some go25) := (by rw [hw]; exact HP29.2); have hp_ : Kd.R Kd.string 9 w30 w.heap.size (fun _ => True) (.slice (some ⟨go25, 0, none⟩) x9_2.length co25) y491 := (by rw [hw, Ny491.out]; exact HP29.1); clear HP29; replace HO_9 := A_ (hp_); replace HB := A_ ((by rw [hw]; exact below_set (HB.out) GB25.out : Below w.heap.size w w30)); clear hg hw hp_; have q31 : ((ji26) : Int) ≤ ((x9_2.length : Int) : Int) := ofD; obtain ⟨i031, hi031, _, hsz31, _⟩ := info_parts info9; have hcut31 := cut_to (P := Tryd.prog) 26 9 .i64 Tryd.underlying26 hi031 (some ⟨go25, 0, none⟩) x9_2.length co25 (ji26) ofD q31 (Kd.R_reads' HO_9.out).2.1; have hr31 := Kd.R_take (m := ((ji26) : Int).toNat) HO_9.out (by omega); have hy31 : y492.length = ((ji26) : Int).toNat := (zz157 Ny492); rw [← Ny492.out] at hr31; rw [← hy31] at hr31 hcut31; clear hy31 hi031 hsz31 HO_9; have HO494 := A_ hr31; clear hr31; replace q31 := eq_true q31))
          go_ret
          exact ⟨_, (by first | rfl | (simp [errW_none, errW_some] <;> rfl) | (simp only [← hji13, ← hji26]; first | rfl | (simp [errW_none, errW_some] <;> rfl)) | (simp [*, errW_none, errW_some] <;> rfl)), (zz18 HO494), (zz2 HB)⟩
         ·(first | rw [c22b0] | (simp only [i64_w, i32_w]; rw [c22b0]) | skip)
          obtain ⟨ji32, hji32⟩ : ∃ j_ : Int, (wrap64 (t490 + a2)) = j_ := ⟨_, rfl⟩;(first | rw [hji32] at H | simp only [hji32] at H)
          have hji32w : (IntKind.i64.wrap (t490 + a2)) = ji32 := (i64_w _).trans hji32;replace H := iteN H;obtain ⟨c33, H⟩ := H;have c33b0 := eq_true c33;have c33b1 := dT c33;clear c33;replace H := iteN H;obtain ⟨c34, H⟩ := H;have c34b0 := eq_true c34;have c34b1 := dT c34;clear c34;replace H := iteNd H;obtain ⟨c35b0, H⟩ := H;replace H := iteNd H;obtain ⟨c36b0, H⟩ := H;obtain ⟨y495, hy495⟩ : ∃ y_ : List ByteArray, y_ = (x9_2.set (x10_2 : Int).toNat (x0_2.extract 0 ((ji32) : Int).toNat)) := ⟨_, rfl⟩;replace H : (if 0 ≤ (wrap64 (t490 + (a1.size : Int))) then (if (wrap64 (t490 + (a1.size : Int))) ≤ (x0_2.size : Int) then (strings_genSplit.l0 k2 (x0_2.extract ((wrap64 (t490 + (a1.size : Int))) : Int).toNat x0_2.size) a1 a2 (wrap64 ((ji13) - 1)) y495 (wrap64 (x10_2 + 1))) else (none)) else (none)) = some r := by first | (rw [hy495]; with_reducible exact H) | (have H2_ := (Option.bind_some _ _).symm.trans H; rw [hy495]; with_reducible exact H2_) | (have H2_ := (Option.bind_some _ _).symm.trans H; with_reducible exact H2_) | with_reducible exact H | (rw [hy495]; exact H) | exact H
          have Ny495 := A_ hy495;have Ly495 : y495.length ≤ x9_2.length ∧ x9_2.length ≤ y495.length := by rw [hy495, List.length_set]; exact ⟨Nat.le_refl _, Nat.le_refl _⟩
          have My495 := Ly495.1;replace Ly495 := Ly495.2;clear hy495;obtain ⟨ji38, hji38⟩ : ∃ j_ : Int, (wrap64 (t490 + (a1.size : Int))) = j_ := ⟨_, rfl⟩;(first | rw [hji38] at H | simp only [hji38] at H)
          have hji38w : (IntKind.i64.wrap (t490 + (a1.size : Int))) = ji38 := (i64_w _).trans hji38;replace H := iteN H;obtain ⟨c39, H⟩ := H;have c39b0 := eq_true c39;have c39b1 := dT c39;clear c39;replace H := iteN H;obtain ⟨c40, H⟩ := H;have c40b0 := eq_true c40;have c40b1 := dT c40;clear c40;have H' := A_ H;clear H;have p37 : 0 ≤ (x10_2 : Int) := ofD;have q37 : (x10_2 : Int) < ((x9_2.length : Int) : Int) := ofD;obtain ⟨go37, co37, eo37, gb37, gl37, cl37, HG37⟩ := Kd.R_form HO_9.out (by omega);(first | cases eo37 | (injection eo37 with ea_ en_ ec_; (first | subst ea_ | (injection ea_ with ea_; subst ea_)); subst ec_; clear en_))
          have GB37 := A_ gb37;have GG37 := A_ HG37;clear gb37 gl37 HG37;obtain ⟨hx37_0, hf37_0⟩ := Kd.R_celln (⟨#[]⟩ : ByteArray) HO_9.out (x10_2 : Int) p37 q37;replace p37 := eq_true p37;replace q37 := eq_true q37;have HP41 := Kd.R_putg HO_9.out (x10_2 : Int) (x0_2.extract 0 ((ji32) : Int).toNat);go_wp2_with (first | ((with_reducible refine gate_store (t := 9) (p := 49) rfl ?_); refine store_event (t := 9) (p := 49) (v := ?vo_w42) (w1 := (w21.setCell ⟨go37, (x10_2 : Int).toNat, none⟩ (.string (x0_2.extract 0 ((ji32) : Int).toNat)))) ?hg ?ho ?hn ?hr ?_; (case ho => rfl); (case hg => rfl); (case hn => rfl); (case hr => exact zz16); intro w42 hw; have hg : w21.grownBy w42 (some go37) := (by rw [hw]; exact HP41.2); have hp_ : Kd.R Kd.string 9 w42 w.heap.size (fun _ => True) (.slice (some ⟨go37, 0, none⟩) x9_2.length co37) y495 := (by rw [hw, Ny495.out]; exact HP41.1); clear HP41; replace HO_9 := A_ (hp_); replace HB := A_ ((by rw [hw]; exact below_set (HB.out) GB37.out : Below w.heap.size w w42)); clear hg hw hp_))
          go_roundg k2
          case measure => have := HJ8.out; have := HK2.out; omega
          case rel => exact ⟨(x0_2.extract ((ji38) : Int).toNat x0_2.size), (y495), (wrap64 (x10_2 + 1)), (by first | rfl | (simp only [i64_w, i32_w]; done) | (simp only [aid_isEmpty, aid_isEmpty2]; done) | (simp; done) | ((simp only [← hji38] <;> (first | rfl | simp)); done) | (simp [*]; done)), zz5, H', ⟨(zz24 HJ8 HK2)⟩, ⟨(zz18 HO_9)⟩, ⟨(zz2 HB)⟩⟩
        ·replace H := iteNd H
         obtain ⟨c43b0, H⟩ := H;replace H := iteNd H;obtain ⟨c44b0, H⟩ := H;obtain ⟨y496, hy496⟩ : ∃ y_ : List ByteArray, y_ = (x9_2.set (x10_2 : Int).toNat x0_2) := ⟨_, rfl⟩;replace H : (if 0 ≤ (wrap64 (x10_2 + 1)) then (if (wrap64 (x10_2 + 1)) ≤ (x9_2.length : Int) then (some (y496.take ((wrap64 (x10_2 + 1)) : Int).toNat)) else (none)) else (none)) = some r := by first | (rw [hy496]; with_reducible exact H) | (have H2_ := (Option.bind_some _ _).symm.trans H; rw [hy496]; with_reducible exact H2_) | (have H2_ := (Option.bind_some _ _).symm.trans H; with_reducible exact H2_) | with_reducible exact H | (rw [hy496]; exact H) | exact H
         have Ny496 := A_ hy496;have Ly496 : y496.length ≤ x9_2.length ∧ x9_2.length ≤ y496.length := by rw [hy496, List.length_set]; exact ⟨Nat.le_refl _, Nat.le_refl _⟩
         have My496 := Ly496.1;replace Ly496 := Ly496.2;clear hy496;obtain ⟨ji46, hji46⟩ : ∃ j_ : Int, (wrap64 (x10_2 + 1)) = j_ := ⟨_, rfl⟩;(first | rw [hji46] at H | simp only [hji46] at H)
         have hji46w : (IntKind.i64.wrap (x10_2 + 1)) = ji46 := (i64_w _).trans hji46;replace H := iteN H;obtain ⟨c47, H⟩ := H;have c47b0 := eq_true c47;have c47b1 := dT c47;clear c47;replace H := iteN H;obtain ⟨c48, H⟩ := H;have c48b0 := eq_true c48;have c48b1 := dT c48;clear c48;obtain ⟨y497, Ny497⟩ := toY (y496.take ((ji46) : Int).toNat);(first | with_reducible replace H := bindZ Ny497 H | rw [← Ny497.out] at H | skip)
         obtain rfl := sI H;have p45 : 0 ≤ (x10_2 : Int) := ofD;have q45 : (x10_2 : Int) < ((x9_2.length : Int) : Int) := ofD;obtain ⟨go45, co45, eo45, gb45, gl45, cl45, HG45⟩ := Kd.R_form HO_9.out (by omega);(first | cases eo45 | (injection eo45 with ea_ en_ ec_; (first | subst ea_ | (injection ea_ with ea_; subst ea_)); subst ec_; clear en_))
         have GB45 := A_ gb45;have GG45 := A_ HG45;clear gb45 gl45 HG45;obtain ⟨hx45_0, hf45_0⟩ := Kd.R_celln (⟨#[]⟩ : ByteArray) HO_9.out (x10_2 : Int) p45 q45;replace p45 := eq_true p45;replace q45 := eq_true q45;have HP49 := Kd.R_putg HO_9.out (x10_2 : Int) x0_2;go_wp2_with (first | ((with_reducible refine gate_store (t := 9) (p := 61) rfl ?_); refine store_event (t := 9) (p := 61) (v := ?vo_w50) (w1 := (wr.setCell ⟨go45, (x10_2 : Int).toNat, none⟩ (.string x0_2))) ?hg ?ho ?hn ?hr ?_; (case ho => rfl); (case hg => rfl); (case hn => rfl); (case hr => exact zz16); intro w50 hw; have hg : wr.grownBy w50 (some go45) := (by rw [hw]; exact HP49.2); have hp_ : Kd.R Kd.string 9 w50 w.heap.size (fun _ => True) (.slice (some ⟨go45, 0, none⟩) x9_2.length co45) y496 := (by rw [hw, Ny496.out]; exact HP49.1); clear HP49; replace HO_9 := A_ (hp_); replace HB := A_ ((by rw [hw]; exact below_set (HB.out) GB45.out : Below w.heap.size w w50)); clear hg hw hp_; have q51 : ((ji46) : Int) ≤ ((x9_2.length : Int) : Int) := ofD; obtain ⟨i051, hi051, _, hsz51, _⟩ := info_parts info9; have hcut51 := cut_to (P := Tryd.prog) 26 9 .i64 Tryd.underlying26 hi051 (some ⟨go45, 0, none⟩) x9_2.length co45 (ji46) ofD q51 (Kd.R_reads' HO_9.out).2.1; have hr51 := Kd.R_take (m := ((ji46) : Int).toNat) HO_9.out (by omega); have hy51 : y497.length = ((ji46) : Int).toNat := (zz157 Ny497); rw [← Ny497.out] at hr51; rw [← hy51] at hr51 hcut51; clear hy51 hi051 hsz51 HO_9; have HO499 := A_ hr51; clear hr51; replace q51 := eq_true q51))
         go_ret
         exact ⟨_, (by first | rfl | (simp [errW_none, errW_some] <;> rfl) | (simp only [← hji13, ← hji46]; first | rfl | (simp [errW_none, errW_some] <;> rfl)) | (simp [*, errW_none, errW_some] <;> rfl)), (zz18 HO499), (zz2 HB)⟩
     ·exact absurd H (by simp)
def strings_Split.f (k : Nat) (a0 : ByteArray) (a1 : ByteArray) : Option (List ByteArray) := (strings_genSplit.f k a0 a1 0 (-1)).bind fun t500 => (some t500)
theorem strings_Split.calls (k : Nat) (a0 : ByteArray) (a1 : ByteArray) (r : List ByteArray) (w : World) (h : strings_Split.f k a0 a1 = some r) :
  Calls Tryd.prog 52 #[.string a0, .string a1] w fun e w' => ∃ v0_ : Value, e = .returned (v0_) ∧ Kd.R Kd.string 9 w' w.heap.size (fun _ => True) v0_ r ∧ Below w.heap.size w w' := by
 have HB := A_ (Below.refl w.heap.size w);unfold strings_Split.f at h
 have H := h;clear h;replace H := bindA H;obtain ⟨t500, A3, H⟩ := H;obtain rfl := sI H;go_enter Tryd.func52, Tryd.ntmps52;go_wp2_with (first | ((with_reducible refine gC (f := 74) rfl ?_); refine gsL (some 7) Tryd.func74 #[.string a0, .string a1, .int .i64 0, .int .i64 (-1)] ?_; (with_reducible refine mV (strings_genSplit.calls k a0 a1 0 (-1) t500 _ A3.out) ?_); rintro v501 w4 ⟨ho0, hb⟩; have HO502 := A_ (Kd.R_lower ho0 (below_size (zz2 HB))); replace HB := A_ (bS (zz2 HB) hb); (try clear hb ho0)))
 go_ret
 exact ⟨_, zz11, (zz18 HO502), (zz2 HB)⟩
mutual
def impl_PathClean.l0 : Nat → List ByteArray → List ByteArray → Int → Int → Option (List ByteArray)
 | 0, _, _, _, _ => none
 | k + 1, x3, x6, x7, x8 => if x8 < x7 then (if 0 ≤ x8 then (if x8 < (x6.length : Int) then (if (rdOf ByteArray.empty x6 x8).toList = ([] : List UInt8) then (impl_PathClean.j1 k x3 (rdOf ByteArray.empty x6 x8) x6 x7 x8 (rdOf ByteArray.empty x6 x8) ((rdOf ByteArray.empty x6 x8).toList == ([] : List UInt8))) else (impl_PathClean.j1 k x3 (rdOf ByteArray.empty x6 x8) x6 x7 x8 (rdOf ByteArray.empty x6 x8) ((rdOf ByteArray.empty x6 x8).toList == ([46] : List UInt8)))) else (none)) else (none)) else (some x3)
def impl_PathClean.j1 : Nat → List ByteArray → ByteArray → List ByteArray → Int → Int → ByteArray → Bool → Option (List ByteArray)
 | 0, _, _, _, _, _, _, _ => none
 | k + 1, x3, x5, x6, x7, x8, x12, x13 => if x13 = true then (impl_PathClean.l0 k x3 x6 x7 (wrap64 (x8 + 1))) else (if x12.toList = ([46, 46] : List UInt8) then (if (x3.length : Int) > 0 then (if 0 ≤ (wrap64 ((x3.length : Int) - 1)) then (if (wrap64 ((x3.length : Int) - 1)) ≤ (x3.length : Int) then (impl_PathClean.l0 k (x3.take ((wrap64 ((x3.length : Int) - 1)) : Int).toNat) x6 x7 (wrap64 (x8 + 1))) else (none)) else (none)) else (impl_PathClean.l0 k x3 x6 x7 (wrap64 (x8 + 1)))) else (if x3.length < 8796093022208 then (impl_PathClean.l0 k (x3 ++ [x5]) x6 x7 (wrap64 (x8 + 1))) else (none)))
end
def impl_PathClean.f (k : Nat) (l0 : List ByteArray) : Option (List ByteArray) := impl_PathClean.l0 k ([] : List ByteArray) l0 (l0.length : Int) 0
theorem impl_PathClean.calls (k : Nat) (A0 : Option Addr) (c0 : Nat) (l0 : List ByteArray) (r : List ByteArray) (w : World) (hr0 : Kd.C Kd.string w A0 l0.length l0) (hc0 : l0.length ≤ c0) (h : impl_PathClean.f k l0 = some r) :
  Calls Tryd.prog 53 #[.slice A0 l0.length c0] w fun e w' => ∃ v0_ : Value, e = .returned (v0_) ∧ Kd.R Kd.string 9 w' w.heap.size (fun _ => True) v0_ r ∧ Below w.heap.size w w' := by
 have HR0 := A_ hr0;have HC0 := A_ hc0;clear hr0 hc0;have HB := A_ (Below.refl w.heap.size w);unfold impl_PathClean.f at h
 have H := h;clear h;have H' := A_ H;clear H;go_enter Tryd.func53, Tryd.ntmps53;go_wp2
 go_step3
 go_wp2
 go_step3
 go_wp2
 go_loopg [3, 8] k (fun kq v3 v8 w' => ∃ (x3_1 : List ByteArray) (x8_1 : Int), v8 = .int .i64 x8_1 ∧ Aside0 (impl_PathClean.l0 kq x3_1 l0 (l0.length : Int) x8_1 = some r) ∧ Aside0 (kq ≤ k) ∧ Aside0 (Kd.R Kd.string 9 w' w.heap.size (fun _ => True) v3 x3_1) ∧ Aside0 (Below w.heap.size w w'))
 case atStart => exact ⟨(([] : List ByteArray)), (0), zz5, H', ⟨Nat.le_refl _⟩, ⟨zz72⟩, ⟨(zz2 HB)⟩⟩
 case round =>
  clear H';obtain ⟨x3_1, x8_1, rfl, HA, HK1, HO_3, HB⟩ := hrel;cases gk with
  | zero => exact absurd HA.out (by simp [impl_PathClean.l0])
  | succ k1 =>
   obtain ⟨H⟩ := HA;simp only [impl_PathClean.l0] at H
   replace H := iteEd H;rcases H with ⟨c2b0, H⟩ | ⟨c2b0, H⟩
   ·replace H := iteNd H
    obtain ⟨c3b0, H⟩ := H;replace H := iteNd H;obtain ⟨c4b0, H⟩ := H;have HC5 := A_ H;clear H;obtain ⟨⟨ad503, e503, hx503_0⟩, p503, q503⟩ := atB (Kd.at_string HR0.out x8_1);cases e503
    replace hx503_0 := cbl HB hx503_0;go_upto_if 13 with (fail)
    go_cut [13] (fun v13 wc => ∃ (kq : Nat) (x13_4 : Bool), v13 = .bool x13_4 ∧ Aside0 (impl_PathClean.j1 kq x3_1 (rdOf ByteArray.empty l0 x8_1) l0 (l0.length : Int) x8_1 (rdOf ByteArray.empty l0 x8_1) x13_4 = some r) ∧ Aside0 (kq ≤ k1) ∧ Aside0 (Kd.R Kd.string 9 wc w.heap.size (fun _ => True) u3 x3_1) ∧ Aside0 (Below w.heap.size w wc))
    case first =>
     obtain ⟨H⟩ := HC5;replace H := iteE H;rcases H with ⟨c6, H⟩ | ⟨c6, H⟩
     ·have c6b0 : ((rdOf ByteArray.empty l0 x8_1).toList == ([] : List UInt8)) = true := beq_iff_eq.mpr c6
      have c6i0 : (rdOf ByteArray.empty l0 x8_1).toList.isEmpty = true := (aid_isEmpty2 _).symm.trans c6b0;have c6b1 : ((rdOf ByteArray.empty l0 x8_1).toList != ([] : List UInt8)) = false := bne_eq_false_iff_eq.mpr c6;clear c6;(first | rw [c6b0] | (simp only [i64_w, i32_w]; rw [c6b0]) | skip)
      have H' := A_ H;clear H;go_wp2
      all_goals (first | (exfalso; have h_ : (rdOf ByteArray.empty l0 x8_1).toList.isEmpty = false := (by assumption); rw [c6i0] at h_; cases h_; done) | skip)
      go_meet
      case rel => exact ⟨_, (((rdOf ByteArray.empty l0 x8_1).toList == ([] : List UInt8))), zz5, H', ⟨(zz26 HK1)⟩, ⟨(zz18 HO_3)⟩, ⟨(zz2 HB)⟩⟩
     ·have c6b0 : ((rdOf ByteArray.empty l0 x8_1).toList == ([] : List UInt8)) = false := beq_eq_false_iff_ne.mpr c6
      have c6i0 : (rdOf ByteArray.empty l0 x8_1).toList.isEmpty = false := (aid_isEmpty2 _).symm.trans c6b0;have c6b1 : ((rdOf ByteArray.empty l0 x8_1).toList != ([] : List UInt8)) = true := bne_iff_ne.mpr c6;(first | rw [c6b0] | (simp only [i64_w, i32_w]; rw [c6b0]) | skip)
      have H' := A_ H;clear H;go_wp2
      all_goals (first | (exfalso; have h_ : (rdOf ByteArray.empty l0 x8_1).toList.isEmpty = true := (by assumption); rw [c6i0] at h_; cases h_; done) | skip)
      go_meet
      case rel => exact ⟨_, (((rdOf ByteArray.empty l0 x8_1).toList == ([46] : List UInt8))), zz5, H', ⟨(zz26 HK1)⟩, ⟨(zz18 HO_3)⟩, ⟨(zz2 HB)⟩⟩
    case rest =>
     clear HC5;obtain ⟨kq, x13_4, rfl, HA, HJ4, HO_3, HB⟩ := hcut;cases kq with
     | zero => exact absurd HA.out (by simp [impl_PathClean.j1])
     | succ kj4 =>
      obtain ⟨H⟩ := HA;simp only [impl_PathClean.j1] at H
      replace H := iteB H;rcases H with ⟨rfl, H⟩ | ⟨rfl, H⟩
      ·have H' := A_ H
       clear H;go_wp2
       go_roundg kj4
       case measure => have := HK1.out; have := HJ4.out; omega
       case rel => exact ⟨(x3_1), (wrap64 (x8_1 + 1)), zz5, H', ⟨(zz24 HK1 HJ4)⟩, ⟨(zz18 HO_3)⟩, ⟨(zz2 HB)⟩⟩
      ·replace H := iteE H
       rcases H with ⟨c8, H⟩ | ⟨c8, H⟩
       ·obtain ⟨c8b0, c8b1⟩ := eqT c8
        clear c8;replace H := iteE H;rcases H with ⟨c9, H⟩ | ⟨c9, H⟩
        ·have c9b0 := gtT c9
         have c9b1 : decide (0 < x3_1.length) = true := dT (by omega);clear c9;obtain ⟨ji10, hji10⟩ : ∃ j_ : Int, (wrap64 ((x3_1.length : Int) - 1)) = j_ := ⟨_, rfl⟩;(first | rw [hji10] at H | simp only [hji10] at H)
         have hji10w : (IntKind.i64.wrap ((x3_1.length : Int) - 1)) = ji10 := (i64_w _).trans hji10;replace H := iteN H;obtain ⟨c11, H⟩ := H;have c11b0 := eq_true c11;have c11b1 := dT c11;clear c11;replace H := iteN H;obtain ⟨c12, H⟩ := H;have c12b0 := eq_true c12;have c12b1 := dT c12;clear c12;obtain ⟨y504, Ny504⟩ := toY (x3_1.take ((ji10) : Int).toNat);(first | with_reducible replace H := bindZ Ny504 H | rw [← Ny504.out] at H | skip)
         have H' := A_ H;clear H;obtain ⟨Ao13, co13, eo13⟩ := Kd.R_slice HO_3.out;subst eo13;have q14 : ((ji10) : Int) ≤ ((x3_1.length : Int) : Int) := ofD;obtain ⟨i014, hi014, _, hsz14, _⟩ := info_parts info9;have hcut14 := cut_to (P := Tryd.prog) 26 9 .i64 Tryd.underlying26 hi014 Ao13 x3_1.length co13 (ji10) ofD q14 (Kd.R_reads' HO_3.out).2.1;have hr14 := Kd.R_take (m := ((ji10) : Int).toNat) HO_3.out (by omega);have hy14 : y504.length = ((ji10) : Int).toNat := (zz157 Ny504);rw [← Ny504.out] at hr14;rw [← hy14] at hr14 hcut14;clear hy14 hi014 hsz14 HO_3;have HO506 := A_ hr14;clear hr14;replace q14 := eq_true q14;go_wp2
         go_roundg kj4
         case measure => have := HK1.out; have := HJ4.out; omega
         case rel => exact ⟨(y504), (wrap64 (x8_1 + 1)), zz5, H', ⟨(zz24 HK1 HJ4)⟩, ⟨(zz18 HO506)⟩, ⟨(zz2 HB)⟩⟩
        ·have c9b0 := gtF c9
         have c9b1 : decide (0 < x3_1.length) = false := dF (by omega);clear c9;have H' := A_ H;clear H;obtain ⟨Ao15, co15, eo15⟩ := Kd.R_slice HO_3.out;subst eo15;go_wp2
         go_roundg kj4
         case measure => have := HK1.out; have := HJ4.out; omega
         case rel => exact ⟨(x3_1), (wrap64 (x8_1 + 1)), zz5, H', ⟨(zz24 HK1 HJ4)⟩, ⟨(zz18 HO_3)⟩, ⟨(zz2 HB)⟩⟩
       ·obtain ⟨c8b0, c8b1⟩ := eqF c8
        replace H := iteN H;obtain ⟨c16, H⟩ := H;have LMc16 := A_ c16;clear c16;obtain ⟨y507, Ny507⟩ := toY (x3_1 ++ [(rdOf ByteArray.empty l0 x8_1)]);(first | with_reducible replace H := bindZ Ny507 H | rw [← Ny507.out] at H | skip)
        have H' := A_ H;clear H;go_wp2_with (first | ((with_reducible refine gate_builtin (b := .append) (xs := #[.tmp 26, .tmp 28]) rfl ?_); at_builtin; refine Kd.R_append Kd.string (w0 := w) w.heap.size rfl (.tmp 26) (.tmp 28) 26 9 (.string ⟨#[]⟩) 16 rfl Tryd.underlying26 info9 rfl (by decide) (by omega) u3 x3_1 (rdOf ByteArray.empty l0 x8_1) [.string (rdOf ByteArray.empty l0 x8_1)] (fun _ => True) (fun _ => False) rfl rfl ?aP (fun _ hk => hk.elim) ?aF ?aO ?aB ?aS ?aL ?_; (case aP => exact rfl); (case aB => exact (zz2 HB)); (case aF => exact (fun _ _ => trivial)); (case aO => exact (zz18 HO_3)); (case aS => exact (below_size (zz2 HB))); (case aL => exact (zz21 LMc16)); intro v508 w17 ho hb hg hat; rw [← Ny507.out] at ho; replace HB := A_ (hb); have HO509 := A_ (ho); clear HO_3; clear ho hb hg hat))
        go_roundg kj4
        case measure => have := HK1.out; have := HJ4.out; omega
        case rel => exact ⟨(y507), (wrap64 (x8_1 + 1)), zz5, H', ⟨(zz24 HK1 HJ4)⟩, ⟨(zz18 HO509)⟩, ⟨(zz2 HB)⟩⟩
   ·obtain rfl := sI H
    go_wp2
    go_ret
    exact ⟨_, zz11, (zz18 HO_3), (zz2 HB)⟩
end Go.Proofs.YtpomhjkbgbociaaDoor.P
end
section
namespace Go.Proofs.YtpomhjkbgbociaaDoor.P
open Go.RowKit Go.Proofs.YtpomhjkbgbociaaDoorW.PrintWords Go.Proofs.YtpomhjkbgbociaaDoorW.PrintLast Go.Proofs.YtpomhjkbgbociaaDoorW.PrintMore Go.Proofs.YtpomhjkbgbociaaDoor.B Go.Proofs.YtpomhjkbgbociaaDoor.Ad
set_option linter.unusedVariables false
set_option linter.unusedSimpArgs false
def slices_Clone_string_string.f (l0 : List ByteArray) : Option (List ByteArray) := if l0.length * 16 ≤ 140737488355328 then some l0 else none
theorem slices_Clone_string_string.calls (A0 : Option Addr) (c0 : Nat) (l0 : List ByteArray) (r : List ByteArray) (w : World) (hr0 : Kd.C Kd.string w A0 l0.length l0) (hc0 : l0.length ≤ c0) (h : slices_Clone_string_string.f l0 = some r) :
  Calls Tryd.prog 51 #[.slice A0 l0.length c0] w fun e w' => ∃ v0_ : Value, e = .returned (v0_) ∧ Kd.R Kd.string 9 w' w.heap.size (fun _ => True) v0_ r ∧ Below w.heap.size w w' := by
 unfold slices_Clone_string_string.f at h
 split at h
 ·rename_i hh
  obtain rfl := Option.some.inj h
  rcases Nat.eq_zero_or_pos l0.length with h0 | h0
  ·obtain rfl : l0 = [] := List.length_eq_zero_iff.1 h0
   cases A0 with
   | none => exact (Tryd.slices_Clone_string_nil 0 c0 w).mono fun e w' ⟨he, hw⟩ => ⟨_, he, Kd.R_nil _ _ _ _ _, hw ▸ Below.refl _ _⟩
   | some a => exact (Tryd.slices_Clone_string_zero a c0 w).mono fun e w' ⟨v, he, ho, _, hb⟩ => ⟨v, he, Kd.R_of_own ho (fun _ _ => trivial), hb⟩
  ·obtain ⟨bk, o, rfl, hb, hcells⟩ := row_at hr0 h0
   refine (Tryd.slices_Clone_string bk o l0.length c0 l0 w (Nat.le_refl _) hh (fun j hj => ?_)).mono fun e w' ⟨v, he, ho, _, hb'⟩ => ⟨v, he, Kd.R_of_own ?_ (fun _ _ => trivial), hb'⟩
   ·rw [List.getD_eq_getElem?_getD, List.getElem?_eq_getElem hj]
    exact hcells j _ (List.getElem?_eq_getElem hj)
   ·rw [List.take_length] at ho
    exact ho
 ·cases h
end Go.Proofs.YtpomhjkbgbociaaDoor.P
end
section
namespace Go.Proofs.YtpomhjkbgbociaaDoor.P
open Go.RowKit Go.Proofs.YtpomhjkbgbociaaDoorW.PrintWords Go.Proofs.YtpomhjkbgbociaaDoorW.PrintLast Go.Proofs.YtpomhjkbgbociaaDoorW.PrintMore
attribute [local go_sem] max2_int min2_int max_two min_two max_three min_three max_four min_four
set_option linter.unusedVariables false
set_option linter.unusedSimpArgs false
set_option maxHeartbeats 8000000
set_option maxRecDepth 100000
def impl_readWay.l0 : Nat → ByteArray → ByteArray → Bool → List ByteArray → List ByteArray → Int → Int → Option (ByteArray × List ByteArray × Bool × ByteArray × Bool)
 | 0, _, _, _, _, _, _, _ => none
 | k + 1, x0, x9, x10, x12, x35, x36, x37 => if x37 < x36 then (if 0 ≤ x37 then (if x37 < (x35.length : Int) then ((impl_EscNorm.f k (rdOf ByteArray.empty x35 x37)).bind fun bt523 => (if bt523.2 = true then (if x12.length < 8796093022208 then (impl_readWay.l0 k x0 x9 x10 (x12 ++ [bt523.1]) x35 x36 (wrap64 (x37 + 1))) else (none)) else (some ((⟨#[]⟩ : ByteArray), ([] : List ByteArray), false, (⟨#[]⟩ : ByteArray), false)))) else (none)) else (none)) else ((impl_PathClean.f k x12).bind fun t528 => ((impl_AddrOk.f k x0 t528 x10 x9).bind fun t532 => (if t532 = true then (some (x0, t528, x10, x9, true)) else (some ((⟨#[]⟩ : ByteArray), ([] : List ByteArray), false, (⟨#[]⟩ : ByteArray), false)))))
def impl_readWay.f (k : Nat) (a0 : ByteArray) (l1 : List ByteArray) (a2 : ByteArray) : Option (ByteArray × List ByteArray × Bool × ByteArray × Bool) := (strings_Cut.f a2 (⟨#[63]⟩ : ByteArray)).bind fun bt511 => ((impl_EscNorm.f k bt511.2.1).bind fun bt514 => (if bt514.2 = true then ((slices_Clone_string_string.f l1).bind fun t516 => ((strings_Split.f k bt511.1 (⟨#[47]⟩ : ByteArray)).bind fun t519 => (impl_readWay.l0 k a0 bt514.1 bt511.2.2 t516 t519 (t519.length : Int) 0))) else (some ((⟨#[]⟩ : ByteArray), ([] : List ByteArray), false, (⟨#[]⟩ : ByteArray), false))))
theorem impl_readWay.calls (k : Nat) (a0 : ByteArray) (A1 : Option Addr) (c1 : Nat) (l1 : List ByteArray) (a2 : ByteArray) (r1 : ByteArray) (r2 : List ByteArray) (r3 : Bool) (r4 : ByteArray) (r5 : Bool) (w : World) (hr1 : Kd.C Kd.string w A1 l1.length l1) (hc1 : l1.length ≤ c1) (h : impl_readWay.f k a0 l1 a2 = some (r1, r2, r3, r4, r5)) :
  Calls Tryd.prog 28 #[.string a0, .slice A1 l1.length c1, .string a2] w fun e w' => ∃ v1_ : Value, e = .returned (.tuple #[.agg #[.string r1, v1_, .bool r3, .string r4], .bool r5]) ∧ Kd.R Kd.string 9 w' w.heap.size (fun _ => True) v1_ r2 ∧ Below w.heap.size w w' := by
 have hu28 := Tryd.underlying28;have HR1 := A_ hr1;have HC1 := A_ hc1;clear hr1 hc1;have HB := A_ (Below.refl w.heap.size w);unfold impl_readWay.f at h
 have H := h;clear h;replace H := bindA H;obtain ⟨⟨t511, t512, t513⟩, A4, H⟩ := H;try dsimp only at H
 replace H := bindA H;obtain ⟨⟨t514, t515⟩, A5, H⟩ := H;try dsimp only at H
 have HF6 := A_ H;clear H;go_enter Tryd.func28, Tryd.ntmps28;go_upto_if 30 with (first | ((with_reducible refine gD (N := 6) rfl ?_); refine boxE 6 #[.string (⟨#[]⟩ : ByteArray), .slice none 0 0, .bool false, .string (⟨#[]⟩ : ByteArray)] 28 ?_; intro gb510 hg w7 hbox hb; have BK510 := A_ (hbox); have GE510 := geB hg (zz2 HB); replace HB := A_ (bS (zz2 HB) hb); clear hb hbox hg) | ((with_reducible refine gC (f := 16) rfl ?_); refine gsL (some 20) Tryd.func16 #[.string a2, .string (⟨#[63]⟩ : ByteArray)] ?_; (with_reducible refine mR (strings_Cut.calls a2 (⟨#[63]⟩ : ByteArray) t511 t512 t513 _ A4.out) ?_); rintro w8 hb; replace BK510 := A_ (bB (zz3 BK510) hb); replace HB := A_ (bS (zz4 HB GE510) hb); (try clear hb)) | ((with_reducible refine gC (f := 50) rfl ?_); refine gsL (some 26) Tryd.func50 #[.string t512] ?_; (with_reducible refine mR (impl_EscNorm.calls k t512 t514 t515 _ A5.out) ?_); rintro w9 hb; replace BK510 := A_ (bB (zz3 BK510) hb); replace HB := A_ (bS (zz4 HB GE510) hb); (try clear hb)))
 obtain ⟨H⟩ := HF6;replace H := iteB H;rcases H with ⟨rfl, H⟩ | ⟨rfl, H⟩
 ·replace H := Option.bind_eq_some_iff.mp H
  obtain ⟨t516, A110, H⟩ := H;replace H : ((strings_Split.f k t511 (⟨#[47]⟩ : ByteArray)).bind fun t519 => (impl_readWay.l0 k a0 t514 t513 t516 t519 (t519.length : Int) 0)) = some (r1, r2, r3, r4, r5) := H;have A11 := A_ A110;clear A110;replace H := bindA H;obtain ⟨t519, A12, H⟩ := H;have H' := A_ H;clear H;go_wp2_with (first | ((with_reducible refine gC (f := 51) rfl ?_); refine gsL (some 33) Tryd.func51 #[.slice A1 l1.length c1] ?_; (with_reducible refine mV (slices_Clone_string_string.calls _ _ l1 t516 _ ?side1 ?side2 A11.out) ?_); (case side1 => exact (zz58 HR1 HB)); (case side2 => exact HC1.out); rintro v517 w13 ⟨ho0, hb⟩; have HO518 := A_ (Kd.R_lower ho0 (below_size (zz4 HB GE510))); replace BK510 := A_ (bB (zz3 BK510) hb); replace HB := A_ (bS (zz4 HB GE510) hb); (try clear hb ho0)) | ((with_reducible refine gC (f := 52) rfl ?_); refine gsL (some 35) Tryd.func52 #[.string t511, .string (⟨#[47]⟩ : ByteArray)] ?_; (with_reducible refine mV (strings_Split.calls k t511 (⟨#[47]⟩ : ByteArray) t519 _ A12.out) ?_); rintro v520 w14 ⟨ho0, hb⟩; have HO521 := A_ (Kd.R_lower (Kd.R_new' ho0 (Kd.R_lt (zz18 HO518))) (below_size (zz4 HB GE510))); replace HO518 := A_ (Kd.R_elder' (zz18 HO518) (Kd.R_base ho0) hb); replace BK510 := A_ (bB (zz3 BK510) hb); replace HB := A_ (bS (zz4 HB GE510) hb); (try clear hb ho0); obtain ⟨Ao15, co15, eo15⟩ := Kd.R_slice HO521.out; subst eo15))
  go_loopg [12, 37] k (fun kq v12 v37 w' => ∃ (x12_1 : List ByteArray) (x37_1 : Int) (x511000_1 : ByteArray) (x511002_1 : Bool) (x511003_1 : ByteArray), v37 = .int .i64 x37_1 ∧ Aside0 (impl_readWay.l0 kq a0 t514 t513 x12_1 t519 (t519.length : Int) x37_1 = some (r1, r2, r3, r4, r5)) ∧ Aside0 (kq ≤ k) ∧ Aside0 (Kd.R Kd.string 9 w' w.heap.size (fun k_ => some k_ ≠ ((.slice Ao15 t519.length co15) : Value).ownBlock) v12 x12_1) ∧ Aside0 (Kd.R Kd.string 9 w' w.heap.size (fun k_ => some k_ ≠ (v12 : Value).ownBlock) (.slice Ao15 t519.length co15) t519) ∧ Aside0 (w'.heap[gb510]? = some (.cells #[.string x511000_1, (.slice none 0 0), .bool x511002_1, .string x511003_1] 28 (0, 0))) ∧ Aside0 (Below w.heap.size w w'))
  case atStart => exact ⟨(t516), (0), ((⟨#[]⟩ : ByteArray)), (false), ((⟨#[]⟩ : ByteArray)), zz5, H', ⟨Nat.le_refl _⟩, ⟨(zz74 HO518)⟩, ⟨(zz74 HO521)⟩, ⟨(zz3 BK510)⟩, ⟨(zz4 HB GE510)⟩⟩
  case round =>
   clear H';obtain ⟨x12_1, x37_1, x511000_1, x511002_1, x511003_1, rfl, HA, HK1, HO_12, HO_35, BK510, HB⟩ := hrel;cases gk with
   | zero => exact absurd HA.out (by simp [impl_readWay.l0])
   | succ k1 =>
    obtain ⟨H⟩ := HA;simp only [impl_readWay.l0] at H
    replace H := iteEd H;rcases H with ⟨c16b0, H⟩ | ⟨c16b0, H⟩
    ·(first | rw [c16b0] | (simp only [i64_w, i32_w]; rw [c16b0]) | skip)
     replace H := iteNd H;obtain ⟨c17b0, H⟩ := H;replace H := iteNd H;obtain ⟨c18b0, H⟩ := H;replace H := bindA H;obtain ⟨⟨t523, t524⟩, A19, H⟩ := H;try dsimp only at H
     have HF20 := A_ H;clear H;obtain ⟨⟨ad522, e522, hx522_0⟩, p522, q522⟩ := atB (Kd.at_string (Kd.R_reads' HO_35.out).2.2 x37_1);cases e522
     go_upto_if 47 with (first | ((with_reducible refine gC (f := 50) rfl ?_); refine gsL (some 43) Tryd.func50 #[.string (rdOf ByteArray.empty t519 x37_1)] ?_; (with_reducible refine mR (impl_EscNorm.calls k1 (rdOf ByteArray.empty t519 x37_1) t523 t524 _ A19.out) ?_); rintro w21 hb; replace HO_12 := A_ (rB (zz18 HO_12) hb); replace HO_35 := A_ (rB (zz18 HO_35) hb); replace BK510 := A_ (bB (zz3 BK510) hb); replace HB := A_ (bS (zz4 HB GE510) hb); (try clear hb)))
     obtain ⟨H⟩ := HF20;replace H := iteB H;rcases H with ⟨rfl, H⟩ | ⟨rfl, H⟩
     ·replace H := iteN H
      obtain ⟨c23, H⟩ := H;have LMc23 := A_ c23;clear c23;obtain ⟨y525, Ny525⟩ := toY (x12_1 ++ [t523]);(first | with_reducible replace H := bindZ Ny525 H | rw [← Ny525.out] at H | skip)
      have H' := A_ H;clear H;go_wp2_with (first | ((with_reducible refine gate_builtin (b := .append) (xs := #[.tmp 49, .tmp 51]) rfl ?_); at_builtin; refine Kd.R_append Kd.string (w0 := w) w.heap.size rfl (.tmp 49) (.tmp 51) 26 9 (.string ⟨#[]⟩) 16 rfl Tryd.underlying26 info9 rfl (by decide) (by omega) u12 x12_1 t523 [.string t523] (fun k_ => some k_ ≠ (.slice (some ad522) t519.length co15 : Value).ownBlock) (fun _ => False) rfl rfl ?aP (fun _ hk => hk.elim) ?aF ?aO ?aB ?aS ?aL ?_; (case aP => exact rfl); (case aB => exact (zz4 HB GE510)); (case aF => exact (fun k_ hk => Kd.fresh' (Kd.R_lt (zz18 HO_35)) k_ hk)); (case aO => exact (zz18 HO_12)); (case aS => exact (below_size (zz4 HB GE510))); (case aL => exact (zz21 LMc23)); intro v526 w24 ho hb hg hat; rw [← Ny525.out] at ho; replace HO_35 := A_ (Kd.R_after (ok := (fun _ => True)) (zz168 HO_35) hg hat); replace BK510 := A_ (blk_grown (zz3 BK510) hg (Kd.R_ne HO_12.out BK510.out (by decide))); replace HB := A_ (hb); have HO527 := A_ (ho); clear HO_12; clear ho hb hg hat))
      go_roundg k1
      case measure => have := HK1.out; omega
      case rel => exact ⟨(y525), (wrap64 (x37_1 + 1)), (x511000_1), (x511002_1), (x511003_1), zz5, H', ⟨(zz21 HK1)⟩, ⟨(zz18 HO527)⟩, ⟨(zz74 HO_35)⟩, ⟨(zz3 BK510)⟩, ⟨(zz4 HB GE510)⟩⟩
     ·simp only [Option.some.injEq, Prod.mk.injEq] at H
      obtain ⟨rfl, rfl, rfl, rfl, rfl⟩ := H;obtain ⟨_, _, _, _, _, _, _, _⟩ := cf4 BK510;go_wp2
      refine pR (results_ct rfl _ _ gb510 28 #[.string (⟨#[]⟩ : ByteArray), .slice none 0 0, .bool false, .string (⟨#[]⟩ : ByteArray)] (0, 0) _ rfl (zz71 BK510) Tryd.underlying28 rfl (by kernel_rfl)) rfl ?_;exact ⟨_, zz11, zz72, (zz4 HB GE510)⟩
    ·(first | rw [c16b0] | (simp only [i64_w, i32_w]; rw [c16b0]) | skip)
     replace H := bindA H;obtain ⟨t528, A26, H⟩ := H;replace H := bindA H;obtain ⟨t532, A27, H⟩ := H;have HF28 := A_ H;clear H;obtain ⟨Ao29, co29, eo29⟩ := Kd.R_slice HO_12.out;subst eo29;go_upto_if 62 with (first | ((with_reducible refine gC (f := 53) rfl ?_); refine gsL (some 56) Tryd.func53 #[.slice Ao29 x12_1.length co29] ?_; (with_reducible refine mV (impl_PathClean.calls k1 _ _ x12_1 t528 _ ?side1 ?side2 A26.out) ?_); (case side1 => exact (zz37 HO_12)); (case side2 => exact (Kd.R_reads' HO_12.out).2.1); rintro v529 w30 ⟨ho0, hb⟩; have HO530 := A_ (Kd.R_lower (Kd.R_new' (Kd.R_new' ho0 (Kd.R_lt (zz18 HO_12))) (Kd.R_lt (zz18 HO_35))) (below_size (zz4 HB GE510))); replace HO_12 := A_ (Kd.R_elder' (zz18 HO_12) (Kd.R_base ho0) hb); replace HO_35 := A_ (Kd.R_elder' (zz18 HO_35) (Kd.R_base ho0) hb); replace BK510 := A_ (bB (zz3 BK510) hb); replace HB := A_ (bS (zz4 HB GE510) hb); (try clear hb ho0); obtain ⟨Ao31, co31, eo31⟩ := Kd.R_slice HO530.out; subst eo31) | ((with_reducible refine gD (N := 17) rfl ?_); refine boxE 17 #[.string (⟨#[]⟩ : ByteArray), .slice none 0 0, .bool false, .string (⟨#[]⟩ : ByteArray)] 28 ?_; intro gb531 hg w32 hbox hb; replace HO_12 := A_ (rB (zz18 HO_12) hb); replace HO_35 := A_ (rB (zz18 HO_35) hb); replace HO530 := A_ (rB (zz18 HO530) hb); have BK531 := A_ (hbox); have GE531 := geB hg (zz4 HB GE510); replace HB := A_ (bS (zz4 HB GE510) hb); have NB510_531 := A_ ((by rw [hg]; exact Nat.ne_of_lt (blk_lt (zz3 BK510)) : gb510 ≠ gb531)); have NB531_510 := A_ ((by rw [hg]; exact Nat.ne_of_gt (blk_lt (zz3 BK510)) : gb531 ≠ gb510)); replace BK510 := A_ (bB (zz3 BK510) hb); clear hb hbox hg; have hnb33 := NB531_510.out; have hnc33 := NB510_531.out; obtain ⟨_, _, _, _, _, _, _, _⟩ := cf4 BK531) | ((with_reducible refine gC (f := 18) rfl ?_); refine gsL (some 61) Tryd.func18 #[.agg #[.string a0, .slice Ao31 t528.length co31, .bool t513, .string t514]] ?_; (with_reducible refine (impl_AddrOk.calls k1 a0 _ _ t528 t513 t514 t532 _ ?side1 ?side2 A27.out).mono ?_); (case side1 => exact (by refine (Kd.R_reads' (e := 9) (base := w.heap.size) (ok := fun k_ => ((True ∧ some k_ ≠ (.slice Ao29 x12_1.length co29 : Value).ownBlock) ∧ some k_ ≠ (.slice Ao15 t519.length co15 : Value).ownBlock)) (n := t528.length) (c := co31) ?_).2.2; exact (zz169 HO530 BK531))); (case side2 => exact (Kd.R_reads' HO530.out).2.1); rintro e w35 ⟨rfl, hb⟩; refine ⟨_, rfl, ?_⟩; replace HO_12 := A_ (rB (zz169 HO_12 BK531) hb); replace HO_35 := A_ (rB (zz169 HO_35 BK531) hb); replace HO530 := A_ (rB (zz169 HO530 BK531) hb); replace BK510 := A_ (bB (g := gb510) (o := .cells #[.string x511000_1, .slice none 0 0, .bool x511002_1, .string x511003_1] 28 (0, 0)) (zz119 BK510 NB510_531) hb); replace BK531 := A_ (bB (g := gb531) (o := .cells #[.string a0, .slice Ao31 t528.length co31, .bool t513, .string t514] 28 (0, 0)) (zz71 BK531) hb); replace HB := A_ (bS (zz171 HB GE510 GE531) hb); (try clear hb)))
     obtain ⟨H⟩ := HF28;replace H := iteB H;rcases H with ⟨rfl, H⟩ | ⟨rfl, H⟩
     ·simp only [Option.some.injEq, Prod.mk.injEq] at H
      obtain ⟨rfl, rfl, rfl, rfl, rfl⟩ := H;have hnb37 := NB531_510.out;have hnc37 := NB510_531.out;obtain ⟨_, _, _, _, _, _, _, _⟩ := cf4 BK531;obtain ⟨_, _, _, _, _, _, _, _⟩ := cf4 BK510;go_wp2
      refine pR (results_ct rfl _ _ gb510 28 #[.string a0, .slice Ao31 t528.length co31, .bool t513, .string t514] (0, 0) _ rfl (zz71 BK510) Tryd.underlying28 rfl (by kernel_rfl)) rfl ?_;exact ⟨_, zz11, (zz50 (rt HO530 BK510)), (zz171 HB GE510 GE531)⟩
     ·simp only [Option.some.injEq, Prod.mk.injEq] at H
      obtain ⟨rfl, rfl, rfl, rfl, rfl⟩ := H;have hnb40 := NB510_531.out;have hnc40 := NB531_510.out;obtain ⟨_, _, _, _, _, _, _, _⟩ := cf4 BK510;go_wp2
      refine pR (results_ct rfl _ _ gb510 28 #[.string (⟨#[]⟩ : ByteArray), .slice none 0 0, .bool false, .string (⟨#[]⟩ : ByteArray)] (0, 0) _ rfl (zz71 BK510) Tryd.underlying28 rfl (by kernel_rfl)) rfl ?_;exact ⟨_, zz11, zz72, (zz171 HB GE510 GE531)⟩
 ·simp only [Option.some.injEq, Prod.mk.injEq] at H
  obtain ⟨rfl, rfl, rfl, rfl, rfl⟩ := H;obtain ⟨_, _, _, _, _, _, _, _⟩ := cf4 BK510;go_wp2
  refine pR (results_ct rfl _ _ gb510 28 #[.string (⟨#[]⟩ : ByteArray), .slice none 0 0, .bool false, .string (⟨#[]⟩ : ByteArray)] (0, 0) _ rfl (zz71 BK510) Tryd.underlying28 rfl (by kernel_rfl)) rfl ?_;exact ⟨_, zz11, zz72, (zz4 HB GE510)⟩
end Go.Proofs.YtpomhjkbgbociaaDoor.P
end
section
namespace Go.Proofs.YtpomhjkbgbociaaDoor.P
open Go.RowKit Go.Proofs.YtpomhjkbgbociaaDoorW.PrintWords Go.Proofs.YtpomhjkbgbociaaDoorW.PrintLast Go.Proofs.YtpomhjkbgbociaaDoorW.PrintMore
set_option linter.unusedVariables false
section
variable {P : Program} {ops : Array Oper} {Q : Exit → Act → World → Prop}
end
theorem size_set (w : World) (p : Addr) (u : Value) : (w.setCell p u).heap.size = w.heap.size := by simp
end Go.Proofs.YtpomhjkbgbociaaDoor.P
end
section
namespace Go.Proofs.YtpomhjkbgbociaaDoor.P
open Go.RowKit Go.Proofs.YtpomhjkbgbociaaDoorW.PrintWords Go.Proofs.YtpomhjkbgbociaaDoorW.PrintLast Go.Proofs.YtpomhjkbgbociaaDoorW.PrintMore Go.Proofs.YtpomhjkbgbociaaDoor.B Go.Proofs.YtpomhjkbgbociaaDoor.Ad
set_option linter.unusedVariables false
set_option linter.unusedSimpArgs false
def SmRow (b : Nat) (s : ByteArray) (i : Nat) (w : World) : Prop :=
 b < w.heap.size ∧ ∀ j, j < s.size → w.cell? ⟨b, j, none⟩ = some (.int .u8 ((if j < i then sm ((L s).getD j 0) else (L s).getD j 0).toNat : Nat)) ∧ w.frozen? ⟨b, j, none⟩ = false
theorem sm_start (w : World) (e : TypeId) (s : ByteArray) : SmRow w.heap.size s 0 (Lib.bytesWorld w e s) := by
 refine ⟨by rw [Lib.bytesWorld_size]; omega, fun j hj => ⟨?_, ?_⟩⟩
 ·rw [Lib.bytesWorld_cell w e s j hj]; simp [L]
 ·have hk : s.size ≤ (Lib.bytesCells w e s).size := by rw [Lib.bytesCells]; simp
  simp only [World.frozen?, Lib.bytesWorld_at_new]
  simp
  omega
theorem sm_below (w : World) (e : TypeId) (s : ByteArray) : Below w.heap.size w (Lib.bytesWorld w e s) := by
 refine ⟨rfl, rfl, rfl, by rw [Lib.bytesWorld_size]; omega, fun j hj => Lib.bytesWorld_at_old w e s j hj⟩
theorem sm_set {b : Nat} {s : ByteArray} {i : Nat} {w : World} (h : SmRow b s i w) (hi : i < s.size) : SmRow b s (i + 1) (w.setCell ⟨b, i, none⟩ (.int .u8 ((sm ((L s).getD i 0)).toNat : Nat))) := by
 refine ⟨by rw [size_set]; exact h.1, fun j hj => ⟨?_, by rw [World.frozen?_setCell]; exact (h.2 j hj).2⟩⟩
 rcases Nat.lt_trichotomy j i with h1 | h1 | h1
 ·rw [World.cell?_setCell_other _ _ _ _ (by intro e; injection e with _ e; omega), (h.2 j hj).1, if_pos h1, if_pos (by omega)]
 ·subst h1; rw [World.cell?_setCell_same _ _ _ (h.2 j hj).1, if_pos (by omega)]
 ·rw [World.cell?_setCell_other _ _ _ _ (by intro e; injection e with _ e; omega), (h.2 j hj).1, if_neg (by omega), if_neg (by omega)]
theorem sm_skip {b : Nat} {s : ByteArray} {i : Nat} {w : World} (h : SmRow b s i w) (hi : i < s.size) (he : sm ((L s).getD i 0) = (L s).getD i 0) : SmRow b s (i + 1) w := by
 refine ⟨h.1, fun j hj => ⟨?_, (h.2 j hj).2⟩⟩
 rw [(h.2 j hj).1]
 rcases Nat.lt_trichotomy j i with h1 | h1 | h1
 ·rw [if_pos h1, if_pos (by omega)]
 ·subst h1; rw [if_neg (by omega), if_pos (by omega), he]
 ·rw [if_neg (by omega), if_neg (by omega)]
end Go.Proofs.YtpomhjkbgbociaaDoor.P
end
section
namespace Go.Proofs.YtpomhjkbgbociaaDoor.P
open Go.RowKit Go.Proofs.YtpomhjkbgbociaaDoorW.PrintWords Go.Proofs.YtpomhjkbgbociaaDoorW.PrintLast Go.Proofs.YtpomhjkbgbociaaDoorW.PrintMore Go.Proofs.YtpomhjkbgbociaaDoor.B Go.Proofs.YtpomhjkbgbociaaDoor.Ad
set_option linter.unusedVariables false
set_option linter.unusedSimpArgs false
def impl_smallLetters.f (a0 : ByteArray) : Option (ByteArray) := if a0.size ≤ 140737488351232 then some (smallB a0) else none
set_option maxHeartbeats 400000 in
set_option maxRecDepth 100000 in
theorem impl_smallLetters.calls (a0 r : ByteArray) (w : World) (h : impl_smallLetters.f a0 = some r) :
  Calls Tryd.prog 29 #[.string a0] w fun e w' => e = .returned (.string r) ∧ Below w.heap.size w w' := by
 unfold impl_smallLetters.f at h
 by_cases hs : a0.size ≤ 140737488351232
 ·rw [if_pos hs] at h
  obtain rfl := Option.some.inj h
  clear h
  have hcv := Lib.run_convert_string_bytes (P := Tryd.prog) w 9 22 5 a0 Tryd.underlying9 Tryd.underlying22 Tryd.underlying5
  go_enter Tryd.func29, Tryd.ntmps29
  go_wp2_with fail
  clear hcv
  go_loopw [10] (fun i wr => ∃ k : Nat, k ≤ a0.size ∧ i = .int .i64 k ∧ Aside0 (SmRow w.heap.size a0 k wr) ∧ Aside0 (Below w.heap.size w wr))
   (fun i _ => a0.size - (intOf i).toNat)
  case atStart =>
   refine ⟨0, Nat.zero_le _, rfl, ⟨sm_start w 5 a0⟩, ⟨?_⟩⟩
   exact sm_below w 5 a0
  case round =>
   obtain ⟨k, hk, rfl, hI, hB⟩ := hrel
   by_cases hlt : k < a0.size
   ·have hc := (hI.out.2 k hlt).1
    have hf := (hI.out.2 k hlt).2
    rw [if_neg (by omega)] at hc
    have hset := Aside0.mk (sm_set hI.out hlt)
    have hskip := Aside0.mk (sm_skip hI.out hlt)
    clear hI
    generalize (L a0).getD k 0 = b at hc hset hskip
    have hb := b.toNat_lt
    by_cases h1 : 65 ≤ b.toNat
    ·by_cases h2 : b.toNat ≤ 90
     ·have e1 : (sm b).toNat = b.toNat + 32 := by
       unfold sm
       rw [if_pos ⟨h1, h2⟩, UInt8.toNat_add]
       have : (32 : UInt8).toNat = 32 := rfl
       omega
      rw [e1, show ((b.toNat + 32 : Nat) : Int) = (b.toNat : Int) + 32 from by omega] at hset
      clear hskip e1
      go_wp2
      exact ⟨⟨k + 1, by omega, by go_num, hset, ⟨hB.out.setCell (Nat.le_refl _) _⟩⟩, by simp [intOf]; omega⟩
     ·have e1 : sm b = b := by unfold sm; rw [if_neg (by omega)]
      have hS : Aside0 (SmRow w.heap.size a0 (k + 1) wr) := ⟨hskip.out e1⟩
      clear e1 hset hskip
      go_wp2
      exact ⟨⟨k + 1, by omega, by go_num, hS, hB⟩, by simp [intOf]; omega⟩
    ·have e1 : sm b = b := by unfold sm; rw [if_neg (by omega)]
     have hS : Aside0 (SmRow w.heap.size a0 (k + 1) wr) := ⟨hskip.out e1⟩
     clear e1 hset hskip
     go_wp2
     exact ⟨⟨k + 1, by omega, by go_num, hS, hB⟩, by simp [intOf]; omega⟩
   ·have ek : k = a0.size := by omega
    have hcells : ∀ j (hj : j < (L (smallB a0)).length), wr.cell? ((⟨w.heap.size, 0, none⟩ : Addr).add j) = some (.int .u8 ((L (smallB a0))[j].toNat : Int)) := by
     intro j hj
     have hj' : j < a0.size := by rw [L_size, smallB, ofL_size, List.length_map, L_size] at hj; exact hj
     rw [add_plain, (hI.out.2 j hj').1, if_pos (by omega)]
     simp [smallB, L_of, List.getD_eq_getElem?_getD, List.getElem?_eq_getElem (show j < (L a0).length by rw [L_size]; exact hj')]
    have hcv := run_convert_bytes_back (P := Tryd.prog) wr 22 9 5 ⟨w.heap.size, 0, none⟩ (grownCap w a0.size 0 5) (L (smallB a0)) Tryd.underlying22 Tryd.underlying5 Tryd.underlying9 hcells
    have hl : (L (smallB a0)).length = a0.size := by rw [L_size, smallB, ofL_size, List.length_map, L_size]
    rw [hl, show (⟨(L (smallB a0)).toArray⟩ : ByteArray) = smallB a0 from of_L _] at hcv
    have Hk := Aside0.mk ek
    clear ek hcells hl
    go_wp2
    go_ret
    exact ⟨rfl, hB.out⟩
 ·rw [if_neg hs] at h; cases h
end Go.Proofs.YtpomhjkbgbociaaDoor.P
end
section
namespace Go.Proofs.YtpomhjkbgbociaaDoor.P
open Go.RowKit Go.Proofs.YtpomhjkbgbociaaDoorW.PrintWords Go.Proofs.YtpomhjkbgbociaaDoorW.PrintLast Go.Proofs.YtpomhjkbgbociaaDoorW.PrintMore Go.Proofs.YtpomhjkbgbociaaDoor.B Go.Proofs.YtpomhjkbgbociaaDoor.Ad
set_option linter.unusedVariables false
set_option linter.unusedSimpArgs false
def sq : ByteArray := ⟨#[47, 63]⟩
theorem sq_at : sq.size = 2 ∧ (∀ h : 0 < sq.size, (sq[0]'h).toNat = 47) ∧ (∀ h : 1 < sq.size, (sq[1]'h).toNat = 63) := by decide +kernel
theorem valid_same (r : Int) : Utf8.valid r = Lib.validRune r := by
 unfold Utf8.valid Lib.validRune
 rw [Bool.eq_iff_iff]
 simp only [Bool.or_eq_true, Bool.and_eq_true, decide_eq_true_eq]
 omega
theorem decode_skip (s : ByteArray) (pos : Nat) (h : pos < s.size) (ha : 128 ≤ (s[pos]'h).toNat) :
  pos + (Utf8.decode s pos).2 ≤ s.size ∧ ∀ j, pos ≤ j → j < pos + (Utf8.decode s pos).2 → ∀ hj : j < s.size, 128 ≤ (s[j]'hj).toNat := by
 have hn : ¬ (s[pos]'h).toNat < 128 := by omega
 have one : pos + 1 ≤ s.size ∧ ∀ j, pos ≤ j → j < pos + 1 → ∀ hj : j < s.size, 128 ≤ (s[j]'hj).toNat := by
  refine ⟨h, fun j h1 h2 hj => ?_⟩
  obtain rfl : j = pos := by omega
  exact ha
 have cont : ∀ k, (decide (pos + k < s.size) && ((s.get! (pos + k)).toNat / 64 == 2)) = true → pos + k < s.size ∧ ∀ hj : pos + k < s.size, 128 ≤ (s[pos + k]'hj).toNat := by
  intro k hk
  simp only [Bool.and_eq_true, decide_eq_true_eq, beq_iff_eq] at hk
  refine ⟨hk.1, fun hj => ?_⟩
  have e := get_at s (pos + k) hj
  rw [Nat.add_zero] at e
  rw [e] at hk
  omega
 simp only [Utf8.decode, get_at s pos h, hn, if_false]
 split
 ·rename_i h1
  simp only [Bool.and_eq_true] at h1
  obtain ⟨l1, b1⟩ := cont 1 (by simpa using h1.2)
  split
  ·refine ⟨by show pos + 2 ≤ _; omega, fun j h2 h3 hj => ?_⟩
   have h3' : j < pos + 2 := h3
   rcases (by omega : j = pos ∨ j = pos + 1) with e | e
   ·subst e; exact ha
   ·subst e; exact b1 hj
  ·exact one
 ·split
  ·rename_i _ h1
   simp only [Bool.and_eq_true] at h1
   obtain ⟨l1, b1⟩ := cont 1 (by simpa using h1.1.2)
   obtain ⟨l2, b2⟩ := cont 2 (by simpa using h1.2)
   split
   ·refine ⟨by show pos + 3 ≤ _; omega, fun j h2 h3 hj => ?_⟩
    have h3' : j < pos + 3 := h3
    rcases (by omega : j = pos ∨ j = pos + 1 ∨ j = pos + 2) with e | e | e
    ·subst e; exact ha
    ·subst e; exact b1 hj
    ·subst e; exact b2 hj
   ·exact one
  ·split
   ·rename_i _ _ h1
    simp only [Bool.and_eq_true] at h1
    obtain ⟨l1, b1⟩ := cont 1 (by simpa using h1.1.1.2)
    obtain ⟨l2, b2⟩ := cont 2 (by simpa using h1.1.2)
    obtain ⟨l3, b3⟩ := cont 3 (by simpa using h1.2)
    split
    ·refine ⟨by show pos + 4 ≤ _; omega, fun j h2 h3 hj => ?_⟩
     have h3' : j < pos + 4 := h3
     rcases (by omega : j = pos ∨ j = pos + 1 ∨ j = pos + 2 ∨ j = pos + 3) with e | e | e | e
     ·subst e; exact ha
     ·subst e; exact b1 hj
     ·subst e; exact b2 hj
     ·subst e; exact b3 hj
    ·exact one
   ·exact one
theorem noAny_skip {s : ByteArray} {pos n : Nat} (h : Lib.NoAny (L s) (L sq) pos) (hb : ∀ j, pos ≤ j → j < pos + n → ∀ hj : j < s.size, 128 ≤ (s[j]'hj).toNat) : Lib.NoAny (L s) (L sq) (pos + n) := by
 intro j b hj hx
 rcases Nat.lt_or_ge j pos with hlt | hge
 ·exact h j b hlt hx
 ·obtain ⟨hl, he⟩ := List.getElem?_eq_some_iff.1 hx
  have hjs : j < s.size := by rw [← L_size]; exact hl
  have h1 := hb j hge hj hjs
  have h2 : (s[j]'hjs) = b := by rw [← he]; rfl
  rw [h2] at h1
  have : L sq = [47, 63] := rfl
  rw [this]
  simp only [List.contains_cons, List.contains_nil, Bool.or_false, Bool.or_eq_false_iff, beq_eq_false_iff_ne]
  constructor
  ·rintro rfl; exact absurd h1 (by decide)
  ·rintro rfl; exact absurd h1 (by decide)
set_option maxHeartbeats 4000000 in
set_option maxRecDepth 1000000 in
theorem indexRune_far (r : Int) (w : World) (h0 : 128 ≤ r) (h1 : r ≤ 2147483647) :
  Calls Tryd.prog 46 #[.string sq, .int .i32 r] w fun e w' => e = .returned (.int .i64 (-1)) ∧ Below w.heap.size w w' := by
 have g0 : decide (0 ≤ r) = true := decide_eq_true (by omega)
 have g1 : decide (r < 128) = false := decide_eq_false (by omega)
 obtain ⟨hsz, hs0, hs1⟩ := sq_at
 by_cases hr : r = 65533
 ·subst hr
  have n0 := fun ty => run_next_ascii (P := Tryd.prog) w sq 0 ty (by rw [hsz]; decide) (by rw [hs0]; decide)
  have n1 := fun ty => run_next_ascii (P := Tryd.prog) w sq 1 ty (by rw [hsz]; decide) (by rw [hs1]; decide)
  rw [hs0] at n0
  rw [hs1] at n1
  have n2 := fun ty => run_next_end (P := Tryd.prog) w sq 2 ty (by rw [hsz]; decide)
  clear hsz hs0 hs1 h0 h1 g0 g1
  go_enter Tryd.func46, Tryd.ntmps46
  go_wp2
  go_loopg [5, 6] 2 (fun g _ _ wx => ∃ i : Nat, i + g = 2 ∧ wx = w.iter sq i)
  case atStart => exact ⟨0, by omega, rfl⟩
  case round =>
   obtain ⟨i, hig, rfl⟩ := hrel
   cases gk with
   | zero =>
    obtain rfl : i = 2 := by omega
    go_wp2
    go_ret
    exact ⟨rfl, (Below.refl _ _).alloc (Nat.le_refl _) _⟩
   | succ g =>
    rcases (by omega : i = 0 ∨ i = 1) with e | e
    ·subst e
     go_wp2
     go_roundg g
     case measure => omega
     case rel => exact ⟨1, by omega, rfl⟩
    ·subst e
     go_wp2
     go_roundg g
     case measure => omega
     case rel => exact ⟨2, by omega, rfl⟩
 ·have g2 : (r == 65533) = false := by simp [hr]
  cases hv : Lib.validRune r with
  | false =>
   go_enter Tryd.func46, Tryd.ntmps46
   go_wp2_with (go_at_call 71; refine (Tryd.utf8_ValidRune _ _).mono ?_; rintro e w' ⟨rfl, hw⟩; rw [hw, hv])
   go_ret
   exact ⟨rfl, Below.refl _ _⟩
  | true =>
   obtain ⟨e1, e2, e3⟩ := encode_facts r (by rw [valid_same]; exact hv) h0
   go_enter Tryd.func46, Tryd.ntmps46
   go_wp2_with (go_at_call 71; refine (Tryd.utf8_ValidRune _ _).mono ?_; rintro e w' ⟨rfl, hw⟩; rw [hw, hv])
   go_step3
   go_wp2
   generalize Utf8.encode r = nd at e1 e2 e3 ⊢
   refine wp_loop_rounds 1 ?_
   rw [rounds_succ]
   by_cases hn : nd.size = 2
   ·obtain ⟨x, hx⟩ : ∃ x : UInt8, ∀ h : 1 < nd.size, nd[1]'h = x := ⟨nd[1]'(by omega), fun _ => rfl⟩
    have hx1 : 128 ≤ x.toNat := by
     have := e3 (by omega)
     simp only [hn] at this
     rw [← hx (by omega)]; exact this
    clear e3
    have hne : ((63 : Int) != (x.toNat : Int)) = true := by simp; omega
    have hnz : ((nd.size : Nat) : Int) - 1 = 1 := by omega
    rw [hnz]
    have HN := Aside0.mk hn
    have hlt : (1 : Int) < (nd.size : Int) := by omega
    clear hn hnz e1 e2
    have hs1' := hs1 (by rw [hsz]; decide)
    have hi1 : (1 : Int) < (sq.size : Int) := by rw [hsz]; decide
    have hs2 : (2 : Int) ≤ (sq.size : Int) := by rw [hsz]; decide
    go_wp2
    go_step3
    go_wp2
    go_quiet (fail)
    have HB : Aside0 (Below w.heap.size w (w.drewN nq)) := ⟨pw_below_drewN (Below.refl _ _) nq⟩
    generalize w.drewN nq = w1 at HB ⊢
    have hib : Lib.indexByte (sq.extract 2 2).data.toList ((x.toNat : Int)).toNat.toUInt8 = -1 := rfl
    go_wp2
    go_quiet ((go_at_call 70; exact Calls.quiet_of_same (Tryd.strings_IndexByte _ _ _)))
    go_wp2
    rw [Exit.noGoto_ret]
    go_wp2
    rw [Exit.noGoto_ret]
    go_ret
    exact ⟨rfl, pw_below_drewN HB.out _⟩
   ·have hge : decide ((nd.size : Int) - 1 < 2) = false := decide_eq_false (by omega)
    go_wp2
    rw [Exit.noGoto_ret]
    go_ret
    exact ⟨rfl, Below.refl _ _⟩
def strings_IndexAny.f (a0 a1 : ByteArray) : Option Int := if L a1 = [47, 63] ∧ a0.size < 4294967281 then some (Lib.indexAny (L a0) (L a1)) else none
def iterTo (w : World) (b : Nat) (s : ByteArray) (p : Nat) : World := { w with heap := w.heap.setIfInBounds b (.stringIter s p) }
theorem iterTo_at {w : World} {b : Nat} {s : ByteArray} {p q : Nat} (h : w.heap[b]? = some (.stringIter s q)) : (iterTo w b s p).heap[b]? = some (.stringIter s p) := by
 obtain ⟨hl, _⟩ := Array.getElem?_eq_some_iff.1 h
 simp [iterTo, hl]
theorem iterTo_below {w0 w : World} {b : Nat} {s : ByteArray} {p : Nat} (h : Below w0.heap.size w0 w) (hb : w0.heap.size ≤ b) : Below w0.heap.size w0 (iterTo w b s p) :=
 ⟨h.os, h.tape, h.output, by simp [iterTo]; exact h.size, fun i hi => by
  rw [← h.block i hi]
  simp only [iterTo]
  exact Array.getElem?_setIfInBounds_ne (by omega)⟩
theorem run_next_in {P : Program} (w : World) (b : Nat) (s : ByteArray) (pos : Nat) (hb : w.heap[b]? = some (.stringIter s pos)) (h : pos < s.size) (ty : TypeId) :
  (Instr.next (.pointer (some ⟨b, 0, none⟩)) true ty).run P w = .ok (.tuple #[.bool true, .int .i64 pos, .int .i32 (Utf8.decode s pos).1]) (iterTo w b s (pos + (Utf8.decode s pos).2)) := by
 simp only [Instr.next, getObj, setObj, Sem.run_bind, Sem.run, hb, Result.andThen, h, if_true, iterTo]
 simp [goInt]
theorem run_next_out {P : Program} (w : World) (b : Nat) (s : ByteArray) (pos : Nat) (hb : w.heap[b]? = some (.stringIter s pos)) (h : ¬ pos < s.size) (ty : TypeId) :
  (Instr.next (.pointer (some ⟨b, 0, none⟩)) true ty).run P w = .ok (.tuple #[.bool false]) w := by
 simp [Instr.next, getObj, Sem.run, hb, h]
set_option maxHeartbeats 4000000 in
set_option maxRecDepth 1000000 in
theorem indexAny_few (s : ByteArray) (w : World) (h8 : s.size ≤ 8) :
  Calls Tryd.prog 27 #[.string s, .string sq] w fun e w' => e = .returned (.int .i64 (Lib.indexAny (L s) (L sq))) ∧ Below w.heap.size w w' := by
 have hemp : sq.toList.isEmpty = false := by decide +kernel
 have hn1 : ((sq.size : Int) == 1) = false := by decide +kernel
 have h8z : decide ((8 : Int) < (s.size : Int)) = false := decide_eq_false (by omega)
 go_enter Tryd.func27, Tryd.ntmps27
 go_wp2_with (go_at_call 47; refine (Tryd.strings_shouldUseASCIISet _ _).mono ?_; rintro e w' ⟨rfl, hw⟩; rw [hw, h8z])
 go_loopg [9, 10] s.size (fun g _ _ wx => ∃ i : Nat, i + g = s.size ∧ Aside0 (wx.heap[w.heap.size]? = some (.stringIter s i)) ∧ Aside0 (Lib.NoAny (L s) (L sq) i) ∧ Aside0 (Below w.heap.size w wx))
 case atStart => exact ⟨0, by omega, ⟨World.iter_heap w s 0⟩, ⟨Lib.NoAny.zero _ _⟩, ⟨(Below.refl _ _).alloc (Nat.le_refl _) _⟩⟩
 case round =>
  obtain ⟨i, hig, hI, HN, HB⟩ := hrel
  cases gk with
  | zero =>
   obtain rfl : i = s.size := by omega
   have hnx := run_next_out (P := Tryd.prog) wr w.heap.size s s.size hI.out (by omega)
   go_wp2
   go_ret
   exact ⟨by rw [Lib.indexAny_none (by rw [L_size]; exact HN.out)]; rfl, HB.out⟩
  | succ g =>
   have hi : i < s.size := by omega
   have hnx := run_next_in (P := Tryd.prog) wr w.heap.size s i hI.out hi
   obtain ⟨x, hx⟩ : ∃ x : UInt8, s[i]'hi = x := ⟨_, rfl⟩
   have Hx : Aside0 ((L s)[i]? = some x) := ⟨by rw [← hx]; exact Lib.data_getElem? s i hi⟩
   by_cases hlt : x.toNat < 128
   ·have hd := decode_ascii s i hi (by rw [hx]; exact hlt)
    rw [hx] at hd
    rw [hd] at hnx
    clear hd
    have HI2 : Aside0 ((iterTo wr w.heap.size s (i + 1)).heap[w.heap.size]? = some (.stringIter s (i + 1))) := ⟨iterTo_at hI.out⟩
    have HB2 : Aside0 (Below w.heap.size w (iterTo wr w.heap.size s (i + 1))) := ⟨iterTo_below HB.out (Nat.le_refl _)⟩
    simp only at hnx
    have hcon := Lib.contains_iff_indexByte (L sq) x
    have hback : ((x.toNat : Int)).toNat.toUInt8 = x := by simp
    obtain ⟨q, hq⟩ : ∃ q, Lib.indexByte sq.data.toList x = q := ⟨_, rfl⟩
    have hcon : (L sq).contains x = decide (0 ≤ q) := by rw [← hq]; exact hcon
    clear hx HB hI
    generalize iterTo wr w.heap.size s (i + 1) = w2 at hnx HI2 HB2
    cases hin : (L sq).contains x
    ·rw [hin] at hcon
     have hlt0 : ¬ ((0 : Int) ≤ q) := of_decide_eq_false hcon.symm
     clear hcon
     have HS : Aside0 (Lib.NoAny (L s) (L sq) (i + 1)) := ⟨HN.out.succ Hx.out hin⟩
     clear hin
     go_wp2_with (go_at_call 46; refine (Tryd.strings_IndexRune_ascii _ _ _ (by omega) (by omega)).mono ?_; rintro e w' ⟨rfl, hw⟩; rw [hw, hback, hq])
     go_roundg g
     case measure => omega
     case rel => exact ⟨i + 1, by omega, HI2, HS, HB2⟩
    ·rw [hin] at hcon
     have hge : (0 : Int) ≤ q := of_decide_eq_true hcon.symm
     clear hcon
     have HE : Aside0 (Lib.indexAny (L s) (L sq) = i) := ⟨Lib.indexAny_hit HN.out Hx.out hin⟩
     clear hin
     go_wp2_with (go_at_call 46; refine (Tryd.strings_IndexRune_ascii _ _ _ (by omega) (by omega)).mono ?_; rintro e w' ⟨rfl, hw⟩; rw [hw, hback, hq])
     go_ret
     exact ⟨by rw [HE.out]; rfl, HB2.out⟩
   ·obtain ⟨hd1, hd2⟩ := decode_high s i hi (by rw [hx]; omega)
    have hd3 := decode_le s i
    obtain ⟨hk1, hk2⟩ := decode_skip s i hi (by rw [hx]; omega)
    generalize (Utf8.decode s i).2 = n at hnx hd2 hk1 hk2
    generalize (Utf8.decode s i).1 = c at hnx hd1 hd3
    have HI2 : Aside0 ((iterTo wr w.heap.size s (i + n)).heap[w.heap.size]? = some (.stringIter s (i + n))) := ⟨iterTo_at hI.out⟩
    have HB2 : Aside0 (Below w.heap.size w (iterTo wr w.heap.size s (i + n))) := ⟨iterTo_below HB.out (Nat.le_refl _)⟩
    have HS : Aside0 (Lib.NoAny (L s) (L sq) (i + n)) := ⟨noAny_skip HN.out hk2⟩
    have hlo : (128 : Int) ≤ (c : Int) := by omega
    have hhi : (c : Int) ≤ 2147483647 := by omega
    have HK := Aside0.mk hk1
    have HD := Aside0.mk hd2
    clear hx HB hI HN Hx hk1 hk2 hd1 hd2 hd3 hlt
    generalize iterTo wr w.heap.size s (i + n) = w2 at hnx HI2 HB2
    go_wp2_with (go_at_call 46; refine (indexRune_far _ _ hlo hhi).mono ?_; rintro e w' ⟨rfl, hb⟩)
    have HC := Aside0.mk hb
    clear hb
    go_roundg (g + 1 - n)
    case measure => have := HK.out; have := HD.out; omega
    case rel => exact ⟨i + n, by have := HK.out; omega, ⟨(HC.out.block _ (by obtain ⟨hl, _⟩ := Array.getElem?_eq_some_iff.1 HI2.out; exact hl)).trans HI2.out⟩, HS, ⟨HB2.out.trans (HC.out.mono HB2.out.size)⟩⟩
theorem strings_IndexAny.calls (a0 a1 : ByteArray) (r : Int) (w : World) (h : strings_IndexAny.f a0 a1 = some r) :
  Calls Tryd.prog 27 #[.string a0, .string a1] w fun e w' => e = .returned (.int .i64 r) ∧ Below w.heap.size w w' := by
 unfold strings_IndexAny.f at h
 split at h
 ·rename_i hh
  obtain rfl := Option.some.inj h
  obtain rfl : a1 = sq := L_inj (by rw [hh.1]; rfl)
  rcases Nat.lt_or_ge 8 a0.size with h8 | h8
  ·refine (Tryd.strings_IndexAny_long (fun w => by kernel_rfl) a0 sq w (by decide +kernel) h8 hh.2 (by decide +kernel) (fun j b hb => ?_)).mono fun e w' ⟨he, hw⟩ => ⟨he, hw ▸ ((Below.refl _ _).alloc (Nat.le_refl _) _).alloc (by simp) _⟩
   have hb' : ([47, 63] : List UInt8)[j]? = some b := hb
   match j, hb' with
   | 0, hb' => injection hb' with hb'; subst hb'; decide
   | 1, hb' => injection hb' with hb'; subst hb'; decide
  ·exact indexAny_few a0 w h8
 ·cases h
end Go.Proofs.YtpomhjkbgbociaaDoor.P
end
section
namespace Go.Proofs.YtpomhjkbgbociaaDoor.P
open Go.RowKit Go.Proofs.YtpomhjkbgbociaaDoorW.PrintWords Go.Proofs.YtpomhjkbgbociaaDoorW.PrintLast Go.Proofs.YtpomhjkbgbociaaDoorW.PrintMore
attribute [local go_sem] max2_int min2_int max_two min_two max_three min_three max_four min_four
set_option linter.unusedVariables false
set_option linter.unusedSimpArgs false
set_option maxHeartbeats 8000000
set_option maxRecDepth 100000
def impl_readWhole.f (k : Nat) (a0 : ByteArray) : Option (ByteArray × List ByteArray × Bool × ByteArray × Bool) := (strings_CutPrefix.f a0 (⟨#[47, 47]⟩ : ByteArray)).bind fun bt534 => (if bt534.2 = true then ((strings_IndexAny.f bt534.1 (⟨#[47, 63]⟩ : ByteArray)).bind fun t536 => (if t536 < 0 then (if 0 ≤ (bt534.1.size : Int) then (if (bt534.1.size : Int) ≤ (bt534.1.size : Int) then ((impl_smallLetters.f (bt534.1.extract 0 ((bt534.1.size : Int) : Int).toNat)).bind fun t537 => ((impl_readWay.f k t537 ([] : List ByteArray) (bt534.1.extract ((bt534.1.size : Int) : Int).toNat bt534.1.size)).bind fun bt538 => (some (bt538.1, bt538.2.1, bt538.2.2.1, bt538.2.2.2.1, bt538.2.2.2.2)))) else (none)) else (none)) else (if 0 ≤ t536 then (if t536 ≤ (bt534.1.size : Int) then ((impl_smallLetters.f (bt534.1.extract 0 (t536 : Int).toNat)).bind fun t545 => ((impl_readWay.f k t545 ([] : List ByteArray) (bt534.1.extract (t536 : Int).toNat bt534.1.size)).bind fun bt546 => (some (bt546.1, bt546.2.1, bt546.2.2.1, bt546.2.2.2.1, bt546.2.2.2.2)))) else (none)) else (none)))) else (some ((⟨#[]⟩ : ByteArray), ([] : List ByteArray), false, (⟨#[]⟩ : ByteArray), false)))
def impl_readWhole.T7 : Bool × List (List Nat × List Nat) := (true, [([], []), ([], []), ([0, 1], [0, 1]), ([2], [2]), ([], []), ([], []), ([4, 5], [4, 5]), ([3, 6, 3], [3, 6]), ([7], [7]), ([7], [7]), ([8, 7, 0, 1, 2, 3, 4, 5, 6, 7, 8, 9], [8]), ([9, 10, 0, 1, 2, 3, 4, 5, 6, 7, 8, 9, 10], [9])])
def impl_readWhole.B7 : List Nat := [0, 0, 3, 7, 0, 0, 48, 127, 255, 255, 1023, 2047]
theorem impl_readWhole.tab7 : rtab .any (opsOf Tryd.f17 7) = impl_readWhole.T7 := by kernel_rfl
theorem impl_readWhole.bits7 : waitsOk impl_readWhole.T7.2 impl_readWhole.B7 = true := by kernel_rfl
theorem impl_readWhole.calls (k : Nat) (a0 : ByteArray) (r1 : ByteArray) (r2 : List ByteArray) (r3 : Bool) (r4 : ByteArray) (r5 : Bool) (w : World) (h : impl_readWhole.f k a0 = some (r1, r2, r3, r4, r5)) :
  Calls Tryd.prog 17 #[.string a0] w fun e w' => ∃ v1_ : Value, e = .returned (.tuple #[.agg #[.string r1, v1_, .bool r3, .string r4], .bool r5]) ∧ Kd.R Kd.string 9 w' w.heap.size (fun _ => True) v1_ r2 ∧ Below w.heap.size w w' := by
 have hu28 := Tryd.underlying28;have HB := A_ (Below.refl w.heap.size w);unfold impl_readWhole.f at h
 have H := h;clear h;replace H := bindA H;obtain ⟨⟨t534, t535⟩, A2, H⟩ := H;try dsimp only at H
 have HF3 := A_ H;clear H;go_enter Tryd.func17, Tryd.ntmps17;go_upto_if 13 with (first | ((with_reducible refine gD (N := 2) rfl ?_); refine boxE 2 #[.string (⟨#[]⟩ : ByteArray), .slice none 0 0, .bool false, .string (⟨#[]⟩ : ByteArray)] 28 ?_; intro gb533 hg w4 hbox hb; have BK533 := A_ (hbox); have GE533 := geB hg (zz2 HB); replace HB := A_ (bS (zz2 HB) hb); clear hb hbox hg) | ((with_reducible refine gC (f := 26) rfl ?_); refine goesL_ (some 9) rfl rfl Tryd.func26 (by kernel_rfl) rfl #[.string a0, .string (⟨#[47, 47]⟩ : ByteArray)] rfl zz172 ?_; (with_reducible refine (strings_CutPrefix.calls a0 (⟨#[47, 47]⟩ : ByteArray) t534 t535 _ A2.out).mono ?_); rintro e w' ⟨rfl, ⟨nd, rfl⟩⟩; refine ⟨_, rfl, ?_⟩))
 obtain ⟨H⟩ := HF3;replace H := iteB H;rcases H with ⟨rfl, H⟩ | ⟨rfl, H⟩
 ·replace H := Option.bind_eq_some_iff.mp H
  obtain ⟨t536, A60, H⟩ := H;replace H : (if t536 < 0 then (if 0 ≤ (t534.size : Int) then (if (t534.size : Int) ≤ (t534.size : Int) then ((impl_smallLetters.f (t534.extract 0 ((t534.size : Int) : Int).toNat)).bind fun t537 => ((impl_readWay.f k t537 ([] : List ByteArray) (t534.extract ((t534.size : Int) : Int).toNat t534.size)).bind fun bt538 => (some (bt538.1, bt538.2.1, bt538.2.2.1, bt538.2.2.2.1, bt538.2.2.2.2)))) else (none)) else (none)) else (if 0 ≤ t536 then (if t536 ≤ (t534.size : Int) then ((impl_smallLetters.f (t534.extract 0 (t536 : Int).toNat)).bind fun t545 => ((impl_readWay.f k t545 ([] : List ByteArray) (t534.extract (t536 : Int).toNat t534.size)).bind fun bt546 => (some (bt546.1, bt546.2.1, bt546.2.2.1, bt546.2.2.2.1, bt546.2.2.2.2)))) else (none)) else (none))) = some (r1, r2, r3, r4, r5) := H;have A6 := A_ A60;clear A60;have HF7 := A_ H;clear H;go_upto_if 18 with (first | ((with_reducible refine gC (f := 27) rfl ?_); refine goesL_ (some 16) rfl rfl Tryd.func27 (by kernel_rfl) rfl #[.string t534, .string (⟨#[47, 63]⟩ : ByteArray)] rfl zz172 ?_; (with_reducible refine mR (strings_IndexAny.calls t534 (⟨#[47, 63]⟩ : ByteArray) t536 _ A6.out) ?_); rintro w8 hb; replace BK533 := A_ (bB (zz3 BK533) hb); replace HB := A_ (bS (zz4 HB GE533) hb); (try clear hb)))
  obtain ⟨H⟩ := HF7;replace H := iteEd H;rcases H with ⟨c9b0, H⟩ | ⟨c9b0, H⟩
  ·(first | rw [c9b0] | (simp only [i64_w, i32_w]; rw [c9b0]) | skip)
   replace H := iteN H;obtain ⟨c10, H⟩ := H;have c10b0 := eq_true c10;have c10b1 := dT c10;clear c10;replace H := iteN H;obtain ⟨c11, H⟩ := H;have c11b0 := eq_true c11;have c11b1 := dT c11;clear c11;replace H := bindA H;obtain ⟨t537, A12, H⟩ := H;have c13b0 := eq_true (ofD : 0 ≤ (t534.size : Int));have c14b0 := eq_true (ofD : (t534.size : Int) ≤ (t534.size : Int));replace H := bindA H;obtain ⟨⟨t538, t539, t542, t543, t544⟩, A15, H⟩ := H;try dsimp only at H
   simp only [Option.some.injEq, Prod.mk.injEq] at H
   obtain ⟨rfl, rfl, rfl, rfl, rfl⟩ := H;try go_wp2
   replace BK533 := A_ (blk_drew BK533.out);replace HB := A_ (below_drew1 HB.out);refine start_ (n := 12) (S := fun w' => True) (ds := []) #[false, false, false, false, false, false, false, false, false, false, false, false] (by kernel_rfl) rfl rfl trivial (fun hHeld => ?_); refine with_tabW impl_readWhole.tab7 impl_readWhole.bits7 (fun HT_ HW_ => ?_);generalize w8.drew = w16 at BK533 HB hHeld ⊢;refine pureZ 0 (some 21) #[true, false, false, false, false, false, false, false, false, false, false, false] ?_;refine pureZ 1 (some 22) #[true, true, false, false, false, false, false, false, false, false, false, false] ?_;refine pureZ 2 (some 23) #[true, true, true, false, false, false, false, false, false, false, false, false] ?_;refine pureZ 4 (some 25) #[true, true, true, false, true, false, false, false, false, false, false, false] ?_;refine pureZ 5 (some 26) #[true, true, true, false, true, true, false, false, false, false, false, false] ?_;refine pureZ 6 (some 27) #[true, true, true, false, true, true, true, false, false, false, false, false] ?_;refine one_ (i := 3) (N := some 24) #[true, true, true, true, true, true, true, false, false, false, false, false] rfl rfl (one_of HT_.out (by kernel_rfl)) (by decide) (fun K hK => ?_);refine goes_ Tryd.func29 (by kernel_rfl) rfl #[.string (t534.extract 0 ((t534.size : Int) : Int).toNat)] (by rfl) rfl rfl zz172 ?_;with_reducible refine (impl_smallLetters.calls (t534.extract 0 ((t534.size : Int) : Int).toNat) t537 _ A12.out).mono ?_
   rintro e w17 ⟨rfl, hb⟩;refine ⟨_, rfl, ?_⟩;replace BK533 := A_ (bB (zz3 BK533) hb);replace HB := A_ (bS (zz4 HB GE533) hb);(try clear hb)
   (try clear hb2)
   (try clear hk)
   (try clear hi)
   refine hK.out _ _ trivial (fun hHeld => ?_);clear hK K;refine norm_ (a' := ?_) ?_ ?_;rotate_left
   ·show Act.put _ (some 24) _ = _
    simp only [Act.put, List.setIfInBounds_toArray, List.set_cons_zero, List.set_cons_succ, i64_w, i32_w]
    rfl
   refine one_ (i := 7) (N := some 28) #[true, true, true, true, true, true, true, true, false, false, false, false] rfl rfl (one_of HT_.out (by kernel_rfl)) (by decide) (fun K hK => ?_);refine goes_ Tryd.func28 (by kernel_rfl) rfl #[.string t537, .slice none 0 0, .string (t534.extract ((t534.size : Int) : Int).toNat t534.size)] (by rfl) rfl rfl zz172 ?_;refine (impl_readWay.calls k t537 _ _ ([] : List ByteArray) (t534.extract ((t534.size : Int) : Int).toNat t534.size) t538 t539 t542 t543 t544 _ ?side1 ?side2 A15.out).mono ?_;(case side1 => exact Kd.C_nil _ _)
   (case side2 => exact Nat.le_refl _)
   rintro e w18 ⟨v540, rfl, ho0, hb⟩;refine ⟨_, rfl, ?_⟩;have HO541 := A_ (Kd.R_lower ho0 (below_size (zz4 HB GE533)));replace BK533 := A_ (bB (zz3 BK533) hb);replace HB := A_ (bS (zz4 HB GE533) hb);(try clear hb)
   (try clear hb2)
   (try clear hk)
   (try clear hi)
   (try clear ho0)
   obtain ⟨Ao20, co20, eo20⟩ := Kd.R_slice HO541.out;(first | subst eo20 | (injection eo20 with f1_ f2_ f3_; have f4_ := f1_.symm; have f5_ := f3_.symm; clear f1_ f2_ f3_; subst f4_; subst f5_))
   refine hK.out _ _ trivial (fun hHeld => ?_);clear hK K;refine norm_ (a' := ?_) ?_ ?_;rotate_left
   ·show Act.put _ (some 28) _ = _
    simp only [Act.put, List.setIfInBounds_toArray, List.set_cons_zero, List.set_cons_succ, i64_w, i32_w]
    rfl
   refine pureZ 8 (some 29) #[true, true, true, true, true, true, true, true, true, false, false, false] ?_;refine pureZ 9 (some 30) #[true, true, true, true, true, true, true, true, true, true, false, false] ?_;refine one_ (i := 10) (N := none) #[true, true, true, true, true, true, true, true, true, true, true, false] rfl rfl (one_of HT_.out (by kernel_rfl)) (by decide) (fun K hK => ?_);have hs19 : w18.cell? ⟨gb533, 0, none⟩ = some (.string (⟨#[]⟩ : ByteArray)) := (blk_cell BK533.out 0).trans rfl;have hfs19 := blk_frozen BK533.out 0;have hs21 : w18.cell? ⟨gb533, 1, none⟩ = some (.slice none 0 0) := (blk_cell BK533.out 1).trans rfl;have hfs21 := blk_frozen BK533.out 1;have hs22 : w18.cell? ⟨gb533, 2, none⟩ = some (.bool false) := (blk_cell BK533.out 2).trans rfl;have hfs22 := blk_frozen BK533.out 2;have hs23 : w18.cell? ⟨gb533, 3, none⟩ = some (.string (⟨#[]⟩ : ByteArray)) := (blk_cell BK533.out 3).trans rfl;have hfs23 := blk_frozen BK533.out 3;refine skip_ (w1 := ?_) (by rfl) rfl ?_ ?_;rotate_left
   ·go_simp
    rfl
   refine hK.out _ _ trivial (fun hHeld => ?_);clear hK K;refine pureZ 11 (some 3) #[true, true, true, true, true, true, true, true, true, true, true, true] ?_;refine done_ (done_of HT_.out (by kernel_rfl)) ?_;try go_wp2
   refine pR (results_ct rfl _ _ gb533 28 #[.string t538, .slice Ao20 t539.length co20, .bool t542, .string t543] (0, 0) _ rfl (zz71 BK533) Tryd.underlying28 rfl (by kernel_rfl)) rfl ?_;exact ⟨_, zz11, (zz50 (rt HO541 BK533)), (zz4 HB GE533)⟩
  ·(first | rw [c9b0] | (simp only [i64_w, i32_w]; rw [c9b0]) | skip)
   replace H := iteN H;obtain ⟨c24, H⟩ := H;have c24b0 := eq_true c24;have c24b1 := dT c24;clear c24;replace H := iteN H;obtain ⟨c25, H⟩ := H;have c25b0 := eq_true c25;have c25b1 := dT c25;clear c25;replace H := bindA H;obtain ⟨t545, A26, H⟩ := H;have c27b0 := eq_true (ofD : 0 ≤ t536);have c28b0 := eq_true (ofD : t536 ≤ (t534.size : Int));replace H := bindA H;obtain ⟨⟨t546, t547, t550, t551, t552⟩, A29, H⟩ := H;try dsimp only at H
   simp only [Option.some.injEq, Prod.mk.injEq] at H
   obtain ⟨rfl, rfl, rfl, rfl, rfl⟩ := H;try go_wp2
   replace BK533 := A_ (blk_drew BK533.out);replace HB := A_ (below_drew1 HB.out);refine start_ (n := 12) (S := fun w' => True) (ds := []) #[false, false, false, false, false, false, false, false, false, false, false, false] (by kernel_rfl) rfl rfl trivial (fun hHeld => ?_); refine with_tabW impl_readWhole.tab7 impl_readWhole.bits7 (fun HT_ HW_ => ?_);generalize w8.drew = w30 at BK533 HB hHeld ⊢;refine pureZ 0 (some 21) #[true, false, false, false, false, false, false, false, false, false, false, false] ?_;refine pureZ 1 (some 22) #[true, true, false, false, false, false, false, false, false, false, false, false] ?_;refine pureZ 2 (some 23) #[true, true, true, false, false, false, false, false, false, false, false, false] ?_;refine pureZ 4 (some 25) #[true, true, true, false, true, false, false, false, false, false, false, false] ?_;refine pureZ 5 (some 26) #[true, true, true, false, true, true, false, false, false, false, false, false] ?_;refine pureZ 6 (some 27) #[true, true, true, false, true, true, true, false, false, false, false, false] ?_;refine one_ (i := 3) (N := some 24) #[true, true, true, true, true, true, true, false, false, false, false, false] rfl rfl (one_of HT_.out (by kernel_rfl)) (by decide) (fun K hK => ?_);refine goes_ Tryd.func29 (by kernel_rfl) rfl #[.string (t534.extract 0 (t536 : Int).toNat)] (by rfl) rfl rfl zz172 ?_;with_reducible refine (impl_smallLetters.calls (t534.extract 0 (t536 : Int).toNat) t545 _ A26.out).mono ?_
   rintro e w31 ⟨rfl, hb⟩;refine ⟨_, rfl, ?_⟩;replace BK533 := A_ (bB (zz3 BK533) hb);replace HB := A_ (bS (zz4 HB GE533) hb);(try clear hb)
   (try clear hb2)
   (try clear hk)
   (try clear hi)
   refine hK.out _ _ trivial (fun hHeld => ?_);clear hK K;refine norm_ (a' := ?_) ?_ ?_;rotate_left
   ·show Act.put _ (some 24) _ = _
    simp only [Act.put, List.setIfInBounds_toArray, List.set_cons_zero, List.set_cons_succ, i64_w, i32_w]
    rfl
   refine one_ (i := 7) (N := some 28) #[true, true, true, true, true, true, true, true, false, false, false, false] rfl rfl (one_of HT_.out (by kernel_rfl)) (by decide) (fun K hK => ?_);refine goes_ Tryd.func28 (by kernel_rfl) rfl #[.string t545, .slice none 0 0, .string (t534.extract (t536 : Int).toNat t534.size)] (by rfl) rfl rfl zz172 ?_;refine (impl_readWay.calls k t545 _ _ ([] : List ByteArray) (t534.extract (t536 : Int).toNat t534.size) t546 t547 t550 t551 t552 _ ?side1 ?side2 A29.out).mono ?_;(case side1 => exact Kd.C_nil _ _)
   (case side2 => exact Nat.le_refl _)
   rintro e w32 ⟨v548, rfl, ho0, hb⟩;refine ⟨_, rfl, ?_⟩;have HO549 := A_ (Kd.R_lower ho0 (below_size (zz4 HB GE533)));replace BK533 := A_ (bB (zz3 BK533) hb);replace HB := A_ (bS (zz4 HB GE533) hb);(try clear hb)
   (try clear hb2)
   (try clear hk)
   (try clear hi)
   (try clear ho0)
   obtain ⟨Ao34, co34, eo34⟩ := Kd.R_slice HO549.out;(first | subst eo34 | (injection eo34 with f1_ f2_ f3_; have f4_ := f1_.symm; have f5_ := f3_.symm; clear f1_ f2_ f3_; subst f4_; subst f5_))
   refine hK.out _ _ trivial (fun hHeld => ?_);clear hK K;refine norm_ (a' := ?_) ?_ ?_;rotate_left
   ·show Act.put _ (some 28) _ = _
    simp only [Act.put, List.setIfInBounds_toArray, List.set_cons_zero, List.set_cons_succ, i64_w, i32_w]
    rfl
   refine pureZ 8 (some 29) #[true, true, true, true, true, true, true, true, true, false, false, false] ?_;refine pureZ 9 (some 30) #[true, true, true, true, true, true, true, true, true, true, false, false] ?_;refine one_ (i := 10) (N := none) #[true, true, true, true, true, true, true, true, true, true, true, false] rfl rfl (one_of HT_.out (by kernel_rfl)) (by decide) (fun K hK => ?_);have hs33 : w32.cell? ⟨gb533, 0, none⟩ = some (.string (⟨#[]⟩ : ByteArray)) := (blk_cell BK533.out 0).trans rfl;have hfs33 := blk_frozen BK533.out 0;have hs35 : w32.cell? ⟨gb533, 1, none⟩ = some (.slice none 0 0) := (blk_cell BK533.out 1).trans rfl;have hfs35 := blk_frozen BK533.out 1;have hs36 : w32.cell? ⟨gb533, 2, none⟩ = some (.bool false) := (blk_cell BK533.out 2).trans rfl;have hfs36 := blk_frozen BK533.out 2;have hs37 : w32.cell? ⟨gb533, 3, none⟩ = some (.string (⟨#[]⟩ : ByteArray)) := (blk_cell BK533.out 3).trans rfl;have hfs37 := blk_frozen BK533.out 3;refine skip_ (w1 := ?_) (by rfl) rfl ?_ ?_;rotate_left
   ·go_simp
    rfl
   refine hK.out _ _ trivial (fun hHeld => ?_);clear hK K;refine pureZ 11 (some 3) #[true, true, true, true, true, true, true, true, true, true, true, true] ?_;refine done_ (done_of HT_.out (by kernel_rfl)) ?_;try go_wp2
   refine pR (results_ct rfl _ _ gb533 28 #[.string t546, .slice Ao34 t547.length co34, .bool t550, .string t551] (0, 0) _ rfl (zz71 BK533) Tryd.underlying28 rfl (by kernel_rfl)) rfl ?_;exact ⟨_, zz11, (zz50 (rt HO549 BK533)), (zz4 HB GE533)⟩
 ·simp only [Option.some.injEq, Prod.mk.injEq] at H
  obtain ⟨rfl, rfl, rfl, rfl, rfl⟩ := H;obtain ⟨_, _, _, _, _, _, _, _⟩ := cf4 BK533;go_wp2
  refine pR (results_ct rfl _ _ gb533 28 #[.string (⟨#[]⟩ : ByteArray), .slice none 0 0, .bool false, .string (⟨#[]⟩ : ByteArray)] (0, 0) _ rfl (zz71 BK533) Tryd.underlying28 rfl (by kernel_rfl)) rfl ?_;exact ⟨_, zz11, zz72, (zz4 HB GE533)⟩
def impl_AddrRead.f (k : Nat) (a0 : ByteArray) : Option (ByteArray × List ByteArray × Bool × ByteArray × Bool) := if (a0.size : Int) > 60 then (some ((⟨#[]⟩ : ByteArray), ([] : List ByteArray), false, (⟨#[]⟩ : ByteArray), false)) else ((strings_Cut.f a0 (⟨#[35]⟩ : ByteArray)).bind fun bt554 => ((impl_readWhole.f k bt554.1).bind fun bt557 => (some (bt557.1, bt557.2.1, bt557.2.2.1, bt557.2.2.2.1, bt557.2.2.2.2))))
theorem impl_AddrRead.calls (k : Nat) (a0 : ByteArray) (r1 : ByteArray) (r2 : List ByteArray) (r3 : Bool) (r4 : ByteArray) (r5 : Bool) (w : World) (h : impl_AddrRead.f k a0 = some (r1, r2, r3, r4, r5)) :
  Calls Tryd.prog 7 #[.string a0] w fun e w' => ∃ v1_ : Value, e = .returned (.tuple #[.agg #[.string r1, v1_, .bool r3, .string r4], .bool r5]) ∧ Kd.R Kd.string 9 w' w.heap.size (fun _ => True) v1_ r2 ∧ Below w.heap.size w w' := by
 have hu28 := Tryd.underlying28;have HB := A_ (Below.refl w.heap.size w);unfold impl_AddrRead.f at h
 have H := h;clear h;have HF2 := A_ H;clear H;go_enter Tryd.func7, Tryd.ntmps7;go_upto_if 9 with (first | ((with_reducible refine gD (N := 2) rfl ?_); refine boxE 2 #[.string (⟨#[]⟩ : ByteArray), .slice none 0 0, .bool false, .string (⟨#[]⟩ : ByteArray)] 28 ?_; intro gb553 hg w3 hbox hb; have BK553 := A_ (hbox); have GE553 := geB hg (zz2 HB); replace HB := A_ (bS (zz2 HB) hb); clear hb hbox hg))
 obtain ⟨H⟩ := HF2;replace H := iteE H;rcases H with ⟨c4, H⟩ | ⟨c4, H⟩
 ·have c4b0 := gtT c4
  have c4b1 : decide (60 < a0.size) = true := dT (by omega);clear c4;(first | rw [c4b0] | (simp only [i64_w, i32_w]; rw [c4b0]) | skip)
  simp only [Option.some.injEq, Prod.mk.injEq] at H
  obtain ⟨rfl, rfl, rfl, rfl, rfl⟩ := H;obtain ⟨_, _, _, _, _, _, _, _⟩ := cf4 BK553;go_wp2
  refine pR (results_ct rfl _ _ gb553 28 #[.string (⟨#[]⟩ : ByteArray), .slice none 0 0, .bool false, .string (⟨#[]⟩ : ByteArray)] (0, 0) _ rfl (zz71 BK553) Tryd.underlying28 rfl (by kernel_rfl)) rfl ?_;exact ⟨_, zz11, zz72, (zz4 HB GE553)⟩
 ·have c4b0 := gtF c4
  have c4b1 : decide (60 < a0.size) = false := dF (by omega);clear c4;(first | rw [c4b0] | (simp only [i64_w, i32_w]; rw [c4b0]) | skip)
  replace H := bindA H;obtain ⟨⟨t554, t555, t556⟩, A6, H⟩ := H;try dsimp only at H
  replace H := bindA H;obtain ⟨⟨t557, t558, t561, t562, t563⟩, A7, H⟩ := H;try dsimp only at H
  simp only [Option.some.injEq, Prod.mk.injEq] at H
  obtain ⟨rfl, rfl, rfl, rfl, rfl⟩ := H;go_wp2_with (first | ((with_reducible refine gC (f := 16) rfl ?_); refine gsL (some 13) Tryd.func16 #[.string a0, .string (⟨#[35]⟩ : ByteArray)] ?_; (with_reducible refine mR (strings_Cut.calls a0 (⟨#[35]⟩ : ByteArray) t554 t555 t556 _ A6.out) ?_); rintro w8 hb; replace BK553 := A_ (bB (zz3 BK553) hb); replace HB := A_ (bS (zz4 HB GE553) hb); (try clear hb)) | ((with_reducible refine gC (f := 17) rfl ?_); refine gsL (some 18) Tryd.func17 #[.string t554] ?_; (with_reducible refine mV (impl_readWhole.calls k t554 t557 t558 t561 t562 t563 _ A7.out) ?_); rintro v559 w9 ⟨ho0, hb⟩; have HO560 := A_ (Kd.R_lower ho0 (below_size (zz4 HB GE553))); replace BK553 := A_ (bB (zz3 BK553) hb); replace HB := A_ (bS (zz4 HB GE553) hb); (try clear hb ho0); obtain ⟨_, _, _, _, _, _, _, _⟩ := cf4 BK553; obtain ⟨Ao11, co11, eo11⟩ := Kd.R_slice HO560.out; subst eo11))
  refine pR (results_ct rfl _ _ gb553 28 #[.string t557, .slice Ao11 t558.length co11, .bool t561, .string t562] (0, 0) _ rfl (zz71 BK553) Tryd.underlying28 rfl (by kernel_rfl)) rfl ?_;exact ⟨_, zz11, (zz50 (rt HO560 BK553)), (zz4 HB GE553)⟩
def spec_l1Cut.l0 : Nat → ByteArray → Int → Int → Option (ByteArray × ByteArray × Bool)
 | 0, _, _, _ => none
 | k + 1, x0, x1, x7 => if x7 < (x0.size : Int) then (if 0 ≤ x7 then (if (bt x0 x7) = x1 then (if x7 ≤ (x0.size : Int) then (if 0 ≤ (wrap64 (x7 + 1)) then (if (wrap64 (x7 + 1)) ≤ (x0.size : Int) then (some (x0.extract 0 (x7 : Int).toNat, x0.extract ((wrap64 (x7 + 1)) : Int).toNat x0.size, true)) else (none)) else (none)) else (none)) else (spec_l1Cut.l0 k x0 x1 (wrap64 (x7 + 1)))) else (none)) else (some (x0, (⟨#[]⟩ : ByteArray), false))
def spec_l1Cut.f (k : Nat) (a0 : ByteArray) (a1 : Int) : Option (ByteArray × ByteArray × Bool) := spec_l1Cut.l0 k a0 a1 0
theorem spec_l1Cut.calls (k : Nat) (a0 : ByteArray) (a1 : Int) (r1 : ByteArray) (r2 : ByteArray) (r3 : Bool) (w : World) (h : spec_l1Cut.f k a0 a1 = some (r1, r2, r3)) :
  Calls Tryd.prog 40 #[.string a0, .int .u8 a1] w fun e w' => e = .returned (.tuple #[.string r1, .string r2, .bool r3]) ∧ Drawn0 w w' := by
 unfold spec_l1Cut.f at h
 have H := h;clear h;have H' := A_ H;clear H;go_enter Tryd.func40, Tryd.ntmps40;go_wp2
 repeat (go_quiet (fail); try go_wp2)
 go_loopg [7] k (fun kq v7 w' => ∃ (x7_1 : Int), v7 = .int .i64 x7_1 ∧ Aside0 (spec_l1Cut.l0 kq a0 a1 x7_1 = some (r1, r2, r3)) ∧ Aside0 (kq ≤ k) ∧ Drawn0 w w')
 case atStart => exact ⟨(0), zz5, H', ⟨Nat.le_refl _⟩, zz19⟩
 case round =>
  clear H';obtain ⟨x7_1, rfl, HA, HK1, ⟨m1, rfl⟩⟩ := hrel;cases gk with
  | zero => exact absurd HA.out (by simp [spec_l1Cut.l0])
  | succ k1 =>
   obtain ⟨H⟩ := HA;simp only [spec_l1Cut.l0] at H
   replace H := iteEd H;rcases H with ⟨c3b0, H⟩ | ⟨c3b0, H⟩
   ·replace H := iteNd H
    obtain ⟨c4b0, H⟩ := H;replace H := iteEq H;rcases H with ⟨c6b0, c6b1, H⟩ | ⟨c6b0, c6b1, c6, H⟩
    ·have c7b0 := eq_true (ofD : 0 ≤ x7_1)
     replace H := iteN H;obtain ⟨c8, H⟩ := H;have c8b0 := eq_true c8;have c8b1 := dT c8;clear c8;obtain ⟨ji9, hji9⟩ : ∃ j_ : Int, (wrap64 (x7_1 + 1)) = j_ := ⟨_, rfl⟩;(first | rw [hji9] at H | simp only [hji9] at H)
     have hji9w : (IntKind.i64.wrap (x7_1 + 1)) = ji9 := (i64_w _).trans hji9;replace H := iteN H;obtain ⟨c10, H⟩ := H;have c10b0 := eq_true c10;have c10b1 := dT c10;clear c10;replace H := iteN H;obtain ⟨c11, H⟩ := H;have c11b0 := eq_true c11;have c11b1 := dT c11;clear c11;simp only [Option.some.injEq, Prod.mk.injEq] at H
     obtain ⟨rfl, rfl, rfl⟩ := H;have p5 : 0 ≤ (x7_1 : Int) := ofD;have q5 : x7_1 < (a0.size : Int) := ofD;have hx5 := bt_at a0 x7_1;replace p5 := eq_true p5;replace q5 := eq_true q5;go_wp2
     repeat (go_quiet (fail); try go_wp2)
     go_ret3
     exact ⟨(by first | rfl | (simp only [i64_w, i32_w]; done) | (simp only [aid_isEmpty, aid_isEmpty2]; done) | (simp; done) | ((simp only [← hji9] <;> (first | rfl | simp)); done) | (simp [*]; done)), zz19⟩
    ·have H' := A_ H
     clear H;have p5 : 0 ≤ (x7_1 : Int) := ofD;have q5 : x7_1 < (a0.size : Int) := ofD;have hx5 := bt_at a0 x7_1;replace p5 := eq_true p5;replace q5 := eq_true q5;go_wp2
     repeat (go_quiet (fail); try go_wp2)
     go_roundg k1
     case measure => have := HK1.out; omega
     case rel => exact ⟨(wrap64 (x7_1 + 1)), zz5, H', ⟨(zz21 HK1)⟩, zz19⟩
   ·simp only [Option.some.injEq, Prod.mk.injEq] at H
    obtain ⟨rfl, rfl, rfl⟩ := H;go_wp2
    repeat (go_quiet (fail); try go_wp2)
    go_ret3
    exact ⟨zz5, zz19⟩
def spec_l1Split.l0 : Nat → Int → List ByteArray → ByteArray → Bool → Option (List ByteArray)
 | 0, _, _, _, _ => none
 | k + 1, x1, x5, x6, x7 => if x7 = true then ((spec_l1Cut.f k x6 x1).bind fun bt588 => (if x5.length < 8796093022208 then (spec_l1Split.l0 k x1 (x5 ++ [bt588.1]) bt588.2.1 bt588.2.2) else (none))) else (some x5)
def spec_l1Split.f (k : Nat) (a0 : ByteArray) (a1 : Int) : Option (List ByteArray) := spec_l1Split.l0 k a1 (([] : List ByteArray)) a0 true
theorem spec_l1Split.calls (k : Nat) (a0 : ByteArray) (a1 : Int) (r : List ByteArray) (w : World) (h : spec_l1Split.f k a0 a1 = some r) :
  Calls Tryd.prog 81 #[.string a0, .int .u8 a1] w fun e w' => ∃ v0_ : Value, e = .returned (v0_) ∧ Kd.R Kd.string 9 w' w.heap.size (fun _ => True) v0_ r ∧ Below w.heap.size w w' := by
 have HB := A_ (Below.refl w.heap.size w);unfold spec_l1Split.f at h
 have H := h;clear h;obtain ⟨y585, Ny585⟩ := toY (([] : List ByteArray));(first | with_reducible replace H := bindZ Ny585 H | rw [← Ny585.out] at H | skip)
 have H' := A_ H;clear H;go_enter Tryd.func81, Tryd.ntmps81;go_wp2_with (first | ((with_reducible refine gD (N := 9) rfl ?_); refine Kd.R_lit Kd.string _ 9 ?hg (N := 9) ?hd (xs := ([] : List ByteArray)) (inner := []) (ok := fun _ => True) (okp := fun _ => True) ?hr ?hp (fun _ hk => hk) trivial (Below.refl _ _) (Nat.le_refl _) (by simp) ?_; (case hd => rfl); (case hg => rfl); (case hr => exact zz16); (case hp => exact (Reps.none _ _)); intro v586 w3 ho4 hb hg_ hnew_; clear hg_ hnew_; (first | rw [← Ny585.out] at ho4 | (simp only [Int.reduceToNat] at ho4; rw [← Ny585.out] at ho4)); have HO587 := A_ (Kd.R_lower ho4 (below_size (zz2 HB))); replace HB := A_ (bS (zz2 HB) hb); clear hb ho4))
 go_loopg [5, 6, 7] k (fun kq v5 v6 v7 w' => ∃ (x5_1 : List ByteArray) (x6_1 : ByteArray) (x7_1 : Bool), v6 = .string x6_1 ∧ v7 = .bool x7_1 ∧ Aside0 (spec_l1Split.l0 kq a1 x5_1 x6_1 x7_1 = some r) ∧ Aside0 (kq ≤ k) ∧ Aside0 (Kd.R Kd.string 9 w' w.heap.size (fun _ => True) v5 x5_1) ∧ Aside0 (Below w.heap.size w w'))
 case atStart => exact ⟨(y585), (a0), (true), zz5, zz5, H', ⟨Nat.le_refl _⟩, ⟨(zz18 HO587)⟩, ⟨(zz2 HB)⟩⟩
 case round =>
  clear H';obtain ⟨x5_1, x6_1, x7_1, rfl, rfl, HA, HK1, HO_5, HB⟩ := hrel;cases gk with
  | zero => exact absurd HA.out (by simp [spec_l1Split.l0])
  | succ k1 =>
   obtain ⟨H⟩ := HA;simp only [spec_l1Split.l0] at H
   replace H := iteB H;rcases H with ⟨rfl, H⟩ | ⟨rfl, H⟩
   ·replace H := Option.bind_eq_some_iff.mp H
    obtain ⟨⟨t588, t589, t590⟩, A60, H⟩ := H;replace H : (if x5_1.length < 8796093022208 then (spec_l1Split.l0 k1 a1 (x5_1 ++ [t588]) t589 t590) else (none)) = some r := H;have A6 := A_ A60;clear A60;replace H := iteN H;obtain ⟨c7, H⟩ := H;have LMc7 := A_ c7;clear c7;obtain ⟨y591, Ny591⟩ := toY (x5_1 ++ [t588]);(first | with_reducible replace H := bindZ Ny591 H | rw [← Ny591.out] at H | skip)
    have H' := A_ H;clear H;go_wp2_with (first | ((with_reducible refine gC (f := 40) rfl ?_); refine gsL (some 15) Tryd.func40 #[.string x6_1, .int .u8 a1] ?_; (with_reducible refine (spec_l1Cut.calls k1 x6_1 a1 t588 t589 t590 _ A6.out).mono ?_); rintro e w' ⟨rfl, ⟨nd, rfl⟩⟩; refine ⟨_, rfl, ?_⟩) | ((with_reducible refine gate_builtin (b := .append) (xs := #[.tmp 19, .tmp 21]) rfl ?_); at_builtin; refine Kd.R_append Kd.string (w0 := w) w.heap.size rfl (.tmp 19) (.tmp 21) 26 9 (.string ⟨#[]⟩) 16 rfl Tryd.underlying26 info9 rfl (by decide) (by omega) u5 x5_1 t588 [.string t588] (fun _ => True) (fun _ => False) rfl rfl ?aP (fun _ hk => hk.elim) ?aF ?aO ?aB ?aS ?aL ?_; (case aP => exact rfl); (case aB => exact (zz2 HB)); (case aF => exact (fun _ _ => trivial)); (case aO => exact (zz18 HO_5)); (case aS => exact (below_size (zz2 HB))); (case aL => exact (zz21 LMc7)); intro v592 w8 ho hb hg hat; rw [← Ny591.out] at ho; replace HB := A_ (hb); have HO593 := A_ (ho); clear HO_5; clear ho hb hg hat))
    go_roundg k1
    case measure => have := HK1.out; omega
    case rel => exact ⟨(y591), (t589), (t590), zz5, zz5, H', ⟨(zz21 HK1)⟩, ⟨(zz18 HO593)⟩, ⟨(zz2 HB)⟩⟩
   ·obtain rfl := sI H
    go_wp2
    go_ret
    exact ⟨_, zz11, (zz18 HO_5), (zz2 HB)⟩
end Go.Proofs.YtpomhjkbgbociaaDoor.P
end
