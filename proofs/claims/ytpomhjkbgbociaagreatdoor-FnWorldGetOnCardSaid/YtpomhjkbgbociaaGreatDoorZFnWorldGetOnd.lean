/- Part 4 of the proof of FnWorldGetOn: the plain functions of what it reaches, that Go comes to just their answers, what they answer, and the words that the walks use; conditions: each theorem's own. -/
import Derived.Test.YtpomhjkbgbociaaGreatDoorZFnWorldGetOnb
import Derived.Test.YtpomhjkbgbociaaGreatDoorZFnWorldGetOnc
import Derived.Test.YtpomhjkbgbociaaGreatDoorZFnWorldGetOna
import Derived.OneCell
import Derived.Laws.BitsLemmas
import Derived.Lib.Strings
import Derived.Lib.ConvBytes
import Derived.Shelf.Strings.Builder1
import Derived.Shelf.Strings.Builder2
import Derived.Shelf.Strings.OnBuilder
import Derived.Shelf.Small.Utf8
import Derived.Shelf.Small.Strs
import Derived.Shelf.Small.Wraps
import Derived.Shelf.Strings.BuilderF
import Derived.Shelf.Strings.BuilderK
import Derived.Shelf.Strings.Search1
import Derived.Shelf.Strings.Search2
import Derived.Shelf.Strings.Search3
import Derived.Shelf.Strings.Cut
import Derived.Shelf.Strings.Count
import Derived.Shelf.LaysM
import Derived.Shelf.Strings.Shaped
import Derived.Shelf.Strings.Prefix
import Derived.Shelf.Strings.Runes
import Derived.Shelf.Strings.IndexAny
import Derived.Shelf.Strings.AsciiSet
import Derived.Shelf.Strings.IndexAnyAll
import Derived.Shelf.Unicode.DecodeSlow
import Derived.Shelf.Slices.Turned
import Derived.Ground.Names2Prog
import Derived.Shelf.Slices.Clone
import Derived.Test.YtpomhjkbgbociaaGreatDoorProg
import Derived.Laws.RangeAny
import Derived.LoopTactic

section
namespace Go.Proofs.YtpomhjkbgbociaaGreatDoor.P
open Go.RowKit Go.Proofs.YtpomhjkbgbociaaGreatDoorW.PrintWords Go.Proofs.YtpomhjkbgbociaaGreatDoorW.PrintLast Go.Proofs.YtpomhjkbgbociaaGreatDoorW.PrintMore
attribute [local go_sem] max2_int min2_int max_two min_two max_three min_three max_four min_four
set_option linter.unusedVariables false
set_option linter.unusedSimpArgs false
set_option maxHeartbeats 8000000
set_option maxRecDepth 100000
def spec_l71Off.l0 : Nat → List (S30) → Int → List Int → Int → Option ((List (S30)) × Int)
 | 0, _, _, _, _ => none
 | k + 1, x3, x4, x1000, x1001 => if x4 < 12 then ((spec_l6Dec.f k x4).bind fun t416 => (if 6 + t416.size ≤ 9223372036854775807 then (if x3.length < 2513169434916 then (spec_l71Off.l0 k (x3 ++ [(⟨(⟨#[47, 47, 97, 98, 47, 122]⟩ : ByteArray) ++ t416, (⟨#[]⟩ : ByteArray), (⟨#[]⟩ : ByteArray), 0⟩ : S30)]) (wrap64 (x4 + 1)) x1000 x1001) else (none)) else (none))) else (some (x3, x1001))
def spec_l71Off.f (k : Nat) (s0_0 : List Int) (s0_1 : Int) : Option ((List (S30)) × Int) := (spec_l71World.f k s0_0 s0_1).bind fun bt396 => ((spec_l6Rd_pick.f k s0_0 bt396.2 16).bind fun bt400 => (if bt400.1 > 0 then (some (bt396.1, bt400.2)) else ((spec_l6Rd_pick.f k s0_0 bt400.2 5).bind fun bt402 => (if bt402.1 = 0 then (if 0 < (bt396.1.length : Int) then (if bt396.1.length < 2513169434916 then (some ((bt396.1 ++ [(⟨(rd_T30 bt396.1 0).f0, (rd_T30 bt396.1 0).f1, (rd_T30 bt396.1 0).f2, (rd_T30 bt396.1 0).f3⟩ : S30)]), bt402.2)) else (none)) else (none)) else (if bt402.1 = 1 then (if 0 < (bt396.1.length : Int) then (some ((bt396.1.set (0 : Int).toNat (⟨(rd_T30 bt396.1 0).f0, (rd_T30 bt396.1 0).f1, (rd_T30 bt396.1 0).f2, 10⟩ : S30)), bt402.2)) else (none)) else (if bt402.1 = 2 then ((spec_l6Rd_of.f k s0_0 bt402.2 (([(⟨#[47, 47, 65, 66, 47, 97]⟩ : ByteArray), (⟨#[]⟩ : ByteArray), (⟨#[47, 47, 97, 98]⟩ : ByteArray)] : List ByteArray))).bind fun bt412 => (if 0 < (bt396.1.length : Int) then (some ((bt396.1.set (0 : Int).toNat (⟨bt412.1, (rd_T30 bt396.1 0).f1, (rd_T30 bt396.1 0).f2, (rd_T30 bt396.1 0).f3⟩ : S30)), bt412.2)) else (none))) else (if bt402.1 = 3 then (if 0 < (bt396.1.length : Int) then (some ((bt396.1.set (0 : Int).toNat (⟨(rd_T30 bt396.1 0).f0, (rd_T30 bt396.1 0).f1, (⟨#[120]⟩ : ByteArray), (rd_T30 bt396.1 0).f3⟩ : S30)), bt402.2)) else (none)) else (spec_l71Off.l0 k bt396.1 0 s0_0 bt402.2))))))))
theorem spec_l71Off.calls (k : Nat) (g : Nat) (s0_0 : List Int) (s0_1 : Int) (r1 : List (S30)) (r2 : Int) (w0 w : World) (hI : IsS68 w0 w g s0_0 s0_1) (hB : Below w0.heap.size w0 w) (h : spec_l71Off.f k s0_0 s0_1 = some (r1, r2)) :
  Calls Tryz.prog 20 #[.pointer (some ⟨g, 0, none⟩)] w fun e w' => ∃ v0_ : Value, e = .returned (v0_) ∧ Kd.R k30 30 w' w.heap.size (fun _ => True) v0_ r1 ∧ IsS68 w0 w' g s0_0 r2 ∧ Below w0.heap.size w0 w' ∧ KeepBut w w' g none := by
 have hu30 := Tryz.underlying30;have HI0 := A_ hI;have HK := A_ (KeepBut.refl w g none);have HL := A_ hB.size;clear hI;have HW0 := A_ hB.size;have HB := A_ hB;clear hB;unfold spec_l71Off.f at h
 have H := h;clear h;replace H := bindA H;obtain ⟨⟨t396, t399⟩, A2, H⟩ := H;try dsimp only at H
 replace H := bindA H;obtain ⟨⟨t400, t401⟩, A3, H⟩ := H;try dsimp only at H
 have HF4 := A_ H;clear H;go_enter Tryz.func20, Tryz.ntmps20;go_upto_if 9 with (first | (refine gV 40 (some 6) Tryz.func40 (spec_l71World.calls k g s0_0 s0_1 t396 t399 w0 _ ?side1 ?side2 A2.out) ?_; (case side1 => exact (zz7 HI0)); (case side2 => exact (zz9 HB HI0)); rintro v397 w5 ⟨ho0, hi, hb, hk⟩; have HO398 := A_ (Kd.R_lower ho0 (keep_size (w := w) (g := g) (row := none) (zz8 HK))); replace HK := A_ (KeepBut.trans (zz8 HK) hk (.inl rfl)); replace HB := A_ (hb); replace HI0 := A_ (hi); (try clear hb hk hi ho0)) | (refine gR 22 (some 8) Tryz.func22 (spec_l6Rd_pick.calls k g s0_0 t399 16 t400 t401 w0 _ ?side1 ?side2 A3.out) ?_; (case side1 => exact (zz7 HI0)); (case side2 => exact (zz9 HB HI0)); rintro w6 ⟨hi, hb, hk⟩; replace HO398 := A_ (Kd.R_mono (Kd.R_keep (IsS68.apart (show IsS68 w0 _ g s0_0 t399 from (zz7 HI0)) (zz18 HO398) (by decide)) hk (fun _ h => h.2)) (fun _ h => h.1)); replace HK := A_ (KeepBut.trans (zz8 HK) hk (.inl rfl)); replace HB := A_ (hb); replace HI0 := A_ (hi); (try clear hb hk hi)))
 obtain ⟨H⟩ := HF4;replace H := iteEg H;rcases H with ⟨c7b0, H⟩ | ⟨c7b0, H⟩
 ·(first | rw [c7b0] | (simp only [i64_w, i32_w]; rw [c7b0]) | skip)
  simp only [Option.some.injEq, Prod.mk.injEq] at H
  obtain ⟨rfl, rfl⟩ := H;go_wp2
  go_ret
  exact ⟨_, zz11, (zz18 HO398), (zz7 HI0), (zz9 HB HI0), (zz8 HK)⟩
 ·(first | rw [c7b0] | (simp only [i64_w, i32_w]; rw [c7b0]) | skip)
  replace H := bindA H;obtain ⟨⟨t402, t403⟩, A8, H⟩ := H;try dsimp only at H
  have HF9 := A_ H;clear H;go_upto_if 24 with (first | (refine gR 22 (some 12) Tryz.func22 (spec_l6Rd_pick.calls k g s0_0 t401 5 t402 t403 w0 _ ?side1 ?side2 A8.out) ?_; (case side1 => exact (zz7 HI0)); (case side2 => exact (zz9 HB HI0)); rintro w10 ⟨hi, hb, hk⟩; replace HO398 := A_ (Kd.R_mono (Kd.R_keep (IsS68.apart (show IsS68 w0 _ g s0_0 t401 from (zz7 HI0)) (zz18 HO398) (by decide)) hk (fun _ h => h.2)) (fun _ h => h.1)); replace HK := A_ (KeepBut.trans (zz8 HK) hk (.inl rfl)); replace HB := A_ (hb); replace HI0 := A_ (hi); (try clear hb hk hi)))
  obtain ⟨H⟩ := HF9;replace H := iteEq H;rcases H with ⟨c11b0, c11b1, H⟩ | ⟨c11b0, c11b1, c11, H⟩
  ·(first | rw [c11b0] | (simp only [i64_w, i32_w]; rw [c11b0]) | skip)
   replace H := iteN H;obtain ⟨c12, H⟩ := H;have c12b0 := dT c12;have c12b1 : decide (0 < t396.length) = true := dT (by omega);clear c12;replace H := iteN H;obtain ⟨c13, H⟩ := H;have LMc13 := A_ c13;clear c13;obtain ⟨y405, Ny405⟩ := toY (t396 ++ [(⟨(rd_T30 t396 0).f0, (rd_T30 t396 0).f1, (rd_T30 t396 0).f2, (rd_T30 t396 0).f3⟩ : S30)]);(first | with_reducible replace H := bindZ Ny405 H | rw [← Ny405.out] at H | skip)
   simp only [Option.some.injEq, Prod.mk.injEq] at H
   obtain ⟨rfl, rfl⟩ := H;obtain ⟨Ao14, co14, eo14⟩ := Kd.R_slice HO398.out;subst eo14;have p404 : 0 ≤ (0 : Int) := (by omega);have q404 : 0 < (t396.length : Int) := ofD;obtain ⟨ad404, e404, hx404_0, hx404_1, hx404_2, hx404_3⟩ := at_T30 (Kd.R_reads' HO398.out).2.2 0 p404 q404;cases e404
   have qi404 : (0 < t396.length) = True := eq_true (by omega);(try rw [show ((0 : Int)).toNat = 0 from rfl] at hx404_0)
   (try rw [show 0 * 4 = 0 from rfl] at hx404_0)
   (try rw [Addr.add_zero'] at hx404_0)
   (try rw [show ((0 : Int)).toNat = 0 from rfl] at hx404_1)
   (try rw [show 0 * 4 = 0 from rfl] at hx404_1)
   (try rw [Addr.add_zero'] at hx404_1)
   (try rw [show ((0 : Int)).toNat = 0 from rfl] at hx404_2)
   (try rw [show 0 * 4 = 0 from rfl] at hx404_2)
   (try rw [Addr.add_zero'] at hx404_2)
   (try rw [show ((0 : Int)).toNat = 0 from rfl] at hx404_3)
   (try rw [show 0 * 4 = 0 from rfl] at hx404_3)
   (try rw [Addr.add_zero'] at hx404_3)
   replace p404 := eq_true p404;replace q404 := eq_true q404;go_wp2_with (first | ((with_reducible refine gate_builtin (b := .append) (xs := #[.tmp 26, .tmp 30]) rfl ?_); at_builtin; refine Kd.R_append k30 w.heap.size rfl (.tmp 26) (.tmp 30) 23 30 (.agg #[(.string ⟨#[]⟩), (.string ⟨#[]⟩), (.string ⟨#[]⟩), (.int .i64 0)]) 56 rfl Tryz.underlying23 info30 rfl (by decide) (by omega) (.slice (some ad404) t396.length co14) t396 (⟨(rd_T30 t396 0).f0, (rd_T30 t396 0).f1, (rd_T30 t396 0).f2, (rd_T30 t396 0).f3⟩ : S30) [.string ((rd_T30 t396 0).f0), .string ((rd_T30 t396 0).f1), .string ((rd_T30 t396 0).f2), .int .i64 ((rd_T30 t396 0).f3)] (fun _ => True) (fun _ => False) rfl rfl ?aP (fun _ hk => hk.elim) ?aF ?aO (Below.refl _ _) ?aS ?aL ?_; (case aP => exact k30_mkM _ _ _ (⟨(rd_T30 t396 0).f0, (rd_T30 t396 0).f1, (rd_T30 t396 0).f2, (rd_T30 t396 0).f3⟩ : S30)); (case aF => exact (fun _ _ => trivial)); (case aO => exact (zz18 HO398)); (case aS => exact (keep_size (w := w) (g := g) (row := none) (zz8 HK))); (case aL => exact (zz20 LMc13)); intro v406 w15 ho hb hg hat; rw [← Ny405.out] at ho; replace HB := A_ (below_weaken (zz9 HB HI0) HL.out hb); replace HI0 := A_ (IsS68.grown (zz7 HI0) hg (IsS68.own_ne HI0.out HO398.out (by decide))); replace HK := A_ (KeepBut.trans (zz8 HK) (KeepBut.of_grown hg g) (Kd.R_base2 HO398.out)); have HO407 := A_ (ho); clear HO398; clear ho hb hg hat))
   go_ret
   exact ⟨_, zz11, (zz18 HO407), (zz7 HI0), (zz9 HB HI0), (zz8 HK)⟩
  ·(first | rw [c11b0] | (simp only [i64_w, i32_w]; rw [c11b0]) | skip)
   replace H := iteEq H;rcases H with ⟨c16b0, c16b1, H⟩ | ⟨c16b0, c16b1, c16, H⟩
   ·replace H := iteN H
    obtain ⟨c17, H⟩ := H;have c17b0 := dT c17;have c17b1 : decide (0 < t396.length) = true := dT (by omega);clear c17;obtain ⟨y408, Ny408⟩ := toY (t396.set (0 : Int).toNat (⟨(rd_T30 t396 0).f0, (rd_T30 t396 0).f1, (rd_T30 t396 0).f2, 10⟩ : S30));(first | with_reducible replace H := bindZ Ny408 H | rw [← Ny408.out] at H | skip)
    simp only [Option.some.injEq, Prod.mk.injEq] at H
    obtain ⟨rfl, rfl⟩ := H;have p18 : 0 ≤ (0 : Int) := (by omega);have q18 : (0 : Int) < ((t396.length : Int) : Int) := ofD;have qi18 : (0 < t396.length) = True := eq_true (by omega);obtain ⟨go18, co18, eo18, gb18, gl18, cl18, HG18⟩ := Kd.R_form HO398.out (by omega);(first | cases eo18 | (injection eo18 with ea_ en_ ec_; (first | subst ea_ | (injection ea_ with ea_; subst ea_)); subst ec_; clear en_))
    have GB18 := A_ gb18;have GG18 := A_ HG18;clear gb18 gl18 HG18;obtain ⟨ce18, hcl18, hM18, hcc18, hfr18⟩ := Kd.R_elem HO398.out z30 (0 : Int) p18 q18;obtain rfl := k30_openM hM18;have hx18_0 : w10.cell? ⟨go18, (0 : Int).toNat * 4, none⟩ = some (.string ((rd_T30 t396 0).f0)) := hcc18 0 _ rfl;have hx18_1 : w10.cell? ⟨go18, (0 : Int).toNat * 4 + 1, none⟩ = some (.string ((rd_T30 t396 0).f1)) := hcc18 1 _ rfl;have hx18_2 : w10.cell? ⟨go18, (0 : Int).toNat * 4 + 2, none⟩ = some (.string ((rd_T30 t396 0).f2)) := hcc18 2 _ rfl;have hx18_3 : w10.cell? ⟨go18, (0 : Int).toNat * 4 + 3, none⟩ = some (.int .i64 ((rd_T30 t396 0).f3)) := hcc18 3 _ rfl;have hf18_0 : w10.frozen? ⟨go18, (0 : Int).toNat * 4, none⟩ = false := hfr18 0;have hf18_1 : w10.frozen? ⟨go18, (0 : Int).toNat * 4 + 1, none⟩ = false := hfr18 1;have hf18_2 : w10.frozen? ⟨go18, (0 : Int).toNat * 4 + 2, none⟩ = false := hfr18 2;have hf18_3 : w10.frozen? ⟨go18, (0 : Int).toNat * 4 + 3, none⟩ = false := hfr18 3;clear hcl18 hcc18 hfr18 hM18;(try rw [show ((0 : Int)).toNat = 0 from rfl] at hx18_0)
    (try simp only [Nat.reduceMul, Nat.zero_mul, Nat.zero_add, Nat.reduceAdd] at hx18_0)
    (try rw [show ((0 : Int)).toNat = 0 from rfl] at hf18_0)
    (try simp only [Nat.reduceMul, Nat.zero_mul, Nat.zero_add, Nat.reduceAdd] at hf18_0)
    (try rw [show ((0 : Int)).toNat = 0 from rfl] at hx18_1)
    (try simp only [Nat.reduceMul, Nat.zero_mul, Nat.zero_add, Nat.reduceAdd] at hx18_1)
    (try rw [show ((0 : Int)).toNat = 0 from rfl] at hf18_1)
    (try simp only [Nat.reduceMul, Nat.zero_mul, Nat.zero_add, Nat.reduceAdd] at hf18_1)
    (try rw [show ((0 : Int)).toNat = 0 from rfl] at hx18_2)
    (try simp only [Nat.reduceMul, Nat.zero_mul, Nat.zero_add, Nat.reduceAdd] at hx18_2)
    (try rw [show ((0 : Int)).toNat = 0 from rfl] at hf18_2)
    (try simp only [Nat.reduceMul, Nat.zero_mul, Nat.zero_add, Nat.reduceAdd] at hf18_2)
    (try rw [show ((0 : Int)).toNat = 0 from rfl] at hx18_3)
    (try simp only [Nat.reduceMul, Nat.zero_mul, Nat.zero_add, Nat.reduceAdd] at hx18_3)
    (try rw [show ((0 : Int)).toNat = 0 from rfl] at hf18_3)
    (try simp only [Nat.reduceMul, Nat.zero_mul, Nat.zero_add, Nat.reduceAdd] at hf18_3)
    replace p18 := eq_true p18;replace q18 := eq_true q18;have HX19 := A_ (show Kd.R k30 30 w10 w.heap.size (fun _ => True) (.slice (some ⟨go18, 0, none⟩) t396.length co18) t396 from (zz18 HO398));obtain ⟨ce19, hcl19, hM19, hcc19, hfr19⟩ := Kd.R_elem HX19.out z30 (0 : Int) (by omega) (by have h_ : (0 : Int) < ((t396.length : Int) : Int) := ofD; first | exact h_ | (have e_ := (Kd.R_reads' HO398.out).1; omega) | simpa using h_);obtain rfl := k30_openM hM19;have HP19 := Kd.R_seg HX19.out (0 : Int) (by omega) (by have h_ : (0 : Int) < ((t396.length : Int) : Int) := ofD; first | exact h_ | (have e_ := (Kd.R_reads' HO398.out).1; omega) | simpa using h_) (seg := [.int .i64 10]) (j := 3) hcl19 hcc19 (show 4 ≤ 4 from by decide) (x' := (⟨(rd_T30 t396 0).f0, (rd_T30 t396 0).f1, (rd_T30 t396 0).f2, 10⟩ : S30)) (k30_mkM _ _ _ (⟨(rd_T30 t396 0).f0, (rd_T30 t396 0).f1, (rd_T30 t396 0).f2, 10⟩ : S30) ) (fun _ hk => hk);have hx19_3 := hcc19 3 _ rfl;(try simp only [show (k30).sz = 4 from rfl, Nat.mul_one, Nat.add_zero] at hx19_3)
    (try rw [show ((0 : Int)).toNat = 0 from rfl] at hx19_3)
    (try simp only [Nat.reduceMul, Nat.zero_mul, Nat.zero_add, Nat.reduceAdd] at hx19_3)
    have hf19_3 := hfr19 3;(try simp only [show (k30).sz = 4 from rfl, Nat.mul_one, Nat.add_zero] at hf19_3)
    (try rw [show ((0 : Int)).toNat = 0 from rfl] at hf19_3)
    (try simp only [Nat.reduceMul, Nat.zero_mul, Nat.zero_add, Nat.reduceAdd] at hf19_3)
    clear hcl19 hcc19 hfr19 hM19;go_wp2_with (first | ((with_reducible refine gate_store (t := 3) (p := 36) rfl ?_); refine store_event (t := 3) (p := 36) (v := ?vo_w20) (w1 := (w10.setCell ⟨go18, 3, none⟩ (.int .i64 10))) ?hg ?ho ?hn ?hr ?_; (case ho => rfl); (case hg => rfl); (case hn => rfl); (case hr => exact zz16); intro w20 hw; have hg : w10.grownBy w20 (some go18) := (by rw [hw]; exact HP19.2); have hp_ : Kd.R k30 30 w20 w.heap.size (fun _ => True) (.slice (some ⟨go18, 0, none⟩) t396.length co18) y408 := (by rw [hw, Ny408.out]; exact HP19.1); clear HP19; replace HI0 := A_ (IsS68.grown (zz7 HI0) hg (IsS68.own_ne HI0.out HO398.out (by decide))); replace HB := A_ ((by rw [hw]; exact below_set (HB.out) (Nat.le_trans HL.out GB18.out) : Below w0.heap.size w0 w20)); replace HK := A_ (KeepBut.trans (zz8 HK) (KeepBut.of_grown hg g) (Kd.R_base2 HO398.out)); replace HO398 := A_ (hp_); clear hg hw hp_))
    go_ret
    exact ⟨_, zz11, (zz18 HO398), (zz7 HI0), (zz9 HB HI0), (zz8 HK)⟩
   ·replace H := iteEq H
    rcases H with ⟨c21b0, c21b1, H⟩ | ⟨c21b0, c21b1, c21, H⟩
    ·obtain ⟨y409, hy409⟩ : ∃ y_ : List ByteArray, y_ = (([(⟨#[47, 47, 65, 66, 47, 97]⟩ : ByteArray), (⟨#[]⟩ : ByteArray), (⟨#[47, 47, 97, 98]⟩ : ByteArray)] : List ByteArray)) := ⟨_, rfl⟩
     replace H : ((spec_l6Rd_of.f k s0_0 t403 y409).bind fun bt412 => (if 0 < (t396.length : Int) then (some ((t396.set (0 : Int).toNat (⟨bt412.1, (rd_T30 t396 0).f1, (rd_T30 t396 0).f2, (rd_T30 t396 0).f3⟩ : S30)), bt412.2)) else (none))) = some (r1, r2) := by first | (rw [hy409]; with_reducible exact H) | (have H2_ := (Option.bind_some _ _).symm.trans H; rw [hy409]; with_reducible exact H2_) | (have H2_ := (Option.bind_some _ _).symm.trans H; with_reducible exact H2_) | with_reducible exact H | (rw [hy409]; exact H) | exact H
     have Ny409 := A_ hy409;clear hy409;replace H := bindA H;obtain ⟨⟨t412, t413⟩, A22, H⟩ := H;try dsimp only at H
     replace H := iteN H;obtain ⟨c23, H⟩ := H;have c23b0 := dT c23;have c23b1 : decide (0 < t396.length) = true := dT (by omega);clear c23;obtain ⟨y414, Ny414⟩ := toY (t396.set (0 : Int).toNat (⟨t412, (rd_T30 t396 0).f1, (rd_T30 t396 0).f2, (rd_T30 t396 0).f3⟩ : S30));(first | with_reducible replace H := bindZ Ny414 H | rw [← Ny414.out] at H | skip)
     simp only [Option.some.injEq, Prod.mk.injEq] at H
     obtain ⟨rfl, rfl⟩ := H;go_wp2_with (first | ((with_reducible refine gD (N := 41) rfl ?_); refine Kd.R_lit Kd.string _ 9 ?hg (N := 41) ?hd (xs := ([(⟨#[47, 47, 65, 66, 47, 97]⟩ : ByteArray), (⟨#[]⟩ : ByteArray), (⟨#[47, 47, 97, 98]⟩ : ByteArray)] : List ByteArray)) (inner := [.string (⟨#[47, 47, 65, 66, 47, 97]⟩ : ByteArray), .string (⟨#[]⟩ : ByteArray), .string (⟨#[47, 47, 97, 98]⟩ : ByteArray)]) (ok := fun _ => True) (okp := fun _ => True) ?hr ?hp (fun _ hk => hk) trivial (Below.refl _ _) (Nat.le_refl _) (by simp) ?_; (case hd => rfl); (case hg => rfl); (case hr => exact zz16); (case hp => exact (Reps.one (show Kd.M Kd.string _ _ _ (⟨#[47, 47, 65, 66, 47, 97]⟩ : ByteArray) [.string (⟨#[47, 47, 65, 66, 47, 97]⟩ : ByteArray)] from rfl) (Reps.one (show Kd.M Kd.string _ _ _ (⟨#[]⟩ : ByteArray) [.string (⟨#[]⟩ : ByteArray)] from rfl) (Reps.one (show Kd.M Kd.string _ _ _ (⟨#[47, 47, 97, 98]⟩ : ByteArray) [.string (⟨#[47, 47, 97, 98]⟩ : ByteArray)] from rfl) (Reps.none _ _))))); intro v410 w25 ho26 hb hg_ hnew_; clear hg_ hnew_; (first | rw [← Ny409.out] at ho26 | (simp only [Int.reduceToNat] at ho26; rw [← Ny409.out] at ho26)); replace HO398 := A_ (rB (zz18 HO398) hb); have HO411 := A_ (Kd.R_lower ho26 (keep_size (w := w) (g := g) (row := none) (zz8 HK))); replace HK := A_ (KeepBut.trans (zz8 HK) (KeepBut.of_below hb g none) (.inl rfl)); replace HB := A_ (bS (zz9 HB HI0) hb); replace HI0 := A_ (IsS68.below (zz7 HI0) hb); clear hb ho26; obtain ⟨Ao27, co27, eo27⟩ := Kd.R_slice HO411.out; subst eo27) | (refine gR 41 (some 42) Tryz.func41 (spec_l6Rd_of.calls k g s0_0 t403 _ _ y409 t412 t413 w0 _ ?side1 ?side2 ?side3 ?side4 ?side5 A22.out) ?_; (case side1 => exact (zz7 HI0)); (case side2 => exact (zz9 HB HI0)); (case side3 => exact (zz43 HO411)); (case side4 => exact (Kd.R_reads' HO411.out).2.1); (case side5 => exact far_slice (IsS68.own_ne HI0.out HO411.out (by decide))); rintro w28 ⟨hi, hb, hk⟩; replace HO398 := A_ (Kd.R_mono (Kd.R_keep (IsS68.apart (show IsS68 w0 _ g s0_0 t403 from (zz7 HI0)) (zz18 HO398) (by decide)) hk (fun _ h => h.2)) (fun _ h => h.1)); replace HO411 := A_ (Kd.R_mono (Kd.R_keep (IsS68.apart (show IsS68 w0 _ g s0_0 t403 from (zz7 HI0)) (zz18 HO411) (by decide)) hk (fun _ h => h.2)) (fun _ h => h.1)); replace HK := A_ (KeepBut.trans (zz8 HK) hk (.inl rfl)); replace HB := A_ (hb); replace HI0 := A_ (hi); (try clear hb hk hi); have p24 : 0 ≤ (0 : Int) := (by omega); have q24 : (0 : Int) < ((t396.length : Int) : Int) := ofD; have qi24 : (0 < t396.length) = True := eq_true (by omega); obtain ⟨go24, co24, eo24, gb24, gl24, cl24, HG24⟩ := Kd.R_form HO398.out (by omega); (first | cases eo24 | (injection eo24 with ea_ en_ ec_; (first | subst ea_ | (injection ea_ with ea_; subst ea_)); subst ec_; clear en_)); have GB24 := A_ gb24; have GG24 := A_ HG24; clear gb24 gl24 HG24; obtain ⟨ce24, hcl24, hM24, hcc24, hfr24⟩ := Kd.R_elem HO398.out z30 (0 : Int) p24 q24; obtain rfl := k30_openM hM24; have hx24_0 : w28.cell? ⟨go24, (0 : Int).toNat * 4, none⟩ = some (.string ((rd_T30 t396 0).f0)) := hcc24 0 _ rfl; have hx24_1 : w28.cell? ⟨go24, (0 : Int).toNat * 4 + 1, none⟩ = some (.string ((rd_T30 t396 0).f1)) := hcc24 1 _ rfl; have hx24_2 : w28.cell? ⟨go24, (0 : Int).toNat * 4 + 2, none⟩ = some (.string ((rd_T30 t396 0).f2)) := hcc24 2 _ rfl; have hx24_3 : w28.cell? ⟨go24, (0 : Int).toNat * 4 + 3, none⟩ = some (.int .i64 ((rd_T30 t396 0).f3)) := hcc24 3 _ rfl; have hf24_0 : w28.frozen? ⟨go24, (0 : Int).toNat * 4, none⟩ = false := hfr24 0; have hf24_1 : w28.frozen? ⟨go24, (0 : Int).toNat * 4 + 1, none⟩ = false := hfr24 1; have hf24_2 : w28.frozen? ⟨go24, (0 : Int).toNat * 4 + 2, none⟩ = false := hfr24 2; have hf24_3 : w28.frozen? ⟨go24, (0 : Int).toNat * 4 + 3, none⟩ = false := hfr24 3; clear hcl24 hcc24 hfr24 hM24; (try rw [show ((0 : Int)).toNat = 0 from rfl] at hx24_0); (try simp only [Nat.reduceMul, Nat.zero_mul, Nat.zero_add, Nat.reduceAdd] at hx24_0); (try rw [show ((0 : Int)).toNat = 0 from rfl] at hf24_0); (try simp only [Nat.reduceMul, Nat.zero_mul, Nat.zero_add, Nat.reduceAdd] at hf24_0); (try rw [show ((0 : Int)).toNat = 0 from rfl] at hx24_1); (try simp only [Nat.reduceMul, Nat.zero_mul, Nat.zero_add, Nat.reduceAdd] at hx24_1); (try rw [show ((0 : Int)).toNat = 0 from rfl] at hf24_1); (try simp only [Nat.reduceMul, Nat.zero_mul, Nat.zero_add, Nat.reduceAdd] at hf24_1); (try rw [show ((0 : Int)).toNat = 0 from rfl] at hx24_2); (try simp only [Nat.reduceMul, Nat.zero_mul, Nat.zero_add, Nat.reduceAdd] at hx24_2); (try rw [show ((0 : Int)).toNat = 0 from rfl] at hf24_2); (try simp only [Nat.reduceMul, Nat.zero_mul, Nat.zero_add, Nat.reduceAdd] at hf24_2); (try rw [show ((0 : Int)).toNat = 0 from rfl] at hx24_3); (try simp only [Nat.reduceMul, Nat.zero_mul, Nat.zero_add, Nat.reduceAdd] at hx24_3); (try rw [show ((0 : Int)).toNat = 0 from rfl] at hf24_3); (try simp only [Nat.reduceMul, Nat.zero_mul, Nat.zero_add, Nat.reduceAdd] at hf24_3); replace p24 := eq_true p24; replace q24 := eq_true q24; have HX29 := A_ (show Kd.R k30 30 w28 w.heap.size (fun _ => True) (.slice (some ⟨go24, 0, none⟩) t396.length co24) t396 from (zz18 HO398)); obtain ⟨ce29, hcl29, hM29, hcc29, hfr29⟩ := Kd.R_elem HX29.out z30 (0 : Int) (by omega) (by have h_ : (0 : Int) < ((t396.length : Int) : Int) := ofD; first | exact h_ | (have e_ := (Kd.R_reads' HO398.out).1; omega) | simpa using h_); obtain rfl := k30_openM hM29; have HP29 := Kd.R_seg HX29.out (0 : Int) (by omega) (by have h_ : (0 : Int) < ((t396.length : Int) : Int) := ofD; first | exact h_ | (have e_ := (Kd.R_reads' HO398.out).1; omega) | simpa using h_) (seg := [.string t412]) (j := 0) hcl29 hcc29 (show 1 ≤ 4 from by decide) (x' := (⟨t412, (rd_T30 t396 0).f1, (rd_T30 t396 0).f2, (rd_T30 t396 0).f3⟩ : S30)) (k30_mkM _ _ _ (⟨t412, (rd_T30 t396 0).f1, (rd_T30 t396 0).f2, (rd_T30 t396 0).f3⟩ : S30) ) (fun _ hk => hk); have hx29_0 := hcc29 0 _ rfl; (try simp only [show (k30).sz = 4 from rfl, Nat.mul_one, Nat.add_zero] at hx29_0); (try rw [show ((0 : Int)).toNat = 0 from rfl] at hx29_0); (try simp only [Nat.reduceMul, Nat.zero_mul, Nat.zero_add, Nat.reduceAdd] at hx29_0); have hf29_0 := hfr29 0; (try simp only [show (k30).sz = 4 from rfl, Nat.mul_one, Nat.add_zero] at hf29_0); (try rw [show ((0 : Int)).toNat = 0 from rfl] at hf29_0); (try simp only [Nat.reduceMul, Nat.zero_mul, Nat.zero_add, Nat.reduceAdd] at hf29_0); clear hcl29 hcc29 hfr29 hM29) | ((with_reducible refine gate_store (t := 9) (p := 44) rfl ?_); refine store_event (t := 9) (p := 44) (v := ?vo_w30) (w1 := (w28.setCell ⟨go24, 0, none⟩ (.string t412))) ?hg ?ho ?hn ?hr ?_; (case ho => rfl); (case hg => rfl); (case hn => rfl); (case hr => exact zz16); intro w30 hw; have hg : w28.grownBy w30 (some go24) := (by rw [hw]; exact HP29.2); have hp_ : Kd.R k30 30 w30 w.heap.size (fun _ => True) (.slice (some ⟨go24, 0, none⟩) t396.length co24) y414 := (by rw [hw, Ny414.out]; exact HP29.1); clear HP29; replace HI0 := A_ (IsS68.grown (zz7 HI0) hg (IsS68.own_ne HI0.out HO398.out (by decide))); replace HO411 := A_ (Kd.R_over' (v := (.slice (some ⟨go24, 0, none⟩) t396.length co24)) (zz18 HO411) (Kd.R_typed HO398.out) (by decide) hg); replace HB := A_ ((by rw [hw]; exact below_set (HB.out) (Nat.le_trans HL.out GB24.out) : Below w0.heap.size w0 w30)); replace HK := A_ (KeepBut.trans (zz8 HK) (KeepBut.of_grown hg g) (Kd.R_base2 HO398.out)); replace HO398 := A_ (hp_); clear hg hw hp_))
     go_ret
     exact ⟨_, zz11, (zz18 HO398), (zz7 HI0), (zz9 HB HI0), (zz8 HK)⟩
    ·replace H := iteEq H
     rcases H with ⟨c31b0, c31b1, H⟩ | ⟨c31b0, c31b1, c31, H⟩
     ·replace H := iteN H
      obtain ⟨c32, H⟩ := H;have c32b0 := dT c32;have c32b1 : decide (0 < t396.length) = true := dT (by omega);clear c32;obtain ⟨y415, Ny415⟩ := toY (t396.set (0 : Int).toNat (⟨(rd_T30 t396 0).f0, (rd_T30 t396 0).f1, (⟨#[120]⟩ : ByteArray), (rd_T30 t396 0).f3⟩ : S30));(first | with_reducible replace H := bindZ Ny415 H | rw [← Ny415.out] at H | skip)
      simp only [Option.some.injEq, Prod.mk.injEq] at H
      obtain ⟨rfl, rfl⟩ := H;have p33 : 0 ≤ (0 : Int) := (by omega);have q33 : (0 : Int) < ((t396.length : Int) : Int) := ofD;have qi33 : (0 < t396.length) = True := eq_true (by omega);obtain ⟨go33, co33, eo33, gb33, gl33, cl33, HG33⟩ := Kd.R_form HO398.out (by omega);(first | cases eo33 | (injection eo33 with ea_ en_ ec_; (first | subst ea_ | (injection ea_ with ea_; subst ea_)); subst ec_; clear en_))
      have GB33 := A_ gb33;have GG33 := A_ HG33;clear gb33 gl33 HG33;obtain ⟨ce33, hcl33, hM33, hcc33, hfr33⟩ := Kd.R_elem HO398.out z30 (0 : Int) p33 q33;obtain rfl := k30_openM hM33;have hx33_0 : w10.cell? ⟨go33, (0 : Int).toNat * 4, none⟩ = some (.string ((rd_T30 t396 0).f0)) := hcc33 0 _ rfl;have hx33_1 : w10.cell? ⟨go33, (0 : Int).toNat * 4 + 1, none⟩ = some (.string ((rd_T30 t396 0).f1)) := hcc33 1 _ rfl;have hx33_2 : w10.cell? ⟨go33, (0 : Int).toNat * 4 + 2, none⟩ = some (.string ((rd_T30 t396 0).f2)) := hcc33 2 _ rfl;have hx33_3 : w10.cell? ⟨go33, (0 : Int).toNat * 4 + 3, none⟩ = some (.int .i64 ((rd_T30 t396 0).f3)) := hcc33 3 _ rfl;have hf33_0 : w10.frozen? ⟨go33, (0 : Int).toNat * 4, none⟩ = false := hfr33 0;have hf33_1 : w10.frozen? ⟨go33, (0 : Int).toNat * 4 + 1, none⟩ = false := hfr33 1;have hf33_2 : w10.frozen? ⟨go33, (0 : Int).toNat * 4 + 2, none⟩ = false := hfr33 2;have hf33_3 : w10.frozen? ⟨go33, (0 : Int).toNat * 4 + 3, none⟩ = false := hfr33 3;clear hcl33 hcc33 hfr33 hM33;(try rw [show ((0 : Int)).toNat = 0 from rfl] at hx33_0)
      (try simp only [Nat.reduceMul, Nat.zero_mul, Nat.zero_add, Nat.reduceAdd] at hx33_0)
      (try rw [show ((0 : Int)).toNat = 0 from rfl] at hf33_0)
      (try simp only [Nat.reduceMul, Nat.zero_mul, Nat.zero_add, Nat.reduceAdd] at hf33_0)
      (try rw [show ((0 : Int)).toNat = 0 from rfl] at hx33_1)
      (try simp only [Nat.reduceMul, Nat.zero_mul, Nat.zero_add, Nat.reduceAdd] at hx33_1)
      (try rw [show ((0 : Int)).toNat = 0 from rfl] at hf33_1)
      (try simp only [Nat.reduceMul, Nat.zero_mul, Nat.zero_add, Nat.reduceAdd] at hf33_1)
      (try rw [show ((0 : Int)).toNat = 0 from rfl] at hx33_2)
      (try simp only [Nat.reduceMul, Nat.zero_mul, Nat.zero_add, Nat.reduceAdd] at hx33_2)
      (try rw [show ((0 : Int)).toNat = 0 from rfl] at hf33_2)
      (try simp only [Nat.reduceMul, Nat.zero_mul, Nat.zero_add, Nat.reduceAdd] at hf33_2)
      (try rw [show ((0 : Int)).toNat = 0 from rfl] at hx33_3)
      (try simp only [Nat.reduceMul, Nat.zero_mul, Nat.zero_add, Nat.reduceAdd] at hx33_3)
      (try rw [show ((0 : Int)).toNat = 0 from rfl] at hf33_3)
      (try simp only [Nat.reduceMul, Nat.zero_mul, Nat.zero_add, Nat.reduceAdd] at hf33_3)
      replace p33 := eq_true p33;replace q33 := eq_true q33;have HX34 := A_ (show Kd.R k30 30 w10 w.heap.size (fun _ => True) (.slice (some ⟨go33, 0, none⟩) t396.length co33) t396 from (zz18 HO398));obtain ⟨ce34, hcl34, hM34, hcc34, hfr34⟩ := Kd.R_elem HX34.out z30 (0 : Int) (by omega) (by have h_ : (0 : Int) < ((t396.length : Int) : Int) := ofD; first | exact h_ | (have e_ := (Kd.R_reads' HO398.out).1; omega) | simpa using h_);obtain rfl := k30_openM hM34;have HP34 := Kd.R_seg HX34.out (0 : Int) (by omega) (by have h_ : (0 : Int) < ((t396.length : Int) : Int) := ofD; first | exact h_ | (have e_ := (Kd.R_reads' HO398.out).1; omega) | simpa using h_) (seg := [.string (⟨#[120]⟩ : ByteArray)]) (j := 2) hcl34 hcc34 (show 3 ≤ 4 from by decide) (x' := (⟨(rd_T30 t396 0).f0, (rd_T30 t396 0).f1, (⟨#[120]⟩ : ByteArray), (rd_T30 t396 0).f3⟩ : S30)) (k30_mkM _ _ _ (⟨(rd_T30 t396 0).f0, (rd_T30 t396 0).f1, (⟨#[120]⟩ : ByteArray), (rd_T30 t396 0).f3⟩ : S30) ) (fun _ hk => hk);have hx34_2 := hcc34 2 _ rfl;(try simp only [show (k30).sz = 4 from rfl, Nat.mul_one, Nat.add_zero] at hx34_2)
      (try rw [show ((0 : Int)).toNat = 0 from rfl] at hx34_2)
      (try simp only [Nat.reduceMul, Nat.zero_mul, Nat.zero_add, Nat.reduceAdd] at hx34_2)
      have hf34_2 := hfr34 2;(try simp only [show (k30).sz = 4 from rfl, Nat.mul_one, Nat.add_zero] at hf34_2)
      (try rw [show ((0 : Int)).toNat = 0 from rfl] at hf34_2)
      (try simp only [Nat.reduceMul, Nat.zero_mul, Nat.zero_add, Nat.reduceAdd] at hf34_2)
      clear hcl34 hcc34 hfr34 hM34;go_wp2_with (first | ((with_reducible refine gate_store (t := 9) (p := 49) rfl ?_); refine store_event (t := 9) (p := 49) (v := ?vo_w35) (w1 := (w10.setCell ⟨go33, 2, none⟩ (.string (⟨#[120]⟩ : ByteArray)))) ?hg ?ho ?hn ?hr ?_; (case ho => rfl); (case hg => rfl); (case hn => rfl); (case hr => exact zz16); intro w35 hw; have hg : w10.grownBy w35 (some go33) := (by rw [hw]; exact HP34.2); have hp_ : Kd.R k30 30 w35 w.heap.size (fun _ => True) (.slice (some ⟨go33, 0, none⟩) t396.length co33) y415 := (by rw [hw, Ny415.out]; exact HP34.1); clear HP34; replace HI0 := A_ (IsS68.grown (zz7 HI0) hg (IsS68.own_ne HI0.out HO398.out (by decide))); replace HB := A_ ((by rw [hw]; exact below_set (HB.out) (Nat.le_trans HL.out GB33.out) : Below w0.heap.size w0 w35)); replace HK := A_ (KeepBut.trans (zz8 HK) (KeepBut.of_grown hg g) (Kd.R_base2 HO398.out)); replace HO398 := A_ (hp_); clear hg hw hp_))
      go_ret
      exact ⟨_, zz11, (zz18 HO398), (zz7 HI0), (zz9 HB HI0), (zz8 HK)⟩
     ·have H' := A_ H
      clear H;go_wp2
      go_loopg [3, 4] k (fun kq v3 v4 w' => ∃ (x3_1 : List (S30)) (x4_1 : Int), v4 = .int .i64 x4_1 ∧ Aside0 (spec_l71Off.l0 kq x3_1 x4_1 s0_0 t403 = some (r1, r2)) ∧ Aside0 (kq ≤ k) ∧ Aside0 (Kd.R k30 30 w' w.heap.size (fun _ => True) v3 x3_1) ∧ Aside0 (IsS68 w0 w' g s0_0 t403) ∧ Aside0 (KeepBut w w' g none) ∧ Aside0 (Below w0.heap.size w0 w'))
      case atStart => exact ⟨(t396), (0), zz5, H', ⟨Nat.le_refl _⟩, ⟨(zz18 HO398)⟩, ⟨(zz7 HI0)⟩, ⟨(zz8 HK)⟩, ⟨(zz9 HB HI0)⟩⟩
      case round =>
       clear H';obtain ⟨x3_1, x4_1, rfl, HA, HK1, HO_3, HI0, HK, HB⟩ := hrel;cases gk with
       | zero => exact absurd HA.out (by simp [spec_l71Off.l0])
       | succ k1 =>
        obtain ⟨H⟩ := HA;simp only [spec_l71Off.l0] at H
        replace H := iteEd H;rcases H with ⟨c36b0, H⟩ | ⟨c36b0, H⟩
        ·replace H := Option.bind_eq_some_iff.mp H
         obtain ⟨t416, A370, H⟩ := H;replace H : (if 6 + t416.size ≤ 9223372036854775807 then (if x3_1.length < 2513169434916 then (spec_l71Off.l0 k1 (x3_1 ++ [(⟨(⟨#[47, 47, 97, 98, 47, 122]⟩ : ByteArray) ++ t416, (⟨#[]⟩ : ByteArray), (⟨#[]⟩ : ByteArray), 0⟩ : S30)]) (wrap64 (x4_1 + 1)) s0_0 t403) else (none)) else (none)) = some (r1, r2) := H;have A37 := A_ A370;clear A370;replace H := iteN H;obtain ⟨c38, H⟩ := H;have c38b0 := eq_true c38;have c38b1 := dT c38;try have c38b2 : (9223372036854775807 < 6 + t416.size) = False := eq_false (Nat.not_lt.2 c38)
         replace H := iteN H;obtain ⟨c39, H⟩ := H;have LMc39 := A_ c39;clear c39;obtain ⟨y417, Ny417⟩ := toY (x3_1 ++ [(⟨(⟨#[47, 47, 97, 98, 47, 122]⟩ : ByteArray) ++ t416, (⟨#[]⟩ : ByteArray), (⟨#[]⟩ : ByteArray), 0⟩ : S30)]);(first | with_reducible replace H := bindZ Ny417 H | rw [← Ny417.out] at H | skip)
         have H' := A_ H;clear H;go_wp2_with (first | (refine gR 42 (some 19) Tryz.func42 (spec_l6Dec.calls k1 x4_1 t416 _ A37.out) ?_; rintro w40 hb; replace HO_3 := A_ (rB (zz18 HO_3) hb); replace HK := A_ (KeepBut.trans (zz8 HK) (KeepBut.of_below hb g none) (.inl rfl)); replace HB := A_ (bS (zz9 HB HI0) hb); replace HI0 := A_ (IsS68.below (zz7 HI0) hb); (try clear hb)) | ((with_reducible refine gate_builtin (b := .append) (xs := #[.tmp 17, .tmp 22]) rfl ?_); at_builtin; refine Kd.R_append k30 w.heap.size rfl (.tmp 17) (.tmp 22) 23 30 (.agg #[(.string ⟨#[]⟩), (.string ⟨#[]⟩), (.string ⟨#[]⟩), (.int .i64 0)]) 56 rfl Tryz.underlying23 info30 rfl (by decide) (by omega) u3 x3_1 (⟨(⟨#[47, 47, 97, 98, 47, 122]⟩ : ByteArray) ++ t416, (⟨#[]⟩ : ByteArray), (⟨#[]⟩ : ByteArray), 0⟩ : S30) [.string ((⟨#[47, 47, 97, 98, 47, 122]⟩ : ByteArray) ++ t416), .string (⟨#[]⟩ : ByteArray), .string (⟨#[]⟩ : ByteArray), .int .i64 0] (fun _ => True) (fun _ => False) rfl rfl ?aP (fun _ hk => hk.elim) ?aF ?aO (Below.refl _ _) ?aS ?aL ?_; (case aP => exact k30_mkM _ _ _ (⟨(⟨#[47, 47, 97, 98, 47, 122]⟩ : ByteArray) ++ t416, (⟨#[]⟩ : ByteArray), (⟨#[]⟩ : ByteArray), 0⟩ : S30)); (case aF => exact (fun _ _ => trivial)); (case aO => exact (zz18 HO_3)); (case aS => exact (keep_size (w := w) (g := g) (row := none) (zz8 HK))); (case aL => exact (zz20 LMc39)); intro v418 w41 ho hb hg hat; rw [← Ny417.out] at ho; replace HB := A_ (below_weaken (zz9 HB HI0) HL.out hb); replace HI0 := A_ (IsS68.grown (zz7 HI0) hg (IsS68.own_ne HI0.out HO_3.out (by decide))); replace HK := A_ (KeepBut.trans (zz8 HK) (KeepBut.of_grown hg g) (Kd.R_base2 HO_3.out)); have HO419 := A_ (ho); clear HO_3; clear ho hb hg hat))
         go_roundg k1
         case measure => have := HK1.out; omega
         case rel => exact ⟨(y417), (wrap64 (x4_1 + 1)), zz5, H', ⟨(zz20 HK1)⟩, ⟨(zz18 HO419)⟩, ⟨(zz7 HI0)⟩, ⟨(zz8 HK)⟩, ⟨(zz9 HB HI0)⟩⟩
        ·simp only [Option.some.injEq, Prod.mk.injEq] at H
         obtain ⟨rfl, rfl⟩ := H;go_wp2
         go_ret
         exact ⟨_, zz11, (zz18 HO_3), (zz7 HI0), (zz9 HB HI0), (zz8 HK)⟩
def spec_l71Where.j0 : Nat → List (S30) → Bool → List Int → Int → Option (ByteArray × Int)
 | 0, _, _, _, _ => none
 | k + 1, x1, x12, x1000, x1001 => if x12 = true then ((spec_l6Rd_pick.f k x1000 x1001 (x1.length : Int)).bind fun bt422 => (if 0 ≤ bt422.1 then (if bt422.1 < (x1.length : Int) then (some ((rd_T30 x1 bt422.1).f0, bt422.2)) else (none)) else (none))) else ((spec_l71Addr.f k x1000 x1001).bind fun bt425 => (some (bt425.1, bt425.2)))
def spec_l71Where.f (k : Nat) (s0_0 : List Int) (s0_1 : Int) (l1 : List (S30)) : Option (ByteArray × Int) := if (l1.length : Int) > 0 then ((spec_l6Rd_pick.f k s0_0 s0_1 3).bind fun bt420 => (spec_l71Where.j0 k l1 (decide (bt420.1 > 0)) s0_0 bt420.2)) else (spec_l71Where.j0 k l1 false s0_0 s0_1)
theorem spec_l71Where.calls (k : Nat) (g : Nat) (s0_0 : List Int) (s0_1 : Int) (A1 : Option Addr) (c1 : Nat) (l1 : List (S30)) (r1 : ByteArray) (r2 : Int) (w0 w : World) (hI : IsS68 w0 w g s0_0 s0_1) (hB : Below w0.heap.size w0 w) (hr1 : ∀ W_, KeepBut w W_ g none → Kd.C k30 W_ A1 l1.length l1) (hc1 : l1.length ≤ c1) (h : spec_l71Where.f k s0_0 s0_1 l1 = some (r1, r2)) :
  Calls Tryz.prog 21 #[.pointer (some ⟨g, 0, none⟩), .slice A1 l1.length c1] w fun e w' => e = .returned (.string r1) ∧ IsS68 w0 w' g s0_0 r2 ∧ Below w0.heap.size w0 w' ∧ KeepBut w w' g none := by
 have HR1 := A_ hr1;have HC1 := A_ hc1;clear hr1 hc1;have HI0 := A_ hI;have HK := A_ (KeepBut.refl w g none);have HL := A_ hB.size;clear hI;have HW0 := A_ hB.size;have HB := A_ hB;clear hB;unfold spec_l71Where.f at h
 have H := h;clear h;have HC3 := A_ H;clear H;go_enter Tryz.func21, Tryz.ntmps21;go_upto_region 1 with (fail)
 go_cut [12] (fun v12 wc => ∃ (kq : Nat) (x12_2 : Bool) (x1001_2 : Int), v12 = .bool x12_2 ∧ Aside0 (spec_l71Where.j0 kq l1 x12_2 s0_0 x1001_2 = some (r1, r2)) ∧ Aside0 (kq ≤ k) ∧ Aside0 (IsS68 w0 wc g s0_0 x1001_2) ∧ Aside0 (KeepBut w wc g none) ∧ Aside0 (Below w0.heap.size w0 wc))
 case first =>
  obtain ⟨H⟩ := HC3;replace H := iteE H;rcases H with ⟨c4, H⟩ | ⟨c4, H⟩
  ·have c4b0 := gtT c4
   have c4b1 : decide (0 < l1.length) = true := dT (by omega);clear c4;(first | rw [c4b0] | (simp only [i64_w, i32_w]; rw [c4b0]) | skip)
   replace H := bindA H;obtain ⟨⟨t420, t421⟩, A5, H⟩ := H;try dsimp only at H
   have H' := A_ H;clear H;go_wp2_with (first | (go_at_call 22; (with_reducible refine (spec_l6Rd_pick.calls k g s0_0 s0_1 3 t420 t421 w0 _ ?side1 ?side2 A5.out).mono ?_); (case side1 => exact (zz7 HI0)); (case side2 => exact (zz9 HB HI0)); rintro e w6 ⟨rfl, hi, hb, hk⟩; replace HK := A_ (KeepBut.trans (zz8 HK) hk (.inl rfl)); replace HB := A_ (hb); replace HI0 := A_ (hi); (try clear hb hk hi)))
   go_meet
   case rel => exact ⟨_, (decide (t420 > 0)), (t421), zz5, H', ⟨zz6⟩, ⟨(zz7 HI0)⟩, ⟨(zz8 HK)⟩, ⟨(zz9 HB HI0)⟩⟩
  ·have c4b0 := gtF c4
   have c4b1 : decide (0 < l1.length) = false := dF (by omega);clear c4;(first | rw [c4b0] | (simp only [i64_w, i32_w]; rw [c4b0]) | skip)
   have H' := A_ H;clear H;go_wp2
   go_meet
   case rel => exact ⟨_, (false), (s0_1), zz5, H', ⟨zz6⟩, ⟨(zz7 HI0)⟩, ⟨(zz8 HK)⟩, ⟨(zz9 HB HI0)⟩⟩
 case rest =>
  clear HC3;obtain ⟨kq, x12_2, x1001_2, rfl, HA, HJ2, HI0, HK, HB⟩ := hcut;cases kq with
  | zero => exact absurd HA.out (by simp [spec_l71Where.j0])
  | succ kj2 =>
   obtain ⟨H⟩ := HA;simp only [spec_l71Where.j0] at H
   replace H := iteB H;rcases H with ⟨rfl, H⟩ | ⟨rfl, H⟩
   ·replace H := Option.bind_eq_some_iff.mp H
    obtain ⟨⟨t422, t423⟩, A80, H⟩ := H;replace H : (if 0 ≤ t422 then (if t422 < (l1.length : Int) then (some ((rd_T30 l1 t422).f0, t423)) else (none)) else (none)) = some (r1, r2) := H;have A8 := A_ A80;clear A80;replace H := iteNd H;obtain ⟨c9b0, H⟩ := H;replace H := iteNd H;obtain ⟨c10b0, H⟩ := H;simp only [Option.some.injEq, Prod.mk.injEq] at H
    obtain ⟨rfl, rfl⟩ := H;go_wp2_with (first | (refine gR 22 (some 17) Tryz.func22 (spec_l6Rd_pick.calls kj2 g s0_0 x1001_2 (l1.length : Int) t422 t423 w0 _ ?side1 ?side2 A8.out) ?_; (case side1 => exact (zz7 HI0)); (case side2 => exact (zz9 HB HI0)); rintro w11 ⟨hi, hb, hk⟩; replace HK := A_ (KeepBut.trans (zz8 HK) hk (.inl rfl)); replace HB := A_ (hb); replace HI0 := A_ (hi); (try clear hb hk hi); have p424 : 0 ≤ (t422 : Int) := ofD; have q424 : t422 < (l1.length : Int) := ofD; obtain ⟨ad424, e424, hx424_0, hx424_1, hx424_2, hx424_3⟩ := at_T30 (Kd.C_foot_now HR1.out HK.out) t422 p424 q424; cases e424; replace p424 := eq_true p424; replace q424 := eq_true q424))
    go_ret
    exact ⟨zz11, (zz7 HI0), (zz9 HB HI0), (zz8 HK)⟩
   ·replace H := Option.bind_eq_some_iff.mp H
    obtain ⟨⟨t425, t426⟩, A120, H⟩ := H;replace H : (some (t425, t426)) = some (r1, r2) := H;have A12 := A_ A120;clear A120;simp only [Option.some.injEq, Prod.mk.injEq] at H
    obtain ⟨rfl, rfl⟩ := H;go_wp2_with (first | (refine gR 43 (some 22) Tryz.func43 (spec_l71Addr.calls kj2 g s0_0 x1001_2 t425 t426 w0 _ ?side1 ?side2 A12.out) ?_; (case side1 => exact (zz7 HI0)); (case side2 => exact (zz9 HB HI0)); rintro w13 ⟨hi, hb, hk⟩; replace HK := A_ (KeepBut.trans (zz8 HK) hk (.inl rfl)); replace HB := A_ (hb); replace HI0 := A_ (hi); (try clear hb hk hi)))
    go_ret
    exact ⟨zz11, (zz7 HI0), (zz9 HB HI0), (zz8 HK)⟩
def spec_DrawWorldGet.f (k : Nat) (l0 : List Int) : Option ((List (S30)) × ByteArray × Int) := (spec_l6Open.f l0).bind fun bt427 => ((spec_l71Off.f k bt427.1 bt427.2).bind fun bt430 => ((spec_l71Where.f k bt427.1 bt430.2 bt430.1).bind fun bt434 => ((spec_l6Rd_pick.f k bt427.1 bt434.2 5).bind fun bt436 => ((spec_l6Rd_pick.f k bt427.1 bt436.2 12).bind fun bt438 => (some (bt430.1, bt434.1, wrap64 (bt436.1 - (wrap64 (Int.tdiv bt438.1 11)))))))))
theorem spec_DrawWorldGet.calls (k : Nat) (A0 : Option Addr) (c0 : Nat) (l0 : List Int) (r1 : List (S30)) (r2 : ByteArray) (r3 : Int) (w : World) (hr0 : Kd.C (Kd.int .u8) w A0 l0.length l0) (hc0 : l0.length ≤ c0) (h : spec_DrawWorldGet.f k l0 = some (r1, r2, r3)) :
  Calls Tryz.prog 7 #[.slice A0 l0.length c0] w fun e w' => ∃ v0_ : Value, e = .returned (.tuple #[v0_, .string r2, .int .i64 r3]) ∧ Kd.R k30 30 w' w.heap.size (fun _ => True) v0_ r1 ∧ Below w.heap.size w w' := by
 have HR0 := A_ hr0;have HC0 := A_ hc0;clear hr0 hc0;have HB := A_ (Below.refl w.heap.size w);unfold spec_DrawWorldGet.f at h
 have H := h;clear h;replace H := bindA H;obtain ⟨⟨t427, t428⟩, A2, H⟩ := H;try dsimp only at H
 replace H := bindA H;obtain ⟨⟨t430, t433⟩, A3, H⟩ := H;try dsimp only at H
 replace H := bindA H;obtain ⟨⟨t434, t435⟩, A4, H⟩ := H;try dsimp only at H
 replace H := bindA H;obtain ⟨⟨t436, t437⟩, A5, H⟩ := H;try dsimp only at H
 replace H := bindA H;obtain ⟨⟨t438, t439⟩, A6, H⟩ := H;try dsimp only at H
 simp only [Option.some.injEq, Prod.mk.injEq] at H
 obtain ⟨rfl, rfl, rfl⟩ := H;go_enter Tryz.func7, Tryz.ntmps7;go_wp2_with (first | (refine gV 19 (some 8) Tryz.func19 (spec_l6Open.calls _ _ l0 t427 t428 w _ ?side1 ?side2 ?side3 A2.out) ?_; (case side1 => exact (zz2 HB)); (case side2 => exact HR0.out); (case side3 => exact HC0.out); rintro g429 w7 ⟨hi, hb, hb2⟩; replace HB := A_ (hb); have HI429 := A_ (hi); (try clear hb hb2 hi)) | (refine gV 20 (some 10) Tryz.func20 (spec_l71Off.calls k g429 t427 t428 t430 t433 w _ ?side1 ?side2 A3.out) ?_; (case side1 => exact (zz7 HI429)); (case side2 => exact (zz9 HB HI429)); rintro v431 w8 ⟨ho0, hi, hb, hk⟩; have HO432 := A_ (Kd.R_lower ho0 (below_size (zz9 HB HI429))); replace HB := A_ (hb); replace HI429 := A_ (hi); (try clear hb hk hi ho0); obtain ⟨Ao9, co9, eo9⟩ := Kd.R_slice HO432.out; subst eo9) | ((with_reducible refine gC (f := 21) rfl ?_); refine gsL (some 14) Tryz.func21 #[.pointer (some ⟨g429, 0, none⟩), .slice Ao9 t430.length co9] ?_; (with_reducible refine (spec_l71Where.calls k g429 t427 t433 _ _ t430 t434 t435 w _ ?side1 ?side2 ?side3 ?side4 A4.out).mono ?_); (case side1 => exact (zz7 HI429)); (case side2 => exact (zz9 HB HI429)); (case side3 => exact Kd.C_foot_own (IsS68.apart (show IsS68 w _ g429 t427 t433 from (zz7 HI429)) (zz18 HO432) (by decide)) (fun _ h_ => h_.2)); (case side4 => exact (Kd.R_reads' HO432.out).2.1); rintro e w10 ⟨rfl, hi, hb, hk⟩; refine ⟨_, rfl, ?_⟩; replace HO432 := A_ (Kd.R_mono (Kd.R_keep (IsS68.apart (show IsS68 w _ g429 t427 t433 from (zz7 HI429)) (zz18 HO432) (by decide)) hk (fun _ h => h.2)) (fun _ h => h.1)); replace HB := A_ (hb); replace HI429 := A_ (hi); (try clear hb hk hi)) | (refine gR 22 (some 16) Tryz.func22 (spec_l6Rd_pick.calls k g429 t427 t435 5 t436 t437 w _ ?side1 ?side2 A5.out) ?_; (case side1 => exact (zz7 HI429)); (case side2 => exact (zz9 HB HI429)); rintro w11 ⟨hi, hb, hk⟩; replace HO432 := A_ (Kd.R_mono (Kd.R_keep (IsS68.apart (show IsS68 w _ g429 t427 t435 from (zz7 HI429)) (zz18 HO432) (by decide)) hk (fun _ h => h.2)) (fun _ h => h.1)); replace HB := A_ (hb); replace HI429 := A_ (hi); (try clear hb hk hi)) | (refine gR 22 (some 18) Tryz.func22 (spec_l6Rd_pick.calls k g429 t427 t437 12 t438 t439 w _ ?side1 ?side2 A6.out) ?_; (case side1 => exact (zz7 HI429)); (case side2 => exact (zz9 HB HI429)); rintro w12 ⟨hi, hb, hk⟩; replace HO432 := A_ (Kd.R_mono (Kd.R_keep (IsS68.apart (show IsS68 w _ g429 t427 t437 from (zz7 HI429)) (zz18 HO432) (by decide)) hk (fun _ h => h.2)) (fun _ h => h.1)); replace HB := A_ (hb); replace HI429 := A_ (hi); (try clear hb hk hi)))
 go_ret3
 exact ⟨_, zz11, (zz18 HO432), (zz9 HB HI429)⟩
def spec_l1Cut.l0 : Nat → ByteArray → Int → Int → Option (ByteArray × ByteArray × Bool)
 | 0, _, _, _ => none
 | k + 1, x0, x1, x7 => if x7 < (x0.size : Int) then (if 0 ≤ x7 then (if (bt x0 x7) = x1 then (if x7 ≤ (x0.size : Int) then (if 0 ≤ (wrap64 (x7 + 1)) then (if (wrap64 (x7 + 1)) ≤ (x0.size : Int) then (some (x0.extract 0 (x7 : Int).toNat, x0.extract ((wrap64 (x7 + 1)) : Int).toNat x0.size, true)) else (none)) else (none)) else (none)) else (spec_l1Cut.l0 k x0 x1 (wrap64 (x7 + 1)))) else (none)) else (some (x0, (⟨#[]⟩ : ByteArray), false))
def spec_l1Cut.f (k : Nat) (a0 : ByteArray) (a1 : Int) : Option (ByteArray × ByteArray × Bool) := spec_l1Cut.l0 k a0 a1 0
theorem spec_l1Cut.calls (k : Nat) (a0 : ByteArray) (a1 : Int) (r1 : ByteArray) (r2 : ByteArray) (r3 : Bool) (w : World) (h : spec_l1Cut.f k a0 a1 = some (r1, r2, r3)) :
  Calls Tryz.prog 70 #[.string a0, .int .u8 a1] w fun e w' => e = .returned (.tuple #[.string r1, .string r2, .bool r3]) ∧ Drawn0 w w' := by
 unfold spec_l1Cut.f at h
 have H := h;clear h;have H' := A_ H;clear H;go_enter Tryz.func70, Tryz.ntmps70;go_wp2
 repeat (go_quiet (fail); try go_wp2)
 go_loopg [7] k (fun kq v7 w' => ∃ (x7_1 : Int), v7 = .int .i64 x7_1 ∧ Aside0 (spec_l1Cut.l0 kq a0 a1 x7_1 = some (r1, r2, r3)) ∧ Aside0 (kq ≤ k) ∧ Drawn0 w w')
 case atStart => exact ⟨(0), zz5, H', ⟨Nat.le_refl _⟩, zz22⟩
 case round =>
  clear H';obtain ⟨x7_1, rfl, HA, HK1, ⟨m1, rfl⟩⟩ := hrel;cases gk with
  | zero => exact absurd HA.out (by simp [spec_l1Cut.l0])
  | succ k1 =>
   obtain ⟨H⟩ := HA;simp only [spec_l1Cut.l0] at H
   replace H := iteEd H;rcases H with ⟨c3b0, H⟩ | ⟨c3b0, H⟩
   ·replace H := iteNd H
    obtain ⟨c4b0, H⟩ := H;replace H := iteEq H;rcases H with ⟨c6b0, c6b1, H⟩ | ⟨c6b0, c6b1, c6, H⟩
    ·have c7b0 := eq_true (ofD : 0 ≤ x7_1)
     replace H := iteN H;obtain ⟨c8, H⟩ := H;have c8b0 := eq_true c8;have c8b1 := dT c8;clear c8;obtain ⟨ji9, hji9⟩ : ∃ j_ : Int, (wrap64 (x7_1 + 1)) = j_ := ⟨_, rfl⟩;(first | rw [hji9] at H | simp only [hji9] at H)
     have hji9w : (IntKind.i64.wrap (x7_1 + 1)) = ji9 := (i64_w _).trans hji9;replace H := iteN H;obtain ⟨c10, H⟩ := H;have c10b0 := eq_true c10;have c10b1 := dT c10;clear c10;replace H := iteN H;obtain ⟨c11, H⟩ := H;have c11b0 := eq_true c11;have c11b1 := dT c11;clear c11;simp only [Option.some.injEq, Prod.mk.injEq] at H
     obtain ⟨rfl, rfl, rfl⟩ := H;have p5 : 0 ≤ (x7_1 : Int) := ofD;have q5 : x7_1 < (a0.size : Int) := ofD;have hx5 := bt_at a0 x7_1;replace p5 := eq_true p5;replace q5 := eq_true q5;go_wp2
     repeat (go_quiet (fail); try go_wp2)
     go_ret3
     exact ⟨(by first | rfl | (simp only [i64_w, i32_w]; done) | (simp only [aid_isEmpty, aid_isEmpty2]; done) | (simp; done) | ((simp only [← hji9] <;> (first | rfl | simp)); done) | (simp [*]; done)), zz22⟩
    ·have H' := A_ H
     clear H;have p5 : 0 ≤ (x7_1 : Int) := ofD;have q5 : x7_1 < (a0.size : Int) := ofD;have hx5 := bt_at a0 x7_1;replace p5 := eq_true p5;replace q5 := eq_true q5;go_wp2
     repeat (go_quiet (fail); try go_wp2)
     go_roundg k1
     case measure => have := HK1.out; omega
     case rel => exact ⟨(wrap64 (x7_1 + 1)), zz5, H', ⟨(zz20 HK1)⟩, zz22⟩
   ·simp only [Option.some.injEq, Prod.mk.injEq] at H
    obtain ⟨rfl, rfl, rfl⟩ := H;go_wp2
    repeat (go_quiet (fail); try go_wp2)
    go_ret3
    exact ⟨zz5, zz22⟩
def spec_l1Split.l0 : Nat → Int → List ByteArray → ByteArray → Bool → Option (List ByteArray)
 | 0, _, _, _, _ => none
 | k + 1, x1, x5, x6, x7 => if x7 = true then ((spec_l1Cut.f k x6 x1).bind fun bt443 => (if x5.length < 8796093022208 then (spec_l1Split.l0 k x1 (x5 ++ [bt443.1]) bt443.2.1 bt443.2.2) else (none))) else (some x5)
def spec_l1Split.f (k : Nat) (a0 : ByteArray) (a1 : Int) : Option (List ByteArray) := spec_l1Split.l0 k a1 (([] : List ByteArray)) a0 true
theorem spec_l1Split.calls (k : Nat) (a0 : ByteArray) (a1 : Int) (r : List ByteArray) (w : World) (h : spec_l1Split.f k a0 a1 = some r) :
  Calls Tryz.prog 119 #[.string a0, .int .u8 a1] w fun e w' => ∃ v0_ : Value, e = .returned (v0_) ∧ Kd.R Kd.string 9 w' w.heap.size (fun _ => True) v0_ r ∧ Below w.heap.size w w' := by
 have HB := A_ (Below.refl w.heap.size w);unfold spec_l1Split.f at h
 have H := h;clear h;obtain ⟨y440, Ny440⟩ := toY (([] : List ByteArray));(first | with_reducible replace H := bindZ Ny440 H | rw [← Ny440.out] at H | skip)
 have H' := A_ H;clear H;go_enter Tryz.func119, Tryz.ntmps119;go_wp2_with (first | ((with_reducible refine gD (N := 9) rfl ?_); refine Kd.R_lit Kd.string _ 9 ?hg (N := 9) ?hd (xs := ([] : List ByteArray)) (inner := []) (ok := fun _ => True) (okp := fun _ => True) ?hr ?hp (fun _ hk => hk) trivial (Below.refl _ _) (Nat.le_refl _) (by simp) ?_; (case hd => rfl); (case hg => rfl); (case hr => exact zz16); (case hp => exact (Reps.none _ _)); intro v441 w3 ho4 hb hg_ hnew_; clear hg_ hnew_; (first | rw [← Ny440.out] at ho4 | (simp only [Int.reduceToNat] at ho4; rw [← Ny440.out] at ho4)); have HO442 := A_ (Kd.R_lower ho4 (below_size (zz2 HB))); replace HB := A_ (bS (zz2 HB) hb); clear hb ho4))
 go_loopg [5, 6, 7] k (fun kq v5 v6 v7 w' => ∃ (x5_1 : List ByteArray) (x6_1 : ByteArray) (x7_1 : Bool), v6 = .string x6_1 ∧ v7 = .bool x7_1 ∧ Aside0 (spec_l1Split.l0 kq a1 x5_1 x6_1 x7_1 = some r) ∧ Aside0 (kq ≤ k) ∧ Aside0 (Kd.R Kd.string 9 w' w.heap.size (fun _ => True) v5 x5_1) ∧ Aside0 (Below w.heap.size w w'))
 case atStart => exact ⟨(y440), (a0), (true), zz5, zz5, H', ⟨Nat.le_refl _⟩, ⟨(zz18 HO442)⟩, ⟨(zz2 HB)⟩⟩
 case round =>
  clear H';obtain ⟨x5_1, x6_1, x7_1, rfl, rfl, HA, HK1, HO_5, HB⟩ := hrel;cases gk with
  | zero => exact absurd HA.out (by simp [spec_l1Split.l0])
  | succ k1 =>
   obtain ⟨H⟩ := HA;simp only [spec_l1Split.l0] at H
   replace H := iteB H;rcases H with ⟨rfl, H⟩ | ⟨rfl, H⟩
   ·replace H := Option.bind_eq_some_iff.mp H
    obtain ⟨⟨t443, t444, t445⟩, A60, H⟩ := H;replace H : (if x5_1.length < 8796093022208 then (spec_l1Split.l0 k1 a1 (x5_1 ++ [t443]) t444 t445) else (none)) = some r := H;have A6 := A_ A60;clear A60;replace H := iteN H;obtain ⟨c7, H⟩ := H;have LMc7 := A_ c7;clear c7;obtain ⟨y446, Ny446⟩ := toY (x5_1 ++ [t443]);(first | with_reducible replace H := bindZ Ny446 H | rw [← Ny446.out] at H | skip)
    have H' := A_ H;clear H;go_wp2_with (first | (refine gR 70 (some 15) Tryz.func70 (spec_l1Cut.calls k1 x6_1 a1 t443 t444 t445 _ A6.out) ?_; rintro w' ⟨nd, rfl⟩) | ((with_reducible refine gate_builtin (b := .append) (xs := #[.tmp 19, .tmp 21]) rfl ?_); at_builtin; refine Kd.R_append Kd.string (w0 := w) w.heap.size rfl (.tmp 19) (.tmp 21) 35 9 (.string ⟨#[]⟩) 16 rfl Tryz.underlying35 info9 rfl (by decide) (by omega) u5 x5_1 t443 [.string t443] (fun _ => True) (fun _ => False) rfl rfl ?aP (fun _ hk => hk.elim) ?aF ?aO ?aB ?aS ?aL ?_; (case aP => exact rfl); (case aB => exact (zz2 HB)); (case aF => exact (fun _ _ => trivial)); (case aO => exact (zz18 HO_5)); (case aS => exact (below_size (zz2 HB))); (case aL => exact (zz20 LMc7)); intro v447 w8 ho hb hg hat; rw [← Ny446.out] at ho; replace HB := A_ (hb); have HO448 := A_ (ho); clear HO_5; clear ho hb hg hat))
    go_roundg k1
    case measure => have := HK1.out; omega
    case rel => exact ⟨(y446), (t444), (t445), zz5, zz5, H', ⟨(zz20 HK1)⟩, ⟨(zz18 HO448)⟩, ⟨(zz2 HB)⟩⟩
   ·obtain rfl := sI H
    go_wp2
    go_ret
    exact ⟨_, zz11, (zz18 HO_5), (zz2 HB)⟩
mutual
def spec_PathClean.l0 : Nat → List ByteArray → List ByteArray → Int → Option (List ByteArray)
 | 0, _, _, _ => none
 | k + 1, x0, x3, x4 => if x4 < (x0.length : Int) then (if 0 ≤ x4 then (if (rdOf ByteArray.empty x0 x4).toList = ([] : List UInt8) then (spec_PathClean.j1 k x0 x3 x4 true) else (spec_PathClean.j1 k x0 x3 x4 ((rdOf ByteArray.empty x0 x4).toList == ([46] : List UInt8)))) else (none)) else (some x3)
def spec_PathClean.j1 : Nat → List ByteArray → List ByteArray → Int → Bool → Option (List ByteArray)
 | 0, _, _, _, _ => none
 | k + 1, x0, x3, x4, x19 => if x19 = true then (spec_PathClean.l0 k x0 x3 (wrap64 (x4 + 1))) else (if 0 ≤ x4 then (if x4 < (x0.length : Int) then (if (rdOf ByteArray.empty x0 x4).toList = ([46, 46] : List UInt8) then (if 0 ≤ (mx (wrap64 ((x3.length : Int) - 1)) 0) then (if (mx (wrap64 ((x3.length : Int) - 1)) 0) ≤ (x3.length : Int) then (spec_PathClean.l0 k x0 (x3.take ((mx (wrap64 ((x3.length : Int) - 1)) 0) : Int).toNat) (wrap64 (x4 + 1))) else (none)) else (none)) else (if x3.length < 8796093022208 then (spec_PathClean.l0 k x0 (x3 ++ [rdOf ByteArray.empty x0 x4]) (wrap64 (x4 + 1))) else (none))) else (none)) else (none))
end
def spec_PathClean.f (k : Nat) (l0 : List ByteArray) : Option (List ByteArray) := spec_PathClean.l0 k l0 (([] : List ByteArray)) 0
theorem spec_PathClean.calls (k : Nat) (A0 : Option Addr) (c0 : Nat) (l0 : List ByteArray) (r : List ByteArray) (w : World) (hr0 : Kd.C Kd.string w A0 l0.length l0) (hc0 : l0.length ≤ c0) (h : spec_PathClean.f k l0 = some r) :
  Calls Tryz.prog 121 #[.slice A0 l0.length c0] w fun e w' => ∃ v0_ : Value, e = .returned (v0_) ∧ Kd.R Kd.string 9 w' w.heap.size (fun _ => True) v0_ r ∧ Below w.heap.size w w' := by
 have HR0 := A_ hr0;have HC0 := A_ hc0;clear hr0 hc0;have HB := A_ (Below.refl w.heap.size w);unfold spec_PathClean.f at h
 have H := h;clear h;obtain ⟨y449, Ny449⟩ := toY (([] : List ByteArray));(first | with_reducible replace H := bindZ Ny449 H | rw [← Ny449.out] at H | skip)
 have H' := A_ H;clear H;go_enter Tryz.func121, Tryz.ntmps121;go_wp2_with (first | ((with_reducible refine gD (N := 5) rfl ?_); refine Kd.R_lit Kd.string _ 9 ?hg (N := 5) ?hd (xs := ([] : List ByteArray)) (inner := []) (ok := fun _ => True) (okp := fun _ => True) ?hr ?hp (fun _ hk => hk) trivial (Below.refl _ _) (Nat.le_refl _) (by simp) ?_; (case hd => rfl); (case hg => rfl); (case hr => exact zz16); (case hp => exact (Reps.none _ _)); intro v450 w2 ho3 hb hg_ hnew_; clear hg_ hnew_; (first | rw [← Ny449.out] at ho3 | (simp only [Int.reduceToNat] at ho3; rw [← Ny449.out] at ho3)); have HO451 := A_ (Kd.R_lower ho3 (below_size (zz2 HB))); replace HB := A_ (bS (zz2 HB) hb); clear hb ho3))
 go_loopg [3, 4] k (fun kq v3 v4 w' => ∃ (x3_1 : List ByteArray) (x4_1 : Int), v4 = .int .i64 x4_1 ∧ Aside0 (spec_PathClean.l0 kq l0 x3_1 x4_1 = some r) ∧ Aside0 (kq ≤ k) ∧ Aside0 (Kd.R Kd.string 9 w' w.heap.size (fun _ => True) v3 x3_1) ∧ Aside0 (Below w.heap.size w w'))
 case atStart => exact ⟨(y449), (0), zz5, H', ⟨Nat.le_refl _⟩, ⟨(zz18 HO451)⟩, ⟨(zz2 HB)⟩⟩
 case round =>
  clear H';obtain ⟨x3_1, x4_1, rfl, HA, HK1, HO_3, HB⟩ := hrel;cases gk with
  | zero => exact absurd HA.out (by simp [spec_PathClean.l0])
  | succ k1 =>
   obtain ⟨H⟩ := HA;simp only [spec_PathClean.l0] at H
   replace H := iteEd H;rcases H with ⟨c4b0, H⟩ | ⟨c4b0, H⟩
   ·have HC5 := A_ H
    clear H;go_upto_region 6 with (fail)
    go_cut [19] (fun v19 wc => ∃ (kq : Nat) (x19_4 : Bool), v19 = .bool x19_4 ∧ Aside0 (spec_PathClean.j1 kq l0 x3_1 x4_1 x19_4 = some r) ∧ Aside0 (kq ≤ k1) ∧ Aside0 (Kd.R Kd.string 9 wc w.heap.size (fun _ => True) u3 x3_1) ∧ Aside0 (Below w.heap.size w wc))
    case first =>
     obtain ⟨H⟩ := HC5;replace H := iteNd H;obtain ⟨c6b0, H⟩ := H;(first | rw [c6b0] | (simp only [i64_w, i32_w]; rw [c6b0]) | skip)
     replace H := iteEq H;rcases H with ⟨c7b0, c7b1, H⟩ | ⟨c7b0, c7b1, c7, H⟩
     ·have H' := A_ H
      clear H;obtain ⟨⟨ad452, e452, hx452_0⟩, p452, q452⟩ := atB (Kd.at_string HR0.out x4_1);cases e452
      replace hx452_0 := cbl HB hx452_0;go_wp2
      go_meet
      case rel => exact ⟨_, (true), zz5, H', ⟨(zz25 HK1)⟩, ⟨(zz18 HO_3)⟩, ⟨(zz2 HB)⟩⟩
     ·have H' := A_ H
      clear H;obtain ⟨⟨ad452, e452, hx452_0⟩, p452, q452⟩ := atB (Kd.at_string HR0.out x4_1);cases e452
      replace hx452_0 := cbl HB hx452_0;obtain ⟨⟨ad453, e453, hx453_0⟩, p453, q453⟩ := atB (Kd.at_string HR0.out x4_1);obtain rfl : ad452 = ad453 := (by injection e453);replace hx453_0 := cbl HB hx453_0;go_wp2
      go_meet
      case rel => exact ⟨_, (((rdOf ByteArray.empty l0 x4_1).toList == ([46] : List UInt8))), zz5, H', ⟨(zz25 HK1)⟩, ⟨(zz18 HO_3)⟩, ⟨(zz2 HB)⟩⟩
    case rest =>
     clear HC5;obtain ⟨kq, x19_4, rfl, HA, HJ4, HO_3, HB⟩ := hcut;cases kq with
     | zero => exact absurd HA.out (by simp [spec_PathClean.j1])
     | succ kj4 =>
      obtain ⟨H⟩ := HA;simp only [spec_PathClean.j1] at H
      replace H := iteB H;rcases H with ⟨rfl, H⟩ | ⟨rfl, H⟩
      ·have H' := A_ H
       clear H;go_wp2
       go_roundg kj4
       case measure => have := HK1.out; have := HJ4.out; omega
       case rel => exact ⟨(x3_1), (wrap64 (x4_1 + 1)), zz5, H', ⟨(zz33 HK1 HJ4)⟩, ⟨(zz18 HO_3)⟩, ⟨(zz2 HB)⟩⟩
      ·replace H := iteN H
       obtain ⟨c9, H⟩ := H;have c9b0 := dT c9;clear c9;replace H := iteNd H;obtain ⟨c10b0, H⟩ := H;replace H := iteEq H;rcases H with ⟨c11b0, c11b1, H⟩ | ⟨c11b0, c11b1, c11, H⟩
       ·obtain ⟨ji12, hji12⟩ : ∃ j_ : Int, (mx (wrap64 ((x3_1.length : Int) - 1)) 0) = j_ := ⟨_, rfl⟩
        (first | rw [hji12] at H | simp only [hji12] at H)
        have hji12_ : (if (wrap64 ((x3_1.length : Int) - 1)) < 0 then 0 else (wrap64 ((x3_1.length : Int) - 1))) = ji12 := hji12;replace H := iteN H;obtain ⟨c13, H⟩ := H;have c13b0 := eq_true c13;have c13b1 := dT c13;clear c13;replace H := iteN H;obtain ⟨c14, H⟩ := H;have c14b0 := eq_true c14;have c14b1 := dT c14;clear c14;obtain ⟨y455, Ny455⟩ := toY (x3_1.take ((ji12) : Int).toNat);(first | with_reducible replace H := bindZ Ny455 H | rw [← Ny455.out] at H | skip)
        have H' := A_ H;clear H;obtain ⟨⟨ad454, e454, hx454_0⟩, p454, q454⟩ := atB (Kd.at_string HR0.out x4_1);cases e454
        replace hx454_0 := cbl HB hx454_0;obtain ⟨Ao15, co15, eo15⟩ := Kd.R_slice HO_3.out;subst eo15;have q16 : ((ji12) : Int) ≤ ((x3_1.length : Int) : Int) := ofD;obtain ⟨i016, hi016, _, hsz16, _⟩ := info_parts info9;have hcut16 := cut_to (P := Tryz.prog) 35 9 .i64 Tryz.underlying35 hi016 Ao15 x3_1.length co15 (ji12) ofD q16 (Kd.R_reads' HO_3.out).2.1;have hr16 := Kd.R_take (m := ((ji12) : Int).toNat) HO_3.out (by omega);have hy16 : y455.length = ((ji12) : Int).toNat := (by rw [Ny455.out, List.length_take]; omega);rw [← Ny455.out] at hr16;rw [← hy16] at hr16 hcut16;clear hy16 hi016 hsz16 HO_3;have HO457 := A_ hr16;clear hr16;replace q16 := eq_true q16;go_wp2
        go_roundg kj4
        case measure => have := HK1.out; have := HJ4.out; omega
        case rel => exact ⟨(y455), (wrap64 (x4_1 + 1)), zz5, H', ⟨(zz33 HK1 HJ4)⟩, ⟨(zz18 HO457)⟩, ⟨(zz2 HB)⟩⟩
       ·replace H := iteN H
        obtain ⟨c17, H⟩ := H;have LMc17 := A_ c17;clear c17;obtain ⟨y459, Ny459⟩ := toY (x3_1 ++ [rdOf ByteArray.empty l0 x4_1]);(first | with_reducible replace H := bindZ Ny459 H | rw [← Ny459.out] at H | skip)
        have H' := A_ H;clear H;obtain ⟨⟨ad454, e454, hx454_0⟩, p454, q454⟩ := atB (Kd.at_string HR0.out x4_1);cases e454
        replace hx454_0 := cbl HB hx454_0;obtain ⟨⟨ad458, e458, hx458_0⟩, p458, q458⟩ := atB (Kd.at_string HR0.out x4_1);obtain rfl : ad454 = ad458 := (by injection e458);replace hx458_0 := cbl HB hx458_0;go_wp2_with (first | ((with_reducible refine gate_builtin (b := .append) (xs := #[.tmp 12, .tmp 17]) rfl ?_); at_builtin; refine Kd.R_append Kd.string (w0 := w) w.heap.size rfl (.tmp 12) (.tmp 17) 35 9 (.string ⟨#[]⟩) 16 rfl Tryz.underlying35 info9 rfl (by decide) (by omega) u3 x3_1 (rdOf ByteArray.empty l0 x4_1) [.string (rdOf ByteArray.empty l0 x4_1)] (fun _ => True) (fun _ => False) rfl rfl ?aP (fun _ hk => hk.elim) ?aF ?aO ?aB ?aS ?aL ?_; (case aP => exact rfl); (case aB => exact (zz2 HB)); (case aF => exact (fun _ _ => trivial)); (case aO => exact (zz18 HO_3)); (case aS => exact (below_size (zz2 HB))); (case aL => exact (zz20 LMc17)); intro v460 w18 ho hb hg hat; rw [← Ny459.out] at ho; replace HB := A_ (hb); have HO461 := A_ (ho); clear HO_3; clear ho hb hg hat))
        go_roundg kj4
        case measure => have := HK1.out; have := HJ4.out; omega
        case rel => exact ⟨(y459), (wrap64 (x4_1 + 1)), zz5, H', ⟨(zz33 HK1 HJ4)⟩, ⟨(zz18 HO461)⟩, ⟨(zz2 HB)⟩⟩
   ·obtain rfl := sI H
    go_wp2
    go_ret
    exact ⟨_, zz11, (zz18 HO_3), (zz2 HB)⟩
def spec_l1Way.l0 : Nat → ByteArray → Bool → List ByteArray → List ByteArray → Int → ByteArray → List ByteArray → Bool → ByteArray → Option (ByteArray × List ByteArray × Bool × ByteArray × Bool)
 | 0, _, _, _, _, _, _, _, _, _ => none
 | k + 1, x6, x7, x8, x9, x10, x463000, x463001, x463002, x463003 => if x10 < (x9.length : Int) then (if 0 ≤ x10 then ((spec_EscNorm.f k (rdOf ByteArray.empty x9 x10)).bind fun bt477 => (if bt477.2 = true then (if x8.length < 8796093022208 then (spec_l1Way.l0 k x6 x7 (x8 ++ [bt477.1]) x9 (wrap64 (x10 + 1)) x463000 x463001 x463002 x463003) else (none)) else (some ((⟨#[]⟩ : ByteArray), ([] : List ByteArray), false, (⟨#[]⟩ : ByteArray), false)))) else (none)) else ((spec_EscNorm.f k x6).bind fun bt482 => ((spec_PathClean.f k x8).bind fun t484 => (if bt482.2 = true then ((spec_AddrOk.f k x463000 t484 x7 bt482.1).bind fun t488 => (if t488 = true then (some (x463000, t484, x7, bt482.1, true)) else (some ((⟨#[]⟩ : ByteArray), ([] : List ByteArray), false, (⟨#[]⟩ : ByteArray), false)))) else (some ((⟨#[]⟩ : ByteArray), ([] : List ByteArray), false, (⟨#[]⟩ : ByteArray), false)))))
def spec_l1Way.f (k : Nat) (a0_0 : ByteArray) (l0_1 : List ByteArray) (a0_2 : Bool) (a0_3 : ByteArray) (a1 : ByteArray) : Option (ByteArray × List ByteArray × Bool × ByteArray × Bool) := (spec_l1Cut.f k a1 63).bind fun bt464 => ((some (([] : List ByteArray) : List ByteArray)).bind fun y467 => (if y467.length + l0_1.length < 8796093022208 then ((spec_l1Split.f k bt464.1 47).bind fun t473 => (spec_l1Way.l0 k bt464.2.1 bt464.2.2 (y467 ++ l0_1) t473 0 a0_0 l0_1 a0_2 a0_3)) else (none)))
def spec_l1Way.T12 : Bool × List (List Nat × List Nat) := (true, [([], []), ([0], [0]), ([], []), ([2], [2]), ([], []), ([], []), ([1, 3, 4, 5], [1, 3, 4, 5]), ([], []), ([7, 6, 3, 0, 1, 2, 3, 4, 5, 6, 7], [6, 7])])
def spec_l1Way.B12 : List Nat := [0, 1, 0, 4, 0, 0, 63, 0, 255]
theorem spec_l1Way.tab12 : rtab .any (opsOf Tryz.f96 12) = spec_l1Way.T12 := by kernel_rfl
theorem spec_l1Way.bits12 : waitsOk spec_l1Way.T12.2 spec_l1Way.B12 = true := by kernel_rfl
theorem spec_l1Way.calls (k : Nat) (a0_0 : ByteArray) (A0_1 : Option Addr) (c0_1 : Nat) (l0_1 : List ByteArray) (a0_2 : Bool) (a0_3 : ByteArray) (a1 : ByteArray) (r1 : ByteArray) (r2 : List ByteArray) (r3 : Bool) (r4 : ByteArray) (r5 : Bool) (w : World) (hr0_1 : Kd.C Kd.string w A0_1 l0_1.length l0_1) (hc0_1 : l0_1.length ≤ c0_1) (h : spec_l1Way.f k a0_0 l0_1 a0_2 a0_3 a1 = some (r1, r2, r3, r4, r5)) :
  Calls Tryz.prog 96 #[.agg #[.string a0_0, .slice A0_1 l0_1.length c0_1, .bool a0_2, .string a0_3], .string a1] w fun e w' => ∃ v1_ : Value, e = .returned (.tuple #[.agg #[.string r1, v1_, .bool r3, .string r4], .bool r5]) ∧ Kd.R Kd.string 9 w' w.heap.size (fun _ => True) v1_ r2 ∧ Below w.heap.size w w' := by
 have hu39 := Tryz.underlying39;have HR0_1 := A_ hr0_1;have HC0_1 := A_ hc0_1;clear hr0_1 hc0_1;have HB := A_ (Below.refl w.heap.size w);unfold spec_l1Way.f at h
 have H := h;clear h;replace H := bindA H;obtain ⟨⟨t464, t465, t466⟩, A3, H⟩ := H;try dsimp only at H
 obtain ⟨y467, Ny467⟩ := toY (([] : List ByteArray));(first | with_reducible replace H := bindZ Ny467 H | rw [← Ny467.out] at H | skip)
 replace H := iteE H;rcases H with ⟨c4, H⟩ | ⟨c4, H⟩
 ·have LMc4 := A_ c4
  clear c4;obtain ⟨y470, Ny470⟩ := toY (y467 ++ l0_1);(first | with_reducible replace H := bindZ Ny470 H | rw [← Ny470.out] at H | skip)
  replace H := bindA H;obtain ⟨t473, A5, H⟩ := H;have H' := A_ H;clear H;go_enter Tryz.func96, Tryz.ntmps96;go_wp2_with (first | (refine boxF 2 #[.string a0_0, .slice A0_1 l0_1.length c0_1, .bool a0_2, .string a0_3] 39 ?_; intro gb462 hg w6 BK462 hb; have GE462 := geB hg (zz2 HB); replace HB := A_ (bS (zz2 HB) hb); clear hb hg) | (refine boxF 4 #[.string (⟨#[]⟩ : ByteArray), .slice none 0 0, .bool false, .string (⟨#[]⟩ : ByteArray)] 39 ?_; intro gb463 hg w7 BK463 hb; have GE463 := geB hg (zz4 HB GE462); replace HB := A_ (bS (zz4 HB GE462) hb); have NB462_463 := A_ ((by rw [hg]; exact Nat.ne_of_lt (blk_lt (zz3 BK462)) : gb462 ≠ gb463)); have NB463_462 := A_ ((by rw [hg]; exact Nat.ne_of_gt (blk_lt (zz3 BK462)) : gb463 ≠ gb462)); replace BK462 := A_ (bB (zz3 BK462) hb); clear hb hg) | (refine gR 70 (some 18) Tryz.func70 (spec_l1Cut.calls k a1 63 t464 t465 t466 _ A3.out) ?_; rintro w' ⟨nd, rfl⟩) | ((with_reducible refine gD (N := 22) rfl ?_); refine Kd.R_lit Kd.string _ 9 ?hg (N := 22) ?hd (xs := ([] : List ByteArray)) (inner := []) (ok := fun _ => True) (okp := fun _ => True) ?hr ?hp (fun _ hk => hk) trivial (Below.refl _ _) (Nat.le_refl _) (by simp) ?_; (case hd => rfl); (case hg => rfl); (case hr => exact zz16); (case hp => exact (Reps.none _ _)); intro v468 w8 ho9 hb hg_ hnew_; clear hg_ hnew_; (first | rw [← Ny467.out] at ho9 | (simp only [Int.reduceToNat] at ho9; rw [← Ny467.out] at ho9)); have HO469 := A_ (Kd.R_lower ho9 (below_size (zz150 HB GE462 GE463))); replace BK462 := A_ (bB (zz3 BK462) hb); replace BK463 := A_ (bB (zz3 BK463) hb); replace HB := A_ (bS (zz150 HB GE462 GE463) hb); clear hb ho9; have hnb10 := NB462_463.out; have hnc10 := NB463_462.out; obtain ⟨_, _, _, _, _, _, _, _⟩ := cf4 BK462) | ((with_reducible refine gate_builtin (b := .append) (xs := #[.tmp 22, .tmp 24]) rfl ?_); at_builtin; refine Kd.R_append_rows Kd.string (w0 := w) w.heap.size rfl (.tmp 22) (.tmp 24) 35 9 (.string ⟨#[]⟩) 16 rfl Tryz.underlying35 info9 rfl (by decide) (by omega) v468 y467 l0_1 _ _ _ (fun _ => True) (fun _ => False) rfl rfl ?aO ?aR (fun _ _ h => h) (fun _ h => h.elim) ?aF ?aB ?aS ?aL ?_; (case aR => exact (zz21 HR0_1 HB)); (case aB => exact (zz150 HB GE462 GE463)); (case aF => exact (fun _ _ => trivial)); (case aO => exact (zz18 HO469)); (case aS => exact (below_size (zz150 HB GE462 GE463))); (case aL => exact (zz20 LMc4)); intro v471 w12 ho hb hg hat; rw [← Ny470.out] at ho; replace BK462 := A_ (blk_grown (zz3 BK462) hg (Kd.R_ne HO469.out BK462.out (by decide))); replace BK463 := A_ (blk_grown (zz3 BK463) hg (Kd.R_ne HO469.out BK463.out (by decide))); replace HB := A_ (hb); have HO472 := A_ (ho); clear HO469; clear ho hb hg hat) | (refine gV 119 (some 27) Tryz.func119 (spec_l1Split.calls k t464 47 t473 _ A5.out) ?_; rintro v474 w13 ⟨ho0, hb⟩; have HO475 := A_ (Kd.R_lower (Kd.R_new' ho0 (Kd.R_lt (zz18 HO472))) (below_size (zz150 HB GE462 GE463))); replace HO472 := A_ (Kd.R_elder' (zz18 HO472) (Kd.R_base ho0) hb); replace BK462 := A_ (bB (zz3 BK462) hb); replace BK463 := A_ (bB (zz3 BK463) hb); replace HB := A_ (bS (zz150 HB GE462 GE463) hb); (try clear hb ho0)))
  go_loopg [8, 10] k (fun kq v8 v10 w' => ∃ (x8_1 : List ByteArray) (x10_1 : Int) (x464000_1 : ByteArray) (x464002_1 : Bool) (x464003_1 : ByteArray), v10 = .int .i64 x10_1 ∧ Aside0 (spec_l1Way.l0 kq t465 t466 x8_1 t473 x10_1 a0_0 l0_1 a0_2 a0_3 = some (r1, r2, r3, r4, r5)) ∧ Aside0 (kq ≤ k) ∧ Aside0 (Kd.R Kd.string 9 w' w.heap.size (fun k_ => some k_ ≠ (v474 : Value).ownBlock) v8 x8_1) ∧ Aside0 (Kd.R Kd.string 9 w' w.heap.size (fun k_ => some k_ ≠ (v8 : Value).ownBlock) v474 t473) ∧ Aside0 (w'.heap[gb462]? = some (.cells #[.string a0_0, (.slice A0_1 l0_1.length c0_1), .bool a0_2, .string a0_3] 39 (0, 0))) ∧ Aside0 (w'.heap[gb463]? = some (.cells #[.string x464000_1, (.slice none 0 0), .bool x464002_1, .string x464003_1] 39 (0, 0))) ∧ Aside0 (Below w.heap.size w w'))
  case atStart => exact ⟨(y470), (0), ((⟨#[]⟩ : ByteArray)), (false), ((⟨#[]⟩ : ByteArray)), zz5, H', ⟨Nat.le_refl _⟩, ⟨(zz44 HO472)⟩, ⟨(zz44 HO475)⟩, ⟨(zz3 BK462)⟩, ⟨(zz3 BK463)⟩, ⟨(zz150 HB GE462 GE463)⟩⟩
  case round =>
   clear H';obtain ⟨x8_1, x10_1, x464000_1, x464002_1, x464003_1, rfl, HA, HK1, HO_8, HO_9, BK462, BK463, HB⟩ := hrel;cases gk with
   | zero => exact absurd HA.out (by simp [spec_l1Way.l0])
   | succ k1 =>
    obtain ⟨H⟩ := HA;simp only [spec_l1Way.l0] at H
    replace H := iteEd H;rcases H with ⟨c14b0, H⟩ | ⟨c14b0, H⟩
    ·replace H := iteNd H
     obtain ⟨c15b0, H⟩ := H;replace H := bindA H;obtain ⟨⟨t477, t478⟩, A16, H⟩ := H;try dsimp only at H
     have HF17 := A_ H;clear H;obtain ⟨Ao18, co18, eo18⟩ := Kd.R_slice HO_9.out;subst eo18;obtain ⟨⟨ad476, e476, hx476_0⟩, p476, q476⟩ := atB (Kd.at_string (Kd.R_reads' HO_9.out).2.2 x10_1);cases e476
     go_upto_if 43 with (first | (refine gR 120 (some 39) Tryz.func120 (spec_EscNorm.calls k1 (rdOf ByteArray.empty t473 x10_1) t477 t478 _ A16.out) ?_; rintro w19 hb; replace HO_8 := A_ (rB (zz18 HO_8) hb); replace HO_9 := A_ (rB (zz18 HO_9) hb); replace BK462 := A_ (bB (zz3 BK462) hb); replace BK463 := A_ (bB (zz3 BK463) hb); replace HB := A_ (bS (zz150 HB GE462 GE463) hb); (try clear hb)))
     obtain ⟨H⟩ := HF17;replace H := iteB H;rcases H with ⟨rfl, H⟩ | ⟨rfl, H⟩
     ·replace H := iteN H
      obtain ⟨c21, H⟩ := H;have LMc21 := A_ c21;clear c21;obtain ⟨y479, Ny479⟩ := toY (x8_1 ++ [t477]);(first | with_reducible replace H := bindZ Ny479 H | rw [← Ny479.out] at H | skip)
      have H' := A_ H;clear H;go_wp2_with (first | ((with_reducible refine gate_builtin (b := .append) (xs := #[.tmp 45, .tmp 47]) rfl ?_); at_builtin; refine Kd.R_append Kd.string (w0 := w) w.heap.size rfl (.tmp 45) (.tmp 47) 35 9 (.string ⟨#[]⟩) 16 rfl Tryz.underlying35 info9 rfl (by decide) (by omega) u8 x8_1 t477 [.string t477] (fun k_ => some k_ ≠ (.slice (some ad476) t473.length co18 : Value).ownBlock) (fun _ => False) rfl rfl ?aP (fun _ hk => hk.elim) ?aF ?aO ?aB ?aS ?aL ?_; (case aP => exact rfl); (case aB => exact (zz150 HB GE462 GE463)); (case aF => exact (fun k_ hk => Kd.fresh' (Kd.R_lt (zz18 HO_9)) k_ hk)); (case aO => exact (zz18 HO_8)); (case aS => exact (below_size (zz150 HB GE462 GE463))); (case aL => exact (zz20 LMc21)); intro v480 w22 ho hb hg hat; rw [← Ny479.out] at ho; replace HO_9 := A_ (Kd.R_after (ok := (fun _ => True)) (zz152 HO_9) hg hat); replace BK462 := A_ (blk_grown (zz3 BK462) hg (Kd.R_ne HO_8.out BK462.out (by decide))); replace BK463 := A_ (blk_grown (zz3 BK463) hg (Kd.R_ne HO_8.out BK463.out (by decide))); replace HB := A_ (hb); have HO481 := A_ (ho); clear HO_8; clear ho hb hg hat))
      go_roundg k1
      case measure => have := HK1.out; omega
      case rel => exact ⟨(y479), (wrap64 (x10_1 + 1)), (x464000_1), (x464002_1), (x464003_1), zz5, H', ⟨(zz20 HK1)⟩, ⟨(zz18 HO481)⟩, ⟨(zz44 HO_9)⟩, ⟨(zz3 BK462)⟩, ⟨(zz3 BK463)⟩, ⟨(zz150 HB GE462 GE463)⟩⟩
     ·simp only [Option.some.injEq, Prod.mk.injEq] at H
      obtain ⟨rfl, rfl, rfl, rfl, rfl⟩ := H;have hnb23 := NB463_462.out;have hnc23 := NB462_463.out;obtain ⟨_, _, _, _, _, _, _, _⟩ := cf4 BK463;go_wp2
      refine pR (results_ct rfl _ _ gb463 39 #[.string (⟨#[]⟩ : ByteArray), .slice none 0 0, .bool false, .string (⟨#[]⟩ : ByteArray)] (0, 0) _ rfl (zz39 BK463) Tryz.underlying39 rfl (by kernel_rfl)) rfl ?_;exact ⟨_, zz11, zz41, (zz150 HB GE462 GE463)⟩
    ·replace H := Option.bind_eq_some_iff.mp H
     obtain ⟨⟨t482, t483⟩, A250, H⟩ := H;replace H : ((spec_PathClean.f k1 x8_1).bind fun t484 => (if t483 = true then ((spec_AddrOk.f k1 a0_0 t484 t466 t482).bind fun t488 => (if t488 = true then (some (a0_0, t484, t466, t482, true)) else (some ((⟨#[]⟩ : ByteArray), ([] : List ByteArray), false, (⟨#[]⟩ : ByteArray), false)))) else (some ((⟨#[]⟩ : ByteArray), ([] : List ByteArray), false, (⟨#[]⟩ : ByteArray), false)))) = some (r1, r2, r3, r4, r5) := H;have A25 := A_ A250;clear A250;replace H := bindA H;obtain ⟨t484, A26, H⟩ := H;have HF27 := A_ H;clear H;obtain ⟨Ao28, co28, eo28⟩ := Kd.R_slice HO_9.out;subst eo28;try go_wp2_with (first | (refine gR 120 (some 51) Tryz.func120 (spec_EscNorm.calls k1 t465 t482 t483 _ A25.out) ?_; rintro w29 hb; replace HO_8 := A_ (rB (zz18 HO_8) hb); replace HO_9 := A_ (rB (zz18 HO_9) hb); replace BK462 := A_ (bB (zz3 BK462) hb); replace BK463 := A_ (bB (zz3 BK463) hb); replace HB := A_ (bS (zz150 HB GE462 GE463) hb); (try clear hb); obtain ⟨Ao30, co30, eo30⟩ := Kd.R_slice HO_8.out; subst eo30))
     replace HO_8 := A_ (Kd.R_drew HO_8.out);replace HO_9 := A_ (Kd.R_drew HO_9.out);replace BK462 := A_ (blk_drew BK462.out);replace BK463 := A_ (blk_drew BK463.out);replace HB := A_ (below_drew1 HB.out);refine start_ (n := 9) (S := fun w' => w'.cell? ⟨gb462, 0, none⟩ = some (.string a0_0) ∧ w'.cell? ⟨gb462, 1, none⟩ = some (.slice A0_1 l0_1.length c0_1) ∧ w'.cell? ⟨gb462, 2, none⟩ = some (.bool a0_2) ∧ w'.cell? ⟨gb462, 3, none⟩ = some (.string a0_3)) (ds := []) #[false, false, false, false, false, false, false, false, false] (by kernel_rfl) rfl rfl ⟨(blk_cell BK462.out 0).trans rfl, (blk_cell BK462.out 1).trans rfl, (blk_cell BK462.out 2).trans rfl, (blk_cell BK462.out 3).trans rfl⟩ (fun hHeld => ?_); refine with_tabW spec_l1Way.tab12 spec_l1Way.bits12 (fun HT_ HW_ => ?_);generalize w29.drew = w31 at HO_8 HO_9 BK462 BK463 HB hHeld ⊢;refine pureZ 0 (some 54) #[true, false, false, false, false, false, false, false, false] ?_;refine pureZ 2 (some 56) #[true, false, true, false, false, false, false, false, false] ?_;refine pureZ 4 (some 58) #[true, false, true, false, true, false, false, false, false] ?_;refine pureZ 5 (some 59) #[true, false, true, false, true, true, false, false, false] ?_;refine takeZ4 1 (some 55) #[true, true, true, false, true, true, false, false, false] hHeld ?_;refine join_ (σ := Value × Nat) 1 #[true, true, true, true, true, true, true, true, false] (fun s_ => [(57, s_.1), (15, .pointer (some ⟨s_.2, 0, none⟩)), (60, .agg #[.string a0_0, s_.1, .bool t466, .string t482])]) (fun s_ w' => (w'.cell? ⟨gb462, 0, none⟩ = some (.string a0_0) ∧ w'.cell? ⟨gb462, 1, none⟩ = some (.slice A0_1 l0_1.length c0_1) ∧ w'.cell? ⟨gb462, 2, none⟩ = some (.bool a0_2) ∧ w'.cell? ⟨gb462, 3, none⟩ = some (.string a0_3)) ∧ (Kd.R Kd.string 9 w' w.heap.size (fun k_ => some k_ ≠ (.slice Ao30 x8_1.length co30 : Value).ownBlock ∧ some k_ ≠ (.slice Ao28 t473.length co28 : Value).ownBlock) s_.1 t484) ∧ (Kd.R Kd.string 9 w' w.heap.size (fun k_ => some k_ ≠ (s_.1 : Value).ownBlock ∧ some k_ ≠ (.slice Ao28 t473.length co28 : Value).ownBlock) (.slice Ao30 x8_1.length co30) x8_1) ∧ (Kd.R Kd.string 9 w' w.heap.size (fun k_ => some k_ ≠ (s_.1 : Value).ownBlock ∧ some k_ ≠ (.slice Ao30 x8_1.length co30 : Value).ownBlock) (.slice Ao28 t473.length co28) t473) ∧ (w'.heap[gb462]? = some (.cells #[.string a0_0, .slice A0_1 l0_1.length c0_1, .bool a0_2, .string a0_3] 39 (0, 0))) ∧ (w'.heap[gb463]? = some (.cells #[.string x464000_1, .slice none 0 0, .bool x464002_1, .string x464003_1] 39 (0, 0))) ∧ (w'.heap[s_.2]? = some (.cells #[.string (⟨#[]⟩ : ByteArray), .slice none 0 0, .bool false, .string (⟨#[]⟩ : ByteArray)] 39 (0, 0))) ∧ (w.heap.size ≤ s_.2) ∧ (w.heap.size ≤ s_.2) ∧ (gb462 ≠ s_.2) ∧ (s_.2 ≠ gb462) ∧ (gb463 ≠ s_.2) ∧ (s_.2 ≠ gb463) ∧ (Below w.heap.size w w')) ?_ ?_;rotate_left
     ·intro hCont
      refine two_ (i := 3) (j := 7) (Ni := some 57) (Nj := some 15) #[true, true, true, true, true, true, false, false, false] #[true, true, true, false, true, true, false, true, false] rfl rfl rfl rfl (two_of HT_.out (by kernel_rfl)) (by decide) (by decide) (fun K hK => ?_) (fun K hK => ?_)
      ·skip
       refine goes_ Tryz.func121 (by kernel_rfl) rfl #[.slice Ao30 x8_1.length co30] (by rfl) rfl rfl zz17 ?_;with_reducible refine (spec_PathClean.calls k1 _ _ x8_1 t484 _ ?side1 ?side2 A26.out).mono ?_
       (case side1 => exact (zz43 HO_8))
       (case side2 => exact (Kd.R_reads' HO_8.out).2.1)
       rintro e w32 ⟨v485, rfl, ho0, hb⟩;refine ⟨_, rfl, ?_⟩;have HO486 := A_ (Kd.R_lower (Kd.R_new' (Kd.R_new' ho0 (Kd.R_lt (zz18 HO_8))) (Kd.R_lt (zz18 HO_9))) (below_size (zz150 HB GE462 GE463)));replace HO_8 := A_ (Kd.R_elder' (zz18 HO_8) (Kd.R_base ho0) hb);replace HO_9 := A_ (Kd.R_elder' (zz18 HO_9) (Kd.R_base ho0) hb);replace BK462 := A_ (bB (zz3 BK462) hb);replace BK463 := A_ (bB (zz3 BK463) hb);replace HB := A_ (bS (zz150 HB GE462 GE463) hb);(try clear hb)
       (try clear hb2)
       (try clear hk)
       (try clear hi)
       (try clear ho0)
       obtain ⟨Ao33, co33, eo33⟩ := Kd.R_slice HO486.out;(first | subst eo33 | (injection eo33 with f1_ f2_ f3_; have f4_ := f1_.symm; have f5_ := f3_.symm; clear f1_ f2_ f3_; subst f4_; subst f5_))
       refine hK.out _ _ ⟨(blk_cell BK462.out 0).trans rfl, (blk_cell BK462.out 1).trans rfl, (blk_cell BK462.out 2).trans rfl, (blk_cell BK462.out 3).trans rfl⟩ (fun hHeld => ?_);clear hK K;refine norm_ (a' := ?_) ?_ ?_;rotate_left
       ·show Act.put _ (some 57) _ = _
        simp only [Act.put, List.setIfInBounds_toArray, List.set_cons_zero, List.set_cons_succ, i64_w, i32_w]
        rfl
       refine pureZ 6 (some 60) #[true, true, true, true, true, true, true, false, false] ?_;refine one_ (i := 7) (N := some 15) #[true, true, true, true, true, true, true, true, false] rfl rfl (one_of HT_.out (by kernel_rfl)) (by decide) (fun K hK => ?_);refine box_step ?hg (N := 15) ?hd (cs := #[.string (⟨#[]⟩ : ByteArray), .slice none 0 0, .bool false, .string (⟨#[]⟩ : ByteArray)]) (t := 39) ?hr ?_; (case hd => rfl); (case hg => rfl); (case hr => exact zz16);intro gb487 hg w34 hbox hb;replace HO_8 := A_ (rB (zz18 HO_8) hb);replace HO_9 := A_ (rB (zz18 HO_9) hb);replace HO486 := A_ (rB (zz18 HO486) hb);have BK487 := A_ (hbox);have GW487 := A_ ((by rw [hg]; exact (below_size (zz150 HB GE462 GE463)) : w.heap.size ≤ gb487));have GE487 := A_ ((by rw [hg]; exact (below_size (zz150 HB GE462 GE463)) : w.heap.size ≤ gb487));replace HB := A_ (bS (zz150 HB GE462 GE463) hb);have NB462_487 := A_ ((by rw [hg]; exact Nat.ne_of_lt (blk_lt (zz3 BK462)) : gb462 ≠ gb487));have NB487_462 := A_ ((by rw [hg]; exact Nat.ne_of_gt (blk_lt (zz3 BK462)) : gb487 ≠ gb462));replace BK462 := A_ (bB (zz3 BK462) hb);have NB463_487 := A_ ((by rw [hg]; exact Nat.ne_of_lt (blk_lt (zz3 BK463)) : gb463 ≠ gb487));have NB487_463 := A_ ((by rw [hg]; exact Nat.ne_of_gt (blk_lt (zz3 BK463)) : gb487 ≠ gb463));replace BK463 := A_ (bB (zz3 BK463) hb);clear hb hbox hg;refine hK.out _ _ ⟨(blk_cell BK462.out 0).trans rfl, (blk_cell BK462.out 1).trans rfl, (blk_cell BK462.out 2).trans rfl, (blk_cell BK462.out 3).trans rfl⟩ (fun hHeld => ?_);clear hK K;refine norm_ (a' := ?_) ?_ ?_;rotate_left
       ·show Act.put _ (some 15) _ = _
        simp only [Act.put, List.setIfInBounds_toArray, List.set_cons_zero, List.set_cons_succ, i64_w, i32_w]
        rfl
       exact norm_ viaP (hCont (.slice Ao33 t484.length co33, gb487) _ ⟨hHeld, (zz72 HO486), (zz153 HO_8), (zz153 HO_9), (zz3 BK462), (zz3 BK463), (zz3 BK487), GW487.out, GE487.out, NB462_487.out, NB487_462.out, NB463_487.out, NB487_463.out, (zz154 HB GE462 GE463 GE487)⟩)
      ·skip
       refine box_step ?hg (N := 15) ?hd (cs := #[.string (⟨#[]⟩ : ByteArray), .slice none 0 0, .bool false, .string (⟨#[]⟩ : ByteArray)]) (t := 39) ?hr ?_; (case hd => rfl); (case hg => rfl); (case hr => exact zz16);intro gb487 hg w32 hbox hb;replace HO_8 := A_ (rB (zz18 HO_8) hb);replace HO_9 := A_ (rB (zz18 HO_9) hb);have BK487 := A_ (hbox);have GW487 := A_ ((by rw [hg]; exact (below_size (zz150 HB GE462 GE463)) : w.heap.size ≤ gb487));have GE487 := A_ ((by rw [hg]; exact (below_size (zz150 HB GE462 GE463)) : w.heap.size ≤ gb487));replace HB := A_ (bS (zz150 HB GE462 GE463) hb);have NB462_487 := A_ ((by rw [hg]; exact Nat.ne_of_lt (blk_lt (zz3 BK462)) : gb462 ≠ gb487));have NB487_462 := A_ ((by rw [hg]; exact Nat.ne_of_gt (blk_lt (zz3 BK462)) : gb487 ≠ gb462));replace BK462 := A_ (bB (zz3 BK462) hb);have NB463_487 := A_ ((by rw [hg]; exact Nat.ne_of_lt (blk_lt (zz3 BK463)) : gb463 ≠ gb487));have NB487_463 := A_ ((by rw [hg]; exact Nat.ne_of_gt (blk_lt (zz3 BK463)) : gb487 ≠ gb463));replace BK463 := A_ (bB (zz3 BK463) hb);clear hb hbox hg;refine hK.out _ _ ⟨(blk_cell BK462.out 0).trans rfl, (blk_cell BK462.out 1).trans rfl, (blk_cell BK462.out 2).trans rfl, (blk_cell BK462.out 3).trans rfl⟩ (fun hHeld => ?_);clear hK K;refine norm_ (a' := ?_) ?_ ?_;rotate_left
       ·show Act.put _ (some 15) _ = _
        simp only [Act.put, List.setIfInBounds_toArray, List.set_cons_zero, List.set_cons_succ, i64_w, i32_w]
        rfl
       refine one_ (i := 3) (N := some 57) #[true, true, true, true, true, true, false, true, false] rfl rfl (one_of HT_.out (by kernel_rfl)) (by decide) (fun K hK => ?_);refine goes_ Tryz.func121 (by kernel_rfl) rfl #[.slice Ao30 x8_1.length co30] (by rfl) rfl rfl zz17 ?_;with_reducible refine (spec_PathClean.calls k1 _ _ x8_1 t484 _ ?side1 ?side2 A26.out).mono ?_
       (case side1 => exact (zz43 HO_8))
       (case side2 => exact (Kd.R_reads' HO_8.out).2.1)
       rintro e w33 ⟨v485, rfl, ho0, hb⟩;refine ⟨_, rfl, ?_⟩;have HO486 := A_ (Kd.R_lower (Kd.R_new' (Kd.R_new' ho0 (Kd.R_lt (zz18 HO_8))) (Kd.R_lt (zz18 HO_9))) (below_size (zz154 HB GE462 GE463 GE487)));replace HO_8 := A_ (Kd.R_elder' (zz18 HO_8) (Kd.R_base ho0) hb);replace HO_9 := A_ (Kd.R_elder' (zz18 HO_9) (Kd.R_base ho0) hb);replace BK462 := A_ (bB (zz3 BK462) hb);replace BK463 := A_ (bB (zz3 BK463) hb);replace BK487 := A_ (bB (zz3 BK487) hb);replace HB := A_ (bS (zz154 HB GE462 GE463 GE487) hb);(try clear hb)
       (try clear hb2)
       (try clear hk)
       (try clear hi)
       (try clear ho0)
       obtain ⟨Ao34, co34, eo34⟩ := Kd.R_slice HO486.out;(first | subst eo34 | (injection eo34 with f1_ f2_ f3_; have f4_ := f1_.symm; have f5_ := f3_.symm; clear f1_ f2_ f3_; subst f4_; subst f5_))
       refine hK.out _ _ ⟨(blk_cell BK462.out 0).trans rfl, (blk_cell BK462.out 1).trans rfl, (blk_cell BK462.out 2).trans rfl, (blk_cell BK462.out 3).trans rfl⟩ (fun hHeld => ?_);clear hK K;refine norm_ (a' := ?_) ?_ ?_;rotate_left
       ·show Act.put _ (some 57) _ = _
        simp only [Act.put, List.setIfInBounds_toArray, List.set_cons_zero, List.set_cons_succ, i64_w, i32_w]
        rfl
       refine pureZ 6 (some 60) #[true, true, true, true, true, true, true, true, false] ?_;exact norm_ viaP (hCont (.slice Ao34 t484.length co34, gb487) _ ⟨hHeld, (zz72 HO486), (zz153 HO_8), (zz153 HO_9), (zz3 BK462), (zz3 BK463), (zz3 BK487), GW487.out, GE487.out, NB462_487.out, NB487_462.out, NB463_487.out, NB487_463.out, (zz154 HB GE462 GE463 GE487)⟩)
     rintro ⟨v485, gb487⟩ w35 ⟨hS_, h0_, h1_, h2_, h3_, h4_, h5_, h6_, h7_, h8_, h9_, h10_, h11_, h12_⟩;have n0_ : Aside0 (Kd.R Kd.string 9 w35 w.heap.size (fun k_ => some k_ ≠ (.slice Ao30 x8_1.length co30 : Value).ownBlock ∧ some k_ ≠ (.slice Ao28 t473.length co28 : Value).ownBlock) v485 t484) := ⟨h0_⟩;have n1_ : Aside0 (Kd.R Kd.string 9 w35 w.heap.size (fun k_ => some k_ ≠ (v485 : Value).ownBlock ∧ some k_ ≠ (.slice Ao28 t473.length co28 : Value).ownBlock) (.slice Ao30 x8_1.length co30) x8_1) := ⟨h1_⟩;have n2_ : Aside0 (Kd.R Kd.string 9 w35 w.heap.size (fun k_ => some k_ ≠ (v485 : Value).ownBlock ∧ some k_ ≠ (.slice Ao30 x8_1.length co30 : Value).ownBlock) (.slice Ao28 t473.length co28) t473) := ⟨h2_⟩;have n3_ : Aside0 (w35.heap[gb462]? = some (.cells #[.string a0_0, .slice A0_1 l0_1.length c0_1, .bool a0_2, .string a0_3] 39 (0, 0))) := ⟨h3_⟩;have n4_ : Aside0 (w35.heap[gb463]? = some (.cells #[.string x464000_1, .slice none 0 0, .bool x464002_1, .string x464003_1] 39 (0, 0))) := ⟨h4_⟩;have n5_ : Aside0 (w35.heap[gb487]? = some (.cells #[.string (⟨#[]⟩ : ByteArray), .slice none 0 0, .bool false, .string (⟨#[]⟩ : ByteArray)] 39 (0, 0))) := ⟨h5_⟩;have n6_ : Aside0 (w.heap.size ≤ gb487) := ⟨h6_⟩;have n7_ : Aside0 (w.heap.size ≤ gb487) := ⟨h7_⟩;have n8_ : Aside0 (gb462 ≠ gb487) := ⟨h8_⟩;have n9_ : Aside0 (gb487 ≠ gb462) := ⟨h9_⟩;have n10_ : Aside0 (gb463 ≠ gb487) := ⟨h10_⟩;have n11_ : Aside0 (gb487 ≠ gb463) := ⟨h11_⟩;have n12_ : Aside0 (Below w.heap.size w w35) := ⟨h12_⟩;clear HO_8;clear HO_9;clear BK462;clear BK463;clear HB;clear h0_ h1_ h2_ h3_ h4_ h5_ h6_ h7_ h8_ h9_ h10_ h11_ h12_;have HO486 := n0_;have HO_8 := n1_;have HO_9 := n2_;have BK462 := n3_;have BK463 := n4_;have BK487 := n5_;have GW487 := n6_;have GE487 := n7_;have NB462_487 := n8_;have NB487_462 := n9_;have NB463_487 := n10_;have NB487_463 := n11_;have HB := n12_;clear n0_ n1_ n2_ n3_ n4_ n5_ n6_ n7_ n8_ n9_ n10_ n11_ n12_;have hHeld : w35.cell? ⟨gb462, 0, none⟩ = some (.string a0_0) ∧ w35.cell? ⟨gb462, 1, none⟩ = some (.slice A0_1 l0_1.length c0_1) ∧ w35.cell? ⟨gb462, 2, none⟩ = some (.bool a0_2) ∧ w35.cell? ⟨gb462, 3, none⟩ = some (.string a0_3) := hS_;obtain ⟨Ao36, co36, eo36⟩ := Kd.R_slice HO486.out;(first | subst eo36 | (injection eo36 with f1_ f2_ f3_; have f4_ := f1_.symm; have f5_ := f3_.symm; clear f1_ f2_ f3_; subst f4_; subst f5_))
     refine norm_ (a' := ?_) ?_ ?_;rotate_left
     ·simp only [putAll, Act.put, List.setIfInBounds_toArray, List.set_cons_zero, List.set_cons_succ]
      rfl
     refine one_ (i := 8) (N := none) #[true, true, true, true, true, true, true, true, true] rfl rfl (one_of HT_.out (by kernel_rfl)) (by decide) (fun K hK => ?_);have hs37 : w35.cell? ⟨gb487, 0, none⟩ = some (.string (⟨#[]⟩ : ByteArray)) := (blk_cell BK487.out 0).trans rfl;have hfs37 := blk_frozen BK487.out 0;have hns37_0 := NB462_487.out;have hns37_1 := NB463_487.out;have hms37_0 := NB487_462.out;have hms37_1 := NB487_463.out;have hs38 : w35.cell? ⟨gb487, 1, none⟩ = some (.slice none 0 0) := (blk_cell BK487.out 1).trans rfl;have hfs38 := blk_frozen BK487.out 1;have hns38_0 := NB462_487.out;have hns38_1 := NB463_487.out;have hms38_0 := NB487_462.out;have hms38_1 := NB487_463.out;have hs39 : w35.cell? ⟨gb487, 2, none⟩ = some (.bool false) := (blk_cell BK487.out 2).trans rfl;have hfs39 := blk_frozen BK487.out 2;have hns39_0 := NB462_487.out;have hns39_1 := NB463_487.out;have hms39_0 := NB487_462.out;have hms39_1 := NB487_463.out;have hs40 : w35.cell? ⟨gb487, 3, none⟩ = some (.string (⟨#[]⟩ : ByteArray)) := (blk_cell BK487.out 3).trans rfl;have hfs40 := blk_frozen BK487.out 3;have hns40_0 := NB462_487.out;have hns40_1 := NB463_487.out;have hms40_0 := NB487_462.out;have hms40_1 := NB487_463.out;refine skip_ (w1 := ?_) (by rfl) rfl ?_ ?_;rotate_left
     ·go_simp
      rfl
     refine hK.out _ _ ⟨((cell_far (p := ⟨gb487, _, none⟩) NB462_487.out _).trans (((cell_far (p := ⟨gb487, _, none⟩) NB462_487.out _).trans (((cell_far (p := ⟨gb487, _, none⟩) NB462_487.out _).trans (((cell_far (p := ⟨gb487, _, none⟩) NB462_487.out _).trans (hHeld.1)))))))), ((cell_far (p := ⟨gb487, _, none⟩) NB462_487.out _).trans (((cell_far (p := ⟨gb487, _, none⟩) NB462_487.out _).trans (((cell_far (p := ⟨gb487, _, none⟩) NB462_487.out _).trans (((cell_far (p := ⟨gb487, _, none⟩) NB462_487.out _).trans (hHeld.2.1)))))))), ((cell_far (p := ⟨gb487, _, none⟩) NB462_487.out _).trans (((cell_far (p := ⟨gb487, _, none⟩) NB462_487.out _).trans (((cell_far (p := ⟨gb487, _, none⟩) NB462_487.out _).trans (((cell_far (p := ⟨gb487, _, none⟩) NB462_487.out _).trans (hHeld.2.2.1)))))))), ((cell_far (p := ⟨gb487, _, none⟩) NB462_487.out _).trans (((cell_far (p := ⟨gb487, _, none⟩) NB462_487.out _).trans (((cell_far (p := ⟨gb487, _, none⟩) NB462_487.out _).trans (((cell_far (p := ⟨gb487, _, none⟩) NB462_487.out _).trans (hHeld.2.2.2))))))))⟩ (fun hHeld => ?_);clear hK K;refine done_ (done_of HT_.out (by kernel_rfl)) ?_;have n0_ : Aside0 (Kd.R Kd.string 9 ((((w35.setCell ⟨gb487, 0, none⟩ (.string a0_0)).setCell ⟨gb487, 1, none⟩ (.slice Ao36 t484.length co36)).setCell ⟨gb487, 2, none⟩ (.bool t466)).setCell ⟨gb487, 3, none⟩ (.string t482)) w.heap.size (fun k_ => some k_ ≠ (.slice Ao28 t473.length co28 : Value).ownBlock ∧ some k_ ≠ (.slice Ao36 t484.length co36 : Value).ownBlock) (.slice Ao30 x8_1.length co30) x8_1) := ⟨(zz45 (rt HO_8 BK487))⟩;have n1_ : Aside0 (Kd.R Kd.string 9 ((((w35.setCell ⟨gb487, 0, none⟩ (.string a0_0)).setCell ⟨gb487, 1, none⟩ (.slice Ao36 t484.length co36)).setCell ⟨gb487, 2, none⟩ (.bool t466)).setCell ⟨gb487, 3, none⟩ (.string t482)) w.heap.size (fun k_ => some k_ ≠ (.slice Ao30 x8_1.length co30 : Value).ownBlock ∧ some k_ ≠ (.slice Ao36 t484.length co36 : Value).ownBlock) (.slice Ao28 t473.length co28) t473) := ⟨(zz45 (rt HO_9 BK487))⟩;have n2_ : Aside0 (Kd.R Kd.string 9 ((((w35.setCell ⟨gb487, 0, none⟩ (.string a0_0)).setCell ⟨gb487, 1, none⟩ (.slice Ao36 t484.length co36)).setCell ⟨gb487, 2, none⟩ (.bool t466)).setCell ⟨gb487, 3, none⟩ (.string t482)) w.heap.size (fun k_ => some k_ ≠ (.slice Ao30 x8_1.length co30 : Value).ownBlock ∧ some k_ ≠ (.slice Ao28 t473.length co28 : Value).ownBlock) (.slice Ao36 t484.length co36) t484) := ⟨(zz45 (rt HO486 BK487))⟩;have n3_ : Aside0 (((((w35.setCell ⟨gb487, 0, none⟩ (.string a0_0)).setCell ⟨gb487, 1, none⟩ (.slice Ao36 t484.length co36)).setCell ⟨gb487, 2, none⟩ (.bool t466)).setCell ⟨gb487, 3, none⟩ (.string t482)).heap[gb462]? = some (.cells #[.string a0_0, .slice A0_1 l0_1.length c0_1, .bool a0_2, .string a0_3] 39 (0, 0))) := ⟨(zz119 BK462 NB462_487)⟩;have n4_ : Aside0 (((((w35.setCell ⟨gb487, 0, none⟩ (.string a0_0)).setCell ⟨gb487, 1, none⟩ (.slice Ao36 t484.length co36)).setCell ⟨gb487, 2, none⟩ (.bool t466)).setCell ⟨gb487, 3, none⟩ (.string t482)).heap[gb463]? = some (.cells #[.string x464000_1, .slice none 0 0, .bool x464002_1, .string x464003_1] 39 (0, 0))) := ⟨(zz119 BK463 NB463_487)⟩;have n5_ : Aside0 (((((w35.setCell ⟨gb487, 0, none⟩ (.string a0_0)).setCell ⟨gb487, 1, none⟩ (.slice Ao36 t484.length co36)).setCell ⟨gb487, 2, none⟩ (.bool t466)).setCell ⟨gb487, 3, none⟩ (.string t482)).heap[gb487]? = some (.cells #[.string a0_0, .slice Ao36 t484.length co36, .bool t466, .string t482] 39 (0, 0))) := ⟨(zz39 BK487)⟩;have n6_ : Aside0 (Below w.heap.size w ((((w35.setCell ⟨gb487, 0, none⟩ (.string a0_0)).setCell ⟨gb487, 1, none⟩ (.slice Ao36 t484.length co36)).setCell ⟨gb487, 2, none⟩ (.bool t466)).setCell ⟨gb487, 3, none⟩ (.string t482))) := ⟨(zz154 HB GE462 GE463 GE487)⟩;(try clear HO_8)
     (try clear HO_9)
     (try clear HO486)
     (try clear BK462)
     (try clear BK463)
     (try clear BK487)
     (try clear HB)
     generalize ((((w35.setCell ⟨gb487, 0, none⟩ (.string a0_0)).setCell ⟨gb487, 1, none⟩ (.slice Ao36 t484.length co36)).setCell ⟨gb487, 2, none⟩ (.bool t466)).setCell ⟨gb487, 3, none⟩ (.string t482)) = w41 at n0_ n1_ n2_ n3_ n4_ n5_ n6_ ⊢;have HO_8 := n0_;have HO_9 := n1_;have HO486 := n2_;have BK462 := n3_;have BK463 := n4_;have BK487 := n5_;have HB := n6_;clear n0_ n1_ n2_ n3_ n4_ n5_ n6_;go_wp2_with (first | ((with_reducible refine atG ?_ ?_ fun K_ hK_ => ?_); rfl; exact undecG) | ((with_reducible refine atI ?_ fun K_ hK_ => ?_); exact undecI))
     refine unG hK_ ?_; clear hK_ K_;obtain ⟨H⟩ := HF27;replace H := iteB H;rcases H with ⟨rfl, H⟩ | ⟨rfl, H⟩
     ·(first | refine iteT ?_ | refine iteF ?_ | skip)
      replace H := bindA H;obtain ⟨t488, A43, H⟩ := H;have HF44 := A_ H;clear H;have hnb45 := NB487_462.out;have hnc45 := NB462_487.out;have hnb46 := NB487_463.out;have hnc46 := NB463_487.out;obtain ⟨_, _, _, _, _, _, _, _⟩ := cf4 BK487;(try ((with_reducible refine upS ?_); go_simp))
      go_upto_if 67 with (first | (go_at_call 72; (with_reducible refine (spec_AddrOk.calls k1 a0_0 _ _ t484 t466 t482 t488 _ ?side1 ?side2 A43.out).mono ?_); (case side1 => exact (zz43 HO486)); (case side2 => exact (Kd.R_reads' HO486.out).2.1); rintro e w48 ⟨rfl, hb⟩; replace HO_8 := A_ (rB (zz18 HO_8) hb); replace HO_9 := A_ (rB (zz18 HO_9) hb); replace HO486 := A_ (rB (zz18 HO486) hb); replace BK462 := A_ (bB (zz3 BK462) hb); replace BK463 := A_ (bB (zz3 BK463) hb); replace BK487 := A_ (bB (zz3 BK487) hb); replace HB := A_ (bS (zz154 HB GE462 GE463 GE487) hb); (try clear hb)))
      obtain ⟨H⟩ := HF44;replace H := iteB H;rcases H with ⟨rfl, H⟩ | ⟨rfl, H⟩
      ·simp only [Option.some.injEq, Prod.mk.injEq] at H
       obtain ⟨rfl, rfl, rfl, rfl, rfl⟩ := H;have hnb50 := NB487_462.out;have hnc50 := NB462_487.out;have hnb51 := NB487_463.out;have hnc51 := NB463_487.out;obtain ⟨_, _, _, _, _, _, _, _⟩ := cf4 BK487;have hnb53 := NB463_462.out;have hnc53 := NB462_463.out;obtain ⟨_, _, _, _, _, _, _, _⟩ := cf4 BK463;go_wp2
       refine pR (results_ct rfl _ _ gb463 39 #[.string a0_0, .slice Ao36 t484.length co36, .bool t466, .string t482] (0, 0) _ rfl (zz39 BK463) Tryz.underlying39 rfl (by kernel_rfl)) rfl ?_;exact ⟨_, zz11, (zz45 (rt HO486 BK463)), (zz154 HB GE462 GE463 GE487)⟩
      ·simp only [Option.some.injEq, Prod.mk.injEq] at H
       obtain ⟨rfl, rfl, rfl, rfl, rfl⟩ := H;have hnb55 := NB463_462.out;have hnc55 := NB462_463.out;have hnb56 := NB463_487.out;have hnc56 := NB487_463.out;obtain ⟨_, _, _, _, _, _, _, _⟩ := cf4 BK463;go_wp2
       refine pR (results_ct rfl _ _ gb463 39 #[.string (⟨#[]⟩ : ByteArray), .slice none 0 0, .bool false, .string (⟨#[]⟩ : ByteArray)] (0, 0) _ rfl (zz39 BK463) Tryz.underlying39 rfl (by kernel_rfl)) rfl ?_;exact ⟨_, zz11, zz41, (zz154 HB GE462 GE463 GE487)⟩
     ·(first | refine iteT ?_ | refine iteF ?_ | skip)
      simp only [Option.some.injEq, Prod.mk.injEq] at H
      obtain ⟨rfl, rfl, rfl, rfl, rfl⟩ := H;have hnb58 := NB463_462.out;have hnc58 := NB462_463.out;have hnb59 := NB463_487.out;have hnc59 := NB487_463.out;obtain ⟨_, _, _, _, _, _, _, _⟩ := cf4 BK463;(try ((with_reducible refine upS ?_); go_simp))
      go_wp2
      refine pR (results_ct rfl _ _ gb463 39 #[.string (⟨#[]⟩ : ByteArray), .slice none 0 0, .bool false, .string (⟨#[]⟩ : ByteArray)] (0, 0) _ rfl (zz39 BK463) Tryz.underlying39 rfl (by kernel_rfl)) rfl ?_;exact ⟨_, zz11, zz41, (zz154 HB GE462 GE463 GE487)⟩
 ·exact absurd H (by simp)
end Go.Proofs.YtpomhjkbgbociaaGreatDoor.P
end
section
namespace Go.Proofs.YtpomhjkbgbociaaGreatDoor.P
open Go.RowKit Go.Proofs.YtpomhjkbgbociaaGreatDoorW.PrintWords Go.Proofs.YtpomhjkbgbociaaGreatDoorW.PrintLast Go.Proofs.YtpomhjkbgbociaaGreatDoorW.PrintMore
set_option linter.unusedVariables false
section
variable {P : Program} {ops : Array Oper} {Q : Exit → Act → World → Prop}
end
theorem size_set (w : World) (p : Addr) (u : Value) : (w.setCell p u).heap.size = w.heap.size := by simp
end Go.Proofs.YtpomhjkbgbociaaGreatDoor.P
end
section
namespace Go.Proofs.YtpomhjkbgbociaaGreatDoor.B
open Go.RowKit Go.Proofs.YtpomhjkbgbociaaGreatDoorW.PrintWords Go.Proofs.YtpomhjkbgbociaaGreatDoorW.PrintLast Go.Proofs.YtpomhjkbgbociaaGreatDoorW.PrintMore
set_option linter.unusedVariables false
set_option linter.unusedSimpArgs false
theorem w64 {n : Int} (h0 : -9223372036854775808 ≤ n) (h1 : n < 9223372036854775808) : wrap64 n = n := by
 unfold wrap64; omega
theorem tmod_nn {a b : Int} (h0 : 0 ≤ a) (h1 : 0 < b) : 0 ≤ Int.tmod a b ∧ Int.tmod a b < b :=
 ⟨Int.tmod_nonneg _ h0, Int.tmod_lt_of_pos _ h1⟩
theorem tdiv_nn {a b : Int} (h0 : 0 ≤ a) (h1 : 0 < b) : 0 ≤ Int.tdiv a b ∧ Int.tdiv a b ≤ a := by
 rw [Int.tdiv_eq_ediv_of_nonneg h0]
 exact ⟨Int.ediv_nonneg h0 (by omega), Int.ediv_le_self _ h0⟩
theorem xor_nn {a b : Int} (h0 : 0 ≤ a) (h1 : a < 2 ^ 62) (h2 : 0 ≤ b) (h3 : b < 2 ^ 62) :
  0 ≤ Go.bits .xor .i64 a b ∧ Go.bits .xor .i64 a b < 2 ^ 62 := by
 obtain ⟨x, rfl⟩ := Int.eq_ofNat_of_zero_le h0
 obtain ⟨y, rfl⟩ := Int.eq_ofNat_of_zero_le h2
 have hx : x < 2 ^ 62 := by exact_mod_cast h1
 have hy : y < 2 ^ 62 := by exact_mod_cast h3
 have hx' : x % 2 ^ IntKind.i64.bits = x := Nat.mod_eq_of_lt (Nat.lt_of_lt_of_le hx (by decide))
 have hy' : y % 2 ^ IntKind.i64.bits = y := Nat.mod_eq_of_lt (Nat.lt_of_lt_of_le hy (by decide))
 have hz : x ^^^ y < 2 ^ 62 := Nat.xor_lt_two_pow hx hy
 have e : Go.bits .xor .i64 (x : Int) (y : Int) = ((x ^^^ y : Nat) : Int) := by
  simp only [Go.bits, BitVec.ofInt_natCast, BitVec.toNat_xor, BitVec.toNat_ofNat, hx', hy']
  rw [IntKind.wrap_i64]
  have : ((x ^^^ y : Nat) : Int) < 2 ^ 62 := by exact_mod_cast hz
  omega
 rw [e]
 exact ⟨Int.natCast_nonneg _, by exact_mod_cast hz⟩
theorem rd_byte {b : List Int} (hb : ∀ x ∈ b, 0 ≤ x ∧ x ≤ 255) (i : Int) : 0 ≤ rd b i ∧ rd b i ≤ 255 := by
 unfold rd
 rw [List.getD_eq_getElem?_getD]
 cases h : b[i.toNat]? with
 | none => simp
 | some v => simpa using hb v (List.mem_of_getElem? h)
theorem wf_u8 {x : Int} (h : (Lit.int .u8 x).wf = true) : 0 ≤ x ∧ x ≤ 255 := by
 simp [Lit.wf, IntKind.min, IntKind.max, IntKind.signed, IntKind.bits] at h
 omega
abbrev L (s : ByteArray) : List UInt8 := s.data.toList
theorem L_size (s : ByteArray) : (L s).length = s.size := (Lib.size_eq s).symm
theorem L_app (a b : ByteArray) : L (a ++ b) = L a ++ L b := by simp [L]
theorem L_ext (s : ByteArray) (a b : Nat) : L (s.extract a b) = ((L s).drop a).take (b - a) := Lib.extract_data s a b
theorem L_inj {a b : ByteArray} (h : L a = L b) : a = b := by
 cases a; cases b; congr 1; exact Array.toList_inj.1 h
theorem toList_inj {a b : ByteArray} : a.toList = b.toList ↔ a = b := by
 rw [Lib.toList_data, Lib.toList_data]; exact ⟨fun h => L_inj h, fun h => by rw [h]⟩
theorem toList_nil {a : ByteArray} : a.toList = ([] : List UInt8) ↔ a.size = 0 := by
 rw [Lib.toList_data, Lib.size_eq]; exact List.length_eq_zero_iff.symm
theorem bt_L (s : ByteArray) (i : Nat) : bt s i = (((L s).getD i 0).toNat : Int) := by
 unfold bt
 simp only [Int.toNat_natCast]
 split
 ·rename_i h
  rw [List.getD_eq_getElem?_getD, List.getElem?_eq_getElem (by rw [L_size]; exact h)]
  simp [L]
  rfl
 ·rename_i h
  rw [List.getD_eq_getElem?_getD, List.getElem?_eq_none (by rw [L_size]; omega)]
  rfl
theorem Ev_succ {α : Type} {g : Nat → Option α} {r : α} (h : Ev (fun k => g (k + 1)) r) : Ev g r := Ev.step (f := fun k => g (k + 1)) (fun _ => rfl) h
end Go.Proofs.YtpomhjkbgbociaaGreatDoor.B
end
section
namespace Go.Proofs.YtpomhjkbgbociaaGreatDoor.Ad
open Go.RowKit Go.Proofs.YtpomhjkbgbociaaGreatDoorW.PrintWords Go.Proofs.YtpomhjkbgbociaaGreatDoor.B
set_option linter.unusedVariables false
set_option linter.unusedSimpArgs false
abbrev ofL (l : List UInt8) : ByteArray := ⟨l.toArray⟩
theorem L_of (l : List UInt8) : L (ofL l) = l := by simp [L]
theorem of_L (s : ByteArray) : ofL (L s) = s := by apply L_inj; simp [L]
theorem ofL_app (a b : List UInt8) : ofL (a ++ b) = ofL a ++ ofL b := by apply L_inj; rw [L_of, L_app, L_of, L_of]
theorem ofL_size (l : List UInt8) : (ofL l).size = l.length := by rw [← L_size, L_of]
def plainB (c : UInt8) : Bool := (decide (97 ≤ c.toNat) && decide (c.toNat ≤ 122)) || (decide (48 ≤ c.toNat) && decide (c.toNat ≤ 57)) || c.toNat == 46 || c.toNat == 45
def hexN (c : UInt8) : Option Nat :=
 if 48 ≤ c.toNat ∧ c.toNat ≤ 57 then some (c.toNat - 48) else if 97 ≤ c.toNat ∧ c.toNat ≤ 102 then some (c.toNat - 87) else if 65 ≤ c.toNat ∧ c.toNat ≤ 70 then some (c.toNat - 55) else none
theorem hexN_lt {c : UInt8} {x : Nat} (h : hexN c = some x) : x < 16 := by
 unfold hexN at h
 split at h
 ·injection h; omega
 ·split at h
  ·injection h; omega
  ·split at h
   ·injection h; omega
   ·cases h
def fig (n : Nat) : UInt8 := if n < 10 then UInt8.ofNat (48 + n) else UInt8.ofNat (55 + n)
def encN (n : Nat) : List UInt8 := if plainB (UInt8.ofNat n) then [UInt8.ofNat n] else [37, fig (n / 16), fig (n % 16)]
theorem encN_len (n : Nat) : (encN n).length ≤ 3 := by unfold encN; split <;> simp
def esc : List UInt8 → Option (List UInt8)
 | [] => some []
 | c :: r => if c = 37 then (match r with
   | a :: b :: q => (match hexN a, hexN b with
    | some x, some y => (esc q).map (encN (x * 16 + y) ++ ·)
    | _, _ => none)
   | _ => none) else (esc r).map (encN c.toNat ++ ·)
theorem esc_short {r : List UInt8} (h : r.length ≤ 1) : esc (37 :: r) = none := by
 match r, h with
 | [], _ => simp [esc]
 | [_], _ => simp [esc]
 | _ :: _ :: _, h => simp at h
theorem esc_bad1 {a : UInt8} (b : UInt8) (q : List UInt8) (h : hexN a = none) : esc (37 :: a :: b :: q) = none := by simp [esc, h]
theorem esc_bad2 (a : UInt8) {b : UInt8} (q : List UInt8) (h : hexN b = none) : esc (37 :: a :: b :: q) = none := by
 cases ha : hexN a <;> simp [esc, h, ha]
theorem esc_sign {a b : UInt8} {x y : Nat} (q : List UInt8) (ha : hexN a = some x) (hb : hexN b = some y) : esc (37 :: a :: b :: q) = (esc q).map (encN (x * 16 + y) ++ ·) := by simp [esc, ha, hb]
theorem esc_plain {c : UInt8} (r : List UInt8) (h : c ≠ 37) : esc (c :: r) = (esc r).map (encN c.toNat ++ ·) := by rw [esc.eq_def]; exact if_neg h
def escO (o : Option (List UInt8)) : ByteArray × Bool := match o with
 | some r => (ofL r, true)
 | none => (⟨#[]⟩, false)
def escNorm (s : ByteArray) : ByteArray × Bool := if s.size > 60 then (⟨#[]⟩, false) else escO (esc (L s))
def isNorm (s : ByteArray) : Bool := (escNorm s).2 && ((escNorm s).1.toList == s.toList)
theorem esc_len (n : Nat) : ∀ (l r : List UInt8), l.length ≤ n → esc l = some r → r.length ≤ 3 * l.length := by
 induction n with
 | zero =>
  intro l r hl h
  obtain rfl : l = [] := List.length_eq_zero_iff.1 (by omega)
  simp [esc] at h
  subst h
  simp
 | succ n ih =>
  intro l r hl h
  match l, hl, h with
  | [], _, h => simp [esc] at h; subst h; simp
  | c :: q, hl, h =>
   unfold esc at h
   split at h
   ·match q, hl, h with
    | a :: b :: q', hl, h =>
     simp only at h
     split at h
     ·obtain ⟨t, ht, rfl⟩ := Option.map_eq_some_iff.1 h
      have := ih q' t (by simp at hl; omega) ht
      exact Nat.le_trans (by rw [List.length_append]; exact Nat.add_le_add (encN_len _) this) (by simp only [List.length_cons]; omega)
     ·cases h
    | [], _, h => simp at h
    | [_], _, h => simp at h
   ·obtain ⟨t, ht, rfl⟩ := Option.map_eq_some_iff.1 h
    have := ih q t (by simp at hl; omega) ht
    exact Nat.le_trans (by rw [List.length_append]; exact Nat.add_le_add (encN_len _) this) (by simp only [List.length_cons]; omega)
theorem escNorm_size (s : ByteArray) : (escNorm s).1.size ≤ 180 := by
 unfold escNorm
 split
 ·exact Nat.zero_le _
 ·unfold escO
  split
  ·rename_i h1 _ r h
   have := esc_len _ _ _ (Nat.le_refl _) h
   rw [ofL_size]
   rw [L_size] at this
   omega
  ·exact Nat.zero_le _
def body : List ByteArray → ByteArray
 | [] => ⟨#[47]⟩
 | p :: r => r.foldl (fun a q => (a ++ ⟨#[47]⟩) ++ q) ((⟨#[47]⟩ : ByteArray) ++ p)
def pathB (parts : List ByteArray) (asks : Bool) (ask : ByteArray) : ByteArray := if asks = true then (body parts ++ ⟨#[63]⟩) ++ ask else body parts
def textB (house : ByteArray) (parts : List ByteArray) (asks : Bool) (ask : ByteArray) : ByteArray := ((⟨#[47, 47]⟩ : ByteArray) ++ house) ++ pathB parts asks ask
def partOk (p : ByteArray) : Bool := isNorm p && !(p.toList == []) && !(p.toList == [46]) && !(p.toList == [46, 46])
def smallFrom (s : ByteArray) : Nat → Nat → Bool
 | 0, _ => true
 | d + 1, i => if bt s i < 97 then false else if bt s i > 122 then false else smallFrom s d (i + 1)
def isSmall (s : ByteArray) : Bool := smallFrom s s.size 0
def isHouse (s : ByteArray) : Bool := decide (1 ≤ s.size) && decide (s.size ≤ 5) && isSmall s
def addrOk (house : ByteArray) (parts : List ByteArray) (asks : Bool) (ask : ByteArray) : Bool :=
 isHouse house && decide (parts.length ≤ 5) && isNorm ask && (asks || ask.toList == []) && parts.all partOk && decide ((textB house parts asks ask).size ≤ 60)
def addrText (house : ByteArray) (parts : List ByteArray) (asks : Bool) (ask : ByteArray) : ByteArray := if addrOk house parts asks ask = true then textB house parts asks ask else ⟨#[]⟩
theorem isNorm_size {s : ByteArray} (h : isNorm s = true) : s.size ≤ 60 := by
 unfold isNorm escNorm at h
 split at h
 ·simp at h
 ·omega
def sm (b : UInt8) : UInt8 := if 65 ≤ b.toNat ∧ b.toNat ≤ 90 then b + 32 else b
def smallB (s : ByteArray) : ByteArray := ofL ((L s).map sm)
end Go.Proofs.YtpomhjkbgbociaaGreatDoor.Ad
end
section
namespace Go.Proofs.YtpomhjkbgbociaaGreatDoor.P
open Go.RowKit Go.Proofs.YtpomhjkbgbociaaGreatDoorW.PrintWords Go.Proofs.YtpomhjkbgbociaaGreatDoorW.PrintLast Go.Proofs.YtpomhjkbgbociaaGreatDoorW.PrintMore Go.Proofs.YtpomhjkbgbociaaGreatDoor.B Go.Proofs.YtpomhjkbgbociaaGreatDoor.Ad
set_option linter.unusedVariables false
set_option linter.unusedSimpArgs false
def SmRow (b : Nat) (s : ByteArray) (i : Nat) (w : World) : Prop :=
 b < w.heap.size ∧ ∀ j, j < s.size → w.cell? ⟨b, j, none⟩ = some (.int .u8 ((if j < i then sm ((L s).getD j 0) else (L s).getD j 0).toNat : Nat)) ∧ w.frozen? ⟨b, j, none⟩ = false
theorem sm_start (w : World) (e : TypeId) (s : ByteArray) : SmRow w.heap.size s 0 (Lib.bytesWorld w e s) := by
 refine ⟨by rw [Lib.bytesWorld_size]; omega, fun j hj => ⟨?_, ?_⟩⟩
 ·rw [Lib.bytesWorld_cell w e s j hj]; simp [L]
 ·have hk : s.size ≤ (Lib.bytesCells w e s).size := by rw [Lib.bytesCells]; simp
  simp only [World.frozen?, Lib.bytesWorld_at_new]
  simp
  omega
theorem sm_below (w : World) (e : TypeId) (s : ByteArray) : Below w.heap.size w (Lib.bytesWorld w e s) := by
 refine ⟨rfl, rfl, rfl, by rw [Lib.bytesWorld_size]; omega, fun j hj => Lib.bytesWorld_at_old w e s j hj⟩
theorem sm_set {b : Nat} {s : ByteArray} {i : Nat} {w : World} (h : SmRow b s i w) (hi : i < s.size) : SmRow b s (i + 1) (w.setCell ⟨b, i, none⟩ (.int .u8 ((sm ((L s).getD i 0)).toNat : Nat))) := by
 refine ⟨by rw [size_set]; exact h.1, fun j hj => ⟨?_, by rw [World.frozen?_setCell]; exact (h.2 j hj).2⟩⟩
 rcases Nat.lt_trichotomy j i with h1 | h1 | h1
 ·rw [World.cell?_setCell_other _ _ _ _ (by intro e; injection e with _ e; omega), (h.2 j hj).1, if_pos h1, if_pos (by omega)]
 ·subst h1; rw [World.cell?_setCell_same _ _ _ (h.2 j hj).1, if_pos (by omega)]
 ·rw [World.cell?_setCell_other _ _ _ _ (by intro e; injection e with _ e; omega), (h.2 j hj).1, if_neg (by omega), if_neg (by omega)]
theorem sm_skip {b : Nat} {s : ByteArray} {i : Nat} {w : World} (h : SmRow b s i w) (hi : i < s.size) (he : sm ((L s).getD i 0) = (L s).getD i 0) : SmRow b s (i + 1) w := by
 refine ⟨h.1, fun j hj => ⟨?_, (h.2 j hj).2⟩⟩
 rw [(h.2 j hj).1]
 rcases Nat.lt_trichotomy j i with h1 | h1 | h1
 ·rw [if_pos h1, if_pos (by omega)]
 ·subst h1; rw [if_neg (by omega), if_pos (by omega), he]
 ·rw [if_neg (by omega), if_neg (by omega)]
end Go.Proofs.YtpomhjkbgbociaaGreatDoor.P
end
section
namespace Go.Proofs.YtpomhjkbgbociaaGreatDoor.P
open Go.RowKit Go.Proofs.YtpomhjkbgbociaaGreatDoorW.PrintWords Go.Proofs.YtpomhjkbgbociaaGreatDoorW.PrintLast Go.Proofs.YtpomhjkbgbociaaGreatDoorW.PrintMore Go.Proofs.YtpomhjkbgbociaaGreatDoor.B Go.Proofs.YtpomhjkbgbociaaGreatDoor.Ad
set_option linter.unusedVariables false
set_option linter.unusedSimpArgs false
def spec_l1Small.f (a0 : ByteArray) : Option (ByteArray) := if a0.size ≤ 140737488351232 then some (smallB a0) else none
set_option maxHeartbeats 400000 in
set_option maxRecDepth 100000 in
theorem spec_l1Small.calls (a0 r : ByteArray) (w : World) (h : spec_l1Small.f a0 = some r) :
  Calls Tryz.prog 97 #[.string a0] w fun e w' => e = .returned (.string r) ∧ Below w.heap.size w w' := by
 unfold spec_l1Small.f at h
 by_cases hs : a0.size ≤ 140737488351232
 ·rw [if_pos hs] at h
  obtain rfl := Option.some.inj h
  clear h
  have hcv := Lib.run_convert_string_bytes (P := Tryz.prog) w 9 22 5 a0 Tryz.underlying9 Tryz.underlying22 Tryz.underlying5
  go_enter Tryz.func97, Tryz.ntmps97
  go_wp2_with fail
  clear hcv
  go_loopw [4] (fun i wr => ∃ k : Nat, k ≤ a0.size ∧ i = .int .i64 k ∧ Aside0 (SmRow w.heap.size a0 k wr) ∧ Aside0 (Below w.heap.size w wr))
   (fun i _ => a0.size - (intOf i).toNat)
  case atStart =>
   refine ⟨0, Nat.zero_le _, rfl, ⟨sm_start w 5 a0⟩, ⟨?_⟩⟩
   exact sm_below w 5 a0
  case round =>
   obtain ⟨k, hk, rfl, hI, hB⟩ := hrel
   by_cases hlt : k < a0.size
   ·have hc := (hI.out.2 k hlt).1
    have hf := (hI.out.2 k hlt).2
    rw [if_neg (by omega)] at hc
    have hset := Aside0.mk (sm_set hI.out hlt)
    have hskip := Aside0.mk (sm_skip hI.out hlt)
    clear hI
    generalize (L a0).getD k 0 = b at hc hset hskip
    have hb := b.toNat_lt
    by_cases h1 : 65 ≤ b.toNat
    ·by_cases h2 : b.toNat ≤ 90
     ·have e1 : (sm b).toNat = b.toNat + 32 := by
       unfold sm
       rw [if_pos ⟨h1, h2⟩, UInt8.toNat_add]
       have : (32 : UInt8).toNat = 32 := rfl
       omega
      rw [e1, show ((b.toNat + 32 : Nat) : Int) = (b.toNat : Int) + 32 from by omega] at hset
      clear hskip e1
      go_wp2
      exact ⟨⟨k + 1, by omega, by go_num, hset, ⟨hB.out.setCell (Nat.le_refl _) _⟩⟩, by simp [intOf]; omega⟩
     ·have e1 : sm b = b := by unfold sm; rw [if_neg (by omega)]
      have hS : Aside0 (SmRow w.heap.size a0 (k + 1) wr) := ⟨hskip.out e1⟩
      clear e1 hset hskip
      go_wp2
      exact ⟨⟨k + 1, by omega, by go_num, hS, hB⟩, by simp [intOf]; omega⟩
    ·have e1 : sm b = b := by unfold sm; rw [if_neg (by omega)]
     have hS : Aside0 (SmRow w.heap.size a0 (k + 1) wr) := ⟨hskip.out e1⟩
     clear e1 hset hskip
     go_wp2
     exact ⟨⟨k + 1, by omega, by go_num, hS, hB⟩, by simp [intOf]; omega⟩
   ·have ek : k = a0.size := by omega
    have hcells : ∀ j (hj : j < (L (smallB a0)).length), wr.cell? ((⟨w.heap.size, 0, none⟩ : Addr).add j) = some (.int .u8 ((L (smallB a0))[j].toNat : Int)) := by
     intro j hj
     have hj' : j < a0.size := by rw [L_size, smallB, ofL_size, List.length_map, L_size] at hj; exact hj
     rw [add_plain, (hI.out.2 j hj').1, if_pos (by omega)]
     simp [smallB, L_of, List.getD_eq_getElem?_getD, List.getElem?_eq_getElem (show j < (L a0).length by rw [L_size]; exact hj')]
    have hcv := run_convert_bytes_back (P := Tryz.prog) wr 22 9 5 ⟨w.heap.size, 0, none⟩ (grownCap w a0.size 0 5) (L (smallB a0)) Tryz.underlying22 Tryz.underlying5 Tryz.underlying9 hcells
    have hl : (L (smallB a0)).length = a0.size := by rw [L_size, smallB, ofL_size, List.length_map, L_size]
    rw [hl, show (⟨(L (smallB a0)).toArray⟩ : ByteArray) = smallB a0 from of_L _] at hcv
    have Hk := Aside0.mk ek
    clear ek hcells hl
    go_wp2
    go_ret
    exact ⟨rfl, hB.out⟩
 ·rw [if_neg hs] at h; cases h
end Go.Proofs.YtpomhjkbgbociaaGreatDoor.P
end
section
namespace Go.Proofs.YtpomhjkbgbociaaGreatDoor.P
open Go.RowKit Go.Proofs.YtpomhjkbgbociaaGreatDoorW.PrintWords Go.Proofs.YtpomhjkbgbociaaGreatDoorW.PrintLast Go.Proofs.YtpomhjkbgbociaaGreatDoorW.PrintMore
attribute [local go_sem] max2_int min2_int max_two min_two max_three min_three max_four min_four
set_option linter.unusedVariables false
set_option linter.unusedSimpArgs false
set_option maxHeartbeats 8000000
set_option maxRecDepth 100000
def spec_l1Whole.l0 : Nat → ByteArray → ByteArray → ByteArray → Int → Option (ByteArray × List ByteArray × Bool × ByteArray × Bool)
 | 0, _, _, _, _ => none
 | k + 1, x0, x4, x5, x6 => if x6 < (x0.size : Int) then (if 0 ≤ x6 then (if (bt x0 x6) = 47 then (if x6 ≤ (x0.size : Int) then ((spec_l1Small.f (x0.extract 0 (x6 : Int).toNat)).bind fun t490 => ((spec_l1Way.f k t490 ([] : List ByteArray) false (⟨#[]⟩ : ByteArray) (x0.extract (x6 : Int).toNat x0.size)).bind fun bt491 => (some (bt491.1, bt491.2.1, bt491.2.2.1, bt491.2.2.2.1, bt491.2.2.2.2)))) else (none)) else (if (bt x0 x6) = 63 then (if x6 ≤ (x0.size : Int) then ((spec_l1Small.f (x0.extract 0 (x6 : Int).toNat)).bind fun t498 => ((spec_l1Way.f k t498 ([] : List ByteArray) false (⟨#[]⟩ : ByteArray) (x0.extract (x6 : Int).toNat x0.size)).bind fun bt499 => (some (bt499.1, bt499.2.1, bt499.2.2.1, bt499.2.2.2.1, bt499.2.2.2.2)))) else (none)) else (spec_l1Whole.l0 k x0 x4 x5 (wrap64 (x6 + 1))))) else (none)) else ((spec_l1Small.f x4).bind fun t506 => ((spec_l1Way.f k t506 ([] : List ByteArray) false (⟨#[]⟩ : ByteArray) x5).bind fun bt507 => (some (bt507.1, bt507.2.1, bt507.2.2.1, bt507.2.2.2.1, bt507.2.2.2.2))))
def spec_l1Whole.f (k : Nat) (a0 : ByteArray) : Option (ByteArray × List ByteArray × Bool × ByteArray × Bool) := spec_l1Whole.l0 k a0 a0 (⟨#[]⟩ : ByteArray) 0
theorem spec_l1Whole.calls (k : Nat) (a0 : ByteArray) (r1 : ByteArray) (r2 : List ByteArray) (r3 : Bool) (r4 : ByteArray) (r5 : Bool) (w : World) (h : spec_l1Whole.f k a0 = some (r1, r2, r3, r4, r5)) :
  Calls Tryz.prog 71 #[.string a0] w fun e w' => ∃ v1_ : Value, e = .returned (.tuple #[.agg #[.string r1, v1_, .bool r3, .string r4], .bool r5]) ∧ Kd.R Kd.string 9 w' w.heap.size (fun _ => True) v1_ r2 ∧ Below w.heap.size w w' := by
 have hu39 := Tryz.underlying39;have HB := A_ (Below.refl w.heap.size w);unfold spec_l1Whole.f at h
 have H := h;clear h;have H' := A_ H;clear H;go_enter Tryz.func71, Tryz.ntmps71;go_wp2_with (first | (refine boxF 2 #[.string (⟨#[]⟩ : ByteArray), .slice none 0 0, .bool false, .string (⟨#[]⟩ : ByteArray)] 39 ?_; intro gb489 hg w2 BK489 hb; have GE489 := geB hg (zz2 HB); replace HB := A_ (bS (zz2 HB) hb); clear hb hg))
 go_loopg [4, 5, 6] k (fun kq v4 v5 v6 w' => ∃ (x4_1 : ByteArray) (x5_1 : ByteArray) (x6_1 : Int), v4 = .string x4_1 ∧ v5 = .string x5_1 ∧ v6 = .int .i64 x6_1 ∧ Aside0 (spec_l1Whole.l0 kq a0 x4_1 x5_1 x6_1 = some (r1, r2, r3, r4, r5)) ∧ Aside0 (kq ≤ k) ∧ Aside0 (w'.heap[gb489]? = some (.cells #[.string (⟨#[]⟩ : ByteArray), (.slice none 0 0), .bool false, .string (⟨#[]⟩ : ByteArray)] 39 (0, 0))) ∧ Aside0 (Below w.heap.size w w'))
 case atStart => exact ⟨(a0), ((⟨#[]⟩ : ByteArray)), (0), zz5, zz5, zz5, H', ⟨Nat.le_refl _⟩, ⟨(zz3 BK489)⟩, ⟨(zz4 HB GE489)⟩⟩
 case round =>
  clear H';obtain ⟨x4_1, x5_1, x6_1, rfl, rfl, rfl, HA, HK1, BK489, HB⟩ := hrel;cases gk with
  | zero => exact absurd HA.out (by simp [spec_l1Whole.l0])
  | succ k1 =>
   obtain ⟨H⟩ := HA;simp only [spec_l1Whole.l0] at H
   replace H := iteEd H;rcases H with ⟨c3b0, H⟩ | ⟨c3b0, H⟩
   ·replace H := iteNd H
    obtain ⟨c4b0, H⟩ := H;replace H := iteEq H;rcases H with ⟨c6b0, c6b1, H⟩ | ⟨c6b0, c6b1, c6, H⟩
    ·have c7b0 := eq_true (ofD : 0 ≤ x6_1)
     replace H := iteN H;obtain ⟨c8, H⟩ := H;have c8b0 := eq_true c8;have c8b1 := dT c8;clear c8;have c9b0 := eq_true (ofD : 0 ≤ x6_1);have c10b0 := eq_true (ofD : x6_1 ≤ (a0.size : Int));replace H := bindA H;obtain ⟨t490, A11, H⟩ := H;replace H := bindA H;obtain ⟨⟨t491, t492, t495, t496, t497⟩, A12, H⟩ := H;try dsimp only at H
     simp only [Option.some.injEq, Prod.mk.injEq] at H
     obtain ⟨rfl, rfl, rfl, rfl, rfl⟩ := H;have p5 : 0 ≤ (x6_1 : Int) := ofD;have q5 : x6_1 < (a0.size : Int) := ofD;have hx5 := bt_at a0 x6_1;replace p5 := eq_true p5;replace q5 := eq_true q5;go_wp2_with (first | (refine gR 97 (some 31) Tryz.func97 (spec_l1Small.calls (a0.extract 0 (x6_1 : Int).toNat) t490 _ A11.out) ?_; rintro w13 hb; replace BK489 := A_ (bB (zz3 BK489) hb); replace HB := A_ (bS (zz4 HB GE489) hb); (try clear hb)) | ((with_reducible refine gC (f := 96) rfl ?_); refine gsL (some 34) Tryz.func96 #[.agg #[.string t490, .slice none 0 0, .bool false, .string (⟨#[]⟩ : ByteArray)], .string (a0.extract (x6_1 : Int).toNat a0.size)] ?_; (refine (spec_l1Way.calls k1 t490 _ _ ([] : List ByteArray) false (⟨#[]⟩ : ByteArray) (a0.extract (x6_1 : Int).toNat a0.size) t491 t492 t495 t496 t497 _ ?side1 ?side2 A12.out).mono ?_); (case side1 => exact Kd.C_nil _ _); (case side2 => exact Nat.le_refl _); rintro e w14 ⟨v493, rfl, ho0, hb⟩; refine ⟨_, rfl, ?_⟩; have HO494 := A_ (Kd.R_lower ho0 (below_size (zz4 HB GE489))); replace BK489 := A_ (bB (zz3 BK489) hb); replace HB := A_ (bS (zz4 HB GE489) hb); (try clear hb ho0); obtain ⟨_, _, _, _, _, _, _, _⟩ := cf4 BK489; obtain ⟨Ao16, co16, eo16⟩ := Kd.R_slice HO494.out; subst eo16))
     refine pR (results_ct rfl _ _ gb489 39 #[.string t491, .slice Ao16 t492.length co16, .bool t495, .string t496] (0, 0) _ rfl (zz39 BK489) Tryz.underlying39 rfl (by kernel_rfl)) rfl ?_;exact ⟨_, zz11, (zz45 (rt HO494 BK489)), (zz4 HB GE489)⟩
    ·replace H := iteEq H
     rcases H with ⟨c18b0, c18b1, H⟩ | ⟨c18b0, c18b1, c18, H⟩
     ·have c19b0 := eq_true (ofD : 0 ≤ x6_1)
      replace H := iteN H;obtain ⟨c20, H⟩ := H;have c20b0 := eq_true c20;have c20b1 := dT c20;clear c20;have c21b0 := eq_true (ofD : 0 ≤ x6_1);have c22b0 := eq_true (ofD : x6_1 ≤ (a0.size : Int));replace H := bindA H;obtain ⟨t498, A23, H⟩ := H;replace H := bindA H;obtain ⟨⟨t499, t500, t503, t504, t505⟩, A24, H⟩ := H;try dsimp only at H
      simp only [Option.some.injEq, Prod.mk.injEq] at H
      obtain ⟨rfl, rfl, rfl, rfl, rfl⟩ := H;have p5 : 0 ≤ (x6_1 : Int) := ofD;have q5 : x6_1 < (a0.size : Int) := ofD;have hx5 := bt_at a0 x6_1;replace p5 := eq_true p5;replace q5 := eq_true q5;have p17 : 0 ≤ (x6_1 : Int) := ofD;have q17 : x6_1 < (a0.size : Int) := ofD;have hx17 := bt_at a0 x6_1;replace p17 := eq_true p17;replace q17 := eq_true q17;go_wp2_with (first | (refine gR 97 (some 31) Tryz.func97 (spec_l1Small.calls (a0.extract 0 (x6_1 : Int).toNat) t498 _ A23.out) ?_; rintro w25 hb; replace BK489 := A_ (bB (zz3 BK489) hb); replace HB := A_ (bS (zz4 HB GE489) hb); (try clear hb)) | ((with_reducible refine gC (f := 96) rfl ?_); refine gsL (some 34) Tryz.func96 #[.agg #[.string t498, .slice none 0 0, .bool false, .string (⟨#[]⟩ : ByteArray)], .string (a0.extract (x6_1 : Int).toNat a0.size)] ?_; (refine (spec_l1Way.calls k1 t498 _ _ ([] : List ByteArray) false (⟨#[]⟩ : ByteArray) (a0.extract (x6_1 : Int).toNat a0.size) t499 t500 t503 t504 t505 _ ?side1 ?side2 A24.out).mono ?_); (case side1 => exact Kd.C_nil _ _); (case side2 => exact Nat.le_refl _); rintro e w26 ⟨v501, rfl, ho0, hb⟩; refine ⟨_, rfl, ?_⟩; have HO502 := A_ (Kd.R_lower ho0 (below_size (zz4 HB GE489))); replace BK489 := A_ (bB (zz3 BK489) hb); replace HB := A_ (bS (zz4 HB GE489) hb); (try clear hb ho0); obtain ⟨_, _, _, _, _, _, _, _⟩ := cf4 BK489; obtain ⟨Ao28, co28, eo28⟩ := Kd.R_slice HO502.out; subst eo28))
      refine pR (results_ct rfl _ _ gb489 39 #[.string t499, .slice Ao28 t500.length co28, .bool t503, .string t504] (0, 0) _ rfl (zz39 BK489) Tryz.underlying39 rfl (by kernel_rfl)) rfl ?_;exact ⟨_, zz11, (zz45 (rt HO502 BK489)), (zz4 HB GE489)⟩
     ·have H' := A_ H
      clear H;have p5 : 0 ≤ (x6_1 : Int) := ofD;have q5 : x6_1 < (a0.size : Int) := ofD;have hx5 := bt_at a0 x6_1;replace p5 := eq_true p5;replace q5 := eq_true q5;have p17 : 0 ≤ (x6_1 : Int) := ofD;have q17 : x6_1 < (a0.size : Int) := ofD;have hx17 := bt_at a0 x6_1;replace p17 := eq_true p17;replace q17 := eq_true q17;go_wp2
      go_roundg k1
      case measure => have := HK1.out; omega
      case rel => exact ⟨(x4_1), (x5_1), (wrap64 (x6_1 + 1)), zz5, zz5, zz5, H', ⟨(zz20 HK1)⟩, ⟨(zz3 BK489)⟩, ⟨(zz4 HB GE489)⟩⟩
   ·replace H := Option.bind_eq_some_iff.mp H
    obtain ⟨t506, A290, H⟩ := H;replace H : ((spec_l1Way.f k1 t506 ([] : List ByteArray) false (⟨#[]⟩ : ByteArray) x5_1).bind fun bt507 => (some (bt507.1, bt507.2.1, bt507.2.2.1, bt507.2.2.2.1, bt507.2.2.2.2))) = some (r1, r2, r3, r4, r5) := H;have A29 := A_ A290;clear A290;replace H := bindA H;obtain ⟨⟨t507, t508, t511, t512, t513⟩, A30, H⟩ := H;try dsimp only at H
    simp only [Option.some.injEq, Prod.mk.injEq] at H
    obtain ⟨rfl, rfl, rfl, rfl, rfl⟩ := H;go_wp2_with (first | (refine gR 97 (some 31) Tryz.func97 (spec_l1Small.calls x4_1 t506 _ A29.out) ?_; rintro w31 hb; replace BK489 := A_ (bB (zz3 BK489) hb); replace HB := A_ (bS (zz4 HB GE489) hb); (try clear hb)) | ((with_reducible refine gC (f := 96) rfl ?_); refine gsL (some 34) Tryz.func96 #[.agg #[.string t506, .slice none 0 0, .bool false, .string (⟨#[]⟩ : ByteArray)], .string x5_1] ?_; (refine (spec_l1Way.calls k1 t506 _ _ ([] : List ByteArray) false (⟨#[]⟩ : ByteArray) x5_1 t507 t508 t511 t512 t513 _ ?side1 ?side2 A30.out).mono ?_); (case side1 => exact Kd.C_nil _ _); (case side2 => exact Nat.le_refl _); rintro e w32 ⟨v509, rfl, ho0, hb⟩; refine ⟨_, rfl, ?_⟩; have HO510 := A_ (Kd.R_lower ho0 (below_size (zz4 HB GE489))); replace BK489 := A_ (bB (zz3 BK489) hb); replace HB := A_ (bS (zz4 HB GE489) hb); (try clear hb ho0); obtain ⟨_, _, _, _, _, _, _, _⟩ := cf4 BK489; obtain ⟨Ao34, co34, eo34⟩ := Kd.R_slice HO510.out; subst eo34))
    refine pR (results_ct rfl _ _ gb489 39 #[.string t507, .slice Ao34 t508.length co34, .bool t511, .string t512] (0, 0) _ rfl (zz39 BK489) Tryz.underlying39 rfl (by kernel_rfl)) rfl ?_;exact ⟨_, zz11, (zz45 (rt HO510 BK489)), (zz4 HB GE489)⟩
def spec_AddrRead.f (k : Nat) (a0 : ByteArray) : Option (ByteArray × List ByteArray × Bool × ByteArray × Bool) := (spec_l1Cut.f k a0 35).bind fun bt515 => (if (a0.size : Int) > 60 then (some ((⟨#[]⟩ : ByteArray), ([] : List ByteArray), false, (⟨#[]⟩ : ByteArray), false)) else (if (bt515.1.size : Int) < 2 then (some ((⟨#[]⟩ : ByteArray), ([] : List ByteArray), false, (⟨#[]⟩ : ByteArray), false)) else (if 0 ≤ 2 then (if 2 ≤ (bt515.1.size : Int) then (if (bt515.1.extract 0 2).toList = ([47, 47] : List UInt8) then ((spec_l1Whole.f k (bt515.1.extract 2 bt515.1.size)).bind fun bt518 => (some (bt518.1, bt518.2.1, bt518.2.2.1, bt518.2.2.2.1, bt518.2.2.2.2))) else (some ((⟨#[]⟩ : ByteArray), ([] : List ByteArray), false, (⟨#[]⟩ : ByteArray), false))) else (none)) else (none))))
theorem spec_AddrRead.calls (k : Nat) (a0 : ByteArray) (r1 : ByteArray) (r2 : List ByteArray) (r3 : Bool) (r4 : ByteArray) (r5 : Bool) (w : World) (h : spec_AddrRead.f k a0 = some (r1, r2, r3, r4, r5)) :
  Calls Tryz.prog 46 #[.string a0] w fun e w' => ∃ v1_ : Value, e = .returned (.tuple #[.agg #[.string r1, v1_, .bool r3, .string r4], .bool r5]) ∧ Kd.R Kd.string 9 w' w.heap.size (fun _ => True) v1_ r2 ∧ Below w.heap.size w w' := by
 have hu39 := Tryz.underlying39;have HB := A_ (Below.refl w.heap.size w);unfold spec_AddrRead.f at h
 have H := h;clear h;replace H := bindA H;obtain ⟨⟨t515, t516, t517⟩, A2, H⟩ := H;try dsimp only at H
 have HF3 := A_ H;clear H;go_enter Tryz.func46, Tryz.ntmps46;go_wp2_with (first | ((with_reducible refine gD (N := 2) rfl ?_); (try (refine gate_guard (by rfl) ?_; dsimp only)); refine boxE 2 #[.string (⟨#[]⟩ : ByteArray), .slice none 0 0, .bool false, .string (⟨#[]⟩ : ByteArray)] 39 ?_; intro gb514 hg w4 hbox hb; have BK514 := A_ (hbox); have GE514 := geB hg (zz2 HB); replace HB := A_ (bS (zz2 HB) hb); clear hb hbox hg) | (refine gR 70 (some 9) Tryz.func70 (spec_l1Cut.calls k a0 35 t515 t516 t517 _ A2.out) ?_; rintro w' ⟨nd, rfl⟩) | ((with_reducible refine atG ?_ ?_ fun K_ hK_ => ?_); rfl; exact undecG) | ((with_reducible refine atI ?_ fun K_ hK_ => ?_); exact undecI))
 refine unG hK_ ?_; clear hK_ K_;obtain ⟨H⟩ := HF3;replace H := iteE H;rcases H with ⟨c5, H⟩ | ⟨c5, H⟩
 ·have c5b0 := gtT c5
  have c5b1 : decide (60 < a0.size) = true := dT (by omega);(first | refine iteT ?_ | refine iteF ?_ | skip)
  clear c5;(first | rw [c5b0] | (simp only [i64_w, i32_w]; rw [c5b0]) | skip)
  simp only [Option.some.injEq, Prod.mk.injEq] at H
  obtain ⟨rfl, rfl, rfl, rfl, rfl⟩ := H;obtain ⟨_, _, _, _, _, _, _, _⟩ := cf4 BK514;(try ((with_reducible refine upS ?_); go_simp))
  go_wp2
  refine pR (results_ct rfl _ _ gb514 39 #[.string (⟨#[]⟩ : ByteArray), .slice none 0 0, .bool false, .string (⟨#[]⟩ : ByteArray)] (0, 0) _ rfl (zz39 BK514) Tryz.underlying39 rfl (by kernel_rfl)) rfl ?_;exact ⟨_, zz11, zz41, (zz4 HB GE514)⟩
 ·have c5b0 := gtF c5
  have c5b1 : decide (60 < a0.size) = false := dF (by omega);(first | refine iteT ?_ | refine iteF ?_ | skip)
  clear c5;(first | rw [c5b0] | (simp only [i64_w, i32_w]; rw [c5b0]) | skip)
  replace H := iteE H;rcases H with ⟨c7, H⟩ | ⟨c7, H⟩
  ·have c7b0 := dT c7
   have c7b1 : decide (t515.size < 2) = true := dT (by omega);clear c7;simp only [Option.some.injEq, Prod.mk.injEq] at H
   obtain ⟨rfl, rfl, rfl, rfl, rfl⟩ := H;obtain ⟨_, _, _, _, _, _, _, _⟩ := cf4 BK514;go_wp2
   refine pR (results_ct rfl _ _ gb514 39 #[.string (⟨#[]⟩ : ByteArray), .slice none 0 0, .bool false, .string (⟨#[]⟩ : ByteArray)] (0, 0) _ rfl (zz39 BK514) Tryz.underlying39 rfl (by kernel_rfl)) rfl ?_;exact ⟨_, zz11, zz41, (zz4 HB GE514)⟩
  ·have c7b0 := dF c7
   have c7b1 : decide (t515.size < 2) = false := dF (by omega);clear c7;replace H := iteE H;rcases H with ⟨c9, H⟩ | ⟨c9, H⟩
   ·have c9b0 := eq_true c9
    have c9b1 := dT c9;clear c9;replace H := iteN H;obtain ⟨c10, H⟩ := H;have c10b0 := eq_true c10;have c10b1 := dT c10;clear c10;replace H := iteEq H;rcases H with ⟨c11b0, c11b1, H⟩ | ⟨c11b0, c11b1, c11, H⟩
    ·have c12b0 := eq_true (ofD : 2 ≤ (t515.size : Int))
     replace H := bindA H;obtain ⟨⟨t518, t519, t522, t523, t524⟩, A13, H⟩ := H;try dsimp only at H
     simp only [Option.some.injEq, Prod.mk.injEq] at H
     obtain ⟨rfl, rfl, rfl, rfl, rfl⟩ := H;go_wp2_with (first | (refine gV 71 (some 29) Tryz.func71 (spec_l1Whole.calls k (t515.extract 2 t515.size) t518 t519 t522 t523 t524 _ A13.out) ?_; rintro v520 w14 ⟨ho0, hb⟩; have HO521 := A_ (Kd.R_lower ho0 (below_size (zz4 HB GE514))); replace BK514 := A_ (bB (zz3 BK514) hb); replace HB := A_ (bS (zz4 HB GE514) hb); (try clear hb ho0); obtain ⟨_, _, _, _, _, _, _, _⟩ := cf4 BK514; obtain ⟨Ao16, co16, eo16⟩ := Kd.R_slice HO521.out; subst eo16))
     refine pR (results_ct rfl _ _ gb514 39 #[.string t518, .slice Ao16 t519.length co16, .bool t522, .string t523] (0, 0) _ rfl (zz39 BK514) Tryz.underlying39 rfl (by kernel_rfl)) rfl ?_;exact ⟨_, zz11, (zz45 (rt HO521 BK514)), (zz4 HB GE514)⟩
    ·simp only [Option.some.injEq, Prod.mk.injEq] at H
     obtain ⟨rfl, rfl, rfl, rfl, rfl⟩ := H;obtain ⟨_, _, _, _, _, _, _, _⟩ := cf4 BK514;go_wp2
     refine pR (results_ct rfl _ _ gb514 39 #[.string (⟨#[]⟩ : ByteArray), .slice none 0 0, .bool false, .string (⟨#[]⟩ : ByteArray)] (0, 0) _ rfl (zz39 BK514) Tryz.underlying39 rfl (by kernel_rfl)) rfl ?_;exact ⟨_, zz11, zz41, (zz4 HB GE514)⟩
   ·exact absurd H (by simp)
def spec_l11Norm.f (k : Nat) (a0 : ByteArray) : Option (Bool) := (spec_AddrRead.f k a0).bind fun bt525 => (if bt525.2.2.2.2 = true then ((spec_AddrText.f k bt525.1 bt525.2.1 bt525.2.2.1 bt525.2.2.2.1).bind fun t533 => (some (t533.toList == a0.toList))) else (some false))
theorem spec_l11Norm.calls (k : Nat) (a0 : ByteArray) (r : Bool) (w : World) (h : spec_l11Norm.f k a0 = some r) :
  Calls Tryz.prog 26 #[.string a0] w fun e w' => e = .returned (.bool r) ∧ Below w.heap.size w w' := by
 have hu39 := Tryz.underlying39;have HB := A_ (Below.refl w.heap.size w);unfold spec_l11Norm.f at h
 have H := h;clear h;replace H := bindA H;obtain ⟨⟨t525, t526, t529, t530, t531⟩, A2, H⟩ := H;try dsimp only at H
 have HF3 := A_ H;clear H;go_enter Tryz.func26, Tryz.ntmps26;go_wp2_with (first | (refine gV 46 (some 7) Tryz.func46 (spec_AddrRead.calls k a0 t525 t526 t529 t530 t531 _ A2.out) ?_; rintro v527 w4 ⟨ho0, hb⟩; have HO528 := A_ (Kd.R_lower ho0 (below_size (zz2 HB))); replace HB := A_ (bS (zz2 HB) hb); (try clear hb ho0)) | (refine boxF 3 #[.string (⟨#[]⟩ : ByteArray), .slice none 0 0, .bool false, .string (⟨#[]⟩ : ByteArray)] 39 ?_; intro gb532 hg w5 BK532 hb; replace HO528 := A_ (rB (zz18 HO528) hb); have GE532 := geB hg (zz2 HB); replace HB := A_ (bS (zz2 HB) hb); clear hb hg; obtain ⟨_, _, _, _, _, _, _, _⟩ := cf4 BK532; obtain ⟨Ao7, co7, eo7⟩ := Kd.R_slice HO528.out; subst eo7) | ((with_reducible refine gate_store (t := 39) (p := 3) rfl ?_); refine store_event (t := 39) (p := 3) (v := ?vo_w8) (w1 := ((((w5.setCell ⟨gb532, 0, none⟩ (.string t525)).setCell ⟨gb532, 1, none⟩ (.slice Ao7 t526.length co7)).setCell ⟨gb532, 2, none⟩ (.bool t529)).setCell ⟨gb532, 3, none⟩ (.string t530))) ?hg ?ho ?hn ?hr ?_; (case ho => rfl); (case hg => rfl); (case hn => rfl); (case hr => exact zz16); intro w8 hw; have n0_ : Aside0 (Kd.R Kd.string 9 w8 w.heap.size (fun _ => True) (.slice Ao7 t526.length co7) t526) := ⟨(by rw [hw]; exact (zz45 (rt HO528 BK532)))⟩; have n1_ : Aside0 (w8.heap[gb532]? = some (.cells #[.string t525, .slice Ao7 t526.length co7, .bool t529, .string t530] 39 (0, 0))) := ⟨(by rw [hw]; exact (zz39 BK532))⟩; have n2_ : Aside0 (Below w.heap.size w w8) := ⟨(by rw [hw]; exact (zz4 HB GE532))⟩; clear hw; clear HO528; clear BK532; clear HB; have HO528 := n0_; have BK532 := n1_; have HB := n2_; clear n0_ n1_ n2_) | ((with_reducible refine atG ?_ ?_ fun K_ hK_ => ?_); rfl; exact undecG) | ((with_reducible refine atI ?_ fun K_ hK_ => ?_); exact undecI))
 refine unG hK_ ?_; clear hK_ K_;obtain ⟨H⟩ := HF3;replace H := iteB H;rcases H with ⟨rfl, H⟩ | ⟨rfl, H⟩
 ·(first | refine iteT ?_ | refine iteF ?_ | skip)
  replace H := bindA H;obtain ⟨t533, A10, H⟩ := H;obtain rfl := sI H;obtain ⟨_, _, _, _, _, _, _, _⟩ := cf4 BK532;(try ((with_reducible refine upS ?_); go_simp))
  go_wp2_with (first | (go_at_call 47; (with_reducible refine (spec_AddrText.calls k t525 _ _ t526 t529 t530 t533 _ ?side1 ?side2 A10.out).mono ?_); (case side1 => exact (zz43 HO528)); (case side2 => exact (Kd.R_reads' HO528.out).2.1); rintro e w12 ⟨rfl, hb⟩; replace HO528 := A_ (rB (zz18 HO528) hb); replace BK532 := A_ (bB (zz3 BK532) hb); replace HB := A_ (bS (zz4 HB GE532) hb); (try clear hb)))
  go_ret
  exact ⟨zz11, (zz4 HB GE532)⟩
 ·(first | refine iteT ?_ | refine iteF ?_ | skip)
  obtain rfl := sI H;(try ((with_reducible refine upS ?_); go_simp))
  go_wp2
  go_ret
  exact ⟨zz11, (zz4 HB GE532)⟩
mutual
def spec_WorldOk.l0 : Nat → List (S30) → Int → Option (Bool)
 | 0, _, _ => none
 | k + 1, x0, x3 => if x3 < (x0.length : Int) then (if 0 ≤ x3 then ((spec_l11Norm.f k ((rd_T30 x0 x3).f0)).bind fun t535 => (if t535 = true then (if (((rd_T30 x0 x3).f1).size : Int) > 300 then (spec_WorldOk.j1 k x0 x3 true) else ((spec_l6In.f ((rd_T30 x0 x3).f3) 0 9).bind fun t538 => (if t538 = true then (if ((rd_T30 x0 x3).f2).toList = ([] : List UInt8) then (spec_WorldOk.j1 k x0 x3 false) else (if ((rd_T30 x0 x3).f1).toList = ([] : List UInt8) then ((spec_l11Norm.f k ((rd_T30 x0 x3).f2)).bind fun t542 => (spec_WorldOk.j1 k x0 x3 (!t542))) else (spec_WorldOk.j1 k x0 x3 true))) else (spec_WorldOk.j1 k x0 x3 true)))) else (spec_WorldOk.j1 k x0 x3 true))) else (none)) else (some (decide ((x0.length : Int) ≤ 12)))
def spec_WorldOk.j1 : Nat → List (S30) → Int → Bool → Option (Bool)
 | 0, _, _, _ => none
 | k + 1, x0, x3, x60 => if x60 = true then (some false) else (spec_WorldOk.l1 k x0 x3 0)
def spec_WorldOk.l1 : Nat → List (S30) → Int → Int → Option (Bool)
 | 0, _, _, _ => none
 | k + 1, x0, x3, x4 => if x4 < x3 then (if 0 ≤ x4 then (if x4 < (x0.length : Int) then (if 0 ≤ x3 then (if x3 < (x0.length : Int) then (if ((rd_T30 x0 x4).f0).toList = ((rd_T30 x0 x3).f0).toList then (some false) else (spec_WorldOk.l1 k x0 x3 (wrap64 (x4 + 1)))) else (none)) else (none)) else (none)) else (none)) else (spec_WorldOk.l0 k x0 (wrap64 (x3 + 1)))
end
def spec_WorldOk.f (k : Nat) (l0 : List (S30)) : Option (Bool) := spec_WorldOk.l0 k l0 0
theorem spec_WorldOk.calls (k : Nat) (A0 : Option Addr) (c0 : Nat) (l0 : List (S30)) (r : Bool) (w : World) (hr0 : Kd.C k30 w A0 l0.length l0) (hc0 : l0.length ≤ c0) (h : spec_WorldOk.f k l0 = some r) :
  Calls Tryz.prog 10 #[.slice A0 l0.length c0] w fun e w' => e = .returned (.bool r) ∧ Below w.heap.size w w' := by
 have HR0 := A_ hr0;have HC0 := A_ hc0;clear hr0 hc0;have HB := A_ (Below.refl w.heap.size w);unfold spec_WorldOk.f at h
 have H := h;clear h;have H' := A_ H;clear H;go_enter Tryz.func10, Tryz.ntmps10;go_wp2
 repeat (go_quiet (fail); try go_wp2)
 go_loopg [3] k (fun kq v3 w' => ∃ (x3_1 : Int), v3 = .int .i64 x3_1 ∧ Aside0 (spec_WorldOk.l0 kq l0 x3_1 = some r) ∧ Aside0 (kq ≤ k) ∧ Aside0 (Below w.heap.size w w'))
 case atStart => exact ⟨(0), zz5, H', ⟨Nat.le_refl _⟩, ⟨(zz2 HB)⟩⟩
 case round =>
  clear H';obtain ⟨x3_1, rfl, HA, HK1, HB⟩ := hrel;cases gk with
  | zero => exact absurd HA.out (by simp [spec_WorldOk.l0])
  | succ k1 =>
   obtain ⟨H⟩ := HA;simp only [spec_WorldOk.l0] at H
   replace H := iteEd H;rcases H with ⟨c2b0, H⟩ | ⟨c2b0, H⟩
   ·have HC3 := A_ H
    clear H;go_upto_region 4 with (fail)
    repeat (go_quiet (fail); go_upto_region 4 with (fail))
    go_cut [60] (fun v60 wc => ∃ (kq : Nat) (x60_2 : Bool), v60 = .bool x60_2 ∧ Aside0 (spec_WorldOk.j1 kq l0 x3_1 x60_2 = some r) ∧ Aside0 (kq ≤ k1) ∧ Aside0 (Below w.heap.size w wc))
    case first =>
     obtain ⟨H⟩ := HC3;replace H := iteNd H;obtain ⟨c4b0, H⟩ := H;(first | rw [c4b0] | (simp only [i64_w, i32_w]; rw [c4b0]) | skip)
     replace H := bindA H;obtain ⟨t535, A5, H⟩ := H;have HF6 := A_ H;clear H;obtain ⟨⟨ad534, e534, hx534_0, hx534_1, hx534_2, hx534_3⟩, p534, q534⟩ := atB (at_T30 HR0.out x3_1);cases e534
     obtain ⟨hx534_0, hx534_1, hx534_2, hx534_3⟩ := cb4 HB hx534_0 hx534_1 hx534_2 hx534_3;go_wp2_with (first | (go_at_call 26; (with_reducible refine (spec_l11Norm.calls k1 ((rd_T30 l0 x3_1).f0) t535 _ A5.out).mono ?_); rintro e w7 ⟨rfl, hb⟩; replace HB := A_ (bS (zz2 HB) hb); (try clear hb)) | ((with_reducible refine atG ?_ ?_ fun K_ hK_ => ?_); rfl; exact undecG) | ((with_reducible refine atI ?_ fun K_ hK_ => ?_); exact undecI))
     repeat (go_quiet (first | (go_at_call 26; (with_reducible refine (spec_l11Norm.calls k1 ((rd_T30 l0 x3_1).f0) t535 _ A5.out).mono ?_); rintro e w7 ⟨rfl, hb⟩; replace HB := A_ (bS (zz2 HB) hb); (try clear hb)) | ((with_reducible refine atG ?_ ?_ fun K_ hK_ => ?_); rfl; exact undecG) | ((with_reducible refine atI ?_ fun K_ hK_ => ?_); exact undecI)); go_wp2_with (first | (go_at_call 26; (with_reducible refine (spec_l11Norm.calls k1 ((rd_T30 l0 x3_1).f0) t535 _ A5.out).mono ?_); rintro e w7 ⟨rfl, hb⟩; replace HB := A_ (bS (zz2 HB) hb); (try clear hb)) | ((with_reducible refine atG ?_ ?_ fun K_ hK_ => ?_); rfl; exact undecG) | ((with_reducible refine atI ?_ fun K_ hK_ => ?_); exact undecI)))
     refine unG hK_ ?_; clear hK_ K_;obtain ⟨H⟩ := HF6;replace H := iteB H;rcases H with ⟨rfl, H⟩ | ⟨rfl, H⟩
     ·(first | refine iteT ?_ | refine iteF ?_ | skip)
      replace H := iteE H;rcases H with ⟨c9, H⟩ | ⟨c9, H⟩
      ·have c9b0 := gtT c9
       have c9b1 : decide (300 < ((rd_T30 l0 x3_1).f1).size) = true := dT (by omega);clear c9;have H' := A_ H;clear H;obtain ⟨⟨ad536, e536, hx536_0, hx536_1, hx536_2, hx536_3⟩, p536, q536⟩ := atB (at_T30 HR0.out x3_1);obtain rfl : ad534 = ad536 := (by injection e536);obtain ⟨hx536_0, hx536_1, hx536_2, hx536_3⟩ := cb4 HB hx536_0 hx536_1 hx536_2 hx536_3;go_wp2
       repeat (go_quiet (fail); try go_wp2)
       go_meet
       case rel => exact ⟨_, (true), zz5, H', ⟨(zz25 HK1)⟩, ⟨(zz2 HB)⟩⟩
      ·have c9b0 := gtF c9
       have c9b1 : decide (300 < ((rd_T30 l0 x3_1).f1).size) = false := dF (by omega);clear c9;replace H := bindA H;obtain ⟨t538, A10, H⟩ := H;have HF11 := A_ H;clear H;obtain ⟨⟨ad536, e536, hx536_0, hx536_1, hx536_2, hx536_3⟩, p536, q536⟩ := atB (at_T30 HR0.out x3_1);obtain rfl : ad534 = ad536 := (by injection e536);obtain ⟨hx536_0, hx536_1, hx536_2, hx536_3⟩ := cb4 HB hx536_0 hx536_1 hx536_2 hx536_3;obtain ⟨⟨ad537, e537, hx537_0, hx537_1, hx537_2, hx537_3⟩, p537, q537⟩ := atB (at_T30 HR0.out x3_1);obtain rfl : ad534 = ad537 := (by injection e537);obtain ⟨hx537_0, hx537_1, hx537_2, hx537_3⟩ := cb4 HB hx537_0 hx537_1 hx537_2 hx537_3;go_wp2_with (first | (go_at_call 27; (with_reducible refine (spec_l6In.calls ((rd_T30 l0 x3_1).f3) 0 9 t538 _ A10.out).mono ?_); rintro e w' ⟨rfl, ⟨nd, rfl⟩⟩; (try first | exact ⟨rfl, _, World.drewN_drewN _ _ _⟩ | exact ⟨rfl, _, Eq.trans (World.drewN_drewN _ _ _) (congrArg (World.drewN _) (Nat.add_assoc _ _ _))⟩)) | ((with_reducible refine atG ?_ ?_ fun K_ hK_ => ?_); rfl; exact undecG) | ((with_reducible refine atI ?_ fun K_ hK_ => ?_); exact undecI))
       repeat (go_quiet (first | (go_at_call 27; (with_reducible refine (spec_l6In.calls ((rd_T30 l0 x3_1).f3) 0 9 t538 _ A10.out).mono ?_); rintro e w' ⟨rfl, ⟨nd, rfl⟩⟩; (try first | exact ⟨rfl, _, World.drewN_drewN _ _ _⟩ | exact ⟨rfl, _, Eq.trans (World.drewN_drewN _ _ _) (congrArg (World.drewN _) (Nat.add_assoc _ _ _))⟩)) | ((with_reducible refine atG ?_ ?_ fun K_ hK_ => ?_); rfl; exact undecG) | ((with_reducible refine atI ?_ fun K_ hK_ => ?_); exact undecI)); go_wp2_with (first | (go_at_call 27; (with_reducible refine (spec_l6In.calls ((rd_T30 l0 x3_1).f3) 0 9 t538 _ A10.out).mono ?_); rintro e w' ⟨rfl, ⟨nd, rfl⟩⟩; (try first | exact ⟨rfl, _, World.drewN_drewN _ _ _⟩ | exact ⟨rfl, _, Eq.trans (World.drewN_drewN _ _ _) (congrArg (World.drewN _) (Nat.add_assoc _ _ _))⟩)) | ((with_reducible refine atG ?_ ?_ fun K_ hK_ => ?_); rfl; exact undecG) | ((with_reducible refine atI ?_ fun K_ hK_ => ?_); exact undecI)))
       refine unG hK_ ?_; clear hK_ K_;obtain ⟨H⟩ := HF11;replace H := iteB H;rcases H with ⟨rfl, H⟩ | ⟨rfl, H⟩
       ·(first | refine iteT ?_ | refine iteF ?_ | skip)
        replace H := iteEq H;rcases H with ⟨c13b0, c13b1, H⟩ | ⟨c13b0, c13b1, c13, H⟩
        ·have H' := A_ H
         clear H;obtain ⟨⟨ad539, e539, hx539_0, hx539_1, hx539_2, hx539_3⟩, p539, q539⟩ := atB (at_T30 HR0.out x3_1);obtain rfl : ad534 = ad539 := (by injection e539);obtain ⟨hx539_0, hx539_1, hx539_2, hx539_3⟩ := cb4 HB hx539_0 hx539_1 hx539_2 hx539_3;go_wp2
         repeat (go_quiet (fail); try go_wp2)
         go_meet
         case rel => exact ⟨_, (false), zz5, H', ⟨(zz25 HK1)⟩, ⟨(zz2 HB)⟩⟩
        ·replace H := iteEq H
         rcases H with ⟨c14b0, c14b1, H⟩ | ⟨c14b0, c14b1, c14, H⟩
         ·replace H := Option.bind_eq_some_iff.mp H
          obtain ⟨t542, A150, H⟩ := H;replace H : (spec_WorldOk.j1 k1 l0 x3_1 (!t542)) = some r := H;have A15 := A_ A150;clear A150;have H' := A_ H;clear H;obtain ⟨⟨ad539, e539, hx539_0, hx539_1, hx539_2, hx539_3⟩, p539, q539⟩ := atB (at_T30 HR0.out x3_1);obtain rfl : ad534 = ad539 := (by injection e539);obtain ⟨hx539_0, hx539_1, hx539_2, hx539_3⟩ := cb4 HB hx539_0 hx539_1 hx539_2 hx539_3;obtain ⟨⟨ad540, e540, hx540_0, hx540_1, hx540_2, hx540_3⟩, p540, q540⟩ := atB (at_T30 HR0.out x3_1);obtain rfl : ad534 = ad540 := (by injection e540);obtain ⟨hx540_0, hx540_1, hx540_2, hx540_3⟩ := cb4 HB hx540_0 hx540_1 hx540_2 hx540_3;obtain ⟨⟨ad541, e541, hx541_0, hx541_1, hx541_2, hx541_3⟩, p541, q541⟩ := atB (at_T30 HR0.out x3_1);obtain rfl : ad534 = ad541 := (by injection e541);obtain ⟨hx541_0, hx541_1, hx541_2, hx541_3⟩ := cb4 HB hx541_0 hx541_1 hx541_2 hx541_3;go_wp2_with (first | (go_at_call 26; (with_reducible refine (spec_l11Norm.calls k1 ((rd_T30 l0 x3_1).f2) t542 _ A15.out).mono ?_); rintro e w16 ⟨rfl, hb⟩; replace HB := A_ (bS (zz2 HB) hb); (try clear hb)))
          repeat (go_quiet (first | (go_at_call 26; (with_reducible refine (spec_l11Norm.calls k1 ((rd_T30 l0 x3_1).f2) t542 _ A15.out).mono ?_); rintro e w16 ⟨rfl, hb⟩; replace HB := A_ (bS (zz2 HB) hb); (try clear hb))); try go_wp2_with (first | (go_at_call 26; (with_reducible refine (spec_l11Norm.calls k1 ((rd_T30 l0 x3_1).f2) t542 _ A15.out).mono ?_); rintro e w16 ⟨rfl, hb⟩; replace HB := A_ (bS (zz2 HB) hb); (try clear hb))))
          go_meet
          case rel => exact ⟨_, (!t542), zz5, H', ⟨(zz25 HK1)⟩, ⟨(zz2 HB)⟩⟩
         ·have H' := A_ H
          clear H;obtain ⟨⟨ad539, e539, hx539_0, hx539_1, hx539_2, hx539_3⟩, p539, q539⟩ := atB (at_T30 HR0.out x3_1);obtain rfl : ad534 = ad539 := (by injection e539);obtain ⟨hx539_0, hx539_1, hx539_2, hx539_3⟩ := cb4 HB hx539_0 hx539_1 hx539_2 hx539_3;obtain ⟨⟨ad540, e540, hx540_0, hx540_1, hx540_2, hx540_3⟩, p540, q540⟩ := atB (at_T30 HR0.out x3_1);obtain rfl : ad534 = ad540 := (by injection e540);obtain ⟨hx540_0, hx540_1, hx540_2, hx540_3⟩ := cb4 HB hx540_0 hx540_1 hx540_2 hx540_3;go_wp2
          repeat (go_quiet (fail); try go_wp2)
          go_meet
          case rel => exact ⟨_, (true), zz5, H', ⟨(zz25 HK1)⟩, ⟨(zz2 HB)⟩⟩
       ·(first | refine iteT ?_ | refine iteF ?_ | skip)
        have H' := A_ H;clear H;(try ((with_reducible refine upS ?_); go_simp))
        go_wp2
        repeat (go_quiet (fail); try go_wp2)
        go_meet
        case rel => exact ⟨_, (true), zz5, H', ⟨(zz25 HK1)⟩, ⟨(zz2 HB)⟩⟩
     ·(first | refine iteT ?_ | refine iteF ?_ | skip)
      have H' := A_ H;clear H;(try ((with_reducible refine upS ?_); go_simp))
      go_wp2
      repeat (go_quiet (fail); try go_wp2)
      go_meet
      case rel => exact ⟨_, (true), zz5, H', ⟨(zz25 HK1)⟩, ⟨(zz2 HB)⟩⟩
    case rest =>
     clear HC3;obtain ⟨kq, x60_2, rfl, HA, HJ2, HB⟩ := hcut;cases kq with
     | zero => exact absurd HA.out (by simp [spec_WorldOk.j1])
     | succ kj2 =>
      obtain ⟨H⟩ := HA;simp only [spec_WorldOk.j1] at H
      replace H := iteB H;rcases H with ⟨rfl, H⟩ | ⟨rfl, H⟩
      ·obtain rfl := sI H
       go_wp2
       repeat (go_quiet (fail); try go_wp2)
       go_ret
       exact ⟨zz11, (zz2 HB)⟩
      ·have H' := A_ H
       clear H;go_wp2
       repeat (go_quiet (fail); try go_wp2)
       go_loopg [4] kj2 (fun kq v4 w' => ∃ (x4_3 : Int), v4 = .int .i64 x4_3 ∧ Aside0 (spec_WorldOk.l1 kq l0 x3_1 x4_3 = some r) ∧ Aside0 (kq ≤ kj2) ∧ Aside0 (Below w.heap.size w w'))
       case atStart => exact ⟨(0), zz5, H', ⟨Nat.le_refl _⟩, ⟨(zz2 HB)⟩⟩
       case round =>
        clear H';obtain ⟨x4_3, rfl, HA, HK3, HB⟩ := hrel;cases gk with
        | zero => exact absurd HA.out (by simp [spec_WorldOk.l1])
        | succ k3 =>
         obtain ⟨H⟩ := HA;simp only [spec_WorldOk.l1] at H
         replace H := iteEd H;rcases H with ⟨c18b0, H⟩ | ⟨c18b0, H⟩
         ·replace H := iteNd H
          obtain ⟨c19b0, H⟩ := H;replace H := iteNd H;obtain ⟨c20b0, H⟩ := H;replace H := iteNd H;obtain ⟨c21b0, H⟩ := H;replace H := iteNd H;obtain ⟨c22b0, H⟩ := H;replace H := iteEq H;rcases H with ⟨c23b0, c23b1, H⟩ | ⟨c23b0, c23b1, c23, H⟩
          ·obtain rfl := sI H
           obtain ⟨⟨ad543, e543, hx543_0, hx543_1, hx543_2, hx543_3⟩, p543, q543⟩ := atB (at_T30 HR0.out x4_3);cases e543
           obtain ⟨hx543_0, hx543_1, hx543_2, hx543_3⟩ := cb4 HB hx543_0 hx543_1 hx543_2 hx543_3;obtain ⟨⟨ad544, e544, hx544_0, hx544_1, hx544_2, hx544_3⟩, p544, q544⟩ := atB (at_T30 HR0.out x3_1);obtain rfl : ad543 = ad544 := (by injection e544);obtain ⟨hx544_0, hx544_1, hx544_2, hx544_3⟩ := cb4 HB hx544_0 hx544_1 hx544_2 hx544_3;go_wp2
           repeat (go_quiet (fail); try go_wp2)
           go_ret
           exact ⟨zz11, (zz2 HB)⟩
          ·have H' := A_ H
           clear H;obtain ⟨⟨ad543, e543, hx543_0, hx543_1, hx543_2, hx543_3⟩, p543, q543⟩ := atB (at_T30 HR0.out x4_3);cases e543
           obtain ⟨hx543_0, hx543_1, hx543_2, hx543_3⟩ := cb4 HB hx543_0 hx543_1 hx543_2 hx543_3;obtain ⟨⟨ad544, e544, hx544_0, hx544_1, hx544_2, hx544_3⟩, p544, q544⟩ := atB (at_T30 HR0.out x3_1);obtain rfl : ad543 = ad544 := (by injection e544);obtain ⟨hx544_0, hx544_1, hx544_2, hx544_3⟩ := cb4 HB hx544_0 hx544_1 hx544_2 hx544_3;go_wp2
           repeat (go_quiet (fail); try go_wp2)
           go_roundg k3
           case measure => have := HK1.out; have := HJ2.out; have := HK3.out; omega
           case rel => exact ⟨(wrap64 (x4_3 + 1)), zz5, H', ⟨(zz60 HK1 HJ2 HK3)⟩, ⟨(zz2 HB)⟩⟩
         ·have H' := A_ H
          clear H;go_wp2
          repeat (go_quiet (fail); try go_wp2)
          go_roundg k3
          case measure => have := HK1.out; have := HJ2.out; have := HK3.out; omega
          case rel => exact ⟨(wrap64 (x3_1 + 1)), zz5, H', ⟨(zz60 HK1 HJ2 HK3)⟩, ⟨(zz2 HB)⟩⟩
   ·obtain rfl := sI H
    go_wp2
    repeat (go_quiet (fail); try go_wp2)
    go_ret
    exact ⟨zz11, (zz2 HB)⟩
def spec_l11Get.f (k : Nat) (l0 : List (S30)) (a1 : ByteArray) (a2 : Int) : Option (Int × ByteArray) := (spec_l11At.f k l0 a1).bind fun bt545 => (if bt545.2.2.2.2 = true then (if a2 < bt545.2.2.2.1 then (some (3, (⟨#[]⟩ : ByteArray))) else (if bt545.2.2.1.toList = ([] : List UInt8) then (some (1, bt545.2.1)) else (some (2, bt545.2.2.1)))) else (some (0, (⟨#[]⟩ : ByteArray))))
theorem spec_l11Get.calls (k : Nat) (A0 : Option Addr) (c0 : Nat) (l0 : List (S30)) (a1 : ByteArray) (a2 : Int) (r1 : Int) (r2 : ByteArray) (w : World) (hr0 : Kd.C k30 w A0 l0.length l0) (hc0 : l0.length ≤ c0) (h : spec_l11Get.f k l0 a1 a2 = some (r1, r2)) :
  Calls Tryz.prog 23 #[.slice A0 l0.length c0, .string a1, .int .i64 a2] w fun e w' => e = .returned (.tuple #[.int .i64 r1, .string r2]) ∧ Below w.heap.size w w' := by
 have hu30 := Tryz.underlying30;have HR0 := A_ hr0;have HC0 := A_ hc0;clear hr0 hc0;have HB := A_ (Below.refl w.heap.size w);unfold spec_l11Get.f at h
 have H := h;clear h;replace H := bindA H;obtain ⟨⟨t545, t546, t547, t548, t549⟩, A4, H⟩ := H;try dsimp only at H
 have HF5 := A_ H;clear H;go_enter Tryz.func23, Tryz.ntmps23;go_upto_if 16 with (first | (go_at_call 44; (with_reducible refine (spec_l11At.calls k _ _ l0 a1 t545 t546 t547 t548 t549 _ ?side1 ?side2 A4.out).mono ?_); (case side1 => exact (zz63 HR0)); (case side2 => exact HC0.out); rintro e w6 ⟨rfl, hb⟩; replace HB := A_ (bS (zz2 HB) hb); (try clear hb)) | (refine boxF 8 #[.string (⟨#[]⟩ : ByteArray), .string (⟨#[]⟩ : ByteArray), .string (⟨#[]⟩ : ByteArray), .int .i64 0] 30 ?_; intro gb550 hg w7 BK550 hb; have GE550 := geB hg (zz2 HB); replace HB := A_ (bS (zz2 HB) hb); clear hb hg; obtain ⟨_, _, _, _, _, _, _, _⟩ := cf4 BK550) | ((with_reducible refine gate_store (t := 30) (p := 8) rfl ?_); (try (rw [drewN_self w7]; generalize hq_ : World.drewN w7 _ = w7; have HB := A_ (below_at hq_ HB.out); clear hq_ BK550 HB; have BK550 := A_ (blk_at hq_ BK550.out))); refine store_event (t := 30) (p := 8) (v := ?vo_w9) (w1 := ((((w7.setCell ⟨gb550, 0, none⟩ (.string t545)).setCell ⟨gb550, 1, none⟩ (.string t546)).setCell ⟨gb550, 2, none⟩ (.string t547)).setCell ⟨gb550, 3, none⟩ (.int .i64 t548))) ?hg ?ho ?hn ?hr ?_; (case ho => rfl); (case hg => rfl); (case hn => rfl); (case hr => exact zz16); intro w9 hw; have n0_ : Aside0 (w9.heap[gb550]? = some (.cells #[.string t545, .string t546, .string t547, .int .i64 t548] 30 (0, 0))) := ⟨(by rw [hw]; exact (zz39 BK550))⟩; have n1_ : Aside0 (Below w.heap.size w w9) := ⟨(by rw [hw]; exact (zz4 HB GE550))⟩; clear hw; clear BK550; clear HB; have BK550 := n0_; have HB := n1_; clear n0_ n1_))
 repeat (go_quiet (first | (go_at_call 44; (with_reducible refine (spec_l11At.calls k _ _ l0 a1 t545 t546 t547 t548 t549 _ ?side1 ?side2 A4.out).mono ?_); (case side1 => exact (zz63 HR0)); (case side2 => exact HC0.out); rintro e w6 ⟨rfl, hb⟩; replace HB := A_ (bS (zz2 HB) hb); (try clear hb)) | (refine boxF 8 #[.string (⟨#[]⟩ : ByteArray), .string (⟨#[]⟩ : ByteArray), .string (⟨#[]⟩ : ByteArray), .int .i64 0] 30 ?_; intro gb550 hg w7 BK550 hb; have GE550 := geB hg (zz2 HB); replace HB := A_ (bS (zz2 HB) hb); clear hb hg; obtain ⟨_, _, _, _, _, _, _, _⟩ := cf4 BK550) | ((with_reducible refine gate_store (t := 30) (p := 8) rfl ?_); (try (rw [drewN_self w7]; generalize hq_ : World.drewN w7 _ = w7; have HB := A_ (below_at hq_ HB.out); clear hq_ BK550 HB; have BK550 := A_ (blk_at hq_ BK550.out))); refine store_event (t := 30) (p := 8) (v := ?vo_w9) (w1 := ((((w7.setCell ⟨gb550, 0, none⟩ (.string t545)).setCell ⟨gb550, 1, none⟩ (.string t546)).setCell ⟨gb550, 2, none⟩ (.string t547)).setCell ⟨gb550, 3, none⟩ (.int .i64 t548))) ?hg ?ho ?hn ?hr ?_; (case ho => rfl); (case hg => rfl); (case hn => rfl); (case hr => exact zz16); intro w9 hw; have n0_ : Aside0 (w9.heap[gb550]? = some (.cells #[.string t545, .string t546, .string t547, .int .i64 t548] 30 (0, 0))) := ⟨(by rw [hw]; exact (zz39 BK550))⟩; have n1_ : Aside0 (Below w.heap.size w w9) := ⟨(by rw [hw]; exact (zz4 HB GE550))⟩; clear hw; clear BK550; clear HB; have BK550 := n0_; have HB := n1_; clear n0_ n1_)); go_upto_if 16 with (first | (go_at_call 44; (with_reducible refine (spec_l11At.calls k _ _ l0 a1 t545 t546 t547 t548 t549 _ ?side1 ?side2 A4.out).mono ?_); (case side1 => exact (zz63 HR0)); (case side2 => exact HC0.out); rintro e w6 ⟨rfl, hb⟩; replace HB := A_ (bS (zz2 HB) hb); (try clear hb)) | (refine boxF 8 #[.string (⟨#[]⟩ : ByteArray), .string (⟨#[]⟩ : ByteArray), .string (⟨#[]⟩ : ByteArray), .int .i64 0] 30 ?_; intro gb550 hg w7 BK550 hb; have GE550 := geB hg (zz2 HB); replace HB := A_ (bS (zz2 HB) hb); clear hb hg; obtain ⟨_, _, _, _, _, _, _, _⟩ := cf4 BK550) | ((with_reducible refine gate_store (t := 30) (p := 8) rfl ?_); (try (rw [drewN_self w7]; generalize hq_ : World.drewN w7 _ = w7; have HB := A_ (below_at hq_ HB.out); clear hq_ BK550 HB; have BK550 := A_ (blk_at hq_ BK550.out))); refine store_event (t := 30) (p := 8) (v := ?vo_w9) (w1 := ((((w7.setCell ⟨gb550, 0, none⟩ (.string t545)).setCell ⟨gb550, 1, none⟩ (.string t546)).setCell ⟨gb550, 2, none⟩ (.string t547)).setCell ⟨gb550, 3, none⟩ (.int .i64 t548))) ?hg ?ho ?hn ?hr ?_; (case ho => rfl); (case hg => rfl); (case hn => rfl); (case hr => exact zz16); intro w9 hw; have n0_ : Aside0 (w9.heap[gb550]? = some (.cells #[.string t545, .string t546, .string t547, .int .i64 t548] 30 (0, 0))) := ⟨(by rw [hw]; exact (zz39 BK550))⟩; have n1_ : Aside0 (Below w.heap.size w w9) := ⟨(by rw [hw]; exact (zz4 HB GE550))⟩; clear hw; clear BK550; clear HB; have BK550 := n0_; have HB := n1_; clear n0_ n1_)))
 obtain ⟨H⟩ := HF5;replace H := iteB H;rcases H with ⟨rfl, H⟩ | ⟨rfl, H⟩
 ·replace H := iteE H
  rcases H with ⟨c11, H⟩ | ⟨c11, H⟩
  ·have c11b0 := dT c11
   clear c11;(first | rw [c11b0] | (simp only [i64_w, i32_w]; rw [c11b0]) | skip)
   simp only [Option.some.injEq, Prod.mk.injEq] at H
   obtain ⟨rfl, rfl⟩ := H;obtain ⟨_, _, _, _, _, _, _, _⟩ := cf4 BK550;go_wp2
   repeat (go_quiet (fail); try go_wp2)
   go_ret2
   exact ⟨zz11, (zz4 HB GE550)⟩
  ·have c11b0 := dF c11
   clear c11;(first | rw [c11b0] | (simp only [i64_w, i32_w]; rw [c11b0]) | skip)
   replace H := iteEq H;rcases H with ⟨c13b0, c13b1, H⟩ | ⟨c13b0, c13b1, c13, H⟩
   ·simp only [Option.some.injEq, Prod.mk.injEq] at H
    obtain ⟨rfl, rfl⟩ := H;obtain ⟨_, _, _, _, _, _, _, _⟩ := cf4 BK550;go_wp2
    repeat (go_quiet (fail); try go_wp2)
    go_ret2
    exact ⟨zz11, (zz4 HB GE550)⟩
   ·simp only [Option.some.injEq, Prod.mk.injEq] at H
    obtain ⟨rfl, rfl⟩ := H;obtain ⟨_, _, _, _, _, _, _, _⟩ := cf4 BK550;go_wp2
    repeat (go_quiet (fail); try go_wp2)
    go_ret2
    exact ⟨zz11, (zz4 HB GE550)⟩
 ·simp only [Option.some.injEq, Prod.mk.injEq] at H
  obtain ⟨rfl, rfl⟩ := H;go_wp2
  repeat (go_quiet (fail); try go_wp2)
  go_ret2
  exact ⟨zz11, (zz4 HB GE550)⟩
def spec_WorldGet.f (k : Nat) (l0 : List (S30)) (a1 : ByteArray) (a2 : Int) : Option (Int × ByteArray) := (spec_WorldOk.f k l0).bind fun t551 => (if t551 = true then (if a2 < 0 then (some (0, (⟨#[]⟩ : ByteArray))) else ((spec_l11Get.f k l0 a1 a2).bind fun bt552 => (some (bt552.1, bt552.2)))) else (some (0, (⟨#[]⟩ : ByteArray))))
theorem spec_WorldGet.calls (k : Nat) (A0 : Option Addr) (c0 : Nat) (l0 : List (S30)) (a1 : ByteArray) (a2 : Int) (r1 : Int) (r2 : ByteArray) (w : World) (hr0 : Kd.C k30 w A0 l0.length l0) (hc0 : l0.length ≤ c0) (h : spec_WorldGet.f k l0 a1 a2 = some (r1, r2)) :
  Calls Tryz.prog 8 #[.slice A0 l0.length c0, .string a1, .int .i64 a2] w fun e w' => e = .returned (.tuple #[.int .i64 r1, .string r2]) ∧ Below w.heap.size w w' := by
 have HR0 := A_ hr0;have HC0 := A_ hc0;clear hr0 hc0;have HB := A_ (Below.refl w.heap.size w);unfold spec_WorldGet.f at h
 have H := h;clear h;replace H := bindA H;obtain ⟨t551, A4, H⟩ := H;have HF5 := A_ H;clear H;go_enter Tryz.func8, Tryz.ntmps8;go_wp2_with (first | (refine gR 10 (some 9) Tryz.func10 (spec_WorldOk.calls k _ _ l0 t551 _ ?side1 ?side2 A4.out) ?_; (case side1 => exact (zz63 HR0)); (case side2 => exact HC0.out); rintro w6 hb; replace HB := A_ (bS (zz2 HB) hb); (try clear hb)) | ((with_reducible refine atG ?_ ?_ fun K_ hK_ => ?_); rfl; exact undecG) | ((with_reducible refine atI ?_ fun K_ hK_ => ?_); exact undecI))
 refine unG hK_ ?_; clear hK_ K_;obtain ⟨H⟩ := HF5;replace H := iteB H;rcases H with ⟨rfl, H⟩ | ⟨rfl, H⟩
 ·(first | refine iteT ?_ | refine iteF ?_ | skip)
  replace H := iteEd H;rcases H with ⟨c8b0, H⟩ | ⟨c8b0, H⟩
  ·simp only [Option.some.injEq, Prod.mk.injEq] at H
   obtain ⟨rfl, rfl⟩ := H;go_wp2
   go_ret2
   exact ⟨zz11, (zz2 HB)⟩
  ·replace H := Option.bind_eq_some_iff.mp H
   obtain ⟨⟨t552, t553⟩, A90, H⟩ := H;replace H : (some (t552, t553)) = some (r1, r2) := H;have A9 := A_ A90;clear A90;simp only [Option.some.injEq, Prod.mk.injEq] at H
   obtain ⟨rfl, rfl⟩ := H;go_wp2_with (first | (refine gR 23 (some 18) Tryz.func23 (spec_l11Get.calls k _ _ l0 a1 a2 t552 t553 _ ?side1 ?side2 A9.out) ?_; (case side1 => exact (zz21 HR0 HB)); (case side2 => exact HC0.out); rintro w10 hb; replace HB := A_ (bS (zz2 HB) hb); (try clear hb)))
   go_ret2
   exact ⟨zz11, (zz2 HB)⟩
 ·(first | refine iteT ?_ | refine iteF ?_ | skip)
  simp only [Option.some.injEq, Prod.mk.injEq] at H
  obtain ⟨rfl, rfl⟩ := H;(try ((with_reducible refine upS ?_); go_simp))
  go_wp2
  go_ret2
  exact ⟨zz11, (zz2 HB)⟩
end Go.Proofs.YtpomhjkbgbociaaGreatDoor.P
end
section
namespace Go.Proofs
open Go.Shelf
def Tryz.lays156_ren : Go.Shelf.Ren := ⟨fun | 156 => 92 | 165 => 113 | 166 => 114 | 169 => 115 | 240 => 128 | 241 => 129 | 276 => 136 | 277 => 137 | n => n, fun | 31 => 35 | 9 => 9 | 3 => 3 | 4 => 4 | 0 => 0 | 20 => 20 | 72 => 121 | 76 => 125 | 70 => 119 | 37 => 22 | 75 => 124 | 127 => 135 | 164 => 140 | 5 => 5 | 80 => 127 | n => n, fun | n => n⟩
theorem Tryz.lays156 : Go.Proofs.Lays.n156 Tryz.prog Tryz.lays156_ren := {
 mixed := by kernel_rfl
 f156 := Tryz.func92.trans (congrArg some (by kernel_rfl))
 f165 := Tryz.func113.trans (congrArg some (by kernel_rfl))
 f166 := Tryz.func114.trans (congrArg some (by kernel_rfl))
 f169 := Tryz.func115.trans (congrArg some (by kernel_rfl))
 f240 := Tryz.func128.trans (congrArg some (by kernel_rfl))
 f241 := Tryz.func129.trans (congrArg some (by kernel_rfl))
 f276 := Tryz.func136.trans (congrArg some (by kernel_rfl))
 f277 := Tryz.func137.trans (congrArg some (by kernel_rfl))
 t0 := Tryz.underlying0
 a0 := Tryz.isAgg0
 z0 := Tryz.sizeOf0
 v0 := Tryz.zeroValue0
 t3 := Tryz.underlying3
 a3 := Tryz.isAgg3
 z3 := Tryz.sizeOf3
 v3 := Tryz.zeroValue3
 t4 := Tryz.underlying4
 a4 := Tryz.isAgg4
 z4 := Tryz.sizeOf4
 v4 := Tryz.zeroValue4
 t9 := Tryz.underlying9
 a9 := Tryz.isAgg9
 z9 := Tryz.sizeOf9
 v9 := Tryz.zeroValue9
 t20 := Tryz.underlying20
 a20 := Tryz.isAgg20
 z20 := Tryz.sizeOf20
 v20 := Tryz.zeroValue20
 t31 := Tryz.underlying35
 a31 := Tryz.isAgg35
 z31 := Tryz.sizeOf35
 v31 := Tryz.zeroValue35
 t37 := Tryz.underlying22
 a37 := Tryz.isAgg22
 z37 := Tryz.sizeOf22
 v37 := Tryz.zeroValue22
 t70 := Tryz.underlying119
 a70 := Tryz.isAgg119
 z70 := Tryz.sizeOf119
 v70 := Tryz.zeroValue119
 t72 := Tryz.underlying121
 a72 := Tryz.isAgg121
 z72 := Tryz.sizeOf121
 v72 := Tryz.zeroValue121
 t75 := Tryz.underlying124
 a75 := Tryz.isAgg124
 z75 := Tryz.sizeOf124
 v75 := Tryz.zeroValue124
 t76 := Tryz.underlying125
 a76 := Tryz.isAgg125
 z76 := Tryz.sizeOf125
 v76 := Tryz.zeroValue125
 t127 := Tryz.underlying135
 a127 := Tryz.isAgg135
 z127 := Tryz.sizeOf135
 v127 := Tryz.zeroValue135
 t164 := Tryz.underlying140
 a164 := Tryz.isAgg140
 z164 := Tryz.sizeOf140
 v164 := Tryz.zeroValue140 }
theorem Tryz.Builder_Extra_156 : Builder.Extra Tryz.prog Tryz.lays156_ren := {
 sizeBuilder := by kernel_rfl
 liesBuilder := by kernel_rfl
 t5 := Tryz.underlying5
 a5 := Tryz.isAgg5
 z5 := Tryz.sizeOf5
 v5 := Tryz.zeroValue5
 infoByte := by kernel_rfl
 cellsByte := by kernel_rfl
 sizeByte := by kernel_rfl
 neB5 := by decide }
open Go.RowKit in
theorem Tryz.strings_Join_none (a : Option Addr) (c : Nat) (sep : ByteArray) (w : World) :
  Calls Tryz.prog 92 #[.slice a 0 c, .string sep] w fun e w' => e = .returned (.string ⟨#[]⟩) ∧ w' = w := Any.strings_Join_none Tryz.lays156 Tryz.Builder_Extra_156 a c sep w
open Go.RowKit in
theorem Tryz.strings_Join (bk o c : Nat) (xs : List ByteArray) (sep : ByteArray) (w : World) (hcells : ∀ (j : Nat) x, xs[j]? = some x → w.cell? ⟨bk, o + j, none⟩ = some (.string x)) (hbk : bk < w.heap.size) (hN : xs.length ≤ 140737488355328) (hcap : xs.length ≤ c) (hlen : (Lib.join (xs.map (·.data.toList)) sep.data.toList).length ≤ 140737488355328) :
  Calls Tryz.prog 92 #[.slice (some ⟨bk, o, none⟩) xs.length c, .string sep] w fun e w' => e = .returned (.string ⟨(Lib.join (xs.map (·.data.toList)) sep.data.toList).toArray⟩) ∧ Below w.heap.size w w' := Any.strings_Join Tryz.lays156 Tryz.Builder_Extra_156 bk o c xs sep w hcells hbk hN hcap hlen
def Tryz.lays119_ren : Go.Shelf.Ren := ⟨fun | 119 => 109 | n => n, fun | 21 => 21 | 4 => 4 | n => n, fun | n => n⟩
theorem Tryz.lays119 : Go.Proofs.Lays.n119 Tryz.prog Tryz.lays119_ren := {
 mixed := by kernel_rfl
 f119 := Tryz.func109.trans (congrArg some (by kernel_rfl))
 t4 := Tryz.underlying4
 a4 := Tryz.isAgg4
 z4 := Tryz.sizeOf4
 v4 := Tryz.zeroValue4
 t21 := Tryz.underlying21
 a21 := Tryz.isAgg21
 z21 := Tryz.sizeOf21
 v21 := Tryz.zeroValue21 }
theorem Tryz.utf8_ValidRune (r : Int) (w : World) :
  Calls Tryz.prog 109 #[.int .i32 r] w fun e w' => e = .returned (.bool (Lib.validRune r)) ∧ w' = w := Any.utf8_ValidRune Tryz.lays119 r w
def Tryz.lays137_ren : Go.Shelf.Ren := ⟨fun | 137 => 108 | 217 => 104 | 266 => 122 | n => n, fun | 9 => 9 | 5 => 5 | 3 => 3 | n => n, fun | n => n⟩
theorem Tryz.lays137 : Go.Proofs.Lays.n137 Tryz.prog Tryz.lays137_ren := {
 mixed := by kernel_rfl
 f137 := Tryz.func108.trans (congrArg some (by kernel_rfl))
 f217 := Tryz.func104.trans (congrArg some (by kernel_rfl))
 f266 := Tryz.func122.trans (congrArg some (by kernel_rfl))
 t3 := Tryz.underlying3
 a3 := Tryz.isAgg3
 z3 := Tryz.sizeOf3
 v3 := Tryz.zeroValue3
 t5 := Tryz.underlying5
 a5 := Tryz.isAgg5
 z5 := Tryz.sizeOf5
 v5 := Tryz.zeroValue5
 t9 := Tryz.underlying9
 a9 := Tryz.isAgg9
 z9 := Tryz.sizeOf9
 v9 := Tryz.zeroValue9 }
open Go.RowKit in
theorem Tryz.strings_IndexByte (s : ByteArray) (c : Int) (w : World) :
  Calls Tryz.prog 108 #[.string s, .int .u8 c] w fun e w' => e = .returned (.int .i64 (Lib.indexByte s.data.toList c.toNat.toUInt8)) ∧ w' = w := Any.strings_IndexByte Tryz.lays137 s c w
def Tryz.lays210_ren : Go.Shelf.Ren := ⟨fun | 210 => 79 | 206 => 91 | n => n, fun | 9 => 9 | 4 => 4 | 3 => 3 | n => n, fun | n => n⟩
theorem Tryz.lays210 : Go.Proofs.Lays.n210 Tryz.prog Tryz.lays210_ren := {
 mixed := by kernel_rfl
 f206 := Tryz.func91.trans (congrArg some (by kernel_rfl))
 f210 := Tryz.func79.trans (congrArg some (by kernel_rfl))
 t3 := Tryz.underlying3
 a3 := Tryz.isAgg3
 z3 := Tryz.sizeOf3
 v3 := Tryz.zeroValue3
 t4 := Tryz.underlying4
 a4 := Tryz.isAgg4
 z4 := Tryz.sizeOf4
 v4 := Tryz.zeroValue4
 t9 := Tryz.underlying9
 a9 := Tryz.isAgg9
 z9 := Tryz.sizeOf9
 v9 := Tryz.zeroValue9 }
open Go.RowKit in
theorem Tryz.stringslite_CutPrefix (s p : ByteArray) (w : World) :
  Calls Tryz.prog 79 #[.string s, .string p] w fun e w' => e = .returned (.tuple #[.string ⟨(Lib.trimPrefix s.data.toList p.data.toList).toArray⟩, .bool (Lib.hasPrefix s.data.toList p.data.toList)]) ∧ w' = w := Any.stringslite_CutPrefix Tryz.lays210 s p w
def Tryz.lays103_ren : Go.Shelf.Ren := ⟨fun | 103 => 53 | 210 => 79 | 206 => 91 | n => n, fun | 9 => 9 | 4 => 4 | 24 => 63 | 3 => 3 | n => n, fun | n => n⟩
theorem Tryz.lays103 : Go.Proofs.Lays.n103 Tryz.prog Tryz.lays103_ren := {
 mixed := by kernel_rfl
 f103 := Tryz.func53.trans (congrArg some (by kernel_rfl))
 f206 := Tryz.func91.trans (congrArg some (by kernel_rfl))
 f210 := Tryz.func79.trans (congrArg some (by kernel_rfl))
 t3 := Tryz.underlying3
 a3 := Tryz.isAgg3
 z3 := Tryz.sizeOf3
 v3 := Tryz.zeroValue3
 t4 := Tryz.underlying4
 a4 := Tryz.isAgg4
 z4 := Tryz.sizeOf4
 v4 := Tryz.zeroValue4
 t9 := Tryz.underlying9
 a9 := Tryz.isAgg9
 z9 := Tryz.sizeOf9
 v9 := Tryz.zeroValue9
 t24 := Tryz.underlying63
 a24 := Tryz.isAgg63
 z24 := Tryz.sizeOf63
 v24 := Tryz.zeroValue63 }
open Go.RowKit in
theorem Tryz.strings_CutPrefix (s p : ByteArray) (w : World) :
  Calls Tryz.prog 53 #[.string s, .string p] w fun e w' => e = .returned (.tuple #[.string ⟨(Lib.trimPrefix s.data.toList p.data.toList).toArray⟩, .bool (Lib.hasPrefix s.data.toList p.data.toList)]) ∧ w' = w := Any.strings_CutPrefix Tryz.lays103 s p w
def Tryz.lays219_ren : Go.Shelf.Ren := ⟨fun | 219 => 78 | 217 => 104 | 225 => 105 | 224 => 106 | 267 => 107 | 266 => 122 | 314 => 123 | n => n, fun | 9 => 9 | 3 => 3 | 4 => 4 | 5 => 5 | 46 => 113 | 146 => 130 | 51 => 129 | n => n, fun | 1 => 0 | n => n⟩
theorem Tryz.lays219 : Go.Proofs.Lays.n219 Tryz.prog Tryz.lays219_ren := {
 mixed := by kernel_rfl
 f217 := Tryz.func104.trans (congrArg some (by kernel_rfl))
 f219 := Tryz.func78.trans (congrArg some (by kernel_rfl))
 f224 := Tryz.func106.trans (congrArg some (by kernel_rfl))
 f225 := Tryz.func105.trans (congrArg some (by kernel_rfl))
 f266 := Tryz.func122.trans (congrArg some (by kernel_rfl))
 f267 := Tryz.func107.trans (congrArg some (by kernel_rfl))
 f314 := Tryz.func123.trans (congrArg some (by kernel_rfl))
 t3 := Tryz.underlying3
 a3 := Tryz.isAgg3
 z3 := Tryz.sizeOf3
 v3 := Tryz.zeroValue3
 t4 := Tryz.underlying4
 a4 := Tryz.isAgg4
 z4 := Tryz.sizeOf4
 v4 := Tryz.zeroValue4
 t5 := Tryz.underlying5
 a5 := Tryz.isAgg5
 z5 := Tryz.sizeOf5
 v5 := Tryz.zeroValue5
 t9 := Tryz.underlying9
 a9 := Tryz.isAgg9
 z9 := Tryz.sizeOf9
 v9 := Tryz.zeroValue9
 t46 := Tryz.underlying113
 a46 := Tryz.isAgg113
 z46 := Tryz.sizeOf113
 v46 := Tryz.zeroValue113
 t51 := Tryz.underlying129
 a51 := Tryz.isAgg129
 z51 := Tryz.sizeOf129
 v51 := Tryz.zeroValue129
 t146 := Tryz.underlying130
 a146 := Tryz.isAgg130
 z146 := Tryz.sizeOf130
 v146 := Tryz.zeroValue130
 g1 := by kernel_rfl }
open Go.RowKit Go.Lib in
theorem Tryz.stringslite_Index_one (s : ByteArray) (c : UInt8) (w : World) :
  Calls Tryz.prog 78 #[.string s, .string ⟨#[c]⟩] w fun e w' => e = .returned (.int .i64 (Lib.indexByte s.data.toList c)) ∧ w' = w := Any.stringslite_Index_one Tryz.lays219 s c w
open Go.RowKit Go.Lib in
theorem Tryz.stringslite_Index (s sub : ByteArray) (m : Int) (w : World) (hs : s.size < 4294967281) (hm : w.cell? ⟨0, 0, none⟩ = some (.int .i64 m)) :
  Calls Tryz.prog 78 #[.string s, .string sub] w fun e w' => e = .returned (.int .i64 (Lib.index s.data.toList sub.data.toList)) ∧ w' = w := Any.stringslite_Index Tryz.lays219 s sub m w hs hm
def Tryz.lays143_ren : Go.Shelf.Ren := ⟨fun | 143 => 127 | 219 => 78 | 217 => 104 | 225 => 105 | 224 => 106 | 267 => 107 | 266 => 122 | 314 => 123 | n => n, fun | 9 => 9 | 3 => 3 | 4 => 4 | 5 => 5 | 46 => 113 | 146 => 130 | 51 => 129 | n => n, fun | 1 => 0 | n => n⟩
theorem Tryz.lays143 : Go.Proofs.Lays.n143 Tryz.prog Tryz.lays143_ren := {
 mixed := by kernel_rfl
 f143 := Tryz.func127.trans (congrArg some (by kernel_rfl))
 f217 := Tryz.func104.trans (congrArg some (by kernel_rfl))
 f219 := Tryz.func78.trans (congrArg some (by kernel_rfl))
 f224 := Tryz.func106.trans (congrArg some (by kernel_rfl))
 f225 := Tryz.func105.trans (congrArg some (by kernel_rfl))
 f266 := Tryz.func122.trans (congrArg some (by kernel_rfl))
 f267 := Tryz.func107.trans (congrArg some (by kernel_rfl))
 f314 := Tryz.func123.trans (congrArg some (by kernel_rfl))
 t3 := Tryz.underlying3
 a3 := Tryz.isAgg3
 z3 := Tryz.sizeOf3
 v3 := Tryz.zeroValue3
 t4 := Tryz.underlying4
 a4 := Tryz.isAgg4
 z4 := Tryz.sizeOf4
 v4 := Tryz.zeroValue4
 t5 := Tryz.underlying5
 a5 := Tryz.isAgg5
 z5 := Tryz.sizeOf5
 v5 := Tryz.zeroValue5
 t9 := Tryz.underlying9
 a9 := Tryz.isAgg9
 z9 := Tryz.sizeOf9
 v9 := Tryz.zeroValue9
 t46 := Tryz.underlying113
 a46 := Tryz.isAgg113
 z46 := Tryz.sizeOf113
 v46 := Tryz.zeroValue113
 t51 := Tryz.underlying129
 a51 := Tryz.isAgg129
 z51 := Tryz.sizeOf129
 v51 := Tryz.zeroValue129
 t146 := Tryz.underlying130
 a146 := Tryz.isAgg130
 z146 := Tryz.sizeOf130
 v146 := Tryz.zeroValue130
 g1 := by kernel_rfl }
open Go.RowKit Go.Lib in
theorem Tryz.strings_Index (s sub : ByteArray) (m : Int) (w : World) (hs : s.size < 4294967281) (hm : w.cell? ⟨0, 0, none⟩ = some (.int .i64 m)) :
  Calls Tryz.prog 127 #[.string s, .string sub] w fun e w' => e = .returned (.int .i64 (Lib.index s.data.toList sub.data.toList)) ∧ w' = w := Any.strings_Index Tryz.lays143 s sub m w hs hm
def Tryz.lays220_ren : Go.Shelf.Ren := ⟨fun | 220 => 52 | 219 => 78 | 217 => 104 | 225 => 105 | 224 => 106 | 267 => 107 | 266 => 122 | 314 => 123 | n => n, fun | 9 => 9 | 4 => 4 | 3 => 3 | 5 => 5 | 46 => 113 | 146 => 130 | 51 => 129 | n => n, fun | 1 => 0 | n => n⟩
theorem Tryz.lays220 : Go.Proofs.Lays.n220 Tryz.prog Tryz.lays220_ren := {
 mixed := by kernel_rfl
 f217 := Tryz.func104.trans (congrArg some (by kernel_rfl))
 f219 := Tryz.func78.trans (congrArg some (by kernel_rfl))
 f220 := Tryz.func52.trans (congrArg some (by kernel_rfl))
 f224 := Tryz.func106.trans (congrArg some (by kernel_rfl))
 f225 := Tryz.func105.trans (congrArg some (by kernel_rfl))
 f266 := Tryz.func122.trans (congrArg some (by kernel_rfl))
 f267 := Tryz.func107.trans (congrArg some (by kernel_rfl))
 f314 := Tryz.func123.trans (congrArg some (by kernel_rfl))
 t3 := Tryz.underlying3
 a3 := Tryz.isAgg3
 z3 := Tryz.sizeOf3
 v3 := Tryz.zeroValue3
 t4 := Tryz.underlying4
 a4 := Tryz.isAgg4
 z4 := Tryz.sizeOf4
 v4 := Tryz.zeroValue4
 t5 := Tryz.underlying5
 a5 := Tryz.isAgg5
 z5 := Tryz.sizeOf5
 v5 := Tryz.zeroValue5
 t9 := Tryz.underlying9
 a9 := Tryz.isAgg9
 z9 := Tryz.sizeOf9
 v9 := Tryz.zeroValue9
 t46 := Tryz.underlying113
 a46 := Tryz.isAgg113
 z46 := Tryz.sizeOf113
 v46 := Tryz.zeroValue113
 t51 := Tryz.underlying129
 a51 := Tryz.isAgg129
 z51 := Tryz.sizeOf129
 v51 := Tryz.zeroValue129
 t146 := Tryz.underlying130
 a146 := Tryz.isAgg130
 z146 := Tryz.sizeOf130
 v146 := Tryz.zeroValue130
 g1 := by kernel_rfl }
open Go.RowKit Go.Lib in
theorem Tryz.stringslite_Cut (s sep : ByteArray) (m : Int) (w : World) (hs : s.size < 4294967281) (hm : w.cell? ⟨0, 0, none⟩ = some (.int .i64 m)) :
  Calls Tryz.prog 52 #[.string s, .string sep] w fun e w' => e = .returned (.tuple #[.string ⟨(Lib.cut s.data.toList sep.data.toList).1.toArray⟩, .string ⟨(Lib.cut s.data.toList sep.data.toList).2.1.toArray⟩, .bool (Lib.cut s.data.toList sep.data.toList).2.2]) ∧ ∃ n, w' = w.drewN n := Any.stringslite_Cut Tryz.lays220 s sep m w hs hm
def Tryz.lays145_ren : Go.Shelf.Ren := ⟨fun | 145 => 31 | 220 => 52 | 219 => 78 | 217 => 104 | 225 => 105 | 224 => 106 | 267 => 107 | 266 => 122 | 314 => 123 | n => n, fun | 9 => 9 | 4 => 4 | 59 => 60 | 3 => 3 | 5 => 5 | 46 => 113 | 146 => 130 | 51 => 129 | n => n, fun | 1 => 0 | n => n⟩
theorem Tryz.lays145 : Go.Proofs.Lays.n145 Tryz.prog Tryz.lays145_ren := {
 mixed := by kernel_rfl
 f145 := Tryz.func31.trans (congrArg some (by kernel_rfl))
 f217 := Tryz.func104.trans (congrArg some (by kernel_rfl))
 f219 := Tryz.func78.trans (congrArg some (by kernel_rfl))
 f220 := Tryz.func52.trans (congrArg some (by kernel_rfl))
 f224 := Tryz.func106.trans (congrArg some (by kernel_rfl))
 f225 := Tryz.func105.trans (congrArg some (by kernel_rfl))
 f266 := Tryz.func122.trans (congrArg some (by kernel_rfl))
 f267 := Tryz.func107.trans (congrArg some (by kernel_rfl))
 f314 := Tryz.func123.trans (congrArg some (by kernel_rfl))
 t3 := Tryz.underlying3
 a3 := Tryz.isAgg3
 z3 := Tryz.sizeOf3
 v3 := Tryz.zeroValue3
 t4 := Tryz.underlying4
 a4 := Tryz.isAgg4
 z4 := Tryz.sizeOf4
 v4 := Tryz.zeroValue4
 t5 := Tryz.underlying5
 a5 := Tryz.isAgg5
 z5 := Tryz.sizeOf5
 v5 := Tryz.zeroValue5
 t9 := Tryz.underlying9
 a9 := Tryz.isAgg9
 z9 := Tryz.sizeOf9
 v9 := Tryz.zeroValue9
 t46 := Tryz.underlying113
 a46 := Tryz.isAgg113
 z46 := Tryz.sizeOf113
 v46 := Tryz.zeroValue113
 t51 := Tryz.underlying129
 a51 := Tryz.isAgg129
 z51 := Tryz.sizeOf129
 v51 := Tryz.zeroValue129
 t59 := Tryz.underlying60
 a59 := Tryz.isAgg60
 z59 := Tryz.sizeOf60
 v59 := Tryz.zeroValue60
 t146 := Tryz.underlying130
 a146 := Tryz.isAgg130
 z146 := Tryz.sizeOf130
 v146 := Tryz.zeroValue130
 g1 := by kernel_rfl }
open Go.RowKit Go.Lib in
theorem Tryz.strings_Cut (s sep : ByteArray) (m : Int) (w : World) (hs : s.size < 4294967281) (hm : w.cell? ⟨0, 0, none⟩ = some (.int .i64 m)) :
  Calls Tryz.prog 31 #[.string s, .string sep] w fun e w' => e = .returned (.tuple #[.string ⟨(Lib.cut s.data.toList sep.data.toList).1.toArray⟩, .string ⟨(Lib.cut s.data.toList sep.data.toList).2.1.toArray⟩, .bool (Lib.cut s.data.toList sep.data.toList).2.2]) ∧ ∃ n, w' = w.drewN n := Any.strings_Cut Tryz.lays145 s sep m w hs hm
def Tryz.lays138_ren : Go.Shelf.Ren := ⟨fun | 138 => 126 | 195 => 133 | 218 => 135 | 143 => 127 | 219 => 78 | 217 => 104 | 225 => 105 | 224 => 106 | 267 => 107 | 266 => 122 | 314 => 123 | n => n, fun | 9 => 9 | 3 => 3 | 4 => 4 | 5 => 5 | 0 => 0 | 46 => 113 | 146 => 130 | 51 => 129 | n => n, fun | 1 => 0 | n => n⟩
theorem Tryz.lays138 : Go.Proofs.Lays.n138 Tryz.prog Tryz.lays138_ren := {
 mixed := by kernel_rfl
 f138 := Tryz.func126.trans (congrArg some (by kernel_rfl))
 f143 := Tryz.func127.trans (congrArg some (by kernel_rfl))
 f195 := Tryz.func133.trans (congrArg some (by kernel_rfl))
 f217 := Tryz.func104.trans (congrArg some (by kernel_rfl))
 f218 := Tryz.func135.trans (congrArg some (by kernel_rfl))
 f219 := Tryz.func78.trans (congrArg some (by kernel_rfl))
 f224 := Tryz.func106.trans (congrArg some (by kernel_rfl))
 f225 := Tryz.func105.trans (congrArg some (by kernel_rfl))
 f266 := Tryz.func122.trans (congrArg some (by kernel_rfl))
 f267 := Tryz.func107.trans (congrArg some (by kernel_rfl))
 f314 := Tryz.func123.trans (congrArg some (by kernel_rfl))
 t0 := Tryz.underlying0
 a0 := Tryz.isAgg0
 z0 := Tryz.sizeOf0
 v0 := Tryz.zeroValue0
 t3 := Tryz.underlying3
 a3 := Tryz.isAgg3
 z3 := Tryz.sizeOf3
 v3 := Tryz.zeroValue3
 t4 := Tryz.underlying4
 a4 := Tryz.isAgg4
 z4 := Tryz.sizeOf4
 v4 := Tryz.zeroValue4
 t5 := Tryz.underlying5
 a5 := Tryz.isAgg5
 z5 := Tryz.sizeOf5
 v5 := Tryz.zeroValue5
 t9 := Tryz.underlying9
 a9 := Tryz.isAgg9
 z9 := Tryz.sizeOf9
 v9 := Tryz.zeroValue9
 t46 := Tryz.underlying113
 a46 := Tryz.isAgg113
 z46 := Tryz.sizeOf113
 v46 := Tryz.zeroValue113
 t51 := Tryz.underlying129
 a51 := Tryz.isAgg129
 z51 := Tryz.sizeOf129
 v51 := Tryz.zeroValue129
 t146 := Tryz.underlying130
 a146 := Tryz.isAgg130
 z146 := Tryz.sizeOf130
 v146 := Tryz.zeroValue130
 g1 := by kernel_rfl }
open Go.RowKit Go.Lib in
theorem Tryz.strings_Count_one (s : ByteArray) (c : UInt8) (w : World) :
  Calls Tryz.prog 126 #[.string s, .string ⟨#[c]⟩] w fun e w' => e = .returned (.int .i64 (Lib.countByte s.data.toList c)) ∧ w' = w := Any.strings_Count_one Tryz.lays138 s c w
open Go.RowKit Go.Lib in
theorem Tryz.strings_Count (s sub : ByteArray) (m : Int) (w : World) (hs : s.size < 4294967281) (hm : w.cell? ⟨0, 0, none⟩ = some (.int .i64 m)) (h2 : 2 ≤ sub.size) :
  Calls Tryz.prog 126 #[.string s, .string sub] w fun e w' => e = .returned (.int .i64 (Lib.countB s sub)) ∧ w' = w := Any.strings_Count Tryz.lays138 s sub m w hs hm h2
def Tryz.lays206_ren : Go.Shelf.Ren := ⟨fun | 206 => 91 | n => n, fun | 9 => 9 | 4 => 4 | 3 => 3 | n => n, fun | n => n⟩
theorem Tryz.lays206 : Go.Proofs.Lays.n206 Tryz.prog Tryz.lays206_ren := {
 mixed := by kernel_rfl
 f206 := Tryz.func91.trans (congrArg some (by kernel_rfl))
 t3 := Tryz.underlying3
 a3 := Tryz.isAgg3
 z3 := Tryz.sizeOf3
 v3 := Tryz.zeroValue3
 t4 := Tryz.underlying4
 a4 := Tryz.isAgg4
 z4 := Tryz.sizeOf4
 v4 := Tryz.zeroValue4
 t9 := Tryz.underlying9
 a9 := Tryz.isAgg9
 z9 := Tryz.sizeOf9
 v9 := Tryz.zeroValue9 }
open Go.RowKit Go.Lib in
theorem Tryz.stringslite_HasPrefix (s p : ByteArray) (w : World) :
  Calls Tryz.prog 91 #[.string s, .string p] w fun e w' => e = .returned (.bool (Lib.hasPrefix s.data.toList p.data.toList)) ∧ w' = w := Any.stringslite_HasPrefix Tryz.lays206 s p w
def Tryz.lays152_ren : Go.Shelf.Ren := ⟨fun | 152 => 80 | 137 => 108 | 119 => 109 | 224 => 106 | 225 => 105 | 217 => 104 | 266 => 122 | n => n, fun | 9 => 9 | 21 => 21 | 3 => 3 | 4 => 4 | 5 => 5 | 0 => 0 | 46 => 113 | n => n, fun | n => n⟩
theorem Tryz.lays152 : Go.Proofs.Lays.n152 Tryz.prog Tryz.lays152_ren := {
 mixed := by kernel_rfl
 f119 := Tryz.func109.trans (congrArg some (by kernel_rfl))
 f137 := Tryz.func108.trans (congrArg some (by kernel_rfl))
 f152 := Tryz.func80.trans (congrArg some (by kernel_rfl))
 f217 := Tryz.func104.trans (congrArg some (by kernel_rfl))
 f224 := Tryz.func106.trans (congrArg some (by kernel_rfl))
 f225 := Tryz.func105.trans (congrArg some (by kernel_rfl))
 f266 := Tryz.func122.trans (congrArg some (by kernel_rfl))
 t0 := Tryz.underlying0
 a0 := Tryz.isAgg0
 z0 := Tryz.sizeOf0
 v0 := Tryz.zeroValue0
 t3 := Tryz.underlying3
 a3 := Tryz.isAgg3
 z3 := Tryz.sizeOf3
 v3 := Tryz.zeroValue3
 t4 := Tryz.underlying4
 a4 := Tryz.isAgg4
 z4 := Tryz.sizeOf4
 v4 := Tryz.zeroValue4
 t5 := Tryz.underlying5
 a5 := Tryz.isAgg5
 z5 := Tryz.sizeOf5
 v5 := Tryz.zeroValue5
 t9 := Tryz.underlying9
 a9 := Tryz.isAgg9
 z9 := Tryz.sizeOf9
 v9 := Tryz.zeroValue9
 t21 := Tryz.underlying21
 a21 := Tryz.isAgg21
 z21 := Tryz.sizeOf21
 v21 := Tryz.zeroValue21
 t46 := Tryz.underlying113
 a46 := Tryz.isAgg113
 z46 := Tryz.sizeOf113
 v46 := Tryz.zeroValue113 }
open Go.RowKit Go.Lib in
theorem Tryz.strings_IndexRune_ascii (s : ByteArray) (r : Int) (w : World) (h0 : 0 ≤ r) (h1 : r < 128) :
  Calls Tryz.prog 80 #[.string s, .int .i32 r] w fun e w' => e = .returned (.int .i64 (Lib.indexByte s.data.toList r.toNat.toUInt8)) ∧ w' = w := Any.strings_IndexRune_ascii Tryz.lays152 s r w h0 h1
def Tryz.lays226_ren : Go.Shelf.Ren := ⟨fun | 226 => 81 | n => n, fun | 3 => 3 | 4 => 4 | n => n, fun | n => n⟩
theorem Tryz.lays226 : Go.Proofs.Lays.n226 Tryz.prog Tryz.lays226_ren := {
 mixed := by kernel_rfl
 f226 := Tryz.func81.trans (congrArg some (by kernel_rfl))
 t3 := Tryz.underlying3
 a3 := Tryz.isAgg3
 z3 := Tryz.sizeOf3
 v3 := Tryz.zeroValue3
 t4 := Tryz.underlying4
 a4 := Tryz.isAgg4
 z4 := Tryz.sizeOf4
 v4 := Tryz.zeroValue4 }
open Go.RowKit Go.Lib in
theorem Tryz.strings_shouldUseASCIISet (n : Int) (w : World) :
  Calls Tryz.prog 81 #[.int .i64 n] w fun e w' => e = .returned (.bool (decide (8 < n))) ∧ w' = w := Any.strings_shouldUseASCIISet Tryz.lays226 n w
def Tryz.lays153_ren : Go.Shelf.Ren := ⟨fun | 153 => 54 | 152 => 80 | 226 => 81 | 227 => 82 | 228 => 83 | 137 => 108 | 119 => 109 | 224 => 106 | 225 => 105 | 217 => 104 | 266 => 122 | n => n, fun | 9 => 9 | 3 => 3 | 4 => 4 | 5 => 5 | 21 => 21 | 117 => 96 | 116 => 95 | 0 => 0 | 46 => 113 | 124 => 115 | n => n, fun | n => n⟩
theorem Tryz.lays153 : Go.Proofs.Lays.n153 Tryz.prog Tryz.lays153_ren := {
 mixed := by kernel_rfl
 f119 := Tryz.func109.trans (congrArg some (by kernel_rfl))
 f137 := Tryz.func108.trans (congrArg some (by kernel_rfl))
 f152 := Tryz.func80.trans (congrArg some (by kernel_rfl))
 f153 := Tryz.func54.trans (congrArg some (by kernel_rfl))
 f217 := Tryz.func104.trans (congrArg some (by kernel_rfl))
 f224 := Tryz.func106.trans (congrArg some (by kernel_rfl))
 f225 := Tryz.func105.trans (congrArg some (by kernel_rfl))
 f226 := Tryz.func81.trans (congrArg some (by kernel_rfl))
 f227 := Tryz.func82.trans (congrArg some (by kernel_rfl))
 f228 := Tryz.func83.trans (congrArg some (by kernel_rfl))
 f266 := Tryz.func122.trans (congrArg some (by kernel_rfl))
 t0 := Tryz.underlying0
 a0 := Tryz.isAgg0
 z0 := Tryz.sizeOf0
 v0 := Tryz.zeroValue0
 t3 := Tryz.underlying3
 a3 := Tryz.isAgg3
 z3 := Tryz.sizeOf3
 v3 := Tryz.zeroValue3
 t4 := Tryz.underlying4
 a4 := Tryz.isAgg4
 z4 := Tryz.sizeOf4
 v4 := Tryz.zeroValue4
 t5 := Tryz.underlying5
 a5 := Tryz.isAgg5
 z5 := Tryz.sizeOf5
 v5 := Tryz.zeroValue5
 t9 := Tryz.underlying9
 a9 := Tryz.isAgg9
 z9 := Tryz.sizeOf9
 v9 := Tryz.zeroValue9
 t21 := Tryz.underlying21
 a21 := Tryz.isAgg21
 z21 := Tryz.sizeOf21
 v21 := Tryz.zeroValue21
 t46 := Tryz.underlying113
 a46 := Tryz.isAgg113
 z46 := Tryz.sizeOf113
 v46 := Tryz.zeroValue113
 t116 := Tryz.underlying95
 a116 := Tryz.isAgg95
 z116 := Tryz.sizeOf95
 t117 := Tryz.underlying96
 a117 := Tryz.isAgg96
 z117 := Tryz.sizeOf96
 v117 := Tryz.zeroValue96
 t124 := Tryz.underlying115
 a124 := Tryz.isAgg115
 z124 := Tryz.sizeOf115
 v124 := Tryz.zeroValue115 }
open Go.RowKit Go.Lib in
theorem Tryz.strings_IndexAny_long (hv116 : ∀ w, (zeroValue 95).run Tryz.prog w = .ok (.agg (Array.replicate 256 (.bool false))) w) (s chars : ByteArray) (w : World) (h2 : 2 ≤ chars.size) (h8 : 8 < s.size) (hs : s.size < 4294967281) (hcs : chars.size < 4294967281) (hascii : ∀ (j : Nat) b, chars.data.toList[j]? = some b → b.toNat < 128) :
  Calls Tryz.prog 54 #[.string s, .string chars] w fun e w' => e = .returned (.int .i64 (Lib.indexAny s.data.toList chars.data.toList)) ∧ w' = ((w.alloc (.cells (Lib.setCells chars.data.toList) 95)).alloc (.cells (Lib.setCells chars.data.toList) 95)) := Any.strings_IndexAny_long Tryz.lays153 hv116 (by kernel_rfl) s chars w h2 h8 hs hcs hascii
open Go.RowKit Go.Lib in
theorem Tryz.strings_IndexAny (hv116 : ∀ w, (zeroValue 95).run Tryz.prog w = .ok (.agg (Array.replicate 256 (.bool false))) w) (s chars : ByteArray) (w : World) (hs : s.size < 4294967281) (hcs : chars.size < 4294967281) (has : ∀ (j : Nat) b, s.data.toList[j]? = some b → b.toNat < 128) (hac : ∀ (j : Nat) b, chars.data.toList[j]? = some b → b.toNat < 128) :
  Calls Tryz.prog 54 #[.string s, .string chars] w fun e w' => e = .returned (.int .i64 (Lib.indexAny s.data.toList chars.data.toList)) ∧ Below w.heap.size w w' := Any.strings_IndexAny Tryz.lays153 hv116 (by kernel_rfl) s chars w hs hcs has hac
def Tryz.laysNm216_ren : Go.Shelf.Ren := ⟨fun | 16 => 62 | n => n, fun | 24 => 35 | 9 => 9 | 4 => 4 | n => n, fun | n => n⟩
theorem Tryz.laysNm216 : Go.Proofs.Lays2.n16 Tryz.prog Tryz.laysNm216_ren := {
 mixed := by kernel_rfl
 f16 := Tryz.func62.trans (congrArg some (by kernel_rfl))
 t4 := Tryz.underlying4
 a4 := Tryz.isAgg4
 z4 := Tryz.sizeOf4
 v4 := Tryz.zeroValue4
 t9 := Tryz.underlying9
 a9 := Tryz.isAgg9
 z9 := Tryz.sizeOf9
 v9 := Tryz.zeroValue9
 t24 := Tryz.underlying35
 a24 := Tryz.isAgg35
 z24 := Tryz.sizeOf35
 v24 := Tryz.zeroValue35
 i9 := by kernel_rfl }
open Go.RowKit Go.Lib in
theorem Tryz.slices_Clone_string (b off n c : Nat) (zs : List ByteArray) (w : World) (hz : n ≤ zs.length) (hbig : n * 16 ≤ 140737488355328) (hc : ∀ j, j < zs.length → w.cell? ⟨b, off + j, none⟩ = some (.string (zs.getD j ByteArray.empty))) :
  Calls Tryz.prog 62 #[.slice (some ⟨b, off, none⟩) n c] w fun e w' => ∃ v', e = .returned v' ∧ w'.ownsRow w.heap.size 9 1 v' n ((zs.take n).map (Value.string)) ∧ v' ≠ .slice none 0 0 ∧ Below w.heap.size w w' := Any.slices_Clone_string Tryz.laysNm216 b off n c zs w hz hbig hc
open Go.RowKit Go.Lib in
theorem Tryz.slices_Clone_string_nil (n c : Nat) (w : World) :
  Calls Tryz.prog 62 #[.slice none n c] w fun e w' => e = .returned (.slice none 0 0) ∧ w' = w := Any.slices_Clone_string_nil Tryz.laysNm216 n c w
open Go.RowKit Go.Lib in
theorem Tryz.slices_Clone_string_zero (a : Addr) (c : Nat) (w : World) :
  Calls Tryz.prog 62 #[.slice (some a) 0 c] w fun e w' => ∃ v', e = .returned v' ∧ w'.ownsRow w.heap.size 9 1 v' 0 [] ∧ v' ≠ .slice none 0 0 ∧ Below w.heap.size w w' := Any.slices_Clone_string_zero Tryz.laysNm216 a c w
end Go.Proofs
end
section
namespace Go.Proofs.YtpomhjkbgbociaaGreatDoor.P
open Go.RowKit Go.Proofs.YtpomhjkbgbociaaGreatDoorW.PrintWords Go.Proofs.YtpomhjkbgbociaaGreatDoorW.PrintLast Go.Proofs.YtpomhjkbgbociaaGreatDoorW.PrintMore Go.Proofs.YtpomhjkbgbociaaGreatDoor.B Go.Proofs.YtpomhjkbgbociaaGreatDoor.Ad
set_option linter.unusedVariables false
set_option linter.unusedSimpArgs false
theorem row_at {w : World} {A : Option Addr} {xs : List ByteArray} (h : Kd.C Kd.string w A xs.length xs) (hn : 0 < xs.length) :
  ∃ bk o, A = some ⟨bk, o, none⟩ ∧ bk < w.heap.size ∧ ∀ (j : Nat) x, xs[j]? = some x → w.cell? ⟨bk, o + j, none⟩ = some (.string x) := by
 obtain ⟨_, _, h3⟩ := h
 obtain ⟨ad, rfl, hc⟩ := h3 hn
 have cells : ∀ (j : Nat) x, xs[j]? = some x → w.cell? (ad.add j) = some (.string x) := by
  intro j x hx
  obtain ⟨c, hl, hk, hcell⟩ := hc j x hx
  have hk' : c = [Value.string x] := hk
  subst hk'
  have := hcell 0 (.string x) rfl
  rw [show j * Kd.string.sz + 0 = j from by show j * 1 + 0 = j; omega] at this
  exact this
 have h0 := cells 0 xs[0] (List.getElem?_eq_getElem hn)
 obtain ⟨bk, o, sp⟩ := ad
 have h0' : w.cell? ⟨bk, o, sp⟩ = some (.string xs[0]) := h0
 have hsp : sp = none := by
  cases sp with
  | none => rfl
  | some y =>
   unfold World.cell? at h0'
   simp at h0'
   split at h0' <;> simp at h0'
 subst hsp
 refine ⟨bk, o, rfl, ?_, fun j x hx => ?_⟩
 ·rcases Nat.lt_or_ge bk w.heap.size with h | h
  ·exact h
  ·unfold World.cell? at h0'
   simp [Array.getElem?_eq_none h] at h0'
 ·have := cells j x hx
  unfold Addr.add at this
  split at this
  ·rename_i hj; subst hj; exact this
  ·exact this
def strings_Join.f (l0 : List ByteArray) (a1 : ByteArray) : Option (ByteArray) :=
 if l0.length ≤ 140737488355328 ∧ (Lib.join (l0.map L) (L a1)).length ≤ 140737488355328 then some (ofL (Lib.join (l0.map L) (L a1))) else none
theorem strings_Join.calls (A0 : Option Addr) (c0 : Nat) (l0 : List ByteArray) (a1 : ByteArray) (r : ByteArray) (w : World) (hr0 : Kd.C Kd.string w A0 l0.length l0) (hc0 : l0.length ≤ c0) (h : strings_Join.f l0 a1 = some r) :
  Calls Tryz.prog 92 #[.slice A0 l0.length c0, .string a1] w fun e w' => e = .returned (.string r) ∧ Below w.heap.size w w' := by
 unfold strings_Join.f at h
 split at h
 ·rename_i hh
  obtain rfl := Option.some.inj h
  rcases Nat.eq_zero_or_pos l0.length with h0 | h0
  ·obtain rfl : l0 = [] := List.length_eq_zero_iff.1 h0
   exact (Tryz.strings_Join_none A0 c0 a1 w).mono fun e w' ⟨he, hw⟩ => ⟨he, hw ▸ Below.refl _ _⟩
  ·obtain ⟨bk, o, rfl, hb, hcells⟩ := row_at hr0 h0
   exact Tryz.strings_Join bk o c0 l0 a1 w hcells hb hh.1 hc0 hh.2
 ·cases h
end Go.Proofs.YtpomhjkbgbociaaGreatDoor.P
end
section
namespace Go.Proofs.YtpomhjkbgbociaaGreatDoor.P
open Go.RowKit Go.Proofs.YtpomhjkbgbociaaGreatDoorW.PrintWords Go.Proofs.YtpomhjkbgbociaaGreatDoorW.PrintLast Go.Proofs.YtpomhjkbgbociaaGreatDoorW.PrintMore
attribute [local go_sem] max2_int min2_int max_two min_two max_three min_three max_four min_four
set_option linter.unusedVariables false
set_option linter.unusedSimpArgs false
set_option maxHeartbeats 8000000
set_option maxRecDepth 100000
def impl_writePath.f (a0_0 : ByteArray) (l0_1 : List ByteArray) (a0_2 : Bool) (a0_3 : ByteArray) : Option (ByteArray) := (strings_Join.f l0_1 (⟨#[47]⟩ : ByteArray)).bind fun t562 => (if 1 + t562.size ≤ 9223372036854775807 then (if a0_2 = true then (if 1 + a0_3.size ≤ 9223372036854775807 then (if 1 + t562.size + 1 + a0_3.size ≤ 9223372036854775807 then (some (((⟨#[47]⟩ : ByteArray) ++ t562) ++ ((⟨#[63]⟩ : ByteArray) ++ a0_3))) else (none)) else (none)) else (some ((⟨#[47]⟩ : ByteArray) ++ t562))) else (none))
theorem impl_writePath.calls (a0_0 : ByteArray) (A0_1 : Option Addr) (c0_1 : Nat) (l0_1 : List ByteArray) (a0_2 : Bool) (a0_3 : ByteArray) (r : ByteArray) (w : World) (hr0_1 : Kd.C Kd.string w A0_1 l0_1.length l0_1) (hc0_1 : l0_1.length ≤ c0_1) (h : impl_writePath.f a0_0 l0_1 a0_2 a0_3 = some r) :
  Calls Tryz.prog 64 #[.agg #[.string a0_0, .slice A0_1 l0_1.length c0_1, .bool a0_2, .string a0_3]] w fun e w' => e = .returned (.string r) ∧ Below w.heap.size w w' := by
 have hu39 := Tryz.underlying39;have HR0_1 := A_ hr0_1;have HC0_1 := A_ hc0_1;clear hr0_1 hc0_1;have HB := A_ (Below.refl w.heap.size w);unfold impl_writePath.f at h
 have H := h;clear h;replace H := bindA H;obtain ⟨t562, A2, H⟩ := H;replace H := iteE H;rcases H with ⟨c3, H⟩ | ⟨c3, H⟩
 ·have c3b0 := eq_true c3
  have c3b1 := dT c3;try have c3b2 : (9223372036854775807 < 1 + t562.size) = False := eq_false (Nat.not_lt.2 c3)
  have HF4 := A_ H;clear H;go_enter Tryz.func64, Tryz.ntmps64;go_upto_if 9 with (first | (refine boxF 1 #[.string a0_0, .slice A0_1 l0_1.length c0_1, .bool a0_2, .string a0_3] 39 ?_; intro gb561 hg w5 BK561 hb; have GE561 := geB hg (zz2 HB); replace HB := A_ (bS (zz2 HB) hb); clear hb hg; obtain ⟨_, _, _, _, _, _, _, _⟩ := cf4 BK561) | (refine gR 92 (some 6) Tryz.func92 (strings_Join.calls _ _ l0_1 (⟨#[47]⟩ : ByteArray) t562 _ ?side1 ?side2 A2.out) ?_; (case side1 => exact (zz21 HR0_1 HB)); (case side2 => exact HC0_1.out); rintro w7 hb; replace BK561 := A_ (bB (zz3 BK561) hb); replace HB := A_ (bS (zz4 HB GE561) hb); (try clear hb); obtain ⟨_, _, _, _, _, _, _, _⟩ := cf4 BK561))
  obtain ⟨H⟩ := HF4;replace H := iteB H;rcases H with ⟨rfl, H⟩ | ⟨rfl, H⟩
  ·replace H := iteN H
   obtain ⟨c10, H⟩ := H;have c10b0 := eq_true c10;have c10b1 := dT c10;try have c10b2 : (9223372036854775807 < 1 + a0_3.size) = False := eq_false (Nat.not_lt.2 c10)
   replace H := iteN H;obtain ⟨c11, H⟩ := H;have c11b0 := eq_true c11;have c11b1 := dT c11;try have c11b2 : (9223372036854775807 < 1 + t562.size + 1 + a0_3.size) = False := eq_false (Nat.not_lt.2 c11)
   obtain rfl := sI H;obtain ⟨_, _, _, _, _, _, _, _⟩ := cf4 BK561;go_wp2
   go_ret
   exact ⟨zz11, (zz4 HB GE561)⟩
  ·obtain rfl := sI H
   go_wp2
   go_ret
   exact ⟨zz11, (zz4 HB GE561)⟩
 ·exact absurd H (by simp)
def impl_writeAddr.f (a0_0 : ByteArray) (l0_1 : List ByteArray) (a0_2 : Bool) (a0_3 : ByteArray) : Option (ByteArray) := if 2 + a0_0.size ≤ 9223372036854775807 then ((impl_writePath.f a0_0 l0_1 a0_2 a0_3).bind fun t564 => (if 2 + a0_0.size + t564.size ≤ 9223372036854775807 then (some (((⟨#[47, 47]⟩ : ByteArray) ++ a0_0) ++ t564)) else (none))) else (none)
theorem impl_writeAddr.calls (a0_0 : ByteArray) (A0_1 : Option Addr) (c0_1 : Nat) (l0_1 : List ByteArray) (a0_2 : Bool) (a0_3 : ByteArray) (r : ByteArray) (w : World) (hr0_1 : Kd.C Kd.string w A0_1 l0_1.length l0_1) (hc0_1 : l0_1.length ≤ c0_1) (h : impl_writeAddr.f a0_0 l0_1 a0_2 a0_3 = some r) :
  Calls Tryz.prog 38 #[.agg #[.string a0_0, .slice A0_1 l0_1.length c0_1, .bool a0_2, .string a0_3]] w fun e w' => e = .returned (.string r) ∧ Below w.heap.size w w' := by
 have hu39 := Tryz.underlying39;have HR0_1 := A_ hr0_1;have HC0_1 := A_ hc0_1;clear hr0_1 hc0_1;have HB := A_ (Below.refl w.heap.size w);unfold impl_writeAddr.f at h
 have H := h;clear h;replace H := iteE H;rcases H with ⟨c2, H⟩ | ⟨c2, H⟩
 ·have c2b0 := eq_true c2
  have c2b1 := dT c2;try have c2b2 : (9223372036854775807 < 2 + a0_0.size) = False := eq_false (Nat.not_lt.2 c2)
  replace H := bindA H;obtain ⟨t564, A3, H⟩ := H;replace H := iteN H;obtain ⟨c4, H⟩ := H;have c4b0 := eq_true c4;have c4b1 := dT c4;try have c4b2 : (9223372036854775807 < 2 + a0_0.size + t564.size) = False := eq_false (Nat.not_lt.2 c4)
  obtain rfl := sI H;go_enter Tryz.func38, Tryz.ntmps38;try go_wp2_with (first | (refine boxF 1 #[.string a0_0, .slice A0_1 l0_1.length c0_1, .bool a0_2, .string a0_3] 39 ?_; intro gb563 hg w5 BK563 hb; have GE563 := geB hg (zz2 HB); replace HB := A_ (bS (zz2 HB) hb); clear hb hg))
  replace BK563 := A_ (blk_drew BK563.out);replace HB := A_ (below_drew1 HB.out);refine start_ (n := 7) (S := fun w' => w'.cell? ⟨gb563, 0, none⟩ = some (.string a0_0) ∧ w'.cell? ⟨gb563, 1, none⟩ = some (.slice A0_1 l0_1.length c0_1) ∧ w'.cell? ⟨gb563, 2, none⟩ = some (.bool a0_2) ∧ w'.cell? ⟨gb563, 3, none⟩ = some (.string a0_3)) (ds := []) #[false, false, false, false, false, false, false] (by kernel_rfl) rfl rfl ⟨(blk_cell BK563.out 0).trans rfl, (blk_cell BK563.out 1).trans rfl, (blk_cell BK563.out 2).trans rfl, (blk_cell BK563.out 3).trans rfl⟩ (fun hHeld => ?_);generalize w5.drew = w6 at BK563 HB hHeld ⊢;refine pureY 0 (some 3) #[true, false, false, false, false, false, false] ?_;refine takeY4 1 (some 4) #[true, true, false, false, false, false, false] hHeld ?_;refine pureY 2 (some 5) #[true, true, true, false, false, false, false] ?_;refine takeY4 3 (some 6) #[true, true, true, true, false, false, false] hHeld ?_;refine one_ (i := 4) (N := some 7) #[true, true, true, true, true, false, false] rfl rfl (by kernel_rfl) (by decide) (fun K hK => ?_);refine goes_ Tryz.func64 (by kernel_rfl) rfl #[.agg #[.string a0_0, .slice A0_1 l0_1.length c0_1, .bool a0_2, .string a0_3]] (by rfl) rfl rfl zz17 ?_;with_reducible refine (impl_writePath.calls a0_0 _ _ l0_1 a0_2 a0_3 t564 _ ?side1 ?side2 A3.out).mono ?_
  (case side1 => exact (zz21 HR0_1 HB))
  (case side2 => exact HC0_1.out)
  rintro e w7 ⟨rfl, hb⟩;refine ⟨_, rfl, ?_⟩;replace BK563 := A_ (bB (zz3 BK563) hb);replace HB := A_ (bS (zz4 HB GE563) hb);(try clear hb)
  (try clear hb2)
  (try clear hk)
  (try clear hi)
  refine hK.out _ _ ⟨(blk_cell BK563.out 0).trans rfl, (blk_cell BK563.out 1).trans rfl, (blk_cell BK563.out 2).trans rfl, (blk_cell BK563.out 3).trans rfl⟩ (fun hHeld => ?_);clear hK K;refine norm_ (a' := ?_) ?_ ?_;rotate_left
  ·show Act.put _ (some 7) _ = _
   simp only [Act.put, List.setIfInBounds_toArray, List.set_cons_zero, List.set_cons_succ, i64_w, i32_w]
   rfl
  refine pureY 5 (some 8) #[true, true, true, true, true, true, false] ?_;refine pureY 6 (some 2) #[true, true, true, true, true, true, true] ?_;refine done_ (by kernel_rfl) ?_;try go_wp2
  go_ret
  exact ⟨zz11, (zz4 HB GE563)⟩
 ·exact absurd H (by simp)
end Go.Proofs.YtpomhjkbgbociaaGreatDoor.P
end
section
namespace Go.Proofs.YtpomhjkbgbociaaGreatDoor.P
open Go.RowKit Go.Proofs.YtpomhjkbgbociaaGreatDoorW.PrintWords Go.Proofs.YtpomhjkbgbociaaGreatDoorW.PrintLast Go.Proofs.YtpomhjkbgbociaaGreatDoorW.PrintMore Go.Proofs.YtpomhjkbgbociaaGreatDoor.B Go.Proofs.YtpomhjkbgbociaaGreatDoor.Ad
set_option linter.unusedVariables false
set_option linter.unusedSimpArgs false
def stringslite_Index.f (a0 : ByteArray) (a1 : ByteArray) : Option (Int) := match L a1 with
 | [c] => some (Lib.indexByte (L a0) c)
 | _ => none
theorem one_of_L {a : ByteArray} {c : UInt8} (h : L a = [c]) : a = ⟨#[c]⟩ := L_inj (by rw [h])
theorem stringslite_Index.calls (a0 : ByteArray) (a1 : ByteArray) (r : Int) (w : World) (h : stringslite_Index.f a0 a1 = some r) :
  Calls Tryz.prog 78 #[.string a0, .string a1] w fun e w' => e = .returned (.int .i64 r) ∧ Below w.heap.size w w' := by
 unfold stringslite_Index.f at h
 split at h
 ·rename_i c hc
  obtain rfl := Option.some.inj h
  obtain rfl := one_of_L hc
  exact (Tryz.stringslite_Index_one a0 c w).mono fun e w' ⟨he, hw⟩ => ⟨he, hw ▸ Below.refl _ _⟩
 ·cases h
def strings_Count.f (a0 : ByteArray) (a1 : ByteArray) : Option (Int) := match L a1 with
 | [c] => some (Lib.countByte (L a0) c)
 | _ => none
theorem strings_Count.calls (a0 : ByteArray) (a1 : ByteArray) (r : Int) (w : World) (h : strings_Count.f a0 a1 = some r) :
  Calls Tryz.prog 126 #[.string a0, .string a1] w fun e w' => e = .returned (.int .i64 r) ∧ Below w.heap.size w w' := by
 unfold strings_Count.f at h
 split at h
 ·rename_i c hc
  obtain rfl := Option.some.inj h
  obtain rfl := one_of_L hc
  exact (Tryz.strings_Count_one a0 c w).mono fun e w' ⟨he, hw⟩ => ⟨he, hw ▸ Below.refl _ _⟩
 ·cases h
end Go.Proofs.YtpomhjkbgbociaaGreatDoor.P
end
section
namespace Go.Proofs.YtpomhjkbgbociaaGreatDoor.P
open Go.RowKit Go.Proofs.YtpomhjkbgbociaaGreatDoorW.PrintWords Go.Proofs.YtpomhjkbgbociaaGreatDoorW.PrintLast Go.Proofs.YtpomhjkbgbociaaGreatDoorW.PrintMore
attribute [local go_sem] max2_int min2_int max_two min_two max_three min_three max_four min_four
set_option linter.unusedVariables false
set_option linter.unusedSimpArgs false
set_option maxHeartbeats 8000000
set_option maxRecDepth 100000
def stringslite_Cut.f (a0 : ByteArray) (a1 : ByteArray) : Option (ByteArray × ByteArray × Bool) := (stringslite_Index.f a0 a1).bind fun t554 => (if t554 ≥ 0 then (if 0 ≤ t554 then (if t554 ≤ (a0.size : Int) then (if 0 ≤ (wrap64 (t554 + (a1.size : Int))) then (if (wrap64 (t554 + (a1.size : Int))) ≤ (a0.size : Int) then (some (a0.extract 0 (t554 : Int).toNat, a0.extract ((wrap64 (t554 + (a1.size : Int))) : Int).toNat a0.size, true)) else (none)) else (none)) else (none)) else (none)) else (some (a0, (⟨#[]⟩ : ByteArray), false)))
theorem stringslite_Cut.calls (a0 : ByteArray) (a1 : ByteArray) (r1 : ByteArray) (r2 : ByteArray) (r3 : Bool) (w : World) (h : stringslite_Cut.f a0 a1 = some (r1, r2, r3)) :
  Calls Tryz.prog 52 #[.string a0, .string a1] w fun e w' => e = .returned (.tuple #[.string r1, .string r2, .bool r3]) ∧ Below w.heap.size w w' := by
 have HB := A_ (Below.refl w.heap.size w);unfold stringslite_Cut.f at h
 have H := h;clear h;replace H := bindA H;obtain ⟨t554, A3, H⟩ := H;have HF4 := A_ H;clear H;go_enter Tryz.func52, Tryz.ntmps52;go_upto_if 12 with (first | (go_at_call 78; (with_reducible refine (stringslite_Index.calls a0 a1 t554 _ A3.out).mono ?_); rintro e w5 ⟨rfl, hb⟩; replace HB := A_ (bS (zz2 HB) hb); (try clear hb)))
 repeat (go_quiet (first | (go_at_call 78; (with_reducible refine (stringslite_Index.calls a0 a1 t554 _ A3.out).mono ?_); rintro e w5 ⟨rfl, hb⟩; replace HB := A_ (bS (zz2 HB) hb); (try clear hb))); go_upto_if 12 with (first | (go_at_call 78; (with_reducible refine (stringslite_Index.calls a0 a1 t554 _ A3.out).mono ?_); rintro e w5 ⟨rfl, hb⟩; replace HB := A_ (bS (zz2 HB) hb); (try clear hb))))
 obtain ⟨H⟩ := HF4;replace H := iteEe H;rcases H with ⟨c6b0, H⟩ | ⟨c6b0, H⟩
 ·(first | rw [c6b0] | (simp only [i64_w, i32_w]; rw [c6b0]) | skip)
  replace H := iteN H;obtain ⟨c7, H⟩ := H;have c7b0 := eq_true c7;have c7b1 := dT c7;clear c7;replace H := iteN H;obtain ⟨c8, H⟩ := H;have c8b0 := eq_true c8;have c8b1 := dT c8;clear c8;obtain ⟨ji9, hji9⟩ : ∃ j_ : Int, (wrap64 (t554 + (a1.size : Int))) = j_ := ⟨_, rfl⟩;(first | rw [hji9] at H | simp only [hji9] at H)
  have hji9w : (IntKind.i64.wrap (t554 + (a1.size : Int))) = ji9 := (i64_w _).trans hji9;replace H := iteN H;obtain ⟨c10, H⟩ := H;have c10b0 := eq_true c10;have c10b1 := dT c10;clear c10;replace H := iteN H;obtain ⟨c11, H⟩ := H;have c11b0 := eq_true c11;have c11b1 := dT c11;clear c11;simp only [Option.some.injEq, Prod.mk.injEq] at H
  obtain ⟨rfl, rfl, rfl⟩ := H;go_wp2
  repeat (go_quiet (fail); try go_wp2)
  go_ret3
  exact ⟨zz12, (zz2 HB)⟩
 ·(first | rw [c6b0] | (simp only [i64_w, i32_w]; rw [c6b0]) | skip)
  simp only [Option.some.injEq, Prod.mk.injEq] at H
  obtain ⟨rfl, rfl, rfl⟩ := H;go_wp2
  repeat (go_quiet (fail); try go_wp2)
  go_ret3
  exact ⟨zz11, (zz2 HB)⟩
def strings_Cut.f (a0 : ByteArray) (a1 : ByteArray) : Option (ByteArray × ByteArray × Bool) := (stringslite_Cut.f a0 a1).bind fun bt555 => (some (bt555.1, bt555.2.1, bt555.2.2))
theorem strings_Cut.calls (a0 : ByteArray) (a1 : ByteArray) (r1 : ByteArray) (r2 : ByteArray) (r3 : Bool) (w : World) (h : strings_Cut.f a0 a1 = some (r1, r2, r3)) :
  Calls Tryz.prog 31 #[.string a0, .string a1] w fun e w' => e = .returned (.tuple #[.string r1, .string r2, .bool r3]) ∧ Below w.heap.size w w' := by
 have HB := A_ (Below.refl w.heap.size w);unfold strings_Cut.f at h
 have H := h;clear h;replace H := bindA H;obtain ⟨⟨t555, t556, t557⟩, A3, H⟩ := H;try dsimp only at H
 simp only [Option.some.injEq, Prod.mk.injEq] at H
 obtain ⟨rfl, rfl, rfl⟩ := H;go_enter Tryz.func31, Tryz.ntmps31;go_wp2_with (first | (refine gR 52 (some 9) Tryz.func52 (stringslite_Cut.calls a0 a1 t555 t556 t557 _ A3.out) ?_; rintro w4 hb; replace HB := A_ (bS (zz2 HB) hb); (try clear hb)))
 go_ret3
 exact ⟨zz11, (zz2 HB)⟩
def stringslite_HasPrefix.f (a0 : ByteArray) (a1 : ByteArray) : Option (Bool) := if (a0.size : Int) ≥ (a1.size : Int) then (if 0 ≤ (a1.size : Int) then (if (a1.size : Int) ≤ (a0.size : Int) then (some ((a0.extract 0 ((a1.size : Int) : Int).toNat).toList == a1.toList)) else (none)) else (none)) else (some false)
theorem stringslite_HasPrefix.calls (a0 : ByteArray) (a1 : ByteArray) (r : Bool) (w : World) (h : stringslite_HasPrefix.f a0 a1 = some r) :
  Calls Tryz.prog 91 #[.string a0, .string a1] w fun e w' => e = .returned (.bool r) ∧ Drawn0 w w' := by
 unfold stringslite_HasPrefix.f at h
 have H := h;clear h;replace H := iteE H;rcases H with ⟨c3, H⟩ | ⟨c3, H⟩
 ·have c3b0 := geT c3
  have c3b1 : decide (a1.size ≤ a0.size) = true := dT (Int.ofNat_le.mp c3);clear c3;replace H := iteN H;obtain ⟨c4, H⟩ := H;have c4b0 := eq_true c4;have c4b1 := dT c4;clear c4;replace H := iteN H;obtain ⟨c5, H⟩ := H;have c5b0 := eq_true c5;have c5b1 := dT c5;clear c5;obtain rfl := sI H;go_enter Tryz.func91, Tryz.ntmps91;go_wp2
  go_ret
  exact ⟨zz5, zz22⟩
 ·have c3b0 := geF c3
  have c3b1 : decide (a1.size ≤ a0.size) = false := dF (fun h => c3 (Int.ofNat_le.mpr h));clear c3;obtain rfl := sI H;go_enter Tryz.func91, Tryz.ntmps91;go_wp2
  go_ret
  exact ⟨zz5, zz22⟩
def stringslite_CutPrefix.f (a0 : ByteArray) (a1 : ByteArray) : Option (ByteArray × Bool) := (stringslite_HasPrefix.f a0 a1).bind fun t558 => (if t558 = true then (if 0 ≤ (a1.size : Int) then (if (a1.size : Int) ≤ (a0.size : Int) then (some (a0.extract ((a1.size : Int) : Int).toNat a0.size, true)) else (none)) else (none)) else (some (a0, false)))
theorem stringslite_CutPrefix.calls (a0 : ByteArray) (a1 : ByteArray) (r1 : ByteArray) (r2 : Bool) (w : World) (h : stringslite_CutPrefix.f a0 a1 = some (r1, r2)) :
  Calls Tryz.prog 79 #[.string a0, .string a1] w fun e w' => e = .returned (.tuple #[.string r1, .bool r2]) ∧ Drawn0 w w' := by
 unfold stringslite_CutPrefix.f at h
 have H := h;clear h;replace H := bindA H;obtain ⟨t558, A3, H⟩ := H;have HF4 := A_ H;clear H;go_enter Tryz.func79, Tryz.ntmps79;go_upto_if 9 with (first | (refine gR 91 (some 8) Tryz.func91 (stringslite_HasPrefix.calls a0 a1 t558 _ A3.out) ?_; rintro w' ⟨nd, rfl⟩))
 obtain ⟨H⟩ := HF4;replace H := iteB H;rcases H with ⟨rfl, H⟩ | ⟨rfl, H⟩
 ·replace H := iteN H
  obtain ⟨c6, H⟩ := H;have c6b0 := eq_true c6;have c6b1 := dT c6;clear c6;replace H := iteN H;obtain ⟨c7, H⟩ := H;have c7b0 := eq_true c7;have c7b1 := dT c7;clear c7;simp only [Option.some.injEq, Prod.mk.injEq] at H
  obtain ⟨rfl, rfl⟩ := H;go_wp2
  go_ret2
  exact ⟨zz5, zz22⟩
 ·simp only [Option.some.injEq, Prod.mk.injEq] at H
  obtain ⟨rfl, rfl⟩ := H;go_wp2
  go_ret2
  exact ⟨zz5, zz22⟩
def strings_CutPrefix.f (a0 : ByteArray) (a1 : ByteArray) : Option (ByteArray × Bool) := (stringslite_CutPrefix.f a0 a1).bind fun bt559 => (some (bt559.1, bt559.2))
theorem strings_CutPrefix.calls (a0 : ByteArray) (a1 : ByteArray) (r1 : ByteArray) (r2 : Bool) (w : World) (h : strings_CutPrefix.f a0 a1 = some (r1, r2)) :
  Calls Tryz.prog 53 #[.string a0, .string a1] w fun e w' => e = .returned (.tuple #[.string r1, .bool r2]) ∧ Drawn0 w w' := by
 unfold strings_CutPrefix.f at h
 have H := h;clear h;replace H := bindA H;obtain ⟨⟨t559, t560⟩, A3, H⟩ := H;try dsimp only at H
 simp only [Option.some.injEq, Prod.mk.injEq] at H
 obtain ⟨rfl, rfl⟩ := H;go_enter Tryz.func53, Tryz.ntmps53;go_wp2_with (first | (refine gR 79 (some 8) Tryz.func79 (stringslite_CutPrefix.calls a0 a1 t559 t560 _ A3.out) ?_; rintro w' ⟨nd, rfl⟩))
 go_ret2
 exact ⟨zz5, zz22⟩
end Go.Proofs.YtpomhjkbgbociaaGreatDoor.P
end
section
namespace Go.Proofs.YtpomhjkbgbociaaGreatDoor.P
open Go.RowKit Go.Proofs.YtpomhjkbgbociaaGreatDoorW.PrintWords Go.Proofs.YtpomhjkbgbociaaGreatDoorW.PrintLast Go.Proofs.YtpomhjkbgbociaaGreatDoorW.PrintMore
set_option linter.unusedVariables false
set_option linter.unusedSimpArgs false
def hexS : ByteArray := ⟨#[48, 49, 50, 51, 52, 53, 54, 55, 56, 57, 65, 66, 67, 68, 69, 70]⟩
def figAt (k : Nat) : Nat := if k < 10 then 48 + k else 55 + k
def figI (b : Int) : Int × Bool := if 48 ≤ b ∧ b ≤ 57 then (b - 48, true) else if 65 ≤ b ∧ b ≤ 70 then (b - 55, true) else (0, false)
def impl_figureValue.f (a0 : Int) : Option (Int × Bool) := if 0 ≤ a0 ∧ a0 < 256 then some (figI (if 97 ≤ a0 ∧ a0 ≤ 102 then a0 - 32 else a0)) else none
theorem hex_at : ∀ k : Nat, k < 16 → hexS.size = 16 ∧ ∃ h : k < hexS.size, (hexS[k]'h).toNat = figAt k := by decide +kernel
theorem fig_hit {k : Nat} {b : Int} (hk : k < 16) (h : (figAt k : Int) = b) : figI b = ((k : Int), true) := by
 unfold figAt at h; unfold figI
 split at h
 ·rw [if_pos (by omega)]; congr 1; omega
 ·rw [if_neg (by omega), if_pos (by omega)]; congr 1; omega
theorem fig_miss {b : Int} (h : ∀ j : Nat, j < 16 → (figAt j : Int) ≠ b) : figI b = (0, false) := by
 unfold figI
 split
 ·rename_i hh
  exact absurd (by unfold figAt; rw [if_pos (by omega)]; omega) (h (b - 48).toNat (by omega))
 ·split
  ·rename_i hh
   exact absurd (by unfold figAt; rw [if_neg (by omega)]; omega) (h (b - 55).toNat (by omega))
  ·rfl
set_option maxHeartbeats 1000000 in
set_option maxRecDepth 1000000 in
theorem impl_figureValue.calls (a0 : Int) (r0 : Int) (r1 : Bool) (w : World) (h : impl_figureValue.f a0 = some (r0, r1)) :
  Calls Tryz.prog 124 #[.int .u8 a0] w fun e w' => e = .returned (.tuple #[.int .i64 r0, .bool r1]) ∧ Below w.heap.size w w' := by
 unfold impl_figureValue.f at h
 split at h
 case isFalse => cases h
 rename_i hh
 have h := Option.some.inj h
 obtain ⟨b, hb⟩ : ∃ b, b = (if 97 ≤ a0 ∧ a0 ≤ 102 then a0 - 32 else a0) := ⟨_, rfl⟩
 rw [← hb] at h
 by_cases h1 : 97 ≤ a0
 ·by_cases h2 : a0 ≤ 102
  ·rw [if_pos ⟨h1, h2⟩] at hb
   go_enter Tryz.func124, Tryz.ntmps124
   go_wp2
   go_loopw [4] (fun n w' => ∃ k : Nat, k ≤ 16 ∧ w' = w.iter hexS k ∧ ∀ j : Nat, j < k → (figAt j : Int) ≠ (a0 - 32)) (fun _ w' => 16 - w'.iterPos w.heap.size)
   case atStart => exact ⟨0, by omega, rfl, fun j hj => absurd hj (by omega)⟩
   case round =>
    obtain ⟨k, hk, rfl, hne⟩ := hrel
    have hbel : ∀ p, Below w.heap.size w (w.iter hexS p) := fun p => (Below.refl _ _).alloc (Nat.le_refl _) _
    by_cases hlt : k < 16
    ·obtain ⟨hsz, hx, hf⟩ := hex_at k hlt
     have hnx : ∀ ty, (Instr.next (.pointer (some ⟨w.heap.size, 0, none⟩)) true ty).run Tryz.prog (w.iter hexS k) = .ok (.tuple #[.bool true, .int .i64 k, .int .i32 (figAt k : Nat)]) (w.iter hexS (k + 1)) := fun ty => by
      have hfl : figAt k < 128 := by unfold figAt; split <;> omega
      rw [← hf]
      exact run_next_ascii w hexS k ty hx (by rw [hf]; exact hfl)
     by_cases he : (figAt k : Int) = (a0 - 32)
     ·have hr := fig_hit hlt he
      rw [← hb, h, Prod.mk.injEq] at hr
      obtain ⟨rfl, rfl⟩ := hr
      go_wp2
      go_ret2
      exact ⟨rfl, hbel _⟩
     ·go_wp2
      refine ⟨⟨k + 1, by omega, rfl, fun j hj => ?_⟩, by simp; omega⟩
      by_cases e : j = k
      ·subst e; exact he
      ·exact hne j (by omega)
    ·obtain rfl : k = 16 := by omega
     have hr := fig_miss hne
     rw [← hb, h, Prod.mk.injEq] at hr
     obtain ⟨rfl, rfl⟩ := hr
     have hnx : ∀ ty, (Instr.next (.pointer (some ⟨w.heap.size, 0, none⟩)) true ty).run Tryz.prog (w.iter hexS 16) = _ := fun ty => run_next_end w hexS 16 ty (by decide)
     go_wp2
     go_ret2
     exact ⟨rfl, hbel _⟩
  ·rw [if_neg (fun e => h2 e.2)] at hb
   go_enter Tryz.func124, Tryz.ntmps124
   go_wp2
   go_loopw [4] (fun n w' => ∃ k : Nat, k ≤ 16 ∧ w' = w.iter hexS k ∧ ∀ j : Nat, j < k → (figAt j : Int) ≠ a0) (fun _ w' => 16 - w'.iterPos w.heap.size)
   case atStart => exact ⟨0, by omega, rfl, fun j hj => absurd hj (by omega)⟩
   case round =>
    obtain ⟨k, hk, rfl, hne⟩ := hrel
    have hbel : ∀ p, Below w.heap.size w (w.iter hexS p) := fun p => (Below.refl _ _).alloc (Nat.le_refl _) _
    by_cases hlt : k < 16
    ·obtain ⟨hsz, hx, hf⟩ := hex_at k hlt
     have hnx : ∀ ty, (Instr.next (.pointer (some ⟨w.heap.size, 0, none⟩)) true ty).run Tryz.prog (w.iter hexS k) = .ok (.tuple #[.bool true, .int .i64 k, .int .i32 (figAt k : Nat)]) (w.iter hexS (k + 1)) := fun ty => by
      have hfl : figAt k < 128 := by unfold figAt; split <;> omega
      rw [← hf]
      exact run_next_ascii w hexS k ty hx (by rw [hf]; exact hfl)
     by_cases he : (figAt k : Int) = a0
     ·have hr := fig_hit hlt he
      rw [← hb, h, Prod.mk.injEq] at hr
      obtain ⟨rfl, rfl⟩ := hr
      go_wp2
      go_ret2
      exact ⟨rfl, hbel _⟩
     ·go_wp2
      refine ⟨⟨k + 1, by omega, rfl, fun j hj => ?_⟩, by simp; omega⟩
      by_cases e : j = k
      ·subst e; exact he
      ·exact hne j (by omega)
    ·obtain rfl : k = 16 := by omega
     have hr := fig_miss hne
     rw [← hb, h, Prod.mk.injEq] at hr
     obtain ⟨rfl, rfl⟩ := hr
     have hnx : ∀ ty, (Instr.next (.pointer (some ⟨w.heap.size, 0, none⟩)) true ty).run Tryz.prog (w.iter hexS 16) = _ := fun ty => run_next_end w hexS 16 ty (by decide)
     go_wp2
     go_ret2
     exact ⟨rfl, hbel _⟩
 ·rw [if_neg (fun e => h1 e.1)] at hb
  go_enter Tryz.func124, Tryz.ntmps124
  go_wp2
  go_loopw [4] (fun n w' => ∃ k : Nat, k ≤ 16 ∧ w' = w.iter hexS k ∧ ∀ j : Nat, j < k → (figAt j : Int) ≠ a0) (fun _ w' => 16 - w'.iterPos w.heap.size)
  case atStart => exact ⟨0, by omega, rfl, fun j hj => absurd hj (by omega)⟩
  case round =>
   obtain ⟨k, hk, rfl, hne⟩ := hrel
   have hbel : ∀ p, Below w.heap.size w (w.iter hexS p) := fun p => (Below.refl _ _).alloc (Nat.le_refl _) _
   by_cases hlt : k < 16
   ·obtain ⟨hsz, hx, hf⟩ := hex_at k hlt
    have hnx : ∀ ty, (Instr.next (.pointer (some ⟨w.heap.size, 0, none⟩)) true ty).run Tryz.prog (w.iter hexS k) = .ok (.tuple #[.bool true, .int .i64 k, .int .i32 (figAt k : Nat)]) (w.iter hexS (k + 1)) := fun ty => by
     have hfl : figAt k < 128 := by unfold figAt; split <;> omega
     rw [← hf]
     exact run_next_ascii w hexS k ty hx (by rw [hf]; exact hfl)
    by_cases he : (figAt k : Int) = a0
    ·have hr := fig_hit hlt he
     rw [← hb, h, Prod.mk.injEq] at hr
     obtain ⟨rfl, rfl⟩ := hr
     go_wp2
     go_ret2
     exact ⟨rfl, hbel _⟩
    ·go_wp2
     refine ⟨⟨k + 1, by omega, rfl, fun j hj => ?_⟩, by simp; omega⟩
     by_cases e : j = k
     ·subst e; exact he
     ·exact hne j (by omega)
   ·obtain rfl : k = 16 := by omega
    have hr := fig_miss hne
    rw [← hb, h, Prod.mk.injEq] at hr
    obtain ⟨rfl, rfl⟩ := hr
    have hnx : ∀ ty, (Instr.next (.pointer (some ⟨w.heap.size, 0, none⟩)) true ty).run Tryz.prog (w.iter hexS 16) = _ := fun ty => run_next_end w hexS 16 ty (by decide)
    go_wp2
    go_ret2
    exact ⟨rfl, hbel _⟩
end Go.Proofs.YtpomhjkbgbociaaGreatDoor.P
end
section
namespace Go.Proofs.YtpomhjkbgbociaaGreatDoor.P
open Go.RowKit Go.Proofs.YtpomhjkbgbociaaGreatDoorW.PrintWords Go.Proofs.YtpomhjkbgbociaaGreatDoorW.PrintLast Go.Proofs.YtpomhjkbgbociaaGreatDoorW.PrintMore
attribute [local go_sem] max2_int min2_int max_two min_two max_three min_three max_four min_four
set_option linter.unusedVariables false
set_option linter.unusedSimpArgs false
set_option maxHeartbeats 8000000
set_option maxRecDepth 100000
def impl_signByte.f (a0 : ByteArray) (a1 : Int) : Option (Int × Bool) := if (wrap64 ((a0.size : Int) - a1)) < 3 then (some (0, false)) else (if 0 ≤ (wrap64 (a1 + 1)) then (if (wrap64 (a1 + 1)) < (a0.size : Int) then ((impl_figureValue.f (bt a0 (wrap64 (a1 + 1)))).bind fun bt566 => (if 0 ≤ (wrap64 (a1 + 2)) then (if (wrap64 (a1 + 2)) < (a0.size : Int) then ((impl_figureValue.f (bt a0 (wrap64 (a1 + 2)))).bind fun bt568 => (if bt566.2 = true then (if bt568.2 = true then (some ((wrap64 ((wrap64 (bt566.1 * 16)) + bt568.1)) % 256, true)) else (some (0, false))) else (some (0, false)))) else (none)) else (none))) else (none)) else (none))
theorem impl_signByte.calls (a0 : ByteArray) (a1 : Int) (r1 : Int) (r2 : Bool) (w : World) (h : impl_signByte.f a0 a1 = some (r1, r2)) :
  Calls Tryz.prog 110 #[.string a0, .int .i64 a1] w fun e w' => e = .returned (.tuple #[.int .u8 r1, .bool r2]) ∧ Below w.heap.size w w' := by
 have HB := A_ (Below.refl w.heap.size w);unfold impl_signByte.f at h
 have H := h;clear h;replace H := iteEd H;rcases H with ⟨c3b0, H⟩ | ⟨c3b0, H⟩
 ·simp only [Option.some.injEq, Prod.mk.injEq] at H
  obtain ⟨rfl, rfl⟩ := H;go_enter Tryz.func110, Tryz.ntmps110;go_wp2
  go_ret2
  exact ⟨zz11, (zz2 HB)⟩
 ·obtain ⟨ji4, hji4⟩ : ∃ j_ : Int, (wrap64 (a1 + 1)) = j_ := ⟨_, rfl⟩
  (first | rw [hji4] at H | simp only [hji4] at H)
  have hji4w : (IntKind.i64.wrap (a1 + 1)) = ji4 := (i64_w _).trans hji4;replace H := iteE H;rcases H with ⟨c5, H⟩ | ⟨c5, H⟩
  ·have c5b0 := dT c5
   clear c5;replace H := iteNd H;obtain ⟨c6b0, H⟩ := H;replace H := bindA H;obtain ⟨⟨t566, t567⟩, A8, H⟩ := H;try dsimp only at H
   obtain ⟨ji9, hji9⟩ : ∃ j_ : Int, (wrap64 (a1 + 2)) = j_ := ⟨_, rfl⟩;(first | rw [hji9] at H | simp only [hji9] at H)
   (try rw [hji9] at A8)
   have hji9w : (IntKind.i64.wrap (a1 + 2)) = ji9 := (i64_w _).trans hji9;replace H := iteNd H;obtain ⟨c10b0, H⟩ := H;replace H := iteNd H;obtain ⟨c11b0, H⟩ := H;replace H := bindA H;obtain ⟨⟨t568, t569⟩, A13, H⟩ := H;try dsimp only at H
   have HF14 := A_ H;clear H;have p7 : 0 ≤ ((ji4) : Int) := ofD;have q7 : (ji4) < (a0.size : Int) := ofD;have hx7 := bt_at a0 (ji4);replace p7 := eq_true p7;replace q7 := eq_true q7;go_enter Tryz.func110, Tryz.ntmps110;go_wp2_with (first | ((with_reducible refine gC (f := 124) rfl ?_); refine goesL_ (some 20) rfl rfl Tryz.func124 (by kernel_rfl) rfl #[.int .u8 (bt a0 (ji4))] rfl (by (try simp only [List.map_toArray, List.map_cons, List.map_nil]); first | done | (simp only [hji4]; rfl) | rfl | (simp only [List.length_drop, List.length_take]; rfl)) ?_; (with_reducible refine mR (impl_figureValue.calls (bt a0 (ji4)) t566 t567 _ A8.out) ?_); rintro w15 hb; replace HB := A_ (bS (zz2 HB) hb); (try clear hb); have p12 : 0 ≤ ((ji9) : Int) := ofD; have q12 : (ji9) < (a0.size : Int) := ofD; have hx12 := bt_at a0 (ji9); replace p12 := eq_true p12; replace q12 := eq_true q12) | ((with_reducible refine gC (f := 124) rfl ?_); refine goesL_ (some 28) rfl rfl Tryz.func124 (by kernel_rfl) rfl #[.int .u8 (bt a0 (ji9))] rfl (by (try simp only [List.map_toArray, List.map_cons, List.map_nil]); first | done | (simp only [hji9]; rfl) | rfl | (simp only [List.length_drop, List.length_take]; rfl)) ?_; (with_reducible refine mR (impl_figureValue.calls (bt a0 (ji9)) t568 t569 _ A13.out) ?_); rintro w16 hb; replace HB := A_ (bS (zz2 HB) hb); (try clear hb)) | ((with_reducible refine atG ?_ ?_ fun K_ hK_ => ?_); rfl; exact undecG) | ((with_reducible refine atI ?_ fun K_ hK_ => ?_); exact undecI))
   refine unG hK_ ?_; clear hK_ K_;obtain ⟨H⟩ := HF14;replace H := iteB H;rcases H with ⟨rfl, H⟩ | ⟨rfl, H⟩
   ·(first | refine iteT ?_ | refine iteF ?_ | skip)
    replace H := iteB H;rcases H with ⟨rfl, H⟩ | ⟨rfl, H⟩
    ·simp only [Option.some.injEq, Prod.mk.injEq] at H
     obtain ⟨rfl, rfl⟩ := H;go_wp2
     go_ret2
     exact ⟨zz166, (zz2 HB)⟩
    ·simp only [Option.some.injEq, Prod.mk.injEq] at H
     obtain ⟨rfl, rfl⟩ := H;go_wp2
     go_ret2
     exact ⟨zz166, (zz2 HB)⟩
   ·(first | refine iteT ?_ | refine iteF ?_ | skip)
    simp only [Option.some.injEq, Prod.mk.injEq] at H
    obtain ⟨rfl, rfl⟩ := H;(try ((with_reducible refine upS ?_); go_simp))
    go_wp2
    go_ret2
    exact ⟨zz166, (zz2 HB)⟩
  ·exact absurd H (by simp)
def impl_standsForItself.f (a0 : Int) : Option (Bool) := if a0 ≥ 97 then (if a0 ≤ 122 then (some true) else (if a0 ≥ 48 then (if a0 ≤ 57 then (some true) else (if a0 = 46 then (some true) else (some (a0 == 45)))) else (if a0 = 46 then (some true) else (some (a0 == 45))))) else (if a0 ≥ 48 then (if a0 ≤ 57 then (some true) else (if a0 = 46 then (some true) else (some (a0 == 45)))) else (if a0 = 46 then (some true) else (some (a0 == 45))))
theorem impl_standsForItself.calls (a0 : Int) (r : Bool) (w : World) (h : impl_standsForItself.f a0 = some r) :
  Calls Tryz.prog 111 #[.int .u8 a0] w fun e w' => e = .returned (.bool r) ∧ Drawn0 w w' := by
 unfold impl_standsForItself.f at h
 have H := h;clear h;replace H := iteEe H;rcases H with ⟨c2b0, H⟩ | ⟨c2b0, H⟩
 ·replace H := iteEd H
  rcases H with ⟨c3b0, H⟩ | ⟨c3b0, H⟩
  ·obtain rfl := sI H
   go_enter Tryz.func111, Tryz.ntmps111;go_wp2
   go_ret
   exact ⟨zz5, zz22⟩
  ·replace H := iteEe H
   rcases H with ⟨c4b0, H⟩ | ⟨c4b0, H⟩
   ·replace H := iteEd H
    rcases H with ⟨c5b0, H⟩ | ⟨c5b0, H⟩
    ·obtain rfl := sI H
     go_enter Tryz.func111, Tryz.ntmps111;go_wp2
     go_ret
     exact ⟨zz5, zz22⟩
    ·replace H := iteEq H
     rcases H with ⟨c6b0, c6b1, H⟩ | ⟨c6b0, c6b1, c6, H⟩
     ·obtain rfl := sI H
      go_enter Tryz.func111, Tryz.ntmps111;go_wp2
      go_ret
      exact ⟨zz5, zz22⟩
     ·obtain rfl := sI H
      go_enter Tryz.func111, Tryz.ntmps111;go_wp2
      go_ret
      exact ⟨zz5, zz22⟩
   ·replace H := iteEq H
    rcases H with ⟨c7b0, c7b1, H⟩ | ⟨c7b0, c7b1, c7, H⟩
    ·obtain rfl := sI H
     go_enter Tryz.func111, Tryz.ntmps111;go_wp2
     go_ret
     exact ⟨zz5, zz22⟩
    ·obtain rfl := sI H
     go_enter Tryz.func111, Tryz.ntmps111;go_wp2
     go_ret
     exact ⟨zz5, zz22⟩
 ·replace H := iteEe H
  rcases H with ⟨c8b0, H⟩ | ⟨c8b0, H⟩
  ·replace H := iteEd H
   rcases H with ⟨c9b0, H⟩ | ⟨c9b0, H⟩
   ·obtain rfl := sI H
    go_enter Tryz.func111, Tryz.ntmps111;go_wp2
    go_ret
    exact ⟨zz5, zz22⟩
   ·replace H := iteEq H
    rcases H with ⟨c10b0, c10b1, H⟩ | ⟨c10b0, c10b1, c10, H⟩
    ·obtain rfl := sI H
     go_enter Tryz.func111, Tryz.ntmps111;go_wp2
     go_ret
     exact ⟨zz5, zz22⟩
    ·obtain rfl := sI H
     go_enter Tryz.func111, Tryz.ntmps111;go_wp2
     go_ret
     exact ⟨zz5, zz22⟩
  ·replace H := iteEq H
   rcases H with ⟨c11b0, c11b1, H⟩ | ⟨c11b0, c11b1, c11, H⟩
   ·obtain rfl := sI H
    go_enter Tryz.func111, Tryz.ntmps111;go_wp2
    go_ret
    exact ⟨zz5, zz22⟩
   ·obtain rfl := sI H
    go_enter Tryz.func111, Tryz.ntmps111;go_wp2
    go_ret
    exact ⟨zz5, zz22⟩
def impl_EscNorm.l0 : Nat → ByteArray → List Int → Int → Option (ByteArray × Bool)
 | 0, _, _, _ => none
 | k + 1, x0, x4, x5 => if x5 < (x0.size : Int) then (if 0 ≤ x5 then (if (bt x0 x5) = 37 then ((impl_signByte.f x0 x5).bind fun bt570 => (if bt570.2 = true then ((impl_standsForItself.f bt570.1).bind fun t572 => (if t572 = true then (if x4.length < 140737488355328 then (impl_EscNorm.l0 k x0 (x4 ++ [bt570.1]) (wrap64 ((wrap64 (x5 + 2)) + 1))) else (none)) else (if 0 ≤ (bt570.1 / 16) then (if (bt570.1 / 16) < 16 then (if 0 ≤ (Go.bits .and .u8 bt570.1 15) then (if (Go.bits .and .u8 bt570.1 15) < 16 then ((some (([37, bt (⟨#[48, 49, 50, 51, 52, 53, 54, 55, 56, 57, 65, 66, 67, 68, 69, 70]⟩ : ByteArray) (bt570.1 / 16), bt (⟨#[48, 49, 50, 51, 52, 53, 54, 55, 56, 57, 65, 66, 67, 68, 69, 70]⟩ : ByteArray) (Go.bits .and .u8 bt570.1 15)] : List Int) : List Int)).bind fun y576 => (if x4.length + y576.length < 140737488355328 then (impl_EscNorm.l0 k x0 (x4 ++ y576) (wrap64 ((wrap64 (x5 + 2)) + 1))) else (none))) else (none)) else (none)) else (none)) else (none)))) else (some ((⟨#[]⟩ : ByteArray), false)))) else ((impl_standsForItself.f (bt x0 x5)).bind fun t582 => (if t582 = true then (if x4.length < 140737488355328 then (impl_EscNorm.l0 k x0 (x4 ++ [bt x0 x5]) (wrap64 (x5 + 1))) else (none)) else (if 0 ≤ ((bt x0 x5) / 16) then (if ((bt x0 x5) / 16) < 16 then (if 0 ≤ (Go.bits .and .u8 (bt x0 x5) 15) then (if (Go.bits .and .u8 (bt x0 x5) 15) < 16 then ((some (([37, bt (⟨#[48, 49, 50, 51, 52, 53, 54, 55, 56, 57, 65, 66, 67, 68, 69, 70]⟩ : ByteArray) ((bt x0 x5) / 16), bt (⟨#[48, 49, 50, 51, 52, 53, 54, 55, 56, 57, 65, 66, 67, 68, 69, 70]⟩ : ByteArray) (Go.bits .and .u8 (bt x0 x5) 15)] : List Int) : List Int)).bind fun y586 => (if x4.length + y586.length < 140737488355328 then (impl_EscNorm.l0 k x0 (x4 ++ y586) (wrap64 (x5 + 1))) else (none))) else (none)) else (none)) else (none)) else (none))))) else (none)) else (some (strOfNums x4, true))
def impl_EscNorm.f (k : Nat) (a0 : ByteArray) : Option (ByteArray × Bool) := if (a0.size : Int) > 60 then (some ((⟨#[]⟩ : ByteArray), false)) else (impl_EscNorm.l0 k a0 ([] : List Int) 0)
theorem impl_EscNorm.mono_l : ∀ k, (∀ y0 y1 y2, LeO (impl_EscNorm.l0 k y0 y1 y2) (impl_EscNorm.l0 (k + 1) y0 y1 y2))
 | 0 => by intros; intro r h; simp [impl_EscNorm.l0] at h
 | k + 1 => by
  have ih0 := impl_EscNorm.mono_l k; intros; unfold impl_EscNorm.l0;repeat' first | (with_reducible first | exact ih0 _ _ _ | exact LeO.refl _ | exact LeO.none _ | refine LeO.ite ?_ ?_ | refine LeO.bind ?_ (fun _ => ?_)) | exact LeO.none _ | refine LeO.ite ?_ ?_ | refine LeO.bind ?_ (fun _ => ?_)
theorem impl_EscNorm.mono : ∀ a0 k, LeO (impl_EscNorm.f k a0) (impl_EscNorm.f (k + 1) a0) := by
 intro a0 k;have ih0 := impl_EscNorm.mono_l k;unfold impl_EscNorm.f
 repeat' first | (with_reducible first | exact ih0 _ _ _ | exact LeO.refl _ | exact LeO.none _ | refine LeO.ite ?_ ?_ | refine LeO.bind ?_ (fun _ => ?_)) | exact LeO.none _ | refine LeO.ite ?_ ?_ | refine LeO.bind ?_ (fun _ => ?_)
def impl_EscNorm.T16 : Bool × List (List Nat × List Nat) := (true, [([], []), ([], []), ([1], [1]), ([2], [2]), ([], []), ([4], [4]), ([5], [5]), ([3, 6], [3, 6]), ([0, 7], [0, 7]), ([8, 8, 0, 1, 2, 3, 4, 5, 6, 7, 8], [0, 8])])
def impl_EscNorm.B16 : List Nat := [0, 0, 2, 6, 0, 16, 48, 126, 255, 511]
theorem impl_EscNorm.tab16 : rtab .any (opsOf Tryz.f84 16) = impl_EscNorm.T16 := by kernel_rfl
theorem impl_EscNorm.bits16 : waitsOk impl_EscNorm.T16.2 impl_EscNorm.B16 = true := by kernel_rfl
theorem impl_EscNorm.calls (k : Nat) (a0 : ByteArray) (r1 : ByteArray) (r2 : Bool) (w : World) (h : impl_EscNorm.f k a0 = some (r1, r2)) :
  Calls Tryz.prog 84 #[.string a0] w fun e w' => e = .returned (.tuple #[.string r1, .bool r2]) ∧ Below w.heap.size w w' := by
 have HB := A_ (Below.refl w.heap.size w);unfold impl_EscNorm.f at h
 have H := h;clear h;replace H := iteE H;rcases H with ⟨c2, H⟩ | ⟨c2, H⟩
 ·have c2b0 := gtT c2
  have c2b1 : decide (60 < a0.size) = true := dT (by omega);clear c2;simp only [Option.some.injEq, Prod.mk.injEq] at H
  obtain ⟨rfl, rfl⟩ := H;go_enter Tryz.func84, Tryz.ntmps84;go_wp2
  go_ret2
  exact ⟨zz11, (zz2 HB)⟩
 ·have c2b0 := gtF c2
  have c2b1 : decide (60 < a0.size) = false := dF (by omega);clear c2;have H' := A_ H;clear H;go_enter Tryz.func84, Tryz.ntmps84;go_wp2
  go_loopg [4, 5] k (fun kq v4 v5 w' => ∃ (x4_1 : List Int) (x5_1 : Int), v5 = .int .i64 x5_1 ∧ Aside0 (impl_EscNorm.l0 kq a0 x4_1 x5_1 = some (r1, r2)) ∧ Aside0 (kq ≤ k) ∧ Aside0 (Kd.R (Kd.int .u8) 5 w' w.heap.size (fun _ => True) v4 x4_1) ∧ Aside0 (Below w.heap.size w w'))
  case atStart => exact ⟨(([] : List Int)), (0), zz5, H', ⟨Nat.le_refl _⟩, ⟨zz41⟩, ⟨(zz2 HB)⟩⟩
  case round =>
   clear H';obtain ⟨x4_1, x5_1, rfl, HA, HK1, HO_4, HB⟩ := hrel;cases gk with
   | zero => exact absurd HA.out (by simp [impl_EscNorm.l0])
   | succ k1 =>
    obtain ⟨H⟩ := HA;simp only [impl_EscNorm.l0] at H
    replace H := iteEd H;rcases H with ⟨c3b0, H⟩ | ⟨c3b0, H⟩
    ·replace H := iteNd H
     obtain ⟨c4b0, H⟩ := H;replace H := iteEq H;rcases H with ⟨c6b0, c6b1, H⟩ | ⟨c6b0, c6b1, c6, H⟩
     ·replace H := Option.bind_eq_some_iff.mp H
      obtain ⟨⟨t570, t571⟩, A70, H⟩ := H;replace H : (if t571 = true then ((impl_standsForItself.f t570).bind fun t572 => (if t572 = true then (if x4_1.length < 140737488355328 then (impl_EscNorm.l0 k1 a0 (x4_1 ++ [t570]) (wrap64 ((wrap64 (x5_1 + 2)) + 1))) else (none)) else (if 0 ≤ (t570 / 16) then (if (t570 / 16) < 16 then (if 0 ≤ (Go.bits .and .u8 t570 15) then (if (Go.bits .and .u8 t570 15) < 16 then ((some (([37, bt (⟨#[48, 49, 50, 51, 52, 53, 54, 55, 56, 57, 65, 66, 67, 68, 69, 70]⟩ : ByteArray) (t570 / 16), bt (⟨#[48, 49, 50, 51, 52, 53, 54, 55, 56, 57, 65, 66, 67, 68, 69, 70]⟩ : ByteArray) (Go.bits .and .u8 t570 15)] : List Int) : List Int)).bind fun y576 => (if x4_1.length + y576.length < 140737488355328 then (impl_EscNorm.l0 k1 a0 (x4_1 ++ y576) (wrap64 ((wrap64 (x5_1 + 2)) + 1))) else (none))) else (none)) else (none)) else (none)) else (none)))) else (some ((⟨#[]⟩ : ByteArray), false))) = some (r1, r2) := H;have A7 := A_ A70;clear A70;replace H := iteB H;rcases H with ⟨rfl, H⟩ | ⟨rfl, H⟩
      ·replace H := Option.bind_eq_some_iff.mp H
       obtain ⟨t572, A90, H⟩ := H;replace H : (if t572 = true then (if x4_1.length < 140737488355328 then (impl_EscNorm.l0 k1 a0 (x4_1 ++ [t570]) (wrap64 ((wrap64 (x5_1 + 2)) + 1))) else (none)) else (if 0 ≤ (t570 / 16) then (if (t570 / 16) < 16 then (if 0 ≤ (Go.bits .and .u8 t570 15) then (if (Go.bits .and .u8 t570 15) < 16 then ((some (([37, bt (⟨#[48, 49, 50, 51, 52, 53, 54, 55, 56, 57, 65, 66, 67, 68, 69, 70]⟩ : ByteArray) (t570 / 16), bt (⟨#[48, 49, 50, 51, 52, 53, 54, 55, 56, 57, 65, 66, 67, 68, 69, 70]⟩ : ByteArray) (Go.bits .and .u8 t570 15)] : List Int) : List Int)).bind fun y576 => (if x4_1.length + y576.length < 140737488355328 then (impl_EscNorm.l0 k1 a0 (x4_1 ++ y576) (wrap64 ((wrap64 (x5_1 + 2)) + 1))) else (none))) else (none)) else (none)) else (none)) else (none))) = some (r1, r2) := H;have A9 := A_ A90;clear A90;replace H := iteB H;rcases H with ⟨rfl, H⟩ | ⟨rfl, H⟩
       ·replace H := iteN H
        obtain ⟨c11, H⟩ := H;have LMc11 := A_ c11;clear c11;obtain ⟨y573, Ny573⟩ := toY (x4_1 ++ [t570]);(first | with_reducible replace H := bindZ Ny573 H | rw [← Ny573.out] at H | skip)
        have H' := A_ H;clear H;have p5 : 0 ≤ (x5_1 : Int) := ofD;have q5 : x5_1 < (a0.size : Int) := ofD;have hx5 := bt_at a0 x5_1;replace p5 := eq_true p5;replace q5 := eq_true q5;go_wp2_with (first | (refine gR 110 (some 26) Tryz.func110 (impl_signByte.calls a0 x5_1 t570 true _ A7.out) ?_; rintro w12 hb; replace HO_4 := A_ (rB (zz18 HO_4) hb); replace HB := A_ (bS (zz2 HB) hb); (try clear hb)) | (refine gR 111 (some 35) Tryz.func111 (impl_standsForItself.calls t570 true _ A9.out) ?_; rintro w' ⟨nd, rfl⟩) | ((with_reducible refine gate_builtin (b := .append) (xs := #[.tmp 36, .tmp 38]) rfl ?_); at_builtin; refine Kd.R_append (Kd.int .u8) (w0 := w) w.heap.size rfl (.tmp 36) (.tmp 38) 22 5 (.int .u8 0) 1 rfl Tryz.underlying22 info5 rfl (by decide) (by omega) u4 x4_1 t570 [.int .u8 t570] (fun _ => True) (fun _ => False) rfl rfl ?aP (fun _ hk => hk.elim) ?aF ?aO ?aB ?aS ?aL ?_; (case aP => exact rfl); (case aB => exact (zz2 HB)); (case aF => exact (fun _ _ => trivial)); (case aO => exact (zz18 HO_4)); (case aS => exact (below_size (zz2 HB))); (case aL => exact (zz20 LMc11)); intro v574 w13 ho hb hg hat; rw [← Ny573.out] at ho; replace HB := A_ (hb); have HO575 := A_ (ho); clear HO_4; clear ho hb hg hat))
        go_roundg k1
        case measure => have := HK1.out; omega
        case rel => exact ⟨(y573), (wrap64 ((wrap64 (x5_1 + 2)) + 1)), zz5, H', ⟨(zz20 HK1)⟩, ⟨(zz18 HO575)⟩, ⟨(zz2 HB)⟩⟩
       ·obtain ⟨ji14, hji14⟩ : ∃ j_ : Int, (t570 / 16) = j_ := ⟨_, rfl⟩
        (first | rw [hji14] at H | simp only [hji14] at H)
        (try rw [hji14] at A7)
        (try rw [hji14] at A9)
        replace H := iteNd H;obtain ⟨c15b0, H⟩ := H;replace H := iteNd H;obtain ⟨c16b0, H⟩ := H;replace H := iteNd H;obtain ⟨c18b0, H⟩ := H;replace H := iteNd H;obtain ⟨c19b0, H⟩ := H;obtain ⟨y576, Ny576⟩ := toY (([37, bt (⟨#[48, 49, 50, 51, 52, 53, 54, 55, 56, 57, 65, 66, 67, 68, 69, 70]⟩ : ByteArray) (ji14), bt (⟨#[48, 49, 50, 51, 52, 53, 54, 55, 56, 57, 65, 66, 67, 68, 69, 70]⟩ : ByteArray) (Go.bits .and .u8 t570 15)] : List Int));(first | with_reducible replace H := bindZ Ny576 H | rw [← Ny576.out] at H | skip)
        replace H := iteN H;obtain ⟨c21, H⟩ := H;have LMc21 := A_ c21;clear c21;obtain ⟨y579, Ny579⟩ := toY (x4_1 ++ y576);(first | with_reducible replace H := bindZ Ny579 H | rw [← Ny579.out] at H | skip)
        have H' := A_ H;clear H;have p5 : 0 ≤ (x5_1 : Int) := ofD;have q5 : x5_1 < (a0.size : Int) := ofD;have hx5 := bt_at a0 x5_1;replace p5 := eq_true p5;replace q5 := eq_true q5;try go_wp2_with (first | (refine gR 110 (some 26) Tryz.func110 (impl_signByte.calls a0 x5_1 t570 true _ A7.out) ?_; rintro w22 hb; replace HO_4 := A_ (rB (zz18 HO_4) hb); replace HB := A_ (bS (zz2 HB) hb); (try clear hb)) | (refine gR 111 (some 35) Tryz.func111 (impl_standsForItself.calls t570 false _ A9.out) ?_; rintro w' ⟨nd, rfl⟩))
        (try (rw [drewN_self w22]; generalize hq_ : World.drewN w22 _ = w22; have n0_ : Aside0 (Kd.R (Kd.int .u8) 5 w22 w.heap.size (fun _ => True) u4 x4_1) := ⟨(by rw [← hq_]; exact (zz18 HO_4))⟩; have n1_ : Aside0 (Below w.heap.size w w22) := ⟨(by rw [← hq_]; exact (zz2 HB))⟩; clear HO_4 HB hq_; have HO_4 := n0_; have HB := n1_; clear n0_ n1_))
        replace HO_4 := A_ (Kd.R_drew HO_4.out);replace HB := A_ (below_drew1 HB.out);have p17 : 0 ≤ ((ji14) : Int) := ofD;have q17 : (ji14) < (16 : Int) := ofD;have hx17 := bt_at (⟨#[48, 49, 50, 51, 52, 53, 54, 55, 56, 57, 65, 66, 67, 68, 69, 70]⟩ : ByteArray) (ji14);replace p17 := eq_true p17;replace q17 := eq_true q17;have p20 : 0 ≤ ((Go.bits .and .u8 t570 15) : Int) := ofD;have q20 : (Go.bits .and .u8 t570 15) < (16 : Int) := ofD;have hx20 := bt_at (⟨#[48, 49, 50, 51, 52, 53, 54, 55, 56, 57, 65, 66, 67, 68, 69, 70]⟩ : ByteArray) (Go.bits .and .u8 t570 15);replace p20 := eq_true p20;replace q20 := eq_true q20;refine start_ (n := 10) (S := fun w' => True) (ds := []) #[false, false, false, false, false, false, false, false, false, false] (by kernel_rfl) rfl rfl trivial (fun hHeld => ?_); refine with_tabW impl_EscNorm.tab16 impl_EscNorm.bits16 (fun HT_ HW_ => ?_);generalize w22.drew = w23 at HO_4 HB hHeld ⊢;refine pureZ 0 (some 40) #[true, false, false, false, false, false, false, false, false, false] ?_;refine pureZ 1 (some 41) #[true, true, false, false, false, false, false, false, false, false] ?_;refine pureZ 2 (some 42) #[true, true, true, false, false, false, false, false, false, false] ?_;refine pureZ 4 (some 44) #[true, true, true, false, true, false, false, false, false, false] ?_;refine pureZ 5 (some 45) #[true, true, true, false, true, true, false, false, false, false] ?_;refine take_ (i := 3) (N := some 43) (v := ?_) (a' := ?_) #[true, true, true, true, true, true, false, false, false, false] rfl rfl (take_ofW HT_.out HW_.out (by kernel_rfl)) (fun _ _ _ h => h) (Or.inl ⟨by rfl, ?_⟩) hHeld ?_ ?_;rotate_left
        ·intro w' _
         go_simp
         with_reducible rfl
        rotate_left
        ·simp only [Act.put, List.setIfInBounds_toArray, List.set_cons_zero, List.set_cons_succ, i64_w, i32_w]
         rfl
        refine take_ (i := 6) (N := some 46) (v := ?_) (a' := ?_) #[true, true, true, true, true, true, true, false, false, false] rfl rfl (take_ofW HT_.out HW_.out (by kernel_rfl)) (fun _ _ _ h => h) (Or.inl ⟨by rfl, ?_⟩) hHeld ?_ ?_;rotate_left
        ·intro w' _
         go_simp
         with_reducible rfl
        rotate_left
        ·simp only [Act.put, List.setIfInBounds_toArray, List.set_cons_zero, List.set_cons_succ, i64_w, i32_w]
         rfl
        refine one_ (i := 7) (N := some 47) #[true, true, true, true, true, true, true, true, false, false] rfl rfl (one_of HT_.out (by kernel_rfl)) (by decide) (fun K hK => ?_);refine Kd.R_lit_step (Kd.int .u8) _ 5 ?hg (N := 47) ?hd (xs := ([37, bt (⟨#[48, 49, 50, 51, 52, 53, 54, 55, 56, 57, 65, 66, 67, 68, 69, 70]⟩ : ByteArray) (ji14), bt (⟨#[48, 49, 50, 51, 52, 53, 54, 55, 56, 57, 65, 66, 67, 68, 69, 70]⟩ : ByteArray) (Go.bits .and .u8 t570 15)] : List Int)) (inner := [.int .u8 37, .int .u8 (bt (⟨#[48, 49, 50, 51, 52, 53, 54, 55, 56, 57, 65, 66, 67, 68, 69, 70]⟩ : ByteArray) (ji14)), .int .u8 (bt (⟨#[48, 49, 50, 51, 52, 53, 54, 55, 56, 57, 65, 66, 67, 68, 69, 70]⟩ : ByteArray) (Go.bits .and .u8 t570 15))]) (ok := fun _ => True) (okp := fun _ => True) ?hr ?hp (fun _ hk => hk) trivial (Below.refl _ _) (Nat.le_refl _) (by simp) ?_; (case hd => rfl); (case hg => rfl); (case hr => exact zz16); (case hp => exact (Reps.one (show Kd.M (Kd.int .u8) _ _ _ 37 [.int .u8 37] from rfl) (Reps.one (show Kd.M (Kd.int .u8) _ _ _ (bt (⟨#[48, 49, 50, 51, 52, 53, 54, 55, 56, 57, 65, 66, 67, 68, 69, 70]⟩ : ByteArray) (ji14)) [.int .u8 (bt (⟨#[48, 49, 50, 51, 52, 53, 54, 55, 56, 57, 65, 66, 67, 68, 69, 70]⟩ : ByteArray) (ji14))] from rfl) (Reps.one (show Kd.M (Kd.int .u8) _ _ _ (bt (⟨#[48, 49, 50, 51, 52, 53, 54, 55, 56, 57, 65, 66, 67, 68, 69, 70]⟩ : ByteArray) (Go.bits .and .u8 t570 15)) [.int .u8 (bt (⟨#[48, 49, 50, 51, 52, 53, 54, 55, 56, 57, 65, 66, 67, 68, 69, 70]⟩ : ByteArray) (Go.bits .and .u8 t570 15))] from rfl) (Reps.none _ _)))));intro v577 w24 ho25 hb hg_ hnew_;clear hg_ hnew_;(first | rw [← Ny576.out] at ho25 | (simp only [Int.reduceToNat] at ho25; rw [← Ny576.out] at ho25))
        have HO578 := A_ (Kd.R_lower (Kd.R_new' ho25 (Kd.R_lt (zz18 HO_4))) (below_size (zz2 HB)));replace HO_4 := A_ (Kd.R_elder' (zz18 HO_4) (Kd.R_base ho25) hb);replace HB := A_ (bS (zz2 HB) hb);clear hb ho25;obtain ⟨Ao27, co27, eo27⟩ := Kd.R_slice HO578.out;(first | subst eo27 | (injection eo27 with f1_ f2_ f3_; have f4_ := f1_.symm; have f5_ := f3_.symm; clear f1_ f2_ f3_; subst f4_; subst f5_))
        refine hK.out _ _ trivial (fun hHeld => ?_);clear hK K;refine norm_ (a' := ?_) ?_ ?_;rotate_left
        ·show Act.put _ (some 47) _ = _
         simp only [Act.put, List.setIfInBounds_toArray, List.set_cons_zero, List.set_cons_succ, i64_w, i32_w]
         rfl
        refine one_ (i := 8) (N := some 48) #[true, true, true, true, true, true, true, true, true, false] rfl rfl (one_of HT_.out (by kernel_rfl)) (by decide) (fun K hK => ?_);refine Kd.R_append_rows_step (Kd.int .u8) (w0 := w) w.heap.size (by rfl) (.tmp 40) (.tmp 47) 22 5 (.int .u8 0) 1 rfl Tryz.underlying22 info5 rfl (by decide) (by omega) u4 x4_1 y576 _ _ _ (fun k_ => some k_ ≠ (.slice Ao27 y576.length co27 : Value).ownBlock) (fun _ => False) rfl rfl ?aO ?aR (fun _ _ h => h) (fun _ h => h.elim) ?aF ?aB ?aS ?aL ?_;(case aR => exact (zz43 HO578))
        (case aB => exact (zz2 HB))
        (case aF => exact (fun k_ hk => Kd.fresh' (Kd.R_lt (zz18 HO578)) k_ hk))
        (case aO => exact (zz44 HO_4))
        (case aS => exact (below_size (zz2 HB)))
        (case aL => exact (zz20 LMc21))
        intro v580 w26 ho hb hg hat;rw [← Ny579.out] at ho;replace HO578 := A_ (Kd.R_after (ok := (fun _ => True)) (zz18 HO578) hg hat);replace HB := A_ (hb);have HO581 := A_ (ho);clear HO_4;clear ho hb hg hat;refine hK.out _ _ trivial (fun hHeld => ?_);clear hK K;refine norm_ (a' := ?_) ?_ ?_;rotate_left
        ·show Act.put _ (some 48) _ = _
         simp only [Act.put, List.setIfInBounds_toArray, List.set_cons_zero, List.set_cons_succ, i64_w, i32_w]
         rfl
        refine pureZ 9 (some 4) #[true, true, true, true, true, true, true, true, true, true] ?_;refine done_ (done_of HT_.out (by kernel_rfl)) ?_;try go_wp2
        go_roundg k1
        case measure => have := HK1.out; omega
        case rel => exact ⟨(y579), (wrap64 ((wrap64 (x5_1 + 2)) + 1)), zz5, H', ⟨(zz20 HK1)⟩, ⟨(zz107 HO581)⟩, ⟨(zz2 HB)⟩⟩
      ·simp only [Option.some.injEq, Prod.mk.injEq] at H
       obtain ⟨rfl, rfl⟩ := H;have p5 : 0 ≤ (x5_1 : Int) := ofD;have q5 : x5_1 < (a0.size : Int) := ofD;have hx5 := bt_at a0 x5_1;replace p5 := eq_true p5;replace q5 := eq_true q5;go_wp2_with (first | (refine gR 110 (some 26) Tryz.func110 (impl_signByte.calls a0 x5_1 t570 false _ A7.out) ?_; rintro w28 hb; replace HO_4 := A_ (rB (zz18 HO_4) hb); replace HB := A_ (bS (zz2 HB) hb); (try clear hb)))
       go_ret2
       exact ⟨zz11, (zz2 HB)⟩
     ·replace H := Option.bind_eq_some_iff.mp H
      obtain ⟨t582, A290, H⟩ := H;replace H : (if t582 = true then (if x4_1.length < 140737488355328 then (impl_EscNorm.l0 k1 a0 (x4_1 ++ [bt a0 x5_1]) (wrap64 (x5_1 + 1))) else (none)) else (if 0 ≤ ((bt a0 x5_1) / 16) then (if ((bt a0 x5_1) / 16) < 16 then (if 0 ≤ (Go.bits .and .u8 (bt a0 x5_1) 15) then (if (Go.bits .and .u8 (bt a0 x5_1) 15) < 16 then ((some (([37, bt (⟨#[48, 49, 50, 51, 52, 53, 54, 55, 56, 57, 65, 66, 67, 68, 69, 70]⟩ : ByteArray) ((bt a0 x5_1) / 16), bt (⟨#[48, 49, 50, 51, 52, 53, 54, 55, 56, 57, 65, 66, 67, 68, 69, 70]⟩ : ByteArray) (Go.bits .and .u8 (bt a0 x5_1) 15)] : List Int) : List Int)).bind fun y586 => (if x4_1.length + y586.length < 140737488355328 then (impl_EscNorm.l0 k1 a0 (x4_1 ++ y586) (wrap64 (x5_1 + 1))) else (none))) else (none)) else (none)) else (none)) else (none))) = some (r1, r2) := H;have A29 := A_ A290;clear A290;replace H := iteB H;rcases H with ⟨rfl, H⟩ | ⟨rfl, H⟩
      ·replace H := iteN H
       obtain ⟨c31, H⟩ := H;have LMc31 := A_ c31;clear c31;obtain ⟨y583, Ny583⟩ := toY (x4_1 ++ [bt a0 x5_1]);(first | with_reducible replace H := bindZ Ny583 H | rw [← Ny583.out] at H | skip)
       have H' := A_ H;clear H;have p5 : 0 ≤ (x5_1 : Int) := ofD;have q5 : x5_1 < (a0.size : Int) := ofD;have hx5 := bt_at a0 x5_1;replace p5 := eq_true p5;replace q5 := eq_true q5;go_wp2_with (first | (refine gR 111 (some 35) Tryz.func111 (impl_standsForItself.calls (bt a0 x5_1) true _ A29.out) ?_; rintro w' ⟨nd, rfl⟩) | ((with_reducible refine gate_builtin (b := .append) (xs := #[.tmp 36, .tmp 38]) rfl ?_); at_builtin; refine Kd.R_append (Kd.int .u8) (w0 := w) w.heap.size rfl (.tmp 36) (.tmp 38) 22 5 (.int .u8 0) 1 rfl Tryz.underlying22 info5 rfl (by decide) (by omega) u4 x4_1 (bt a0 x5_1) [.int .u8 (bt a0 x5_1)] (fun _ => True) (fun _ => False) rfl rfl ?aP (fun _ hk => hk.elim) ?aF ?aO ?aB ?aS ?aL ?_; (case aP => exact rfl); (case aB => exact (zz2 HB)); (case aF => exact (fun _ _ => trivial)); (case aO => exact (zz18 HO_4)); (case aS => exact (below_size (zz2 HB))); (case aL => exact (zz20 LMc31)); intro v584 w32 ho hb hg hat; rw [← Ny583.out] at ho; replace HB := A_ (hb); have HO585 := A_ (ho); clear HO_4; clear ho hb hg hat))
       go_roundg k1
       case measure => have := HK1.out; omega
       case rel => exact ⟨(y583), (wrap64 (x5_1 + 1)), zz5, H', ⟨(zz20 HK1)⟩, ⟨(zz18 HO585)⟩, ⟨(zz2 HB)⟩⟩
      ·obtain ⟨ji33, hji33⟩ : ∃ j_ : Int, ((bt a0 x5_1) / 16) = j_ := ⟨_, rfl⟩
       (first | rw [hji33] at H | simp only [hji33] at H)
       (try rw [hji33] at A29)
       replace H := iteNd H;obtain ⟨c34b0, H⟩ := H;replace H := iteNd H;obtain ⟨c35b0, H⟩ := H;replace H := iteNd H;obtain ⟨c37b0, H⟩ := H;replace H := iteNd H;obtain ⟨c38b0, H⟩ := H;obtain ⟨y586, Ny586⟩ := toY (([37, bt (⟨#[48, 49, 50, 51, 52, 53, 54, 55, 56, 57, 65, 66, 67, 68, 69, 70]⟩ : ByteArray) (ji33), bt (⟨#[48, 49, 50, 51, 52, 53, 54, 55, 56, 57, 65, 66, 67, 68, 69, 70]⟩ : ByteArray) (Go.bits .and .u8 (bt a0 x5_1) 15)] : List Int));(first | with_reducible replace H := bindZ Ny586 H | rw [← Ny586.out] at H | skip)
       replace H := iteN H;obtain ⟨c40, H⟩ := H;have LMc40 := A_ c40;clear c40;obtain ⟨y589, Ny589⟩ := toY (x4_1 ++ y586);(first | with_reducible replace H := bindZ Ny589 H | rw [← Ny589.out] at H | skip)
       have H' := A_ H;clear H;have p5 : 0 ≤ (x5_1 : Int) := ofD;have q5 : x5_1 < (a0.size : Int) := ofD;have hx5 := bt_at a0 x5_1;replace p5 := eq_true p5;replace q5 := eq_true q5;try go_wp2_with (first | (refine gR 111 (some 35) Tryz.func111 (impl_standsForItself.calls (bt a0 x5_1) false _ A29.out) ?_; rintro w' ⟨nd, rfl⟩))
       (try (rw [drewN_self wr]; generalize hq_ : World.drewN wr _ = wr; have n0_ : Aside0 (Kd.R (Kd.int .u8) 5 wr w.heap.size (fun _ => True) u4 x4_1) := ⟨(by rw [← hq_]; exact (zz18 HO_4))⟩; have n1_ : Aside0 (Below w.heap.size w wr) := ⟨(by rw [← hq_]; exact (zz2 HB))⟩; clear HO_4 HB hq_; have HO_4 := n0_; have HB := n1_; clear n0_ n1_))
       replace HO_4 := A_ (Kd.R_drew HO_4.out);replace HB := A_ (below_drew1 HB.out);have p36 : 0 ≤ ((ji33) : Int) := ofD;have q36 : (ji33) < (16 : Int) := ofD;have hx36 := bt_at (⟨#[48, 49, 50, 51, 52, 53, 54, 55, 56, 57, 65, 66, 67, 68, 69, 70]⟩ : ByteArray) (ji33);replace p36 := eq_true p36;replace q36 := eq_true q36;have p39 : 0 ≤ ((Go.bits .and .u8 (bt a0 x5_1) 15) : Int) := ofD;have q39 : (Go.bits .and .u8 (bt a0 x5_1) 15) < (16 : Int) := ofD;have hx39 := bt_at (⟨#[48, 49, 50, 51, 52, 53, 54, 55, 56, 57, 65, 66, 67, 68, 69, 70]⟩ : ByteArray) (Go.bits .and .u8 (bt a0 x5_1) 15);replace p39 := eq_true p39;replace q39 := eq_true q39;refine start_ (n := 10) (S := fun w' => True) (ds := []) #[false, false, false, false, false, false, false, false, false, false] (by kernel_rfl) rfl rfl trivial (fun hHeld => ?_); refine with_tabW impl_EscNorm.tab16 impl_EscNorm.bits16 (fun HT_ HW_ => ?_);generalize wr.drew = w41 at HO_4 HB hHeld ⊢;refine pureZ 0 (some 40) #[true, false, false, false, false, false, false, false, false, false] ?_;refine pureZ 1 (some 41) #[true, true, false, false, false, false, false, false, false, false] ?_;refine pureZ 2 (some 42) #[true, true, true, false, false, false, false, false, false, false] ?_;refine pureZ 4 (some 44) #[true, true, true, false, true, false, false, false, false, false] ?_;refine pureZ 5 (some 45) #[true, true, true, false, true, true, false, false, false, false] ?_;refine take_ (i := 3) (N := some 43) (v := ?_) (a' := ?_) #[true, true, true, true, true, true, false, false, false, false] rfl rfl (take_ofW HT_.out HW_.out (by kernel_rfl)) (fun _ _ _ h => h) (Or.inl ⟨by rfl, ?_⟩) hHeld ?_ ?_;rotate_left
       ·intro w' _
        go_simp
        with_reducible rfl
       rotate_left
       ·simp only [Act.put, List.setIfInBounds_toArray, List.set_cons_zero, List.set_cons_succ, i64_w, i32_w]
        rfl
       refine take_ (i := 6) (N := some 46) (v := ?_) (a' := ?_) #[true, true, true, true, true, true, true, false, false, false] rfl rfl (take_ofW HT_.out HW_.out (by kernel_rfl)) (fun _ _ _ h => h) (Or.inl ⟨by rfl, ?_⟩) hHeld ?_ ?_;rotate_left
       ·intro w' _
        go_simp
        with_reducible rfl
       rotate_left
       ·simp only [Act.put, List.setIfInBounds_toArray, List.set_cons_zero, List.set_cons_succ, i64_w, i32_w]
        rfl
       refine one_ (i := 7) (N := some 47) #[true, true, true, true, true, true, true, true, false, false] rfl rfl (one_of HT_.out (by kernel_rfl)) (by decide) (fun K hK => ?_);refine Kd.R_lit_step (Kd.int .u8) _ 5 ?hg (N := 47) ?hd (xs := ([37, bt (⟨#[48, 49, 50, 51, 52, 53, 54, 55, 56, 57, 65, 66, 67, 68, 69, 70]⟩ : ByteArray) (ji33), bt (⟨#[48, 49, 50, 51, 52, 53, 54, 55, 56, 57, 65, 66, 67, 68, 69, 70]⟩ : ByteArray) (Go.bits .and .u8 (bt a0 x5_1) 15)] : List Int)) (inner := [.int .u8 37, .int .u8 (bt (⟨#[48, 49, 50, 51, 52, 53, 54, 55, 56, 57, 65, 66, 67, 68, 69, 70]⟩ : ByteArray) (ji33)), .int .u8 (bt (⟨#[48, 49, 50, 51, 52, 53, 54, 55, 56, 57, 65, 66, 67, 68, 69, 70]⟩ : ByteArray) (Go.bits .and .u8 (bt a0 x5_1) 15))]) (ok := fun _ => True) (okp := fun _ => True) ?hr ?hp (fun _ hk => hk) trivial (Below.refl _ _) (Nat.le_refl _) (by simp) ?_; (case hd => rfl); (case hg => rfl); (case hr => exact zz16); (case hp => exact (Reps.one (show Kd.M (Kd.int .u8) _ _ _ 37 [.int .u8 37] from rfl) (Reps.one (show Kd.M (Kd.int .u8) _ _ _ (bt (⟨#[48, 49, 50, 51, 52, 53, 54, 55, 56, 57, 65, 66, 67, 68, 69, 70]⟩ : ByteArray) (ji33)) [.int .u8 (bt (⟨#[48, 49, 50, 51, 52, 53, 54, 55, 56, 57, 65, 66, 67, 68, 69, 70]⟩ : ByteArray) (ji33))] from rfl) (Reps.one (show Kd.M (Kd.int .u8) _ _ _ (bt (⟨#[48, 49, 50, 51, 52, 53, 54, 55, 56, 57, 65, 66, 67, 68, 69, 70]⟩ : ByteArray) (Go.bits .and .u8 (bt a0 x5_1) 15)) [.int .u8 (bt (⟨#[48, 49, 50, 51, 52, 53, 54, 55, 56, 57, 65, 66, 67, 68, 69, 70]⟩ : ByteArray) (Go.bits .and .u8 (bt a0 x5_1) 15))] from rfl) (Reps.none _ _)))));intro v587 w42 ho43 hb hg_ hnew_;clear hg_ hnew_;(first | rw [← Ny586.out] at ho43 | (simp only [Int.reduceToNat] at ho43; rw [← Ny586.out] at ho43))
       have HO588 := A_ (Kd.R_lower (Kd.R_new' ho43 (Kd.R_lt (zz18 HO_4))) (below_size (zz2 HB)));replace HO_4 := A_ (Kd.R_elder' (zz18 HO_4) (Kd.R_base ho43) hb);replace HB := A_ (bS (zz2 HB) hb);clear hb ho43;obtain ⟨Ao45, co45, eo45⟩ := Kd.R_slice HO588.out;(first | subst eo45 | (injection eo45 with f1_ f2_ f3_; have f4_ := f1_.symm; have f5_ := f3_.symm; clear f1_ f2_ f3_; subst f4_; subst f5_))
       refine hK.out _ _ trivial (fun hHeld => ?_);clear hK K;refine norm_ (a' := ?_) ?_ ?_;rotate_left
       ·show Act.put _ (some 47) _ = _
        simp only [Act.put, List.setIfInBounds_toArray, List.set_cons_zero, List.set_cons_succ, i64_w, i32_w]
        rfl
       refine one_ (i := 8) (N := some 48) #[true, true, true, true, true, true, true, true, true, false] rfl rfl (one_of HT_.out (by kernel_rfl)) (by decide) (fun K hK => ?_);refine Kd.R_append_rows_step (Kd.int .u8) (w0 := w) w.heap.size (by rfl) (.tmp 40) (.tmp 47) 22 5 (.int .u8 0) 1 rfl Tryz.underlying22 info5 rfl (by decide) (by omega) u4 x4_1 y586 _ _ _ (fun k_ => some k_ ≠ (.slice Ao45 y586.length co45 : Value).ownBlock) (fun _ => False) rfl rfl ?aO ?aR (fun _ _ h => h) (fun _ h => h.elim) ?aF ?aB ?aS ?aL ?_;(case aR => exact (zz43 HO588))
       (case aB => exact (zz2 HB))
       (case aF => exact (fun k_ hk => Kd.fresh' (Kd.R_lt (zz18 HO588)) k_ hk))
       (case aO => exact (zz44 HO_4))
       (case aS => exact (below_size (zz2 HB)))
       (case aL => exact (zz20 LMc40))
       intro v590 w44 ho hb hg hat;rw [← Ny589.out] at ho;replace HO588 := A_ (Kd.R_after (ok := (fun _ => True)) (zz18 HO588) hg hat);replace HB := A_ (hb);have HO591 := A_ (ho);clear HO_4;clear ho hb hg hat;refine hK.out _ _ trivial (fun hHeld => ?_);clear hK K;refine norm_ (a' := ?_) ?_ ?_;rotate_left
       ·show Act.put _ (some 48) _ = _
        simp only [Act.put, List.setIfInBounds_toArray, List.set_cons_zero, List.set_cons_succ, i64_w, i32_w]
        rfl
       refine pureZ 9 (some 4) #[true, true, true, true, true, true, true, true, true, true] ?_;refine done_ (done_of HT_.out (by kernel_rfl)) ?_;try go_wp2
       go_roundg k1
       case measure => have := HK1.out; omega
       case rel => exact ⟨(y589), (wrap64 (x5_1 + 1)), zz5, H', ⟨(zz20 HK1)⟩, ⟨(zz107 HO591)⟩, ⟨(zz2 HB)⟩⟩
    ·simp only [Option.some.injEq, Prod.mk.injEq] at H
     obtain ⟨rfl, rfl⟩ := H;have hcv46 := own_string (P := Tryz.prog) Tryz.underlying22 Tryz.underlying5 Tryz.underlying9 (Kd.own_of_R HO_4.out);go_wp2
     go_ret2
     exact ⟨zz11, (zz2 HB)⟩
def impl_allSmallLetters.l0 : Nat → ByteArray → Int → Option (Bool)
 | 0, _, _ => none
 | k + 1, x0, x3 => if x3 < (x0.size : Int) then (if 0 ≤ x3 then (if (bt x0 x3) < 97 then (some false) else (if (bt x0 x3) > 122 then (some false) else (impl_allSmallLetters.l0 k x0 (wrap64 (x3 + 1))))) else (none)) else (some true)
def impl_allSmallLetters.f (k : Nat) (a0 : ByteArray) : Option (Bool) := impl_allSmallLetters.l0 k a0 0
theorem impl_allSmallLetters.mono_l : ∀ k, (∀ y0 y1, LeO (impl_allSmallLetters.l0 k y0 y1) (impl_allSmallLetters.l0 (k + 1) y0 y1))
 | 0 => by intros; intro r h; simp [impl_allSmallLetters.l0] at h
 | k + 1 => by
  have ih0 := impl_allSmallLetters.mono_l k; intros; unfold impl_allSmallLetters.l0;repeat' first | (with_reducible first | exact ih0 _ _ | exact LeO.refl _ | exact LeO.none _ | refine LeO.ite ?_ ?_ | refine LeO.bind ?_ (fun _ => ?_)) | exact LeO.none _ | refine LeO.ite ?_ ?_ | refine LeO.bind ?_ (fun _ => ?_)
theorem impl_allSmallLetters.mono : ∀ a0 k, LeO (impl_allSmallLetters.f k a0) (impl_allSmallLetters.f (k + 1) a0) := by
 intro a0 k;have ih0 := impl_allSmallLetters.mono_l k;unfold impl_allSmallLetters.f
 repeat' first | (with_reducible first | exact ih0 _ _ | exact LeO.refl _ | exact LeO.none _ | refine LeO.ite ?_ ?_ | refine LeO.bind ?_ (fun _ => ?_)) | exact LeO.none _ | refine LeO.ite ?_ ?_ | refine LeO.bind ?_ (fun _ => ?_)
theorem impl_allSmallLetters.calls (k : Nat) (a0 : ByteArray) (r : Bool) (w : World) (h : impl_allSmallLetters.f k a0 = some r) :
  Calls Tryz.prog 87 #[.string a0] w fun e w' => e = .returned (.bool r) ∧ Drawn0 w w' := by
 unfold impl_allSmallLetters.f at h
 have H := h;clear h;have H' := A_ H;clear H;go_enter Tryz.func87, Tryz.ntmps87;go_wp2
 go_loopg [3] k (fun kq v3 w' => ∃ (x3_1 : Int), v3 = .int .i64 x3_1 ∧ Aside0 (impl_allSmallLetters.l0 kq a0 x3_1 = some r) ∧ Aside0 (kq ≤ k) ∧ Drawn0 w w')
 case atStart => exact ⟨(0), zz5, H', ⟨Nat.le_refl _⟩, zz22⟩
 case round =>
  clear H';obtain ⟨x3_1, rfl, HA, HK1, ⟨m1, rfl⟩⟩ := hrel;cases gk with
  | zero => exact absurd HA.out (by simp [impl_allSmallLetters.l0])
  | succ k1 =>
   obtain ⟨H⟩ := HA;simp only [impl_allSmallLetters.l0] at H
   replace H := iteEd H;rcases H with ⟨c2b0, H⟩ | ⟨c2b0, H⟩
   ·replace H := iteNd H
    obtain ⟨c3b0, H⟩ := H;replace H := iteEd H;rcases H with ⟨c5b0, H⟩ | ⟨c5b0, H⟩
    ·obtain rfl := sI H
     have p4 : 0 ≤ (x3_1 : Int) := ofD;have q4 : x3_1 < (a0.size : Int) := ofD;have hx4 := bt_at a0 x3_1;replace p4 := eq_true p4;replace q4 := eq_true q4;go_wp2
     go_ret
     exact ⟨zz5, zz22⟩
    ·replace H := iteEg H
     rcases H with ⟨c7b0, H⟩ | ⟨c7b0, H⟩
     ·obtain rfl := sI H
      have p4 : 0 ≤ (x3_1 : Int) := ofD;have q4 : x3_1 < (a0.size : Int) := ofD;have hx4 := bt_at a0 x3_1;replace p4 := eq_true p4;replace q4 := eq_true q4;have p6 : 0 ≤ (x3_1 : Int) := ofD;have q6 : x3_1 < (a0.size : Int) := ofD;have hx6 := bt_at a0 x3_1;replace p6 := eq_true p6;replace q6 := eq_true q6;go_wp2
      go_ret
      exact ⟨zz5, zz22⟩
     ·have H' := A_ H
      clear H;have p4 : 0 ≤ (x3_1 : Int) := ofD;have q4 : x3_1 < (a0.size : Int) := ofD;have hx4 := bt_at a0 x3_1;replace p4 := eq_true p4;replace q4 := eq_true q4;have p6 : 0 ≤ (x3_1 : Int) := ofD;have q6 : x3_1 < (a0.size : Int) := ofD;have hx6 := bt_at a0 x3_1;replace p6 := eq_true p6;replace q6 := eq_true q6;go_wp2
      go_roundg k1
      case measure => have := HK1.out; omega
      case rel => exact ⟨(wrap64 (x3_1 + 1)), zz5, H', ⟨(zz20 HK1)⟩, zz22⟩
   ·obtain rfl := sI H
    go_wp2
    go_ret
    exact ⟨zz5, zz22⟩
def impl_isHouse.f (k : Nat) (a0 : ByteArray) : Option (Bool) := if (a0.size : Int) ≥ 1 then (if (a0.size : Int) ≤ 5 then ((impl_allSmallLetters.f k a0).bind fun t565 => (some t565)) else (some false)) else (some false)
theorem impl_isHouse.mono : ∀ a0 k, LeO (impl_isHouse.f k a0) (impl_isHouse.f (k + 1) a0) := by
 intro a0 k;unfold impl_isHouse.f
 repeat' first | (with_reducible first | exact impl_allSmallLetters.mono _ _ | exact LeO.refl _ | exact LeO.none _ | refine LeO.ite ?_ ?_ | refine LeO.bind ?_ (fun _ => ?_)) | exact LeO.none _ | refine LeO.ite ?_ ?_ | refine LeO.bind ?_ (fun _ => ?_)
theorem impl_isHouse.calls (k : Nat) (a0 : ByteArray) (r : Bool) (w : World) (h : impl_isHouse.f k a0 = some r) :
  Calls Tryz.prog 57 #[.string a0] w fun e w' => e = .returned (.bool r) ∧ Drawn0 w w' := by
 unfold impl_isHouse.f at h
 have H := h;clear h;replace H := iteE H;rcases H with ⟨c2, H⟩ | ⟨c2, H⟩
 ·have c2b0 := geT c2
  have c2b1 : decide (1 ≤ a0.size) = true := dT (by omega);clear c2;replace H := iteE H;rcases H with ⟨c3, H⟩ | ⟨c3, H⟩
  ·have c3b0 := dT c3
   have c3b1 : decide (a0.size ≤ 5) = true := dT (by omega);clear c3;replace H := bindA H;obtain ⟨t565, A4, H⟩ := H;obtain rfl := sI H;go_enter Tryz.func57, Tryz.ntmps57;go_wp2_with (first | (go_at_call 87; (with_reducible refine (impl_allSmallLetters.calls k a0 t565 _ A4.out).mono ?_); rintro e w' ⟨rfl, ⟨nd, rfl⟩⟩))
   go_ret
   exact ⟨zz5, zz22⟩
  ·have c3b0 := dF c3
   have c3b1 : decide (a0.size ≤ 5) = false := dF (by omega);clear c3;obtain rfl := sI H;go_enter Tryz.func57, Tryz.ntmps57;go_wp2
   go_ret
   exact ⟨zz5, zz22⟩
 ·have c2b0 := geF c2
  have c2b1 : decide (1 ≤ a0.size) = false := dF (by omega);clear c2;obtain rfl := sI H;go_enter Tryz.func57, Tryz.ntmps57;go_wp2
  go_ret
  exact ⟨zz5, zz22⟩
def impl_isNormal.f (k : Nat) (a0 : ByteArray) : Option (Bool) := (impl_EscNorm.f k a0).bind fun bt592 => (if bt592.2 = true then (some (bt592.1.toList == a0.toList)) else (some false))
theorem impl_isNormal.mono : ∀ a0 k, LeO (impl_isNormal.f k a0) (impl_isNormal.f (k + 1) a0) := by
 intro a0 k;unfold impl_isNormal.f
 repeat' first | (with_reducible first | exact impl_EscNorm.mono _ _ | exact LeO.refl _ | exact LeO.none _ | refine LeO.ite ?_ ?_ | refine LeO.bind ?_ (fun _ => ?_)) | exact LeO.none _ | refine LeO.ite ?_ ?_ | refine LeO.bind ?_ (fun _ => ?_)
theorem impl_isNormal.calls (k : Nat) (a0 : ByteArray) (r : Bool) (w : World) (h : impl_isNormal.f k a0 = some r) :
  Calls Tryz.prog 58 #[.string a0] w fun e w' => e = .returned (.bool r) ∧ Below w.heap.size w w' := by
 have HB := A_ (Below.refl w.heap.size w);unfold impl_isNormal.f at h
 have H := h;clear h;replace H := bindA H;obtain ⟨⟨t592, t593⟩, A2, H⟩ := H;try dsimp only at H
 have HF3 := A_ H;clear H;go_enter Tryz.func58, Tryz.ntmps58;go_wp2_with (first | (refine gR 84 (some 7) Tryz.func84 (impl_EscNorm.calls k a0 t592 t593 _ A2.out) ?_; rintro w4 hb; replace HB := A_ (bS (zz2 HB) hb); (try clear hb)) | ((with_reducible refine atG ?_ ?_ fun K_ hK_ => ?_); rfl; exact undecG) | ((with_reducible refine atI ?_ fun K_ hK_ => ?_); exact undecI))
 refine unG hK_ ?_; clear hK_ K_;obtain ⟨H⟩ := HF3;replace H := iteB H;rcases H with ⟨rfl, H⟩ | ⟨rfl, H⟩
 ·(first | refine iteT ?_ | refine iteF ?_ | skip)
  obtain rfl := sI H;(try ((with_reducible refine upS ?_); go_simp))
  go_wp2
  go_ret
  exact ⟨zz11, (zz2 HB)⟩
 ·(first | refine iteT ?_ | refine iteF ?_ | skip)
  obtain rfl := sI H;(try ((with_reducible refine upS ?_); go_simp))
  go_wp2
  go_ret
  exact ⟨zz11, (zz2 HB)⟩
mutual
def impl_AddrOk.j0 : Nat → Bool → ByteArray → List ByteArray → Bool → ByteArray → Option (Bool)
 | 0, _, _, _, _, _ => none
 | k + 1, x14, x595000, x595001, x595002, x595003 => if x14 = true then (some false) else (impl_AddrOk.l0 k x595001 (x595001.length : Int) 0 x595000 x595001 x595002 x595003)
def impl_AddrOk.l0 : Nat → List ByteArray → Int → Int → ByteArray → List ByteArray → Bool → ByteArray → Option (Bool)
 | 0, _, _, _, _, _, _, _ => none
 | k + 1, x16, x17, x18, x595000, x595001, x595002, x595003 => if x18 < x17 then (if 0 ≤ x18 then (if x18 < (x16.length : Int) then (if (rdOf ByteArray.empty x16 x18).toList = ([] : List UInt8) then (some false) else (if (rdOf ByteArray.empty x16 x18).toList = ([46] : List UInt8) then (some false) else (if (rdOf ByteArray.empty x16 x18).toList = ([46, 46] : List UInt8) then (some false) else ((impl_isNormal.f k (rdOf ByteArray.empty x16 x18)).bind fun t597 => (if t597 = true then (impl_AddrOk.l0 k x16 x17 (wrap64 (x18 + 1)) x595000 x595001 x595002 x595003) else (some false)))))) else (none)) else (none)) else ((impl_isNormal.f k x595003).bind fun t598 => (if t598 = true then (if x595002 = true then ((impl_writeAddr.f x595000 x595001 x595002 x595003).bind fun t599 => (some (decide ((t599.size : Int) ≤ 60)))) else (if x595003.toList = ([] : List UInt8) then ((impl_writeAddr.f x595000 x595001 x595002 x595003).bind fun t600 => (some (decide ((t600.size : Int) ≤ 60)))) else (some false))) else (some false)))
end
def impl_AddrOk.f (k : Nat) (a0_0 : ByteArray) (l0_1 : List ByteArray) (a0_2 : Bool) (a0_3 : ByteArray) : Option (Bool) := (impl_isHouse.f k a0_0).bind fun t595 => (if t595 = true then (impl_AddrOk.j0 k (decide ((l0_1.length : Int) > 5)) a0_0 l0_1 a0_2 a0_3) else (impl_AddrOk.j0 k true a0_0 l0_1 a0_2 a0_3))
theorem impl_AddrOk.mono_l : ∀ k, (∀ y0 y1 y2 y3 y4, LeO (impl_AddrOk.j0 k y0 y1 y2 y3 y4) (impl_AddrOk.j0 (k + 1) y0 y1 y2 y3 y4)) ∧ (∀ y0 y1 y2 y3 y4 y5 y6, LeO (impl_AddrOk.l0 k y0 y1 y2 y3 y4 y5 y6) (impl_AddrOk.l0 (k + 1) y0 y1 y2 y3 y4 y5 y6))
 | 0 => by refine ⟨?_, ?_⟩ <;> (intros; intro r h; simp [impl_AddrOk.j0, impl_AddrOk.l0] at h)
 | k + 1 => by
  obtain ⟨ih0, ih1⟩ := impl_AddrOk.mono_l k;refine ⟨?_, ?_⟩ <;> intros <;> (first | unfold impl_AddrOk.j0 | unfold impl_AddrOk.l0) <;>
  repeat' first | (with_reducible first | exact ih0 _ _ _ _ _ | exact ih1 _ _ _ _ _ _ _ | exact impl_isHouse.mono _ _ | exact impl_isNormal.mono _ _ | exact LeO.refl _ | exact LeO.none _ | refine LeO.ite ?_ ?_ | refine LeO.bind ?_ (fun _ => ?_)) | exact LeO.none _ | refine LeO.ite ?_ ?_ | refine LeO.bind ?_ (fun _ => ?_)
theorem impl_AddrOk.mono : ∀ a0 a1 a2 a3 k, LeO (impl_AddrOk.f k a0 a1 a2 a3) (impl_AddrOk.f (k + 1) a0 a1 a2 a3) := by
 intro a0 a1 a2 a3 k;obtain ⟨ih0, ih1⟩ := impl_AddrOk.mono_l k;unfold impl_AddrOk.f
 repeat' first | (with_reducible first | exact ih0 _ _ _ _ _ | exact ih1 _ _ _ _ _ _ _ | exact impl_isHouse.mono _ _ | exact impl_isNormal.mono _ _ | exact LeO.refl _ | exact LeO.none _ | refine LeO.ite ?_ ?_ | refine LeO.bind ?_ (fun _ => ?_)) | exact LeO.none _ | refine LeO.ite ?_ ?_ | refine LeO.bind ?_ (fun _ => ?_)
theorem impl_AddrOk.calls (k : Nat) (a0_0 : ByteArray) (A0_1 : Option Addr) (c0_1 : Nat) (l0_1 : List ByteArray) (a0_2 : Bool) (a0_3 : ByteArray) (r : Bool) (w : World) (hr0_1 : Kd.C Kd.string w A0_1 l0_1.length l0_1) (hc0_1 : l0_1.length ≤ c0_1) (h : impl_AddrOk.f k a0_0 l0_1 a0_2 a0_3 = some r) :
  Calls Tryz.prog 33 #[.agg #[.string a0_0, .slice A0_1 l0_1.length c0_1, .bool a0_2, .string a0_3]] w fun e w' => e = .returned (.bool r) ∧ Below w.heap.size w w' := by
 have hu39 := Tryz.underlying39;have HR0_1 := A_ hr0_1;have HC0_1 := A_ hc0_1;clear hr0_1 hc0_1;have HB := A_ (Below.refl w.heap.size w);unfold impl_AddrOk.f at h
 have H := h;clear h;have HC2 := A_ H;clear H;go_enter Tryz.func33, Tryz.ntmps33;go_upto_region 1 with (first | ((with_reducible refine gD (N := 1) rfl ?_); (try (refine gate_guard (by rfl) ?_; dsimp only)); refine boxE 1 #[.string a0_0, .slice A0_1 l0_1.length c0_1, .bool a0_2, .string a0_3] 39 ?_; intro gb594 hg w3 hbox hb; have BK594 := A_ (hbox); have GE594 := geB hg (zz2 HB); replace HB := A_ (bS (zz2 HB) hb); clear hb hbox hg))
 (try simp only [Act.put, List.setIfInBounds_toArray, List.set_cons_zero, List.set_cons_succ])
 go_cut [14] (fun v14 wc => ∃ (kq : Nat) (x14_1 : Bool), v14 = .bool x14_1 ∧ Aside0 (impl_AddrOk.j0 kq x14_1 a0_0 l0_1 a0_2 a0_3 = some r) ∧ Aside0 (kq ≤ k) ∧ Aside0 (wc.heap[gb594]? = some (.cells #[.string a0_0, (.slice A0_1 l0_1.length c0_1), .bool a0_2, .string a0_3] 39 (0, 0))) ∧ Aside0 (Below w.heap.size w wc))
 case first =>
  obtain ⟨H⟩ := HC2;replace H := bindA H;obtain ⟨t595, A4, H⟩ := H;have HF5 := A_ H;clear H;obtain ⟨_, _, _, _, _, _, _, _⟩ := cf4 BK594;go_wp2_with (first | (refine gR 57 (some 7) Tryz.func57 (impl_isHouse.calls k a0_0 t595 _ A4.out) ?_; rintro w' ⟨nd, rfl⟩) | ((with_reducible refine atG ?_ ?_ fun K_ hK_ => ?_); rfl; exact undecG) | ((with_reducible refine atI ?_ fun K_ hK_ => ?_); exact undecI))
  refine unG hK_ ?_; clear hK_ K_;obtain ⟨H⟩ := HF5;replace H := iteB H;rcases H with ⟨rfl, H⟩ | ⟨rfl, H⟩
  ·(first | refine iteT ?_ | refine iteF ?_ | skip)
   have H' := A_ H;clear H;obtain ⟨_, _, _, _, _, _, _, _⟩ := cf4 BK594;(try ((with_reducible refine upS ?_); go_simp))
   go_wp2
   go_meet
   case rel => exact ⟨_, (decide ((l0_1.length : Int) > 5)), zz5, H', ⟨zz6⟩, ⟨(zz3 BK594)⟩, ⟨(zz4 HB GE594)⟩⟩
  ·(first | refine iteT ?_ | refine iteF ?_ | skip)
   have H' := A_ H;clear H;(try ((with_reducible refine upS ?_); go_simp))
   go_wp2
   go_meet
   case rel => exact ⟨_, (true), zz5, H', ⟨zz6⟩, ⟨(zz3 BK594)⟩, ⟨(zz4 HB GE594)⟩⟩
 case rest =>
  clear HC2;obtain ⟨kq, x14_1, rfl, HA, HJ1, BK594, HB⟩ := hcut;cases kq with
  | zero => exact absurd HA.out (by simp [impl_AddrOk.j0])
  | succ kj1 =>
   obtain ⟨H⟩ := HA;simp only [impl_AddrOk.j0] at H
   replace H := iteB H;rcases H with ⟨rfl, H⟩ | ⟨rfl, H⟩
   ·obtain rfl := sI H
    go_wp2
    go_ret
    exact ⟨zz11, (zz4 HB GE594)⟩
   ·have H' := A_ H
    clear H;obtain ⟨_, _, _, _, _, _, _, _⟩ := cf4 BK594;go_wp2
    go_loopg [18] kj1 (fun kq v18 w' => ∃ (x18_2 : Int), v18 = .int .i64 x18_2 ∧ Aside0 (impl_AddrOk.l0 kq l0_1 (l0_1.length : Int) x18_2 a0_0 l0_1 a0_2 a0_3 = some r) ∧ Aside0 (kq ≤ kj1) ∧ Aside0 (w'.heap[gb594]? = some (.cells #[.string a0_0, (.slice A0_1 l0_1.length c0_1), .bool a0_2, .string a0_3] 39 (0, 0))) ∧ Aside0 (Below w.heap.size w w'))
    case atStart => exact ⟨(0), zz5, H', ⟨Nat.le_refl _⟩, ⟨(zz3 BK594)⟩, ⟨(zz4 HB GE594)⟩⟩
    case round =>
     clear H';obtain ⟨x18_2, rfl, HA, HK2, BK594, HB⟩ := hrel;cases gk with
     | zero => exact absurd HA.out (by simp [impl_AddrOk.l0])
     | succ k2 =>
      obtain ⟨H⟩ := HA;simp only [impl_AddrOk.l0] at H
      replace H := iteEd H;rcases H with ⟨c11b0, H⟩ | ⟨c11b0, H⟩
      ·replace H := iteNd H
       obtain ⟨c12b0, H⟩ := H;replace H := iteNd H;obtain ⟨c13b0, H⟩ := H;replace H := iteEq H;rcases H with ⟨c14b0, c14b1, H⟩ | ⟨c14b0, c14b1, c14, H⟩
       ·obtain rfl := sI H
        obtain ⟨⟨ad596, e596, hx596_0⟩, p596, q596⟩ := atB (Kd.at_string HR0_1.out x18_2);cases e596
        replace hx596_0 := cbl HB hx596_0;go_wp2
        go_ret
        exact ⟨zz11, (zz4 HB GE594)⟩
       ·replace H := iteEq H
        rcases H with ⟨c15b0, c15b1, H⟩ | ⟨c15b0, c15b1, c15, H⟩
        ·obtain rfl := sI H
         obtain ⟨⟨ad596, e596, hx596_0⟩, p596, q596⟩ := atB (Kd.at_string HR0_1.out x18_2);cases e596
         replace hx596_0 := cbl HB hx596_0;go_wp2
         go_ret
         exact ⟨zz11, (zz4 HB GE594)⟩
        ·replace H := iteEq H
         rcases H with ⟨c16b0, c16b1, H⟩ | ⟨c16b0, c16b1, c16, H⟩
         ·obtain rfl := sI H
          obtain ⟨⟨ad596, e596, hx596_0⟩, p596, q596⟩ := atB (Kd.at_string HR0_1.out x18_2);cases e596
          replace hx596_0 := cbl HB hx596_0;go_wp2
          go_ret
          exact ⟨zz11, (zz4 HB GE594)⟩
         ·replace H := Option.bind_eq_some_iff.mp H
          obtain ⟨t597, A170, H⟩ := H;replace H : (if t597 = true then (impl_AddrOk.l0 k2 l0_1 (l0_1.length : Int) (wrap64 (x18_2 + 1)) a0_0 l0_1 a0_2 a0_3) else (some false)) = some r := H;have A17 := A_ A170;clear A170;have HF18 := A_ H;clear H;obtain ⟨⟨ad596, e596, hx596_0⟩, p596, q596⟩ := atB (Kd.at_string HR0_1.out x18_2);cases e596
          replace hx596_0 := cbl HB hx596_0;go_upto_if 36 with (first | (go_at_call 58; (with_reducible refine (impl_isNormal.calls k2 (rdOf ByteArray.empty l0_1 x18_2) t597 _ A17.out).mono ?_); rintro e w19 ⟨rfl, hb⟩; replace BK594 := A_ (bB (zz3 BK594) hb); replace HB := A_ (bS (zz4 HB GE594) hb); (try clear hb)))
          obtain ⟨H⟩ := HF18;replace H := iteB H;rcases H with ⟨rfl, H⟩ | ⟨rfl, H⟩
          ·have H' := A_ H
           clear H;go_wp2
           go_roundg k2
           case measure => have := HJ1.out; have := HK2.out; omega
           case rel => exact ⟨(wrap64 (x18_2 + 1)), zz5, H', ⟨(zz33 HJ1 HK2)⟩, ⟨(zz3 BK594)⟩, ⟨(zz4 HB GE594)⟩⟩
          ·obtain rfl := sI H
           go_wp2
           go_ret
           exact ⟨zz11, (zz4 HB GE594)⟩
      ·replace H := Option.bind_eq_some_iff.mp H
       obtain ⟨t598, A210, H⟩ := H;replace H : (if t598 = true then (if a0_2 = true then ((impl_writeAddr.f a0_0 l0_1 a0_2 a0_3).bind fun t599 => (some (decide ((t599.size : Int) ≤ 60)))) else (if a0_3.toList = ([] : List UInt8) then ((impl_writeAddr.f a0_0 l0_1 a0_2 a0_3).bind fun t600 => (some (decide ((t600.size : Int) ≤ 60)))) else (some false))) else (some false)) = some r := H;have A21 := A_ A210;clear A210;have HF22 := A_ H;clear H;obtain ⟨_, _, _, _, _, _, _, _⟩ := cf4 BK594;go_wp2_with (first | (refine gR 58 (some 40) Tryz.func58 (impl_isNormal.calls k2 a0_3 t598 _ A21.out) ?_; rintro w24 hb; replace BK594 := A_ (bB (zz3 BK594) hb); replace HB := A_ (bS (zz4 HB GE594) hb); (try clear hb)) | ((with_reducible refine atG ?_ ?_ fun K_ hK_ => ?_); rfl; exact undecG) | ((with_reducible refine atI ?_ fun K_ hK_ => ?_); exact undecI))
       refine unG hK_ ?_; clear hK_ K_;obtain ⟨H⟩ := HF22;replace H := iteB H;rcases H with ⟨rfl, H⟩ | ⟨rfl, H⟩
       ·(first | refine iteT ?_ | refine iteF ?_ | skip)
        replace H := iteB H;rcases H with ⟨rfl, H⟩ | ⟨rfl, H⟩
        ·replace H := Option.bind_eq_some_iff.mp H
         obtain ⟨t599, A270, H⟩ := H;replace H : (some (decide ((t599.size : Int) ≤ 60))) = some r := H;have A27 := A_ A270;clear A270;obtain rfl := sI H;obtain ⟨_, _, _, _, _, _, _, _⟩ := cf4 BK594;go_wp2_with (first | (refine gR 38 (some 53) Tryz.func38 (impl_writeAddr.calls a0_0 _ _ l0_1 true a0_3 t599 _ ?side1 ?side2 A27.out) ?_; (case side1 => exact (zz21 HR0_1 HB)); (case side2 => exact HC0_1.out); rintro w29 hb; replace BK594 := A_ (bB (zz3 BK594) hb); replace HB := A_ (bS (zz4 HB GE594) hb); (try clear hb)))
         go_ret
         exact ⟨zz11, (zz4 HB GE594)⟩
        ·replace H := iteE H
         rcases H with ⟨c30, H⟩ | ⟨c30, H⟩
         ·obtain ⟨c30b0, c30b1⟩ := eqT c30
          clear c30;replace H := bindA H;obtain ⟨t600, A31, H⟩ := H;obtain rfl := sI H;obtain ⟨_, _, _, _, _, _, _, _⟩ := cf4 BK594;go_wp2_with (first | (refine gR 38 (some 53) Tryz.func38 (impl_writeAddr.calls a0_0 _ _ l0_1 false a0_3 t600 _ ?side1 ?side2 A31.out) ?_; (case side1 => exact (zz21 HR0_1 HB)); (case side2 => exact HC0_1.out); rintro w33 hb; replace BK594 := A_ (bB (zz3 BK594) hb); replace HB := A_ (bS (zz4 HB GE594) hb); (try clear hb)))
          go_ret
          exact ⟨zz11, (zz4 HB GE594)⟩
         ·obtain ⟨c30b0, c30b1⟩ := eqF c30
          obtain rfl := sI H;obtain ⟨_, _, _, _, _, _, _, _⟩ := cf4 BK594;go_wp2
          go_ret
          exact ⟨zz11, (zz4 HB GE594)⟩
       ·(first | refine iteT ?_ | refine iteF ?_ | skip)
        obtain rfl := sI H;(try ((with_reducible refine upS ?_); go_simp))
        go_wp2
        go_ret
        exact ⟨zz11, (zz4 HB GE594)⟩
def strings_Index.f (a0 : ByteArray) (a1 : ByteArray) : Option (Int) := (stringslite_Index.f a0 a1).bind fun t601 => (some t601)
theorem strings_Index.calls (a0 : ByteArray) (a1 : ByteArray) (r : Int) (w : World) (h : strings_Index.f a0 a1 = some r) :
  Calls Tryz.prog 127 #[.string a0, .string a1] w fun e w' => e = .returned (.int .i64 r) ∧ Below w.heap.size w w' := by
 have HB := A_ (Below.refl w.heap.size w);unfold strings_Index.f at h
 have H := h;clear h;replace H := bindA H;obtain ⟨t601, A3, H⟩ := H;obtain rfl := sI H;go_enter Tryz.func127, Tryz.ntmps127;go_wp2_with (first | (refine gR 78 (some 7) Tryz.func78 (stringslite_Index.calls a0 a1 t601 _ A3.out) ?_; rintro w4 hb; replace HB := A_ (bS (zz2 HB) hb); (try clear hb)))
 go_ret
 exact ⟨zz11, (zz2 HB)⟩
end Go.Proofs.YtpomhjkbgbociaaGreatDoor.P
end
section
namespace Go.Proofs.YtpomhjkbgbociaaGreatDoor.P
open Go.RowKit Go.Proofs.YtpomhjkbgbociaaGreatDoorW.PrintWords Go.Proofs.YtpomhjkbgbociaaGreatDoorW.PrintLast Go.Proofs.YtpomhjkbgbociaaGreatDoorW.PrintMore
set_option linter.unusedVariables false
def strings_explode.f (a0 : ByteArray) (a1 : Int) : Option (List ByteArray) := none
theorem strings_explode.calls (a0 : ByteArray) (a1 : Int) (r : List ByteArray) (w : World) (h : strings_explode.f a0 a1 = some r) :
  Calls Tryz.prog 125 #[.string a0, .int .i64 a1] w fun e w' => ∃ v0_ : Value, e = .returned (v0_) ∧ Kd.R Kd.string 9 w' w.heap.size (fun _ => True) v0_ r ∧ Below w.heap.size w w' := by
 cases h
end Go.Proofs.YtpomhjkbgbociaaGreatDoor.P
end
