/- Part 3 of the proof of FnExactWorldOk: the plain functions of what it reaches, that Go comes to just their answers, what they answer, and the words that the walks use; conditions: each theorem's own. -/
import Derived.Test.YtpnedbnpnekahaaDoorZFnExactWorldOkb
import Derived.Shelf.Strings.Builder1
import Derived.Shelf.Strings.Builder2
import Derived.Shelf.Strings.OnBuilder
import Derived.Shelf.Small.Utf8
import Derived.Shelf.Small.Strs
import Derived.Shelf.Small.Wraps
import Derived.Shelf.Strings.BuilderF
import Derived.Shelf.Strings.BuilderK
import Derived.Shelf.Utf8.RuneCount
import Derived.Shelf.Strings.Builder2Cap
import Derived.Shelf.Strings.Search1
import Derived.Shelf.Strings.Search2
import Derived.Shelf.Strings.Search3
import Derived.Shelf.Strings.Cut
import Derived.Shelf.Strings.Count
import Derived.Shelf.LaysM
import Derived.Shelf.Strings.Shaped
import Derived.Shelf.Strings.Prefix
import Derived.Shelf.Strings.Split
import Derived.Shelf.Strings.SplitShaped
import Derived.Shelf.Unicode.Decode
import Derived.Shelf.Strings.Runes
import Derived.Shelf.Strings.RuneCount
import Derived.Shelf.Strings.IndexAny
import Derived.Shelf.Strings.AsciiSet
import Derived.Shelf.Strings.IndexAnyAll
import Derived.Shelf.Strings.Explode
import Derived.Shelf.Unicode.DecodeSlow
import Derived.Shelf.Unicode.DecodeAny
import Derived.Shelf.Strings.BuilderCap
import Derived.Ground.Names2Prog
import Derived.Shelf.Slices.Clone
import Derived.Ground.SlgnProg
import Derived.Shelf.SlicesE.Clone
import Derived.Test.YtpnedbnpnekahaaDoorProg
import Derived.Laws.RangeAny
import Derived.LoopTactic

section
namespace Go.Proofs.YtpnedbnpnekahaaDoor.P
open Go.RowKit Go.Proofs.YtpnedbnpnekahaaDoorW.PrintWords Go.Proofs.YtpnedbnpnekahaaDoorW.PrintLast Go.Proofs.YtpnedbnpnekahaaDoorW.PrintMore
attribute [local go_sem] max2_int min2_int max_two min_two max_three min_three max_four min_four
set_option linter.unusedVariables false
set_option linter.unusedSimpArgs false
def spec_AddrText.f (k : Nat) (a0_0 : ByteArray) (l0_1 : List ByteArray) (a0_2 : Bool) (a0_3 : ByteArray) : Option (ByteArray) := (spec_AddrOk.f k a0_0 l0_1 a0_2 a0_3).bind fun t216 => (if t216 = true then ((spec_l1Text.f k a0_0 l0_1 a0_2 a0_3).bind fun t217 => (some t217)) else (some (⟨#[]⟩ : ByteArray)))
set_option maxHeartbeats 8000000 in
set_option maxRecDepth 100000 in
theorem spec_AddrText.calls (k : Nat) (a0_0 : ByteArray) (A0_1 : Option Addr) (c0_1 : Nat) (l0_1 : List ByteArray) (a0_2 : Bool) (a0_3 : ByteArray) (r : ByteArray) (w : World) (hr0_1 : Kd.C Kd.string w A0_1 l0_1.length l0_1) (hc0_1 : l0_1.length ≤ c0_1) (h : spec_AddrText.f k a0_0 l0_1 a0_2 a0_3 = some r) :
  Calls Tryd.prog 21 #[.agg #[.string a0_0, .slice A0_1 l0_1.length c0_1, .bool a0_2, .string a0_3]] w fun e w' => e = .returned (.string r) ∧ Below w.heap.size w w' := by
 have hu47 := Tryd.underlying47;have HR0_1 := Aside0.mk hr0_1;have HC0_1 := Aside0.mk hc0_1;clear hr0_1 hc0_1;have HB := Aside0.mk (Below.refl w.heap.size w);have H : ((spec_AddrOk.f k a0_0 l0_1 a0_2 a0_3).bind fun t216 => (if t216 = true then ((spec_l1Text.f k a0_0 l0_1 a0_2 a0_3).bind fun t217 => (some t217)) else (some (⟨#[]⟩ : ByteArray)))) = some r := h;clear h;replace H := bindA H;obtain ⟨t216, A2, H⟩ := H;by_cases c3 : t216 = true
 ·subst c3
  rw [if_pos rfl] at H;replace H := bindA H;obtain ⟨t217, A4, H⟩ := H;obtain rfl := Option.some.inj H;go_enter Tryd.func21, Tryd.ntmps21;go_wp2_with (first | ((with_reducible refine gate_dst (N := 1) rfl ?_); refine boxE 1 #[.string a0_0, .slice A0_1 l0_1.length c0_1, .bool a0_2, .string a0_3] 47 ?_; intro gb215 hg w5 hbox hb; have n0_ := Aside0.mk (below_step (zz0 HB) hb); have n1_ := Aside0.mk (hbox); have n2_ := Aside0.mk ((by rw [hg]; exact (below_size (zz0 HB)) : w.heap.size ≤ gb215)); have n3_ := Aside0.mk ((by rw [hg]; exact (below_size (zz0 HB)) : w.heap.size ≤ gb215)); clear HB; have HB := n0_; have BK215 := n1_; have GW215 := n2_; have GE215 := n3_; clear n0_ n1_ n2_ n3_; clear hb hbox hg; obtain ⟨_, _, _, _, _, _, _, _⟩ := cf4 BK215) | ((with_reducible refine gate_callee (f := 26) rfl ?_); refine gsL (some 4) Tryd.func26 #[.agg #[.string a0_0, .slice A0_1 l0_1.length c0_1, .bool a0_2, .string a0_3]] ?_; (with_reducible refine (spec_AddrOk.calls k a0_0 _ _ l0_1 a0_2 a0_3 true _ ?side1 ?side2 A2.out).mono ?_); (case side1 => exact (zz24 HR0_1 HB)); (case side2 => exact HC0_1.out); rintro e w7 ⟨rfl, hb⟩; refine ⟨_, rfl, ?_⟩; have n0_ := Aside0.mk (blk_below (zz21 BK215) hb); have n1_ := Aside0.mk (below_step (zz2 HB GE215) hb); clear BK215; clear HB; have BK215 := n0_; have HB := n1_; clear n0_ n1_; (try clear hb); obtain ⟨_, _, _, _, _, _, _, _⟩ := cf4 BK215) | ((with_reducible refine gate_callee (f := 27) rfl ?_); refine gsL (some 7) Tryd.func27 #[.agg #[.string a0_0, .slice A0_1 l0_1.length c0_1, .bool a0_2, .string a0_3]] ?_; (with_reducible refine (spec_l1Text.calls k a0_0 _ _ l0_1 a0_2 a0_3 t217 _ ?side1 ?side2 A4.out).mono ?_); (case side1 => exact (zz24 HR0_1 HB)); (case side2 => exact HC0_1.out); rintro e w9 ⟨rfl, hb⟩; refine ⟨_, rfl, ?_⟩; have n0_ := Aside0.mk (blk_below (zz21 BK215) hb); have n1_ := Aside0.mk (below_step (zz2 HB GE215) hb); clear BK215; clear HB; have BK215 := n0_; have HB := n1_; clear n0_ n1_; (try clear hb)))
  go_ret
  exact ⟨zz1, (zz2 HB GE215)⟩
 ·replace c3 := Bool.eq_false_iff.mpr c3
  subst c3;rw [if_neg (show ¬ (false = true) by decide)] at H;obtain rfl := Option.some.inj H;go_enter Tryd.func21, Tryd.ntmps21;go_wp2_with (first | ((with_reducible refine gate_dst (N := 1) rfl ?_); refine boxE 1 #[.string a0_0, .slice A0_1 l0_1.length c0_1, .bool a0_2, .string a0_3] 47 ?_; intro gb215 hg w10 hbox hb; have n0_ := Aside0.mk (below_step (zz0 HB) hb); have n1_ := Aside0.mk (hbox); have n2_ := Aside0.mk ((by rw [hg]; exact (below_size (zz0 HB)) : w.heap.size ≤ gb215)); have n3_ := Aside0.mk ((by rw [hg]; exact (below_size (zz0 HB)) : w.heap.size ≤ gb215)); clear HB; have HB := n0_; have BK215 := n1_; have GW215 := n2_; have GE215 := n3_; clear n0_ n1_ n2_ n3_; clear hb hbox hg; obtain ⟨_, _, _, _, _, _, _, _⟩ := cf4 BK215) | ((with_reducible refine gate_callee (f := 26) rfl ?_); refine gsL (some 4) Tryd.func26 #[.agg #[.string a0_0, .slice A0_1 l0_1.length c0_1, .bool a0_2, .string a0_3]] ?_; (with_reducible refine (spec_AddrOk.calls k a0_0 _ _ l0_1 a0_2 a0_3 false _ ?side1 ?side2 A2.out).mono ?_); (case side1 => exact (zz24 HR0_1 HB)); (case side2 => exact HC0_1.out); rintro e w12 ⟨rfl, hb⟩; refine ⟨_, rfl, ?_⟩; have n0_ := Aside0.mk (blk_below (zz21 BK215) hb); have n1_ := Aside0.mk (below_step (zz2 HB GE215) hb); clear BK215; clear HB; have BK215 := n0_; have HB := n1_; clear n0_ n1_; (try clear hb)))
  go_ret
  exact ⟨zz1, (zz2 HB GE215)⟩
def spec_l11Norm.f (k : Nat) (a0 : ByteArray) : Option (Bool) := (spec_AddrRead.f k a0).bind fun bt218 => (if bt218.2.2.2.2 = true then ((spec_AddrText.f k bt218.1 bt218.2.1 bt218.2.2.1 bt218.2.2.2.1).bind fun t226 => (some (t226.toList == a0.toList))) else (some false))
set_option maxHeartbeats 8000000 in
set_option maxRecDepth 100000 in
theorem spec_l11Norm.calls (k : Nat) (a0 : ByteArray) (r : Bool) (w : World) (h : spec_l11Norm.f k a0 = some r) :
  Calls Tryd.prog 13 #[.string a0] w fun e w' => e = .returned (.bool r) ∧ Below w.heap.size w w' := by
 have hu47 := Tryd.underlying47;have HB := Aside0.mk (Below.refl w.heap.size w);have H : ((spec_AddrRead.f k a0).bind fun bt218 => (if bt218.2.2.2.2 = true then ((spec_AddrText.f k bt218.1 bt218.2.1 bt218.2.2.1 bt218.2.2.2.1).bind fun t226 => (some (t226.toList == a0.toList))) else (some false))) = some r := h;clear h;replace H := bindA H;obtain ⟨⟨t218, t219, t222, t223, t224⟩, A2, H⟩ := H;try dsimp -simprocs only at H
 by_cases c3 : t224 = true
 ·subst c3
  rw [if_pos rfl] at H;replace H := bindA H;obtain ⟨t226, A4, H⟩ := H;obtain rfl := Option.some.inj H;go_enter Tryd.func13, Tryd.ntmps13;go_wp2_with (first | ((with_reducible refine gate_callee (f := 20) rfl ?_); refine gsL (some 7) Tryd.func20 #[.string a0] ?_; (with_reducible refine (spec_AddrRead.calls k a0 t218 t219 t222 t223 true _ A2.out).mono ?_); rintro e w5 ⟨v220, rfl, ho0, hb⟩; refine ⟨_, rfl, ?_⟩; have n0_ := Aside0.mk (Kd.R_lower ho0 (below_size (zz0 HB))); have n1_ := Aside0.mk (below_step (zz0 HB) hb); clear HB; have HO221 := n0_; have HB := n1_; clear n0_ n1_; (try clear hb ho0)) | ((with_reducible refine gate_dst (N := 3) rfl ?_); refine boxE 3 #[.string (⟨#[]⟩ : ByteArray), .slice none 0 0, .bool false, .string (⟨#[]⟩ : ByteArray)] 47 ?_; intro gb225 hg w6 hbox hb; have n0_ := Aside0.mk (Kd.R_below (zz28 HO221) hb); have n1_ := Aside0.mk (below_step (zz0 HB) hb); have n2_ := Aside0.mk (hbox); have n3_ := Aside0.mk ((by rw [hg]; exact (below_size (zz0 HB)) : w.heap.size ≤ gb225)); have n4_ := Aside0.mk ((by rw [hg]; exact (below_size (zz0 HB)) : w.heap.size ≤ gb225)); clear HO221; clear HB; have HO221 := n0_; have HB := n1_; have BK225 := n2_; have GW225 := n3_; have GE225 := n4_; clear n0_ n1_ n2_ n3_ n4_; clear hb hbox hg; obtain ⟨_, _, _, _, _, _, _, _⟩ := cf4 BK225; obtain ⟨Ao8, co8, eo8⟩ := Kd.R_slice HO221.out; subst eo8) | (go_at_call 21; (with_reducible refine (spec_AddrText.calls k t218 _ _ t219 t222 t223 t226 _ ?side1 ?side2 A4.out).mono ?_); (case side1 => exact (by refine (Kd.R_reads' (e := 9) (base := w.heap.size) (ok := fun k_ => True) (n := t219.length) (c := co8) ?_).2.2; exact (zz52 HO221 BK225))); (case side2 => exact (Kd.R_reads' HO221.out).2.1); rintro e w9 ⟨rfl, hb⟩; have n0_ := Aside0.mk (Kd.R_below (zz52 HO221 BK225) hb); have n1_ := Aside0.mk (blk_below (g := gb225) (o := .cells #[.string t218, .slice Ao8 t219.length co8, .bool t222, .string t223] 47 (0, 0)) (zz37 BK225) hb); have n2_ := Aside0.mk (below_step (zz2 HB GE225) hb); clear HO221; clear BK225; clear HB; have HO221 := n0_; have BK225 := n1_; have HB := n2_; clear n0_ n1_ n2_; (try clear hb)))
  go_ret
  exact ⟨zz1, (zz2 HB GE225)⟩
 ·replace c3 := Bool.eq_false_iff.mpr c3
  subst c3;rw [if_neg (show ¬ (false = true) by decide)] at H;obtain rfl := Option.some.inj H;go_enter Tryd.func13, Tryd.ntmps13;go_wp2_with (first | ((with_reducible refine gate_callee (f := 20) rfl ?_); refine gsL (some 7) Tryd.func20 #[.string a0] ?_; (with_reducible refine (spec_AddrRead.calls k a0 t218 t219 t222 t223 false _ A2.out).mono ?_); rintro e w10 ⟨v220, rfl, ho0, hb⟩; refine ⟨_, rfl, ?_⟩; have n0_ := Aside0.mk (Kd.R_lower ho0 (below_size (zz0 HB))); have n1_ := Aside0.mk (below_step (zz0 HB) hb); clear HB; have HO221 := n0_; have HB := n1_; clear n0_ n1_; (try clear hb ho0)) | ((with_reducible refine gate_dst (N := 3) rfl ?_); refine boxE 3 #[.string (⟨#[]⟩ : ByteArray), .slice none 0 0, .bool false, .string (⟨#[]⟩ : ByteArray)] 47 ?_; intro gb225 hg w11 hbox hb; have n0_ := Aside0.mk (Kd.R_below (zz28 HO221) hb); have n1_ := Aside0.mk (below_step (zz0 HB) hb); have n2_ := Aside0.mk (hbox); have n3_ := Aside0.mk ((by rw [hg]; exact (below_size (zz0 HB)) : w.heap.size ≤ gb225)); have n4_ := Aside0.mk ((by rw [hg]; exact (below_size (zz0 HB)) : w.heap.size ≤ gb225)); clear HO221; clear HB; have HO221 := n0_; have HB := n1_; have BK225 := n2_; have GW225 := n3_; have GE225 := n4_; clear n0_ n1_ n2_ n3_ n4_; clear hb hbox hg; obtain ⟨_, _, _, _, _, _, _, _⟩ := cf4 BK225; obtain ⟨Ao13, co13, eo13⟩ := Kd.R_slice HO221.out; subst eo13))
  go_ret
  exact ⟨zz1, (zz2 HB GE225)⟩
mutual
def spec_WorldOk.l0 : Nat → List (S36) → Int → Option (Bool)
 | 0, _, _ => none
 | k + 1, x0, x3 => if x3 < (x0.length : Int) then (if 0 ≤ x3 then ((spec_l11Norm.f k ((rd_T36 x0 x3).f0)).bind fun t228 => (if t228 = true then (if (((rd_T36 x0 x3).f1).size : Int) > 300 then (spec_WorldOk.j1 k x0 x3 true) else ((spec_l6In.f ((rd_T36 x0 x3).f3) 0 9).bind fun t231 => (if t231 = true then (if ((rd_T36 x0 x3).f2).toList = ([] : List UInt8) then (spec_WorldOk.j1 k x0 x3 false) else (if ((rd_T36 x0 x3).f1).toList = ([] : List UInt8) then ((spec_l11Norm.f k ((rd_T36 x0 x3).f2)).bind fun t235 => (spec_WorldOk.j1 k x0 x3 (!t235))) else (spec_WorldOk.j1 k x0 x3 true))) else (spec_WorldOk.j1 k x0 x3 true)))) else (spec_WorldOk.j1 k x0 x3 true))) else (none)) else (some (decide ((x0.length : Int) ≤ 12)))
def spec_WorldOk.j1 : Nat → List (S36) → Int → Bool → Option (Bool)
 | 0, _, _, _ => none
 | k + 1, x0, x3, x60 => if x60 = true then (some false) else (spec_WorldOk.l1 k x0 x3 0)
def spec_WorldOk.l1 : Nat → List (S36) → Int → Int → Option (Bool)
 | 0, _, _, _ => none
 | k + 1, x0, x3, x4 => if x4 < x3 then (if 0 ≤ x4 then (if x4 < (x0.length : Int) then (if 0 ≤ x3 then (if x3 < (x0.length : Int) then (if ((rd_T36 x0 x4).f0).toList = ((rd_T36 x0 x3).f0).toList then (some false) else (spec_WorldOk.l1 k x0 x3 (wrap64 (x4 + 1)))) else (none)) else (none)) else (none)) else (none)) else (spec_WorldOk.l0 k x0 (wrap64 (x3 + 1)))
end
def spec_WorldOk.f (k : Nat) (l0 : List (S36)) : Option (Bool) := spec_WorldOk.l0 k l0 0
set_option maxHeartbeats 8000000 in
set_option maxRecDepth 100000 in
theorem spec_WorldOk.calls (k : Nat) (A0 : Option Addr) (c0 : Nat) (l0 : List (S36)) (r : Bool) (w : World) (hr0 : Kd.C k36 w A0 l0.length l0) (hc0 : l0.length ≤ c0) (h : spec_WorldOk.f k l0 = some r) :
  Calls Tryd.prog 6 #[.slice A0 l0.length c0] w fun e w' => e = .returned (.bool r) ∧ Below w.heap.size w w' := by
 have HR0 := Aside0.mk hr0;have HC0 := Aside0.mk hc0;clear hr0 hc0;have HB := Aside0.mk (Below.refl w.heap.size w);have H : (spec_WorldOk.l0 k l0 0) = some r := h;clear h;have H' := Aside0.mk H;clear H;go_enter Tryd.func6, Tryd.ntmps6;go_wp2
 repeat (go_quiet (fail); try go_wp2)
 go_loopg [3] k (fun kq v3 w' => ∃ (x3_1 : Int), v3 = .int .i64 x3_1 ∧ Aside0 (spec_WorldOk.l0 kq l0 x3_1 = some r) ∧ Aside0 (kq ≤ k) ∧ Aside0 (Below w.heap.size w w'))
 case atStart => exact ⟨(0), zz3, H', ⟨Nat.le_refl _⟩, ⟨(zz0 HB)⟩⟩
 case round =>
  clear H';obtain ⟨x3_1, rfl, HA, HK1, HB⟩ := hrel;cases gk with
  | zero => exact absurd HA.out (by simp [spec_WorldOk.l0])
  | succ k1 =>
   have H := HA.out;clear HA;simp only [spec_WorldOk.l0] at H
   by_cases c2 : x3_1 < (l0.length : Int)
   ·rw [if_pos c2] at H
    have c2b0 : decide (x3_1 < (l0.length : Int)) = true := decide_eq_true c2;clear c2;have HC3 := Aside0.mk H;clear H;go_upto_region 4 with (fail)
    repeat (go_quiet (fail); go_upto_region 4 with (fail))
    go_cut [60] (fun v60 wc => ∃ (kq : Nat) (x60_2 : Bool), v60 = .bool x60_2 ∧ Aside0 (spec_WorldOk.j1 kq l0 x3_1 x60_2 = some r) ∧ Aside0 (kq ≤ k1) ∧ Aside0 (Below w.heap.size w wc))
    case first =>
     have H := HC3.out;clear HC3;by_cases c4 : 0 ≤ x3_1
     ·rw [if_pos c4] at H
      have c4b0 : decide (0 ≤ x3_1) = true := decide_eq_true c4;clear c4;(first | rw [c4b0] | (simp only [i64_w, i32_w]; rw [c4b0]) | skip)
      replace H := bindA H;obtain ⟨t228, A5, H⟩ := H;by_cases c6 : t228 = true
      ·subst c6
       rw [if_pos rfl] at H;by_cases c7 : (((rd_T36 l0 x3_1).f1).size : Int) > 300
       ·rw [if_pos c7] at H
        have c7b0 : decide (300 < (((rd_T36 l0 x3_1).f1).size : Int)) = true := decide_eq_true c7;have c7b1 : decide (300 < ((rd_T36 l0 x3_1).f1).size) = true := decide_eq_true (by omega);clear c7;have H' := Aside0.mk H;clear H;have p227 : 0 ≤ (x3_1 : Int) := ofD;have q227 : x3_1 < (l0.length : Int) := ofD;obtain ⟨ad227, e227, hx227_0, hx227_1, hx227_2, hx227_3⟩ := at_T36 HR0.out x3_1 p227 q227;cases e227
        replace hx227_0 := (HB.out.cell (World.block_lt_of_cell? w _ hx227_0)).trans hx227_0;replace hx227_1 := (HB.out.cell (World.block_lt_of_cell? w _ hx227_1)).trans hx227_1;replace hx227_2 := (HB.out.cell (World.block_lt_of_cell? w _ hx227_2)).trans hx227_2;replace hx227_3 := (HB.out.cell (World.block_lt_of_cell? w _ hx227_3)).trans hx227_3;replace p227 := eq_true p227;replace q227 := eq_true q227;go_wp2_with (first | (go_at_call 13; (with_reducible refine (spec_l11Norm.calls k1 ((rd_T36 l0 x3_1).f0) true _ A5.out).mono ?_); rintro e w8 ⟨rfl, hb⟩; have n0_ := Aside0.mk (below_step (zz0 HB) hb); clear HB; have HB := n0_; clear n0_; (try clear hb); have p229 : 0 ≤ (x3_1 : Int) := ofD; have q229 : x3_1 < (l0.length : Int) := ofD; obtain ⟨ad229, e229, hx229_0, hx229_1, hx229_2, hx229_3⟩ := at_T36 HR0.out x3_1 p229 q229; obtain rfl : ad227 = ad229 := (by injection e229); replace hx229_0 := (HB.out.cell (World.block_lt_of_cell? w _ hx229_0)).trans hx229_0; replace hx229_1 := (HB.out.cell (World.block_lt_of_cell? w _ hx229_1)).trans hx229_1; replace hx229_2 := (HB.out.cell (World.block_lt_of_cell? w _ hx229_2)).trans hx229_2; replace hx229_3 := (HB.out.cell (World.block_lt_of_cell? w _ hx229_3)).trans hx229_3; replace p229 := eq_true p229; replace q229 := eq_true q229))
        repeat (go_quiet (first | (go_at_call 13; (with_reducible refine (spec_l11Norm.calls k1 ((rd_T36 l0 x3_1).f0) true _ A5.out).mono ?_); rintro e w8 ⟨rfl, hb⟩; have n0_ := Aside0.mk (below_step (zz0 HB) hb); clear HB; have HB := n0_; clear n0_; (try clear hb); have p229 : 0 ≤ (x3_1 : Int) := ofD; have q229 : x3_1 < (l0.length : Int) := ofD; obtain ⟨ad229, e229, hx229_0, hx229_1, hx229_2, hx229_3⟩ := at_T36 HR0.out x3_1 p229 q229; obtain rfl : ad227 = ad229 := (by injection e229); replace hx229_0 := (HB.out.cell (World.block_lt_of_cell? w _ hx229_0)).trans hx229_0; replace hx229_1 := (HB.out.cell (World.block_lt_of_cell? w _ hx229_1)).trans hx229_1; replace hx229_2 := (HB.out.cell (World.block_lt_of_cell? w _ hx229_2)).trans hx229_2; replace hx229_3 := (HB.out.cell (World.block_lt_of_cell? w _ hx229_3)).trans hx229_3; replace p229 := eq_true p229; replace q229 := eq_true q229)); try go_wp2_with (first | (go_at_call 13; (with_reducible refine (spec_l11Norm.calls k1 ((rd_T36 l0 x3_1).f0) true _ A5.out).mono ?_); rintro e w8 ⟨rfl, hb⟩; have n0_ := Aside0.mk (below_step (zz0 HB) hb); clear HB; have HB := n0_; clear n0_; (try clear hb); have p229 : 0 ≤ (x3_1 : Int) := ofD; have q229 : x3_1 < (l0.length : Int) := ofD; obtain ⟨ad229, e229, hx229_0, hx229_1, hx229_2, hx229_3⟩ := at_T36 HR0.out x3_1 p229 q229; obtain rfl : ad227 = ad229 := (by injection e229); replace hx229_0 := (HB.out.cell (World.block_lt_of_cell? w _ hx229_0)).trans hx229_0; replace hx229_1 := (HB.out.cell (World.block_lt_of_cell? w _ hx229_1)).trans hx229_1; replace hx229_2 := (HB.out.cell (World.block_lt_of_cell? w _ hx229_2)).trans hx229_2; replace hx229_3 := (HB.out.cell (World.block_lt_of_cell? w _ hx229_3)).trans hx229_3; replace p229 := eq_true p229; replace q229 := eq_true q229)))
        go_meet
        case rel => exact ⟨_, (true), zz3, H', ⟨(zz11 HK1)⟩, ⟨(zz0 HB)⟩⟩
       ·rw [if_neg c7] at H
        have c7b0 : decide (300 < (((rd_T36 l0 x3_1).f1).size : Int)) = false := decide_eq_false c7;have c7b1 : decide (300 < ((rd_T36 l0 x3_1).f1).size) = false := decide_eq_false (by omega);clear c7;replace H := bindA H;obtain ⟨t231, A9, H⟩ := H;by_cases c10 : t231 = true
        ·subst c10
         rw [if_pos rfl] at H;by_cases c11 : ((rd_T36 l0 x3_1).f2).toList = ([] : List UInt8)
         ·rw [if_pos c11] at H
          have c11b0 : (((rd_T36 l0 x3_1).f2).toList == ([] : List UInt8)) = true := beq_iff_eq.mpr c11;have c11b1 : (((rd_T36 l0 x3_1).f2).toList != ([] : List UInt8)) = false := bne_eq_false_iff_eq.mpr c11;clear c11;have H' := Aside0.mk H;clear H;have p227 : 0 ≤ (x3_1 : Int) := ofD;have q227 : x3_1 < (l0.length : Int) := ofD;obtain ⟨ad227, e227, hx227_0, hx227_1, hx227_2, hx227_3⟩ := at_T36 HR0.out x3_1 p227 q227;cases e227
          replace hx227_0 := (HB.out.cell (World.block_lt_of_cell? w _ hx227_0)).trans hx227_0;replace hx227_1 := (HB.out.cell (World.block_lt_of_cell? w _ hx227_1)).trans hx227_1;replace hx227_2 := (HB.out.cell (World.block_lt_of_cell? w _ hx227_2)).trans hx227_2;replace hx227_3 := (HB.out.cell (World.block_lt_of_cell? w _ hx227_3)).trans hx227_3;replace p227 := eq_true p227;replace q227 := eq_true q227;go_wp2_with (first | (go_at_call 13; (with_reducible refine (spec_l11Norm.calls k1 ((rd_T36 l0 x3_1).f0) true _ A5.out).mono ?_); rintro e w12 ⟨rfl, hb⟩; have n0_ := Aside0.mk (below_step (zz0 HB) hb); clear HB; have HB := n0_; clear n0_; (try clear hb); have p229 : 0 ≤ (x3_1 : Int) := ofD; have q229 : x3_1 < (l0.length : Int) := ofD; obtain ⟨ad229, e229, hx229_0, hx229_1, hx229_2, hx229_3⟩ := at_T36 HR0.out x3_1 p229 q229; obtain rfl : ad227 = ad229 := (by injection e229); replace hx229_0 := (HB.out.cell (World.block_lt_of_cell? w _ hx229_0)).trans hx229_0; replace hx229_1 := (HB.out.cell (World.block_lt_of_cell? w _ hx229_1)).trans hx229_1; replace hx229_2 := (HB.out.cell (World.block_lt_of_cell? w _ hx229_2)).trans hx229_2; replace hx229_3 := (HB.out.cell (World.block_lt_of_cell? w _ hx229_3)).trans hx229_3; replace p229 := eq_true p229; replace q229 := eq_true q229; have p230 : 0 ≤ (x3_1 : Int) := ofD; have q230 : x3_1 < (l0.length : Int) := ofD; obtain ⟨ad230, e230, hx230_0, hx230_1, hx230_2, hx230_3⟩ := at_T36 HR0.out x3_1 p230 q230; obtain rfl : ad227 = ad230 := (by injection e230); replace hx230_0 := (HB.out.cell (World.block_lt_of_cell? w _ hx230_0)).trans hx230_0; replace hx230_1 := (HB.out.cell (World.block_lt_of_cell? w _ hx230_1)).trans hx230_1; replace hx230_2 := (HB.out.cell (World.block_lt_of_cell? w _ hx230_2)).trans hx230_2; replace hx230_3 := (HB.out.cell (World.block_lt_of_cell? w _ hx230_3)).trans hx230_3; replace p230 := eq_true p230; replace q230 := eq_true q230) | (go_at_call 14; (with_reducible refine (spec_l6In.calls ((rd_T36 l0 x3_1).f3) 0 9 true _ A9.out).mono ?_); rintro e w' ⟨rfl, ⟨nd, rfl⟩⟩; (try first | exact ⟨rfl, _, World.drewN_drewN _ _ _⟩ | exact ⟨rfl, _, Eq.trans (World.drewN_drewN _ _ _) (congrArg (World.drewN _) (Nat.add_assoc _ _ _))⟩); have p232 : 0 ≤ (x3_1 : Int) := ofD; have q232 : x3_1 < (l0.length : Int) := ofD; obtain ⟨ad232, e232, hx232_0, hx232_1, hx232_2, hx232_3⟩ := at_T36 HR0.out x3_1 p232 q232; obtain rfl : ad227 = ad232 := (by injection e232); replace hx232_0 := (HB.out.cell (World.block_lt_of_cell? w _ hx232_0)).trans hx232_0; replace hx232_1 := (HB.out.cell (World.block_lt_of_cell? w _ hx232_1)).trans hx232_1; replace hx232_2 := (HB.out.cell (World.block_lt_of_cell? w _ hx232_2)).trans hx232_2; replace hx232_3 := (HB.out.cell (World.block_lt_of_cell? w _ hx232_3)).trans hx232_3; replace p232 := eq_true p232; replace q232 := eq_true q232))
          repeat (go_quiet (first | (go_at_call 13; (with_reducible refine (spec_l11Norm.calls k1 ((rd_T36 l0 x3_1).f0) true _ A5.out).mono ?_); rintro e w12 ⟨rfl, hb⟩; have n0_ := Aside0.mk (below_step (zz0 HB) hb); clear HB; have HB := n0_; clear n0_; (try clear hb); have p229 : 0 ≤ (x3_1 : Int) := ofD; have q229 : x3_1 < (l0.length : Int) := ofD; obtain ⟨ad229, e229, hx229_0, hx229_1, hx229_2, hx229_3⟩ := at_T36 HR0.out x3_1 p229 q229; obtain rfl : ad227 = ad229 := (by injection e229); replace hx229_0 := (HB.out.cell (World.block_lt_of_cell? w _ hx229_0)).trans hx229_0; replace hx229_1 := (HB.out.cell (World.block_lt_of_cell? w _ hx229_1)).trans hx229_1; replace hx229_2 := (HB.out.cell (World.block_lt_of_cell? w _ hx229_2)).trans hx229_2; replace hx229_3 := (HB.out.cell (World.block_lt_of_cell? w _ hx229_3)).trans hx229_3; replace p229 := eq_true p229; replace q229 := eq_true q229; have p230 : 0 ≤ (x3_1 : Int) := ofD; have q230 : x3_1 < (l0.length : Int) := ofD; obtain ⟨ad230, e230, hx230_0, hx230_1, hx230_2, hx230_3⟩ := at_T36 HR0.out x3_1 p230 q230; obtain rfl : ad227 = ad230 := (by injection e230); replace hx230_0 := (HB.out.cell (World.block_lt_of_cell? w _ hx230_0)).trans hx230_0; replace hx230_1 := (HB.out.cell (World.block_lt_of_cell? w _ hx230_1)).trans hx230_1; replace hx230_2 := (HB.out.cell (World.block_lt_of_cell? w _ hx230_2)).trans hx230_2; replace hx230_3 := (HB.out.cell (World.block_lt_of_cell? w _ hx230_3)).trans hx230_3; replace p230 := eq_true p230; replace q230 := eq_true q230) | (go_at_call 14; (with_reducible refine (spec_l6In.calls ((rd_T36 l0 x3_1).f3) 0 9 true _ A9.out).mono ?_); rintro e w' ⟨rfl, ⟨nd, rfl⟩⟩; (try first | exact ⟨rfl, _, World.drewN_drewN _ _ _⟩ | exact ⟨rfl, _, Eq.trans (World.drewN_drewN _ _ _) (congrArg (World.drewN _) (Nat.add_assoc _ _ _))⟩); have p232 : 0 ≤ (x3_1 : Int) := ofD; have q232 : x3_1 < (l0.length : Int) := ofD; obtain ⟨ad232, e232, hx232_0, hx232_1, hx232_2, hx232_3⟩ := at_T36 HR0.out x3_1 p232 q232; obtain rfl : ad227 = ad232 := (by injection e232); replace hx232_0 := (HB.out.cell (World.block_lt_of_cell? w _ hx232_0)).trans hx232_0; replace hx232_1 := (HB.out.cell (World.block_lt_of_cell? w _ hx232_1)).trans hx232_1; replace hx232_2 := (HB.out.cell (World.block_lt_of_cell? w _ hx232_2)).trans hx232_2; replace hx232_3 := (HB.out.cell (World.block_lt_of_cell? w _ hx232_3)).trans hx232_3; replace p232 := eq_true p232; replace q232 := eq_true q232)); try go_wp2_with (first | (go_at_call 13; (with_reducible refine (spec_l11Norm.calls k1 ((rd_T36 l0 x3_1).f0) true _ A5.out).mono ?_); rintro e w12 ⟨rfl, hb⟩; have n0_ := Aside0.mk (below_step (zz0 HB) hb); clear HB; have HB := n0_; clear n0_; (try clear hb); have p229 : 0 ≤ (x3_1 : Int) := ofD; have q229 : x3_1 < (l0.length : Int) := ofD; obtain ⟨ad229, e229, hx229_0, hx229_1, hx229_2, hx229_3⟩ := at_T36 HR0.out x3_1 p229 q229; obtain rfl : ad227 = ad229 := (by injection e229); replace hx229_0 := (HB.out.cell (World.block_lt_of_cell? w _ hx229_0)).trans hx229_0; replace hx229_1 := (HB.out.cell (World.block_lt_of_cell? w _ hx229_1)).trans hx229_1; replace hx229_2 := (HB.out.cell (World.block_lt_of_cell? w _ hx229_2)).trans hx229_2; replace hx229_3 := (HB.out.cell (World.block_lt_of_cell? w _ hx229_3)).trans hx229_3; replace p229 := eq_true p229; replace q229 := eq_true q229; have p230 : 0 ≤ (x3_1 : Int) := ofD; have q230 : x3_1 < (l0.length : Int) := ofD; obtain ⟨ad230, e230, hx230_0, hx230_1, hx230_2, hx230_3⟩ := at_T36 HR0.out x3_1 p230 q230; obtain rfl : ad227 = ad230 := (by injection e230); replace hx230_0 := (HB.out.cell (World.block_lt_of_cell? w _ hx230_0)).trans hx230_0; replace hx230_1 := (HB.out.cell (World.block_lt_of_cell? w _ hx230_1)).trans hx230_1; replace hx230_2 := (HB.out.cell (World.block_lt_of_cell? w _ hx230_2)).trans hx230_2; replace hx230_3 := (HB.out.cell (World.block_lt_of_cell? w _ hx230_3)).trans hx230_3; replace p230 := eq_true p230; replace q230 := eq_true q230) | (go_at_call 14; (with_reducible refine (spec_l6In.calls ((rd_T36 l0 x3_1).f3) 0 9 true _ A9.out).mono ?_); rintro e w' ⟨rfl, ⟨nd, rfl⟩⟩; (try first | exact ⟨rfl, _, World.drewN_drewN _ _ _⟩ | exact ⟨rfl, _, Eq.trans (World.drewN_drewN _ _ _) (congrArg (World.drewN _) (Nat.add_assoc _ _ _))⟩); have p232 : 0 ≤ (x3_1 : Int) := ofD; have q232 : x3_1 < (l0.length : Int) := ofD; obtain ⟨ad232, e232, hx232_0, hx232_1, hx232_2, hx232_3⟩ := at_T36 HR0.out x3_1 p232 q232; obtain rfl : ad227 = ad232 := (by injection e232); replace hx232_0 := (HB.out.cell (World.block_lt_of_cell? w _ hx232_0)).trans hx232_0; replace hx232_1 := (HB.out.cell (World.block_lt_of_cell? w _ hx232_1)).trans hx232_1; replace hx232_2 := (HB.out.cell (World.block_lt_of_cell? w _ hx232_2)).trans hx232_2; replace hx232_3 := (HB.out.cell (World.block_lt_of_cell? w _ hx232_3)).trans hx232_3; replace p232 := eq_true p232; replace q232 := eq_true q232)))
          go_meet
          case rel => exact ⟨_, (false), zz3, H', ⟨(zz11 HK1)⟩, ⟨(zz0 HB)⟩⟩
         ·rw [if_neg c11] at H
          have c11b0 : (((rd_T36 l0 x3_1).f2).toList == ([] : List UInt8)) = false := beq_eq_false_iff_ne.mpr c11;have c11b1 : (((rd_T36 l0 x3_1).f2).toList != ([] : List UInt8)) = true := bne_iff_ne.mpr c11;by_cases c13 : ((rd_T36 l0 x3_1).f1).toList = ([] : List UInt8)
          ·rw [if_pos c13] at H
           have c13b0 : (((rd_T36 l0 x3_1).f1).toList == ([] : List UInt8)) = true := beq_iff_eq.mpr c13;have c13b1 : (((rd_T36 l0 x3_1).f1).toList != ([] : List UInt8)) = false := bne_eq_false_iff_eq.mpr c13;clear c13;replace H := bindA H;obtain ⟨t235, A14, H⟩ := H;have H' := Aside0.mk H;clear H;have p227 : 0 ≤ (x3_1 : Int) := ofD;have q227 : x3_1 < (l0.length : Int) := ofD;obtain ⟨ad227, e227, hx227_0, hx227_1, hx227_2, hx227_3⟩ := at_T36 HR0.out x3_1 p227 q227;cases e227
           replace hx227_0 := (HB.out.cell (World.block_lt_of_cell? w _ hx227_0)).trans hx227_0;replace hx227_1 := (HB.out.cell (World.block_lt_of_cell? w _ hx227_1)).trans hx227_1;replace hx227_2 := (HB.out.cell (World.block_lt_of_cell? w _ hx227_2)).trans hx227_2;replace hx227_3 := (HB.out.cell (World.block_lt_of_cell? w _ hx227_3)).trans hx227_3;replace p227 := eq_true p227;replace q227 := eq_true q227;go_wp2_with (first | (go_at_call 13; (with_reducible refine (spec_l11Norm.calls k1 ((rd_T36 l0 x3_1).f0) true _ A5.out).mono ?_); rintro e w15 ⟨rfl, hb⟩; have n0_ := Aside0.mk (below_step (zz0 HB) hb); clear HB; have HB := n0_; clear n0_; (try clear hb); have p229 : 0 ≤ (x3_1 : Int) := ofD; have q229 : x3_1 < (l0.length : Int) := ofD; obtain ⟨ad229, e229, hx229_0, hx229_1, hx229_2, hx229_3⟩ := at_T36 HR0.out x3_1 p229 q229; obtain rfl : ad227 = ad229 := (by injection e229); replace hx229_0 := (HB.out.cell (World.block_lt_of_cell? w _ hx229_0)).trans hx229_0; replace hx229_1 := (HB.out.cell (World.block_lt_of_cell? w _ hx229_1)).trans hx229_1; replace hx229_2 := (HB.out.cell (World.block_lt_of_cell? w _ hx229_2)).trans hx229_2; replace hx229_3 := (HB.out.cell (World.block_lt_of_cell? w _ hx229_3)).trans hx229_3; replace p229 := eq_true p229; replace q229 := eq_true q229; have p230 : 0 ≤ (x3_1 : Int) := ofD; have q230 : x3_1 < (l0.length : Int) := ofD; obtain ⟨ad230, e230, hx230_0, hx230_1, hx230_2, hx230_3⟩ := at_T36 HR0.out x3_1 p230 q230; obtain rfl : ad227 = ad230 := (by injection e230); replace hx230_0 := (HB.out.cell (World.block_lt_of_cell? w _ hx230_0)).trans hx230_0; replace hx230_1 := (HB.out.cell (World.block_lt_of_cell? w _ hx230_1)).trans hx230_1; replace hx230_2 := (HB.out.cell (World.block_lt_of_cell? w _ hx230_2)).trans hx230_2; replace hx230_3 := (HB.out.cell (World.block_lt_of_cell? w _ hx230_3)).trans hx230_3; replace p230 := eq_true p230; replace q230 := eq_true q230) | (go_at_call 14; (with_reducible refine (spec_l6In.calls ((rd_T36 l0 x3_1).f3) 0 9 true _ A9.out).mono ?_); rintro e w' ⟨rfl, ⟨nd, rfl⟩⟩; (try first | exact ⟨rfl, _, World.drewN_drewN _ _ _⟩ | exact ⟨rfl, _, Eq.trans (World.drewN_drewN _ _ _) (congrArg (World.drewN _) (Nat.add_assoc _ _ _))⟩); have p232 : 0 ≤ (x3_1 : Int) := ofD; have q232 : x3_1 < (l0.length : Int) := ofD; obtain ⟨ad232, e232, hx232_0, hx232_1, hx232_2, hx232_3⟩ := at_T36 HR0.out x3_1 p232 q232; obtain rfl : ad227 = ad232 := (by injection e232); replace hx232_0 := (HB.out.cell (World.block_lt_of_cell? w _ hx232_0)).trans hx232_0; replace hx232_1 := (HB.out.cell (World.block_lt_of_cell? w _ hx232_1)).trans hx232_1; replace hx232_2 := (HB.out.cell (World.block_lt_of_cell? w _ hx232_2)).trans hx232_2; replace hx232_3 := (HB.out.cell (World.block_lt_of_cell? w _ hx232_3)).trans hx232_3; replace p232 := eq_true p232; replace q232 := eq_true q232; have p233 : 0 ≤ (x3_1 : Int) := ofD; have q233 : x3_1 < (l0.length : Int) := ofD; obtain ⟨ad233, e233, hx233_0, hx233_1, hx233_2, hx233_3⟩ := at_T36 HR0.out x3_1 p233 q233; obtain rfl : ad227 = ad233 := (by injection e233); replace hx233_0 := (HB.out.cell (World.block_lt_of_cell? w _ hx233_0)).trans hx233_0; replace hx233_1 := (HB.out.cell (World.block_lt_of_cell? w _ hx233_1)).trans hx233_1; replace hx233_2 := (HB.out.cell (World.block_lt_of_cell? w _ hx233_2)).trans hx233_2; replace hx233_3 := (HB.out.cell (World.block_lt_of_cell? w _ hx233_3)).trans hx233_3; replace p233 := eq_true p233; replace q233 := eq_true q233; have p234 : 0 ≤ (x3_1 : Int) := ofD; have q234 : x3_1 < (l0.length : Int) := ofD; obtain ⟨ad234, e234, hx234_0, hx234_1, hx234_2, hx234_3⟩ := at_T36 HR0.out x3_1 p234 q234; obtain rfl : ad227 = ad234 := (by injection e234); replace hx234_0 := (HB.out.cell (World.block_lt_of_cell? w _ hx234_0)).trans hx234_0; replace hx234_1 := (HB.out.cell (World.block_lt_of_cell? w _ hx234_1)).trans hx234_1; replace hx234_2 := (HB.out.cell (World.block_lt_of_cell? w _ hx234_2)).trans hx234_2; replace hx234_3 := (HB.out.cell (World.block_lt_of_cell? w _ hx234_3)).trans hx234_3; replace p234 := eq_true p234; replace q234 := eq_true q234) | (go_at_call 13; (with_reducible refine (spec_l11Norm.calls k1 ((rd_T36 l0 x3_1).f2) t235 _ A14.out).mono ?_); rintro e w16 ⟨rfl, hb⟩; have n0_ := Aside0.mk (below_step (zz0 HB) hb); clear HB; have HB := n0_; clear n0_; (try clear hb)))
           repeat (go_quiet (first | (go_at_call 13; (with_reducible refine (spec_l11Norm.calls k1 ((rd_T36 l0 x3_1).f0) true _ A5.out).mono ?_); rintro e w15 ⟨rfl, hb⟩; have n0_ := Aside0.mk (below_step (zz0 HB) hb); clear HB; have HB := n0_; clear n0_; (try clear hb); have p229 : 0 ≤ (x3_1 : Int) := ofD; have q229 : x3_1 < (l0.length : Int) := ofD; obtain ⟨ad229, e229, hx229_0, hx229_1, hx229_2, hx229_3⟩ := at_T36 HR0.out x3_1 p229 q229; obtain rfl : ad227 = ad229 := (by injection e229); replace hx229_0 := (HB.out.cell (World.block_lt_of_cell? w _ hx229_0)).trans hx229_0; replace hx229_1 := (HB.out.cell (World.block_lt_of_cell? w _ hx229_1)).trans hx229_1; replace hx229_2 := (HB.out.cell (World.block_lt_of_cell? w _ hx229_2)).trans hx229_2; replace hx229_3 := (HB.out.cell (World.block_lt_of_cell? w _ hx229_3)).trans hx229_3; replace p229 := eq_true p229; replace q229 := eq_true q229; have p230 : 0 ≤ (x3_1 : Int) := ofD; have q230 : x3_1 < (l0.length : Int) := ofD; obtain ⟨ad230, e230, hx230_0, hx230_1, hx230_2, hx230_3⟩ := at_T36 HR0.out x3_1 p230 q230; obtain rfl : ad227 = ad230 := (by injection e230); replace hx230_0 := (HB.out.cell (World.block_lt_of_cell? w _ hx230_0)).trans hx230_0; replace hx230_1 := (HB.out.cell (World.block_lt_of_cell? w _ hx230_1)).trans hx230_1; replace hx230_2 := (HB.out.cell (World.block_lt_of_cell? w _ hx230_2)).trans hx230_2; replace hx230_3 := (HB.out.cell (World.block_lt_of_cell? w _ hx230_3)).trans hx230_3; replace p230 := eq_true p230; replace q230 := eq_true q230) | (go_at_call 14; (with_reducible refine (spec_l6In.calls ((rd_T36 l0 x3_1).f3) 0 9 true _ A9.out).mono ?_); rintro e w' ⟨rfl, ⟨nd, rfl⟩⟩; (try first | exact ⟨rfl, _, World.drewN_drewN _ _ _⟩ | exact ⟨rfl, _, Eq.trans (World.drewN_drewN _ _ _) (congrArg (World.drewN _) (Nat.add_assoc _ _ _))⟩); have p232 : 0 ≤ (x3_1 : Int) := ofD; have q232 : x3_1 < (l0.length : Int) := ofD; obtain ⟨ad232, e232, hx232_0, hx232_1, hx232_2, hx232_3⟩ := at_T36 HR0.out x3_1 p232 q232; obtain rfl : ad227 = ad232 := (by injection e232); replace hx232_0 := (HB.out.cell (World.block_lt_of_cell? w _ hx232_0)).trans hx232_0; replace hx232_1 := (HB.out.cell (World.block_lt_of_cell? w _ hx232_1)).trans hx232_1; replace hx232_2 := (HB.out.cell (World.block_lt_of_cell? w _ hx232_2)).trans hx232_2; replace hx232_3 := (HB.out.cell (World.block_lt_of_cell? w _ hx232_3)).trans hx232_3; replace p232 := eq_true p232; replace q232 := eq_true q232; have p233 : 0 ≤ (x3_1 : Int) := ofD; have q233 : x3_1 < (l0.length : Int) := ofD; obtain ⟨ad233, e233, hx233_0, hx233_1, hx233_2, hx233_3⟩ := at_T36 HR0.out x3_1 p233 q233; obtain rfl : ad227 = ad233 := (by injection e233); replace hx233_0 := (HB.out.cell (World.block_lt_of_cell? w _ hx233_0)).trans hx233_0; replace hx233_1 := (HB.out.cell (World.block_lt_of_cell? w _ hx233_1)).trans hx233_1; replace hx233_2 := (HB.out.cell (World.block_lt_of_cell? w _ hx233_2)).trans hx233_2; replace hx233_3 := (HB.out.cell (World.block_lt_of_cell? w _ hx233_3)).trans hx233_3; replace p233 := eq_true p233; replace q233 := eq_true q233; have p234 : 0 ≤ (x3_1 : Int) := ofD; have q234 : x3_1 < (l0.length : Int) := ofD; obtain ⟨ad234, e234, hx234_0, hx234_1, hx234_2, hx234_3⟩ := at_T36 HR0.out x3_1 p234 q234; obtain rfl : ad227 = ad234 := (by injection e234); replace hx234_0 := (HB.out.cell (World.block_lt_of_cell? w _ hx234_0)).trans hx234_0; replace hx234_1 := (HB.out.cell (World.block_lt_of_cell? w _ hx234_1)).trans hx234_1; replace hx234_2 := (HB.out.cell (World.block_lt_of_cell? w _ hx234_2)).trans hx234_2; replace hx234_3 := (HB.out.cell (World.block_lt_of_cell? w _ hx234_3)).trans hx234_3; replace p234 := eq_true p234; replace q234 := eq_true q234) | (go_at_call 13; (with_reducible refine (spec_l11Norm.calls k1 ((rd_T36 l0 x3_1).f2) t235 _ A14.out).mono ?_); rintro e w16 ⟨rfl, hb⟩; have n0_ := Aside0.mk (below_step (zz0 HB) hb); clear HB; have HB := n0_; clear n0_; (try clear hb))); try go_wp2_with (first | (go_at_call 13; (with_reducible refine (spec_l11Norm.calls k1 ((rd_T36 l0 x3_1).f0) true _ A5.out).mono ?_); rintro e w15 ⟨rfl, hb⟩; have n0_ := Aside0.mk (below_step (zz0 HB) hb); clear HB; have HB := n0_; clear n0_; (try clear hb); have p229 : 0 ≤ (x3_1 : Int) := ofD; have q229 : x3_1 < (l0.length : Int) := ofD; obtain ⟨ad229, e229, hx229_0, hx229_1, hx229_2, hx229_3⟩ := at_T36 HR0.out x3_1 p229 q229; obtain rfl : ad227 = ad229 := (by injection e229); replace hx229_0 := (HB.out.cell (World.block_lt_of_cell? w _ hx229_0)).trans hx229_0; replace hx229_1 := (HB.out.cell (World.block_lt_of_cell? w _ hx229_1)).trans hx229_1; replace hx229_2 := (HB.out.cell (World.block_lt_of_cell? w _ hx229_2)).trans hx229_2; replace hx229_3 := (HB.out.cell (World.block_lt_of_cell? w _ hx229_3)).trans hx229_3; replace p229 := eq_true p229; replace q229 := eq_true q229; have p230 : 0 ≤ (x3_1 : Int) := ofD; have q230 : x3_1 < (l0.length : Int) := ofD; obtain ⟨ad230, e230, hx230_0, hx230_1, hx230_2, hx230_3⟩ := at_T36 HR0.out x3_1 p230 q230; obtain rfl : ad227 = ad230 := (by injection e230); replace hx230_0 := (HB.out.cell (World.block_lt_of_cell? w _ hx230_0)).trans hx230_0; replace hx230_1 := (HB.out.cell (World.block_lt_of_cell? w _ hx230_1)).trans hx230_1; replace hx230_2 := (HB.out.cell (World.block_lt_of_cell? w _ hx230_2)).trans hx230_2; replace hx230_3 := (HB.out.cell (World.block_lt_of_cell? w _ hx230_3)).trans hx230_3; replace p230 := eq_true p230; replace q230 := eq_true q230) | (go_at_call 14; (with_reducible refine (spec_l6In.calls ((rd_T36 l0 x3_1).f3) 0 9 true _ A9.out).mono ?_); rintro e w' ⟨rfl, ⟨nd, rfl⟩⟩; (try first | exact ⟨rfl, _, World.drewN_drewN _ _ _⟩ | exact ⟨rfl, _, Eq.trans (World.drewN_drewN _ _ _) (congrArg (World.drewN _) (Nat.add_assoc _ _ _))⟩); have p232 : 0 ≤ (x3_1 : Int) := ofD; have q232 : x3_1 < (l0.length : Int) := ofD; obtain ⟨ad232, e232, hx232_0, hx232_1, hx232_2, hx232_3⟩ := at_T36 HR0.out x3_1 p232 q232; obtain rfl : ad227 = ad232 := (by injection e232); replace hx232_0 := (HB.out.cell (World.block_lt_of_cell? w _ hx232_0)).trans hx232_0; replace hx232_1 := (HB.out.cell (World.block_lt_of_cell? w _ hx232_1)).trans hx232_1; replace hx232_2 := (HB.out.cell (World.block_lt_of_cell? w _ hx232_2)).trans hx232_2; replace hx232_3 := (HB.out.cell (World.block_lt_of_cell? w _ hx232_3)).trans hx232_3; replace p232 := eq_true p232; replace q232 := eq_true q232; have p233 : 0 ≤ (x3_1 : Int) := ofD; have q233 : x3_1 < (l0.length : Int) := ofD; obtain ⟨ad233, e233, hx233_0, hx233_1, hx233_2, hx233_3⟩ := at_T36 HR0.out x3_1 p233 q233; obtain rfl : ad227 = ad233 := (by injection e233); replace hx233_0 := (HB.out.cell (World.block_lt_of_cell? w _ hx233_0)).trans hx233_0; replace hx233_1 := (HB.out.cell (World.block_lt_of_cell? w _ hx233_1)).trans hx233_1; replace hx233_2 := (HB.out.cell (World.block_lt_of_cell? w _ hx233_2)).trans hx233_2; replace hx233_3 := (HB.out.cell (World.block_lt_of_cell? w _ hx233_3)).trans hx233_3; replace p233 := eq_true p233; replace q233 := eq_true q233; have p234 : 0 ≤ (x3_1 : Int) := ofD; have q234 : x3_1 < (l0.length : Int) := ofD; obtain ⟨ad234, e234, hx234_0, hx234_1, hx234_2, hx234_3⟩ := at_T36 HR0.out x3_1 p234 q234; obtain rfl : ad227 = ad234 := (by injection e234); replace hx234_0 := (HB.out.cell (World.block_lt_of_cell? w _ hx234_0)).trans hx234_0; replace hx234_1 := (HB.out.cell (World.block_lt_of_cell? w _ hx234_1)).trans hx234_1; replace hx234_2 := (HB.out.cell (World.block_lt_of_cell? w _ hx234_2)).trans hx234_2; replace hx234_3 := (HB.out.cell (World.block_lt_of_cell? w _ hx234_3)).trans hx234_3; replace p234 := eq_true p234; replace q234 := eq_true q234) | (go_at_call 13; (with_reducible refine (spec_l11Norm.calls k1 ((rd_T36 l0 x3_1).f2) t235 _ A14.out).mono ?_); rintro e w16 ⟨rfl, hb⟩; have n0_ := Aside0.mk (below_step (zz0 HB) hb); clear HB; have HB := n0_; clear n0_; (try clear hb))))
           go_meet
           case rel => exact ⟨_, (!t235), zz3, H', ⟨(zz11 HK1)⟩, ⟨(zz0 HB)⟩⟩
          ·rw [if_neg c13] at H
           have c13b0 : (((rd_T36 l0 x3_1).f1).toList == ([] : List UInt8)) = false := beq_eq_false_iff_ne.mpr c13;have c13b1 : (((rd_T36 l0 x3_1).f1).toList != ([] : List UInt8)) = true := bne_iff_ne.mpr c13;have H' := Aside0.mk H;clear H;have p227 : 0 ≤ (x3_1 : Int) := ofD;have q227 : x3_1 < (l0.length : Int) := ofD;obtain ⟨ad227, e227, hx227_0, hx227_1, hx227_2, hx227_3⟩ := at_T36 HR0.out x3_1 p227 q227;cases e227
           replace hx227_0 := (HB.out.cell (World.block_lt_of_cell? w _ hx227_0)).trans hx227_0;replace hx227_1 := (HB.out.cell (World.block_lt_of_cell? w _ hx227_1)).trans hx227_1;replace hx227_2 := (HB.out.cell (World.block_lt_of_cell? w _ hx227_2)).trans hx227_2;replace hx227_3 := (HB.out.cell (World.block_lt_of_cell? w _ hx227_3)).trans hx227_3;replace p227 := eq_true p227;replace q227 := eq_true q227;go_wp2_with (first | (go_at_call 13; (with_reducible refine (spec_l11Norm.calls k1 ((rd_T36 l0 x3_1).f0) true _ A5.out).mono ?_); rintro e w17 ⟨rfl, hb⟩; have n0_ := Aside0.mk (below_step (zz0 HB) hb); clear HB; have HB := n0_; clear n0_; (try clear hb); have p229 : 0 ≤ (x3_1 : Int) := ofD; have q229 : x3_1 < (l0.length : Int) := ofD; obtain ⟨ad229, e229, hx229_0, hx229_1, hx229_2, hx229_3⟩ := at_T36 HR0.out x3_1 p229 q229; obtain rfl : ad227 = ad229 := (by injection e229); replace hx229_0 := (HB.out.cell (World.block_lt_of_cell? w _ hx229_0)).trans hx229_0; replace hx229_1 := (HB.out.cell (World.block_lt_of_cell? w _ hx229_1)).trans hx229_1; replace hx229_2 := (HB.out.cell (World.block_lt_of_cell? w _ hx229_2)).trans hx229_2; replace hx229_3 := (HB.out.cell (World.block_lt_of_cell? w _ hx229_3)).trans hx229_3; replace p229 := eq_true p229; replace q229 := eq_true q229; have p230 : 0 ≤ (x3_1 : Int) := ofD; have q230 : x3_1 < (l0.length : Int) := ofD; obtain ⟨ad230, e230, hx230_0, hx230_1, hx230_2, hx230_3⟩ := at_T36 HR0.out x3_1 p230 q230; obtain rfl : ad227 = ad230 := (by injection e230); replace hx230_0 := (HB.out.cell (World.block_lt_of_cell? w _ hx230_0)).trans hx230_0; replace hx230_1 := (HB.out.cell (World.block_lt_of_cell? w _ hx230_1)).trans hx230_1; replace hx230_2 := (HB.out.cell (World.block_lt_of_cell? w _ hx230_2)).trans hx230_2; replace hx230_3 := (HB.out.cell (World.block_lt_of_cell? w _ hx230_3)).trans hx230_3; replace p230 := eq_true p230; replace q230 := eq_true q230) | (go_at_call 14; (with_reducible refine (spec_l6In.calls ((rd_T36 l0 x3_1).f3) 0 9 true _ A9.out).mono ?_); rintro e w' ⟨rfl, ⟨nd, rfl⟩⟩; (try first | exact ⟨rfl, _, World.drewN_drewN _ _ _⟩ | exact ⟨rfl, _, Eq.trans (World.drewN_drewN _ _ _) (congrArg (World.drewN _) (Nat.add_assoc _ _ _))⟩); have p232 : 0 ≤ (x3_1 : Int) := ofD; have q232 : x3_1 < (l0.length : Int) := ofD; obtain ⟨ad232, e232, hx232_0, hx232_1, hx232_2, hx232_3⟩ := at_T36 HR0.out x3_1 p232 q232; obtain rfl : ad227 = ad232 := (by injection e232); replace hx232_0 := (HB.out.cell (World.block_lt_of_cell? w _ hx232_0)).trans hx232_0; replace hx232_1 := (HB.out.cell (World.block_lt_of_cell? w _ hx232_1)).trans hx232_1; replace hx232_2 := (HB.out.cell (World.block_lt_of_cell? w _ hx232_2)).trans hx232_2; replace hx232_3 := (HB.out.cell (World.block_lt_of_cell? w _ hx232_3)).trans hx232_3; replace p232 := eq_true p232; replace q232 := eq_true q232; have p233 : 0 ≤ (x3_1 : Int) := ofD; have q233 : x3_1 < (l0.length : Int) := ofD; obtain ⟨ad233, e233, hx233_0, hx233_1, hx233_2, hx233_3⟩ := at_T36 HR0.out x3_1 p233 q233; obtain rfl : ad227 = ad233 := (by injection e233); replace hx233_0 := (HB.out.cell (World.block_lt_of_cell? w _ hx233_0)).trans hx233_0; replace hx233_1 := (HB.out.cell (World.block_lt_of_cell? w _ hx233_1)).trans hx233_1; replace hx233_2 := (HB.out.cell (World.block_lt_of_cell? w _ hx233_2)).trans hx233_2; replace hx233_3 := (HB.out.cell (World.block_lt_of_cell? w _ hx233_3)).trans hx233_3; replace p233 := eq_true p233; replace q233 := eq_true q233))
           repeat (go_quiet (first | (go_at_call 13; (with_reducible refine (spec_l11Norm.calls k1 ((rd_T36 l0 x3_1).f0) true _ A5.out).mono ?_); rintro e w17 ⟨rfl, hb⟩; have n0_ := Aside0.mk (below_step (zz0 HB) hb); clear HB; have HB := n0_; clear n0_; (try clear hb); have p229 : 0 ≤ (x3_1 : Int) := ofD; have q229 : x3_1 < (l0.length : Int) := ofD; obtain ⟨ad229, e229, hx229_0, hx229_1, hx229_2, hx229_3⟩ := at_T36 HR0.out x3_1 p229 q229; obtain rfl : ad227 = ad229 := (by injection e229); replace hx229_0 := (HB.out.cell (World.block_lt_of_cell? w _ hx229_0)).trans hx229_0; replace hx229_1 := (HB.out.cell (World.block_lt_of_cell? w _ hx229_1)).trans hx229_1; replace hx229_2 := (HB.out.cell (World.block_lt_of_cell? w _ hx229_2)).trans hx229_2; replace hx229_3 := (HB.out.cell (World.block_lt_of_cell? w _ hx229_3)).trans hx229_3; replace p229 := eq_true p229; replace q229 := eq_true q229; have p230 : 0 ≤ (x3_1 : Int) := ofD; have q230 : x3_1 < (l0.length : Int) := ofD; obtain ⟨ad230, e230, hx230_0, hx230_1, hx230_2, hx230_3⟩ := at_T36 HR0.out x3_1 p230 q230; obtain rfl : ad227 = ad230 := (by injection e230); replace hx230_0 := (HB.out.cell (World.block_lt_of_cell? w _ hx230_0)).trans hx230_0; replace hx230_1 := (HB.out.cell (World.block_lt_of_cell? w _ hx230_1)).trans hx230_1; replace hx230_2 := (HB.out.cell (World.block_lt_of_cell? w _ hx230_2)).trans hx230_2; replace hx230_3 := (HB.out.cell (World.block_lt_of_cell? w _ hx230_3)).trans hx230_3; replace p230 := eq_true p230; replace q230 := eq_true q230) | (go_at_call 14; (with_reducible refine (spec_l6In.calls ((rd_T36 l0 x3_1).f3) 0 9 true _ A9.out).mono ?_); rintro e w' ⟨rfl, ⟨nd, rfl⟩⟩; (try first | exact ⟨rfl, _, World.drewN_drewN _ _ _⟩ | exact ⟨rfl, _, Eq.trans (World.drewN_drewN _ _ _) (congrArg (World.drewN _) (Nat.add_assoc _ _ _))⟩); have p232 : 0 ≤ (x3_1 : Int) := ofD; have q232 : x3_1 < (l0.length : Int) := ofD; obtain ⟨ad232, e232, hx232_0, hx232_1, hx232_2, hx232_3⟩ := at_T36 HR0.out x3_1 p232 q232; obtain rfl : ad227 = ad232 := (by injection e232); replace hx232_0 := (HB.out.cell (World.block_lt_of_cell? w _ hx232_0)).trans hx232_0; replace hx232_1 := (HB.out.cell (World.block_lt_of_cell? w _ hx232_1)).trans hx232_1; replace hx232_2 := (HB.out.cell (World.block_lt_of_cell? w _ hx232_2)).trans hx232_2; replace hx232_3 := (HB.out.cell (World.block_lt_of_cell? w _ hx232_3)).trans hx232_3; replace p232 := eq_true p232; replace q232 := eq_true q232; have p233 : 0 ≤ (x3_1 : Int) := ofD; have q233 : x3_1 < (l0.length : Int) := ofD; obtain ⟨ad233, e233, hx233_0, hx233_1, hx233_2, hx233_3⟩ := at_T36 HR0.out x3_1 p233 q233; obtain rfl : ad227 = ad233 := (by injection e233); replace hx233_0 := (HB.out.cell (World.block_lt_of_cell? w _ hx233_0)).trans hx233_0; replace hx233_1 := (HB.out.cell (World.block_lt_of_cell? w _ hx233_1)).trans hx233_1; replace hx233_2 := (HB.out.cell (World.block_lt_of_cell? w _ hx233_2)).trans hx233_2; replace hx233_3 := (HB.out.cell (World.block_lt_of_cell? w _ hx233_3)).trans hx233_3; replace p233 := eq_true p233; replace q233 := eq_true q233)); try go_wp2_with (first | (go_at_call 13; (with_reducible refine (spec_l11Norm.calls k1 ((rd_T36 l0 x3_1).f0) true _ A5.out).mono ?_); rintro e w17 ⟨rfl, hb⟩; have n0_ := Aside0.mk (below_step (zz0 HB) hb); clear HB; have HB := n0_; clear n0_; (try clear hb); have p229 : 0 ≤ (x3_1 : Int) := ofD; have q229 : x3_1 < (l0.length : Int) := ofD; obtain ⟨ad229, e229, hx229_0, hx229_1, hx229_2, hx229_3⟩ := at_T36 HR0.out x3_1 p229 q229; obtain rfl : ad227 = ad229 := (by injection e229); replace hx229_0 := (HB.out.cell (World.block_lt_of_cell? w _ hx229_0)).trans hx229_0; replace hx229_1 := (HB.out.cell (World.block_lt_of_cell? w _ hx229_1)).trans hx229_1; replace hx229_2 := (HB.out.cell (World.block_lt_of_cell? w _ hx229_2)).trans hx229_2; replace hx229_3 := (HB.out.cell (World.block_lt_of_cell? w _ hx229_3)).trans hx229_3; replace p229 := eq_true p229; replace q229 := eq_true q229; have p230 : 0 ≤ (x3_1 : Int) := ofD; have q230 : x3_1 < (l0.length : Int) := ofD; obtain ⟨ad230, e230, hx230_0, hx230_1, hx230_2, hx230_3⟩ := at_T36 HR0.out x3_1 p230 q230; obtain rfl : ad227 = ad230 := (by injection e230); replace hx230_0 := (HB.out.cell (World.block_lt_of_cell? w _ hx230_0)).trans hx230_0; replace hx230_1 := (HB.out.cell (World.block_lt_of_cell? w _ hx230_1)).trans hx230_1; replace hx230_2 := (HB.out.cell (World.block_lt_of_cell? w _ hx230_2)).trans hx230_2; replace hx230_3 := (HB.out.cell (World.block_lt_of_cell? w _ hx230_3)).trans hx230_3; replace p230 := eq_true p230; replace q230 := eq_true q230) | (go_at_call 14; (with_reducible refine (spec_l6In.calls ((rd_T36 l0 x3_1).f3) 0 9 true _ A9.out).mono ?_); rintro e w' ⟨rfl, ⟨nd, rfl⟩⟩; (try first | exact ⟨rfl, _, World.drewN_drewN _ _ _⟩ | exact ⟨rfl, _, Eq.trans (World.drewN_drewN _ _ _) (congrArg (World.drewN _) (Nat.add_assoc _ _ _))⟩); have p232 : 0 ≤ (x3_1 : Int) := ofD; have q232 : x3_1 < (l0.length : Int) := ofD; obtain ⟨ad232, e232, hx232_0, hx232_1, hx232_2, hx232_3⟩ := at_T36 HR0.out x3_1 p232 q232; obtain rfl : ad227 = ad232 := (by injection e232); replace hx232_0 := (HB.out.cell (World.block_lt_of_cell? w _ hx232_0)).trans hx232_0; replace hx232_1 := (HB.out.cell (World.block_lt_of_cell? w _ hx232_1)).trans hx232_1; replace hx232_2 := (HB.out.cell (World.block_lt_of_cell? w _ hx232_2)).trans hx232_2; replace hx232_3 := (HB.out.cell (World.block_lt_of_cell? w _ hx232_3)).trans hx232_3; replace p232 := eq_true p232; replace q232 := eq_true q232; have p233 : 0 ≤ (x3_1 : Int) := ofD; have q233 : x3_1 < (l0.length : Int) := ofD; obtain ⟨ad233, e233, hx233_0, hx233_1, hx233_2, hx233_3⟩ := at_T36 HR0.out x3_1 p233 q233; obtain rfl : ad227 = ad233 := (by injection e233); replace hx233_0 := (HB.out.cell (World.block_lt_of_cell? w _ hx233_0)).trans hx233_0; replace hx233_1 := (HB.out.cell (World.block_lt_of_cell? w _ hx233_1)).trans hx233_1; replace hx233_2 := (HB.out.cell (World.block_lt_of_cell? w _ hx233_2)).trans hx233_2; replace hx233_3 := (HB.out.cell (World.block_lt_of_cell? w _ hx233_3)).trans hx233_3; replace p233 := eq_true p233; replace q233 := eq_true q233)))
           go_meet
           case rel => exact ⟨_, (true), zz3, H', ⟨(zz11 HK1)⟩, ⟨(zz0 HB)⟩⟩
        ·replace c10 := Bool.eq_false_iff.mpr c10
         subst c10;rw [if_neg (show ¬ (false = true) by decide)] at H;have H' := Aside0.mk H;clear H;have p227 : 0 ≤ (x3_1 : Int) := ofD;have q227 : x3_1 < (l0.length : Int) := ofD;obtain ⟨ad227, e227, hx227_0, hx227_1, hx227_2, hx227_3⟩ := at_T36 HR0.out x3_1 p227 q227;cases e227
         replace hx227_0 := (HB.out.cell (World.block_lt_of_cell? w _ hx227_0)).trans hx227_0;replace hx227_1 := (HB.out.cell (World.block_lt_of_cell? w _ hx227_1)).trans hx227_1;replace hx227_2 := (HB.out.cell (World.block_lt_of_cell? w _ hx227_2)).trans hx227_2;replace hx227_3 := (HB.out.cell (World.block_lt_of_cell? w _ hx227_3)).trans hx227_3;replace p227 := eq_true p227;replace q227 := eq_true q227;go_wp2_with (first | (go_at_call 13; (with_reducible refine (spec_l11Norm.calls k1 ((rd_T36 l0 x3_1).f0) true _ A5.out).mono ?_); rintro e w18 ⟨rfl, hb⟩; have n0_ := Aside0.mk (below_step (zz0 HB) hb); clear HB; have HB := n0_; clear n0_; (try clear hb); have p229 : 0 ≤ (x3_1 : Int) := ofD; have q229 : x3_1 < (l0.length : Int) := ofD; obtain ⟨ad229, e229, hx229_0, hx229_1, hx229_2, hx229_3⟩ := at_T36 HR0.out x3_1 p229 q229; obtain rfl : ad227 = ad229 := (by injection e229); replace hx229_0 := (HB.out.cell (World.block_lt_of_cell? w _ hx229_0)).trans hx229_0; replace hx229_1 := (HB.out.cell (World.block_lt_of_cell? w _ hx229_1)).trans hx229_1; replace hx229_2 := (HB.out.cell (World.block_lt_of_cell? w _ hx229_2)).trans hx229_2; replace hx229_3 := (HB.out.cell (World.block_lt_of_cell? w _ hx229_3)).trans hx229_3; replace p229 := eq_true p229; replace q229 := eq_true q229; have p230 : 0 ≤ (x3_1 : Int) := ofD; have q230 : x3_1 < (l0.length : Int) := ofD; obtain ⟨ad230, e230, hx230_0, hx230_1, hx230_2, hx230_3⟩ := at_T36 HR0.out x3_1 p230 q230; obtain rfl : ad227 = ad230 := (by injection e230); replace hx230_0 := (HB.out.cell (World.block_lt_of_cell? w _ hx230_0)).trans hx230_0; replace hx230_1 := (HB.out.cell (World.block_lt_of_cell? w _ hx230_1)).trans hx230_1; replace hx230_2 := (HB.out.cell (World.block_lt_of_cell? w _ hx230_2)).trans hx230_2; replace hx230_3 := (HB.out.cell (World.block_lt_of_cell? w _ hx230_3)).trans hx230_3; replace p230 := eq_true p230; replace q230 := eq_true q230) | (go_at_call 14; (with_reducible refine (spec_l6In.calls ((rd_T36 l0 x3_1).f3) 0 9 false _ A9.out).mono ?_); rintro e w' ⟨rfl, ⟨nd, rfl⟩⟩; (try first | exact ⟨rfl, _, World.drewN_drewN _ _ _⟩ | exact ⟨rfl, _, Eq.trans (World.drewN_drewN _ _ _) (congrArg (World.drewN _) (Nat.add_assoc _ _ _))⟩)))
         repeat (go_quiet (first | (go_at_call 13; (with_reducible refine (spec_l11Norm.calls k1 ((rd_T36 l0 x3_1).f0) true _ A5.out).mono ?_); rintro e w18 ⟨rfl, hb⟩; have n0_ := Aside0.mk (below_step (zz0 HB) hb); clear HB; have HB := n0_; clear n0_; (try clear hb); have p229 : 0 ≤ (x3_1 : Int) := ofD; have q229 : x3_1 < (l0.length : Int) := ofD; obtain ⟨ad229, e229, hx229_0, hx229_1, hx229_2, hx229_3⟩ := at_T36 HR0.out x3_1 p229 q229; obtain rfl : ad227 = ad229 := (by injection e229); replace hx229_0 := (HB.out.cell (World.block_lt_of_cell? w _ hx229_0)).trans hx229_0; replace hx229_1 := (HB.out.cell (World.block_lt_of_cell? w _ hx229_1)).trans hx229_1; replace hx229_2 := (HB.out.cell (World.block_lt_of_cell? w _ hx229_2)).trans hx229_2; replace hx229_3 := (HB.out.cell (World.block_lt_of_cell? w _ hx229_3)).trans hx229_3; replace p229 := eq_true p229; replace q229 := eq_true q229; have p230 : 0 ≤ (x3_1 : Int) := ofD; have q230 : x3_1 < (l0.length : Int) := ofD; obtain ⟨ad230, e230, hx230_0, hx230_1, hx230_2, hx230_3⟩ := at_T36 HR0.out x3_1 p230 q230; obtain rfl : ad227 = ad230 := (by injection e230); replace hx230_0 := (HB.out.cell (World.block_lt_of_cell? w _ hx230_0)).trans hx230_0; replace hx230_1 := (HB.out.cell (World.block_lt_of_cell? w _ hx230_1)).trans hx230_1; replace hx230_2 := (HB.out.cell (World.block_lt_of_cell? w _ hx230_2)).trans hx230_2; replace hx230_3 := (HB.out.cell (World.block_lt_of_cell? w _ hx230_3)).trans hx230_3; replace p230 := eq_true p230; replace q230 := eq_true q230) | (go_at_call 14; (with_reducible refine (spec_l6In.calls ((rd_T36 l0 x3_1).f3) 0 9 false _ A9.out).mono ?_); rintro e w' ⟨rfl, ⟨nd, rfl⟩⟩; (try first | exact ⟨rfl, _, World.drewN_drewN _ _ _⟩ | exact ⟨rfl, _, Eq.trans (World.drewN_drewN _ _ _) (congrArg (World.drewN _) (Nat.add_assoc _ _ _))⟩))); try go_wp2_with (first | (go_at_call 13; (with_reducible refine (spec_l11Norm.calls k1 ((rd_T36 l0 x3_1).f0) true _ A5.out).mono ?_); rintro e w18 ⟨rfl, hb⟩; have n0_ := Aside0.mk (below_step (zz0 HB) hb); clear HB; have HB := n0_; clear n0_; (try clear hb); have p229 : 0 ≤ (x3_1 : Int) := ofD; have q229 : x3_1 < (l0.length : Int) := ofD; obtain ⟨ad229, e229, hx229_0, hx229_1, hx229_2, hx229_3⟩ := at_T36 HR0.out x3_1 p229 q229; obtain rfl : ad227 = ad229 := (by injection e229); replace hx229_0 := (HB.out.cell (World.block_lt_of_cell? w _ hx229_0)).trans hx229_0; replace hx229_1 := (HB.out.cell (World.block_lt_of_cell? w _ hx229_1)).trans hx229_1; replace hx229_2 := (HB.out.cell (World.block_lt_of_cell? w _ hx229_2)).trans hx229_2; replace hx229_3 := (HB.out.cell (World.block_lt_of_cell? w _ hx229_3)).trans hx229_3; replace p229 := eq_true p229; replace q229 := eq_true q229; have p230 : 0 ≤ (x3_1 : Int) := ofD; have q230 : x3_1 < (l0.length : Int) := ofD; obtain ⟨ad230, e230, hx230_0, hx230_1, hx230_2, hx230_3⟩ := at_T36 HR0.out x3_1 p230 q230; obtain rfl : ad227 = ad230 := (by injection e230); replace hx230_0 := (HB.out.cell (World.block_lt_of_cell? w _ hx230_0)).trans hx230_0; replace hx230_1 := (HB.out.cell (World.block_lt_of_cell? w _ hx230_1)).trans hx230_1; replace hx230_2 := (HB.out.cell (World.block_lt_of_cell? w _ hx230_2)).trans hx230_2; replace hx230_3 := (HB.out.cell (World.block_lt_of_cell? w _ hx230_3)).trans hx230_3; replace p230 := eq_true p230; replace q230 := eq_true q230) | (go_at_call 14; (with_reducible refine (spec_l6In.calls ((rd_T36 l0 x3_1).f3) 0 9 false _ A9.out).mono ?_); rintro e w' ⟨rfl, ⟨nd, rfl⟩⟩; (try first | exact ⟨rfl, _, World.drewN_drewN _ _ _⟩ | exact ⟨rfl, _, Eq.trans (World.drewN_drewN _ _ _) (congrArg (World.drewN _) (Nat.add_assoc _ _ _))⟩))))
         go_meet
         case rel => exact ⟨_, (true), zz3, H', ⟨(zz11 HK1)⟩, ⟨(zz0 HB)⟩⟩
      ·replace c6 := Bool.eq_false_iff.mpr c6
       subst c6;rw [if_neg (show ¬ (false = true) by decide)] at H;have H' := Aside0.mk H;clear H;have p227 : 0 ≤ (x3_1 : Int) := ofD;have q227 : x3_1 < (l0.length : Int) := ofD;obtain ⟨ad227, e227, hx227_0, hx227_1, hx227_2, hx227_3⟩ := at_T36 HR0.out x3_1 p227 q227;cases e227
       replace hx227_0 := (HB.out.cell (World.block_lt_of_cell? w _ hx227_0)).trans hx227_0;replace hx227_1 := (HB.out.cell (World.block_lt_of_cell? w _ hx227_1)).trans hx227_1;replace hx227_2 := (HB.out.cell (World.block_lt_of_cell? w _ hx227_2)).trans hx227_2;replace hx227_3 := (HB.out.cell (World.block_lt_of_cell? w _ hx227_3)).trans hx227_3;replace p227 := eq_true p227;replace q227 := eq_true q227;go_wp2_with (first | (go_at_call 13; (with_reducible refine (spec_l11Norm.calls k1 ((rd_T36 l0 x3_1).f0) false _ A5.out).mono ?_); rintro e w19 ⟨rfl, hb⟩; have n0_ := Aside0.mk (below_step (zz0 HB) hb); clear HB; have HB := n0_; clear n0_; (try clear hb)))
       repeat (go_quiet (first | (go_at_call 13; (with_reducible refine (spec_l11Norm.calls k1 ((rd_T36 l0 x3_1).f0) false _ A5.out).mono ?_); rintro e w19 ⟨rfl, hb⟩; have n0_ := Aside0.mk (below_step (zz0 HB) hb); clear HB; have HB := n0_; clear n0_; (try clear hb))); try go_wp2_with (first | (go_at_call 13; (with_reducible refine (spec_l11Norm.calls k1 ((rd_T36 l0 x3_1).f0) false _ A5.out).mono ?_); rintro e w19 ⟨rfl, hb⟩; have n0_ := Aside0.mk (below_step (zz0 HB) hb); clear HB; have HB := n0_; clear n0_; (try clear hb))))
       go_meet
       case rel => exact ⟨_, (true), zz3, H', ⟨(zz11 HK1)⟩, ⟨(zz0 HB)⟩⟩
     ·rw [if_neg c4] at H
      exact absurd H (by simp)
    case rest =>
     clear HC3;obtain ⟨kq, x60_2, rfl, HA, HJ2, HB⟩ := hcut;cases kq with
     | zero => exact absurd HA.out (by simp [spec_WorldOk.j1])
     | succ kj2 =>
      have H := HA.out;clear HA;simp only [spec_WorldOk.j1] at H
      by_cases c20 : x60_2 = true
      ·subst c20
       rw [if_pos rfl] at H;obtain rfl := Option.some.inj H;go_wp2
       repeat (go_quiet (fail); try go_wp2)
       go_ret
       exact ⟨zz1, (zz0 HB)⟩
      ·replace c20 := Bool.eq_false_iff.mpr c20
       subst c20;rw [if_neg (show ¬ (false = true) by decide)] at H;have H' := Aside0.mk H;clear H;go_wp2
       repeat (go_quiet (fail); try go_wp2)
       go_loopg [4] kj2 (fun kq v4 w' => ∃ (x4_3 : Int), v4 = .int .i64 x4_3 ∧ Aside0 (spec_WorldOk.l1 kq l0 x3_1 x4_3 = some r) ∧ Aside0 (kq ≤ kj2) ∧ Aside0 (Below w.heap.size w w'))
       case atStart => exact ⟨(0), zz3, H', ⟨Nat.le_refl _⟩, ⟨(zz0 HB)⟩⟩
       case round =>
        clear H';obtain ⟨x4_3, rfl, HA, HK3, HB⟩ := hrel;cases gk with
        | zero => exact absurd HA.out (by simp [spec_WorldOk.l1])
        | succ k3 =>
         have H := HA.out;clear HA;simp only [spec_WorldOk.l1] at H
         by_cases c21 : x4_3 < x3_1
         ·rw [if_pos c21] at H
          have c21b0 : decide (x4_3 < x3_1) = true := decide_eq_true c21;clear c21;by_cases c22 : 0 ≤ x4_3
          ·rw [if_pos c22] at H
           have c22b0 : decide (0 ≤ x4_3) = true := decide_eq_true c22;clear c22;by_cases c23 : x4_3 < (l0.length : Int)
           ·rw [if_pos c23] at H
            have c23b0 : decide (x4_3 < (l0.length : Int)) = true := decide_eq_true c23;clear c23;by_cases c24 : 0 ≤ x3_1
            ·rw [if_pos c24] at H
             have c24b0 : decide (0 ≤ x3_1) = true := decide_eq_true c24;clear c24;by_cases c25 : x3_1 < (l0.length : Int)
             ·rw [if_pos c25] at H
              have c25b0 : decide (x3_1 < (l0.length : Int)) = true := decide_eq_true c25;clear c25;by_cases c26 : ((rd_T36 l0 x4_3).f0).toList = ((rd_T36 l0 x3_1).f0).toList
              ·rw [if_pos c26] at H
               have c26b0 : (((rd_T36 l0 x4_3).f0).toList == ((rd_T36 l0 x3_1).f0).toList) = true := beq_iff_eq.mpr c26;have c26b1 : (((rd_T36 l0 x4_3).f0).toList != ((rd_T36 l0 x3_1).f0).toList) = false := bne_eq_false_iff_eq.mpr c26;clear c26;obtain rfl := Option.some.inj H;have p236 : 0 ≤ (x4_3 : Int) := ofD;have q236 : x4_3 < (l0.length : Int) := ofD;obtain ⟨ad236, e236, hx236_0, hx236_1, hx236_2, hx236_3⟩ := at_T36 HR0.out x4_3 p236 q236;cases e236
               replace hx236_0 := (HB.out.cell (World.block_lt_of_cell? w _ hx236_0)).trans hx236_0;replace hx236_1 := (HB.out.cell (World.block_lt_of_cell? w _ hx236_1)).trans hx236_1;replace hx236_2 := (HB.out.cell (World.block_lt_of_cell? w _ hx236_2)).trans hx236_2;replace hx236_3 := (HB.out.cell (World.block_lt_of_cell? w _ hx236_3)).trans hx236_3;replace p236 := eq_true p236;replace q236 := eq_true q236;have p237 : 0 ≤ (x3_1 : Int) := ofD;have q237 : x3_1 < (l0.length : Int) := ofD;obtain ⟨ad237, e237, hx237_0, hx237_1, hx237_2, hx237_3⟩ := at_T36 HR0.out x3_1 p237 q237;obtain rfl : ad236 = ad237 := (by injection e237);replace hx237_0 := (HB.out.cell (World.block_lt_of_cell? w _ hx237_0)).trans hx237_0;replace hx237_1 := (HB.out.cell (World.block_lt_of_cell? w _ hx237_1)).trans hx237_1;replace hx237_2 := (HB.out.cell (World.block_lt_of_cell? w _ hx237_2)).trans hx237_2;replace hx237_3 := (HB.out.cell (World.block_lt_of_cell? w _ hx237_3)).trans hx237_3;replace p237 := eq_true p237;replace q237 := eq_true q237;go_wp2
               repeat (go_quiet (fail); try go_wp2)
               go_ret
               exact ⟨zz1, (zz0 HB)⟩
              ·rw [if_neg c26] at H
               have c26b0 : (((rd_T36 l0 x4_3).f0).toList == ((rd_T36 l0 x3_1).f0).toList) = false := beq_eq_false_iff_ne.mpr c26;have c26b1 : (((rd_T36 l0 x4_3).f0).toList != ((rd_T36 l0 x3_1).f0).toList) = true := bne_iff_ne.mpr c26;have H' := Aside0.mk H;clear H;have p236 : 0 ≤ (x4_3 : Int) := ofD;have q236 : x4_3 < (l0.length : Int) := ofD;obtain ⟨ad236, e236, hx236_0, hx236_1, hx236_2, hx236_3⟩ := at_T36 HR0.out x4_3 p236 q236;cases e236
               replace hx236_0 := (HB.out.cell (World.block_lt_of_cell? w _ hx236_0)).trans hx236_0;replace hx236_1 := (HB.out.cell (World.block_lt_of_cell? w _ hx236_1)).trans hx236_1;replace hx236_2 := (HB.out.cell (World.block_lt_of_cell? w _ hx236_2)).trans hx236_2;replace hx236_3 := (HB.out.cell (World.block_lt_of_cell? w _ hx236_3)).trans hx236_3;replace p236 := eq_true p236;replace q236 := eq_true q236;have p237 : 0 ≤ (x3_1 : Int) := ofD;have q237 : x3_1 < (l0.length : Int) := ofD;obtain ⟨ad237, e237, hx237_0, hx237_1, hx237_2, hx237_3⟩ := at_T36 HR0.out x3_1 p237 q237;obtain rfl : ad236 = ad237 := (by injection e237);replace hx237_0 := (HB.out.cell (World.block_lt_of_cell? w _ hx237_0)).trans hx237_0;replace hx237_1 := (HB.out.cell (World.block_lt_of_cell? w _ hx237_1)).trans hx237_1;replace hx237_2 := (HB.out.cell (World.block_lt_of_cell? w _ hx237_2)).trans hx237_2;replace hx237_3 := (HB.out.cell (World.block_lt_of_cell? w _ hx237_3)).trans hx237_3;replace p237 := eq_true p237;replace q237 := eq_true q237;go_wp2
               repeat (go_quiet (fail); try go_wp2)
               go_roundg k3
               case measure => have := HK1.out; have := HJ2.out; have := HK3.out; omega
               case rel => exact ⟨(wrap64 (x4_3 + 1)), zz3, H', ⟨(by have := HK1.out; have := HJ2.out; have := HK3.out; omega)⟩, ⟨(zz0 HB)⟩⟩
             ·rw [if_neg c25] at H
              exact absurd H (by simp)
            ·rw [if_neg c24] at H
             exact absurd H (by simp)
           ·rw [if_neg c23] at H
            exact absurd H (by simp)
          ·rw [if_neg c22] at H
           exact absurd H (by simp)
         ·rw [if_neg c21] at H
          have c21b0 : decide (x4_3 < x3_1) = false := decide_eq_false c21;clear c21;have H' := Aside0.mk H;clear H;go_wp2
          repeat (go_quiet (fail); try go_wp2)
          go_roundg k3
          case measure => have := HK1.out; have := HJ2.out; have := HK3.out; omega
          case rel => exact ⟨(wrap64 (x3_1 + 1)), zz3, H', ⟨(by have := HK1.out; have := HJ2.out; have := HK3.out; omega)⟩, ⟨(zz0 HB)⟩⟩
   ·rw [if_neg c2] at H
    have c2b0 : decide (x3_1 < (l0.length : Int)) = false := decide_eq_false c2;clear c2;obtain rfl := Option.some.inj H;go_wp2
    repeat (go_quiet (fail); try go_wp2)
    go_ret
    exact ⟨zz1, (zz0 HB)⟩
def laws_toPage.f (a0_0 : ByteArray) (a0_1 : ByteArray) (a0_2 : ByteArray) (a0_3 : Int) : Option (ByteArray × ByteArray × ByteArray × Int) := some (a0_0, a0_1, a0_2, a0_3)
set_option maxHeartbeats 8000000 in
set_option maxRecDepth 100000 in
theorem laws_toPage.calls (a0_0 : ByteArray) (a0_1 : ByteArray) (a0_2 : ByteArray) (a0_3 : Int) (r1 : ByteArray) (r2 : ByteArray) (r3 : ByteArray) (r4 : Int) (w : World) (h : laws_toPage.f a0_0 a0_1 a0_2 a0_3 = some (r1, r2, r3, r4)) :
  Calls Tryd.prog 15 #[.agg #[.string a0_0, .string a0_1, .string a0_2, .int .i64 a0_3]] w fun e w' => e = .returned (.agg #[.string r1, .string r2, .string r3, .int .i64 r4]) ∧ Below w.heap.size w w' := by
 have hu34 := Tryd.underlying34;have hu36 := Tryd.underlying36;have HB := Aside0.mk (Below.refl w.heap.size w);have H : (some (a0_0, a0_1, a0_2, a0_3)) = some (r1, r2, r3, r4) := h;clear h;simp only [Option.some.injEq, Prod.mk.injEq] at H
 obtain ⟨rfl, rfl, rfl, rfl⟩ := H;go_enter Tryd.func15, Tryd.ntmps15;go_wp2_with (first | ((with_reducible refine gate_dst (N := 1) rfl ?_); refine boxE 1 #[.string a0_0, .string a0_1, .string a0_2, .int .i64 a0_3] 34 ?_; intro gb238 hg w2 hbox hb; have n0_ := Aside0.mk (below_step (zz0 HB) hb); have n1_ := Aside0.mk (hbox); have n2_ := Aside0.mk ((by rw [hg]; exact (below_size (zz0 HB)) : w.heap.size ≤ gb238)); have n3_ := Aside0.mk ((by rw [hg]; exact (below_size (zz0 HB)) : w.heap.size ≤ gb238)); clear HB; have HB := n0_; have BK238 := n1_; have GW238 := n2_; have GE238 := n3_; clear n0_ n1_ n2_ n3_; clear hb hbox hg) | ((with_reducible refine gate_dst (N := 2) rfl ?_); refine boxE 2 #[.string (⟨#[]⟩ : ByteArray), .string (⟨#[]⟩ : ByteArray), .string (⟨#[]⟩ : ByteArray), .int .i64 0] 36 ?_; intro gb239 hg w3 hbox hb; have n0_ := Aside0.mk (blk_below (zz21 BK238) hb); have n1_ := Aside0.mk (below_step (zz2 HB GE238) hb); have n2_ := Aside0.mk (hbox); have n3_ := Aside0.mk ((by rw [hg]; exact (below_size (zz2 HB GE238)) : w.heap.size ≤ gb239)); have n4_ := Aside0.mk ((by rw [hg]; exact (below_size (zz2 HB GE238)) : w.heap.size ≤ gb239)); have n5_ := Aside0.mk ((by rw [hg]; exact Nat.ne_of_lt (blk_lt (zz21 BK238)) : gb238 ≠ gb239)); have n6_ := Aside0.mk ((by rw [hg]; exact Nat.ne_of_gt (blk_lt (zz21 BK238)) : gb239 ≠ gb238)); clear BK238; clear HB; have BK238 := n0_; have HB := n1_; have BK239 := n2_; have GW239 := n3_; have GE239 := n4_; have NB238_239 := n5_; have NB239_238 := n6_; clear n0_ n1_ n2_ n3_ n4_ n5_ n6_; clear hb hbox hg) | ((with_reducible refine gate_dst (N := 3) rfl ?_); refine boxE 3 #[.string (⟨#[]⟩ : ByteArray), .string (⟨#[]⟩ : ByteArray), .string (⟨#[]⟩ : ByteArray), .int .i64 0] 36 ?_; intro gb240 hg w4 hbox hb; have n0_ := Aside0.mk (blk_below (zz21 BK238) hb); have n1_ := Aside0.mk (blk_below (zz21 BK239) hb); have n2_ := Aside0.mk (below_step (zz33 HB GE238 GE239) hb); have n3_ := Aside0.mk (hbox); have n4_ := Aside0.mk ((by rw [hg]; exact (below_size (zz33 HB GE238 GE239)) : w.heap.size ≤ gb240)); have n5_ := Aside0.mk ((by rw [hg]; exact (below_size (zz33 HB GE238 GE239)) : w.heap.size ≤ gb240)); have n6_ := Aside0.mk ((by rw [hg]; exact Nat.ne_of_lt (blk_lt (zz21 BK238)) : gb238 ≠ gb240)); have n7_ := Aside0.mk ((by rw [hg]; exact Nat.ne_of_gt (blk_lt (zz21 BK238)) : gb240 ≠ gb238)); have n8_ := Aside0.mk ((by rw [hg]; exact Nat.ne_of_lt (blk_lt (zz21 BK239)) : gb239 ≠ gb240)); have n9_ := Aside0.mk ((by rw [hg]; exact Nat.ne_of_gt (blk_lt (zz21 BK239)) : gb240 ≠ gb239)); clear BK238; clear BK239; clear HB; have BK238 := n0_; have BK239 := n1_; have HB := n2_; have BK240 := n3_; have GW240 := n4_; have GE240 := n5_; have NB238_240 := n6_; have NB240_238 := n7_; have NB239_240 := n8_; have NB240_239 := n9_; clear n0_ n1_ n2_ n3_ n4_ n5_ n6_ n7_ n8_ n9_; clear hb hbox hg; have hnb5 := NB238_239.out; have hnc5 := NB239_238.out; have hnb6 := NB238_240.out; have hnc6 := NB240_238.out; obtain ⟨_, _, _, _, _, _, _, _⟩ := cf4 BK238; have hnb8 := NB240_239.out; have hnc8 := NB239_240.out; obtain ⟨_, _, _, _, _, _, _, _⟩ := cf4 BK240; obtain ⟨_, _, _, _, _, _, _, _⟩ := cf4 BK239))
 refine bodyPost_ret (results_cell_row rfl _ _ gb239 36 #[.string a0_0, .string a0_1, .string a0_2, .int .i64 a0_3] (0, 0) _ rfl (zz45 BK239 NB239_240) Tryd.underlying36 rfl (by kernel_rfl)) rfl ?_;exact ⟨zz1, (zz42 HB GE238 GE239 GE240)⟩
def laws_toPageS.l0 : Nat → List (S34) → List (S36) → Int → Option ((List (S36)))
 | 0, _, _, _ => none
 | k + 1, x0, x3, x4 => if x4 < (x0.length : Int) then (if 0 ≤ x4 then ((laws_toPage.f ((rd_T34 x0 x4).f0) ((rd_T34 x0 x4).f1) ((rd_T34 x0 x4).f2) ((rd_T34 x0 x4).f3)).bind fun bt245 => (if x4 < (x3.length : Int) then (laws_toPageS.l0 k x0 (x3.set (x4 : Int).toNat (⟨bt245.1, bt245.2.1, bt245.2.2.1, bt245.2.2.2⟩ : S36)) (wrap64 (x4 + 1))) else (none))) else (none)) else (some x3)
def laws_toPageS.f (k : Nat) (l0 : List (S34)) : Option ((List (S36))) := if 0 ≤ (l0.length : Int) then (if ((l0.length : Int) : Int).toNat ≤ 5026338869833 then (laws_toPageS.l0 k l0 (List.replicate ((l0.length : Int) : Int).toNat z36) 0) else (none)) else (none)
set_option maxHeartbeats 8000000 in
set_option maxRecDepth 100000 in
theorem laws_toPageS.calls (k : Nat) (A0 : Option Addr) (c0 : Nat) (l0 : List (S34)) (r : List (S36)) (w : World) (hr0 : Kd.C k34 w A0 l0.length l0) (hc0 : l0.length ≤ c0) (h : laws_toPageS.f k l0 = some r) :
  Calls Tryd.prog 7 #[.slice A0 l0.length c0] w fun e w' => ∃ v0_ : Value, e = .returned (v0_) ∧ Kd.R k36 36 w' w.heap.size (fun _ => True) v0_ r ∧ Below w.heap.size w w' := by
 have hu34 := Tryd.underlying34;have hu36 := Tryd.underlying36;have HR0 := Aside0.mk hr0;have HC0 := Aside0.mk hc0;clear hr0 hc0;have HB := Aside0.mk (Below.refl w.heap.size w);have H : (if 0 ≤ (l0.length : Int) then (if ((l0.length : Int) : Int).toNat ≤ 5026338869833 then (laws_toPageS.l0 k l0 (List.replicate ((l0.length : Int) : Int).toNat z36) 0) else (none)) else (none)) = some r := h;clear h;by_cases c2 : 0 ≤ (l0.length : Int)
 ·rw [if_pos c2] at H
  have c2b0 := eq_true c2;have c2b1 : decide (0 ≤ (l0.length : Int)) = true := decide_eq_true c2;clear c2;by_cases c3 : ((l0.length : Int) : Int).toNat ≤ 5026338869833
  ·rw [if_pos c3] at H
   have c3b0 := eq_true c3;have c3b1 : decide (((l0.length : Int) : Int).toNat ≤ 5026338869833) = true := decide_eq_true c3;clear c3;obtain ⟨y241, Ny241⟩ := toY (List.replicate ((l0.length : Int) : Int).toNat z36);(first | with_reducible replace H := bindZ Ny241 H | rw [← Ny241.out] at H | skip)
   have H' := Aside0.mk H;clear H;go_enter Tryd.func7, Tryd.ntmps7;go_wp2_with (first | ((with_reducible refine gate_dst (N := 7) rfl ?_); refine Kd.R_make k36 _ 36 rfl (N := 7) rfl 25 _ _ rfl (l0.length : Int) rfl rfl Tryd.underlying25 (.agg #[(.string ⟨#[]⟩), (.string ⟨#[]⟩), (.string ⟨#[]⟩), (.int .i64 0)]) 56 info36 rfl (by decide) (by omega) z36 (ok := fun _ => True) (okp := fun _ => True) (k36_mkM _ _ _ z36 ) (fun _ hk => hk) trivial ofD (Nat.le_trans (Nat.mul_le_mul_right _ (ofD : (l0.length : Int).toNat ≤ 5026338869833)) (by omega)) (Below.refl _ _) (Nat.le_refl _) ?_; intro v242 w4 ho5 hb hg_ hnew_; clear hg_ hnew_; (first | rw [← Ny241.out] at ho5 | (simp only [Int.reduceToNat] at ho5; rw [← Ny241.out] at ho5)); have n0_ := Aside0.mk (Kd.R_lower ho5 (below_size (zz0 HB))); have n1_ := Aside0.mk (below_step (zz0 HB) hb); clear HB; have HO243 := n0_; have HB := n1_; clear n0_ n1_; clear hb ho5))
   go_loopg [4] k (fun kq v4 w' => ∃ (x3_1 : List (S36)) (x4_1 : Int), v4 = .int .i64 x4_1 ∧ Aside0 (laws_toPageS.l0 kq l0 x3_1 x4_1 = some r) ∧ Aside0 (kq ≤ k) ∧ Aside0 (Kd.R k36 36 w' w.heap.size (fun _ => True) v242 x3_1) ∧ Aside0 (Below w.heap.size w w'))
   case atStart => exact ⟨(y241), (0), zz3, H', ⟨Nat.le_refl _⟩, ⟨(zz28 HO243)⟩, ⟨(zz0 HB)⟩⟩
   case round =>
    clear H';obtain ⟨x3_1, x4_1, rfl, HA, HK1, HO_3, HB⟩ := hrel;cases gk with
    | zero => exact absurd HA.out (by simp [laws_toPageS.l0])
    | succ k1 =>
     have H := HA.out;clear HA;simp only [laws_toPageS.l0] at H
     by_cases c6 : x4_1 < (l0.length : Int)
     ·rw [if_pos c6] at H
      have c6b0 : decide (x4_1 < (l0.length : Int)) = true := decide_eq_true c6;clear c6;by_cases c7 : 0 ≤ x4_1
      ·rw [if_pos c7] at H
       have c7b0 : decide (0 ≤ x4_1) = true := decide_eq_true c7;clear c7;replace H := bindA H;obtain ⟨⟨t245, t246, t247, t248⟩, A8, H⟩ := H;try dsimp -simprocs only at H
       by_cases c9 : x4_1 < (x3_1.length : Int)
       ·rw [if_pos c9] at H
        have c9b0 : decide (x4_1 < (x3_1.length : Int)) = true := decide_eq_true c9;clear c9;obtain ⟨y249, Ny249⟩ := toY (x3_1.set (x4_1 : Int).toNat (⟨t245, t246, t247, t248⟩ : S36));(first | with_reducible replace H := bindZ Ny249 H | rw [← Ny249.out] at H | skip)
        have H' := Aside0.mk H;clear H;have p244 : 0 ≤ (x4_1 : Int) := ofD;have q244 : x4_1 < (l0.length : Int) := ofD;obtain ⟨ad244, e244, hx244_0, hx244_1, hx244_2, hx244_3⟩ := at_T34 HR0.out x4_1 p244 q244;cases e244
        replace hx244_0 := (HB.out.cell (World.block_lt_of_cell? w _ hx244_0)).trans hx244_0;replace hx244_1 := (HB.out.cell (World.block_lt_of_cell? w _ hx244_1)).trans hx244_1;replace hx244_2 := (HB.out.cell (World.block_lt_of_cell? w _ hx244_2)).trans hx244_2;replace hx244_3 := (HB.out.cell (World.block_lt_of_cell? w _ hx244_3)).trans hx244_3;replace p244 := eq_true p244;replace q244 := eq_true q244;go_wp2_with (first | ((with_reducible refine gate_callee (f := 15) rfl ?_); refine gsL (some 20) Tryd.func15 #[.agg #[.string ((rd_T34 l0 x4_1).f0), .string ((rd_T34 l0 x4_1).f1), .string ((rd_T34 l0 x4_1).f2), .int .i64 ((rd_T34 l0 x4_1).f3)]] ?_; (with_reducible refine (laws_toPage.calls ((rd_T34 l0 x4_1).f0) ((rd_T34 l0 x4_1).f1) ((rd_T34 l0 x4_1).f2) ((rd_T34 l0 x4_1).f3) t245 t246 t247 t248 _ A8.out).mono ?_); rintro e w11 ⟨rfl, hb⟩; refine ⟨_, rfl, ?_⟩; have n0_ := Aside0.mk (Kd.R_below (zz28 HO_3) hb); have n1_ := Aside0.mk (below_step (zz0 HB) hb); clear HO_3; clear HB; have HO_3 := n0_; have HB := n1_; clear n0_ n1_; (try clear hb); have p10 : 0 ≤ (x4_1 : Int) := ofD; have q10 : (x4_1 : Int) < ((x3_1.length : Int) : Int) := ofD; obtain ⟨go10, co10, eo10, gb10, gl10, cl10, HG10⟩ := Kd.R_form HO_3.out (by omega); (first | cases eo10 | (injection eo10 with ea_ en_ ec_; (first | subst ea_ | (injection ea_ with ea_; subst ea_)); subst ec_; clear en_)); have GB10 := Aside0.mk gb10; have GG10 := Aside0.mk HG10; clear gb10 gl10 HG10; obtain ⟨ce10, hcl10, hM10, hcc10, hfr10⟩ := Kd.R_elem HO_3.out z36 (x4_1 : Int) p10 q10; obtain rfl := k36_openM hM10; have hx10_0 : w11.cell? ⟨go10, (x4_1 : Int).toNat * 4, none⟩ = some (.string ((rd_T36 x3_1 x4_1).f0)) := hcc10 0 _ rfl; have hx10_1 : w11.cell? ⟨go10, (x4_1 : Int).toNat * 4 + 1, none⟩ = some (.string ((rd_T36 x3_1 x4_1).f1)) := hcc10 1 _ rfl; have hx10_2 : w11.cell? ⟨go10, (x4_1 : Int).toNat * 4 + 2, none⟩ = some (.string ((rd_T36 x3_1 x4_1).f2)) := hcc10 2 _ rfl; have hx10_3 : w11.cell? ⟨go10, (x4_1 : Int).toNat * 4 + 3, none⟩ = some (.int .i64 ((rd_T36 x3_1 x4_1).f3)) := hcc10 3 _ rfl; have hf10_0 : w11.frozen? ⟨go10, (x4_1 : Int).toNat * 4, none⟩ = false := hfr10 0; have hf10_1 : w11.frozen? ⟨go10, (x4_1 : Int).toNat * 4 + 1, none⟩ = false := hfr10 1; have hf10_2 : w11.frozen? ⟨go10, (x4_1 : Int).toNat * 4 + 2, none⟩ = false := hfr10 2; have hf10_3 : w11.frozen? ⟨go10, (x4_1 : Int).toNat * 4 + 3, none⟩ = false := hfr10 3; clear hcl10 hcc10 hfr10 hM10; replace p10 := eq_true p10; replace q10 := eq_true q10; have HX12 := Aside0.mk (show Kd.R k36 36 w11 w.heap.size (fun _ => True) (.slice (some ⟨go10, 0, none⟩) x3_1.length co10) x3_1 from (zz28 HO_3)); obtain ⟨ce12, hcl12, hM12, hcc12, hfr12⟩ := Kd.R_elem HX12.out z36 (x4_1 : Int) ofD (by have h_ : (x4_1 : Int) < ((x3_1.length : Int) : Int) := ofD; first | exact h_ | (have e_ := (Kd.R_reads' HO_3.out).1; omega) | simpa using h_); obtain rfl := k36_openM hM12; have HP12 := Kd.R_seg HX12.out (x4_1 : Int) ofD (by have h_ : (x4_1 : Int) < ((x3_1.length : Int) : Int) := ofD; first | exact h_ | (have e_ := (Kd.R_reads' HO_3.out).1; omega) | simpa using h_) (seg := [.string t245, .string t246, .string t247, .int .i64 t248]) (j := 0) hcl12 hcc12 (show 4 ≤ 4 from by decide) (x' := (⟨t245, t246, t247, t248⟩ : S36)) (k36_mkM _ _ _ (⟨t245, t246, t247, t248⟩ : S36) ) (fun _ hk => hk); have hx12_0 := hcc12 0 _ rfl; (try simp only [show (k36).sz = 4 from rfl, Nat.mul_one, Nat.add_zero] at hx12_0); have hf12_0 := hfr12 0; (try simp only [show (k36).sz = 4 from rfl, Nat.mul_one, Nat.add_zero] at hf12_0); have hx12_1 := hcc12 1 _ rfl; (try simp only [show (k36).sz = 4 from rfl, Nat.mul_one, Nat.add_zero] at hx12_1); have hf12_1 := hfr12 1; (try simp only [show (k36).sz = 4 from rfl, Nat.mul_one, Nat.add_zero] at hf12_1); have hx12_2 := hcc12 2 _ rfl; (try simp only [show (k36).sz = 4 from rfl, Nat.mul_one, Nat.add_zero] at hx12_2); have hf12_2 := hfr12 2; (try simp only [show (k36).sz = 4 from rfl, Nat.mul_one, Nat.add_zero] at hf12_2); have hx12_3 := hcc12 3 _ rfl; (try simp only [show (k36).sz = 4 from rfl, Nat.mul_one, Nat.add_zero] at hx12_3); have hf12_3 := hfr12 3; (try simp only [show (k36).sz = 4 from rfl, Nat.mul_one, Nat.add_zero] at hf12_3); clear hcl12 hcc12 hfr12 hM12) | ((with_reducible refine gate_store (t := 36) (p := 21) rfl ?_); refine store_event (t := 36) (p := 21) (v := ?vo_w13) (w1 := ((((w11.setCell ⟨go10, (x4_1 : Int).toNat * 4, none⟩ (.string t245)).setCell ⟨go10, (x4_1 : Int).toNat * 4 + 1, none⟩ (.string t246)).setCell ⟨go10, (x4_1 : Int).toNat * 4 + 2, none⟩ (.string t247)).setCell ⟨go10, (x4_1 : Int).toNat * 4 + 3, none⟩ (.int .i64 t248))) ?hg ?ho ?hn ?hr ?_; (case ho => rfl); (case hg => rfl); (case hn => rfl); (case hr => exact zz19); intro w13 hw; have hg : w11.grownBy w13 (some go10) := (by rw [hw]; exact HP12.2); have hp_ : Kd.R k36 36 w13 w.heap.size (fun _ => True) (.slice (some ⟨go10, 0, none⟩) x3_1.length co10) y249 := (by rw [hw, Ny249.out]; exact HP12.1); clear HP12; have n0_ := Aside0.mk (hp_); have n1_ := Aside0.mk ((by rw [hw]; exact below_set (below_set (below_set (below_set (HB.out) GB10.out) GB10.out) GB10.out) GB10.out : Below w.heap.size w w13)); clear HO_3; clear HB; have HO_3 := n0_; have HB := n1_; clear n0_ n1_; clear hg hw hp_))
        go_roundg k1
        case measure => have := HK1.out; omega
        case rel => exact ⟨(y249), (wrap64 (x4_1 + 1)), zz3, H', ⟨(zz5 HK1)⟩, ⟨(zz28 HO_3)⟩, ⟨(zz0 HB)⟩⟩
       ·rw [if_neg c9] at H
        exact absurd H (by simp)
      ·rw [if_neg c7] at H
       exact absurd H (by simp)
     ·rw [if_neg c6] at H
      have c6b0 : decide (x4_1 < (l0.length : Int)) = false := decide_eq_false c6;clear c6;obtain rfl := Option.some.inj H;go_wp2
      go_ret
      exact ⟨_, zz1, (zz28 HO_3), (zz0 HB)⟩
  ·rw [if_neg c3] at H
   exact absurd H (by simp)
 ·rw [if_neg c2] at H
  exact absurd H (by simp)
def laws_eqPage.f (a0_0 : ByteArray) (a0_1 : ByteArray) (a0_2 : ByteArray) (a0_3 : Int) (a1_0 : ByteArray) (a1_1 : ByteArray) (a1_2 : ByteArray) (a1_3 : Int) : Option (Bool) := if a0_0.toList = a1_0.toList then (if a0_1.toList = a1_1.toList then (if a0_2.toList = a1_2.toList then (if a0_3 = a1_3 then (some true) else (some false)) else (some false)) else (some false)) else (some false)
set_option maxHeartbeats 8000000 in
set_option maxRecDepth 100000 in
theorem laws_eqPage.calls (a0_0 : ByteArray) (a0_1 : ByteArray) (a0_2 : ByteArray) (a0_3 : Int) (a1_0 : ByteArray) (a1_1 : ByteArray) (a1_2 : ByteArray) (a1_3 : Int) (r : Bool) (w : World) (h : laws_eqPage.f a0_0 a0_1 a0_2 a0_3 a1_0 a1_1 a1_2 a1_3 = some r) :
  Calls Tryd.prog 17 #[.agg #[.string a0_0, .string a0_1, .string a0_2, .int .i64 a0_3], .agg #[.string a1_0, .string a1_1, .string a1_2, .int .i64 a1_3]] w fun e w' => e = .returned (.bool r) ∧ Below w.heap.size w w' := by
 have hu36 := Tryd.underlying36;have HB := Aside0.mk (Below.refl w.heap.size w);have H : (if a0_0.toList = a1_0.toList then (if a0_1.toList = a1_1.toList then (if a0_2.toList = a1_2.toList then (if a0_3 = a1_3 then (some true) else (some false)) else (some false)) else (some false)) else (some false)) = some r := h;clear h;by_cases c3 : a0_0.toList = a1_0.toList
 ·rw [if_pos c3] at H
  have c3b0 : (a0_0.toList == a1_0.toList) = true := beq_iff_eq.mpr c3;have c3b1 : (a0_0.toList != a1_0.toList) = false := bne_eq_false_iff_eq.mpr c3;clear c3;by_cases c4 : a0_1.toList = a1_1.toList
  ·rw [if_pos c4] at H
   have c4b0 : (a0_1.toList == a1_1.toList) = true := beq_iff_eq.mpr c4;have c4b1 : (a0_1.toList != a1_1.toList) = false := bne_eq_false_iff_eq.mpr c4;clear c4;by_cases c5 : a0_2.toList = a1_2.toList
   ·rw [if_pos c5] at H
    have c5b0 : (a0_2.toList == a1_2.toList) = true := beq_iff_eq.mpr c5;have c5b1 : (a0_2.toList != a1_2.toList) = false := bne_eq_false_iff_eq.mpr c5;clear c5;by_cases c6 : a0_3 = a1_3
    ·rw [if_pos c6] at H
     have c6b0 : (a0_3 == a1_3) = true := beq_iff_eq.mpr c6;have c6b1 : (a0_3 != a1_3) = false := bne_eq_false_iff_eq.mpr c6;clear c6;obtain rfl := Option.some.inj H;go_enter Tryd.func17, Tryd.ntmps17;go_wp2_with (first | ((with_reducible refine gate_dst (N := 2) rfl ?_); refine boxE 2 #[.string a0_0, .string a0_1, .string a0_2, .int .i64 a0_3] 36 ?_; intro gb400 hg w7 hbox hb; have n0_ := Aside0.mk (below_step (zz0 HB) hb); have n1_ := Aside0.mk (hbox); have n2_ := Aside0.mk ((by rw [hg]; exact (below_size (zz0 HB)) : w.heap.size ≤ gb400)); have n3_ := Aside0.mk ((by rw [hg]; exact (below_size (zz0 HB)) : w.heap.size ≤ gb400)); clear HB; have HB := n0_; have BK400 := n1_; have GW400 := n2_; have GE400 := n3_; clear n0_ n1_ n2_ n3_; clear hb hbox hg) | ((with_reducible refine gate_dst (N := 3) rfl ?_); refine boxE 3 #[.string a1_0, .string a1_1, .string a1_2, .int .i64 a1_3] 36 ?_; intro gb401 hg w8 hbox hb; have n0_ := Aside0.mk (blk_below (zz21 BK400) hb); have n1_ := Aside0.mk (below_step (zz2 HB GE400) hb); have n2_ := Aside0.mk (hbox); have n3_ := Aside0.mk ((by rw [hg]; exact (below_size (zz2 HB GE400)) : w.heap.size ≤ gb401)); have n4_ := Aside0.mk ((by rw [hg]; exact (below_size (zz2 HB GE400)) : w.heap.size ≤ gb401)); have n5_ := Aside0.mk ((by rw [hg]; exact Nat.ne_of_lt (blk_lt (zz21 BK400)) : gb400 ≠ gb401)); have n6_ := Aside0.mk ((by rw [hg]; exact Nat.ne_of_gt (blk_lt (zz21 BK400)) : gb401 ≠ gb400)); clear BK400; clear HB; have BK400 := n0_; have HB := n1_; have BK401 := n2_; have GW401 := n3_; have GE401 := n4_; have NB400_401 := n5_; have NB401_400 := n6_; clear n0_ n1_ n2_ n3_ n4_ n5_ n6_; clear hb hbox hg; have hnb9 := NB400_401.out; have hnc9 := NB401_400.out; obtain ⟨_, _, _, _, _, _, _, _⟩ := cf4 BK400; obtain ⟨_, _, _, _, _, _, _, _⟩ := cf4 BK401))
     go_ret
     exact ⟨zz1, (zz33 HB GE400 GE401)⟩
    ·rw [if_neg c6] at H
     have c6b0 : (a0_3 == a1_3) = false := beq_eq_false_iff_ne.mpr c6;have c6b1 : (a0_3 != a1_3) = true := bne_iff_ne.mpr c6;obtain rfl := Option.some.inj H;go_enter Tryd.func17, Tryd.ntmps17;go_wp2_with (first | ((with_reducible refine gate_dst (N := 2) rfl ?_); refine boxE 2 #[.string a0_0, .string a0_1, .string a0_2, .int .i64 a0_3] 36 ?_; intro gb400 hg w12 hbox hb; have n0_ := Aside0.mk (below_step (zz0 HB) hb); have n1_ := Aside0.mk (hbox); have n2_ := Aside0.mk ((by rw [hg]; exact (below_size (zz0 HB)) : w.heap.size ≤ gb400)); have n3_ := Aside0.mk ((by rw [hg]; exact (below_size (zz0 HB)) : w.heap.size ≤ gb400)); clear HB; have HB := n0_; have BK400 := n1_; have GW400 := n2_; have GE400 := n3_; clear n0_ n1_ n2_ n3_; clear hb hbox hg) | ((with_reducible refine gate_dst (N := 3) rfl ?_); refine boxE 3 #[.string a1_0, .string a1_1, .string a1_2, .int .i64 a1_3] 36 ?_; intro gb401 hg w13 hbox hb; have n0_ := Aside0.mk (blk_below (zz21 BK400) hb); have n1_ := Aside0.mk (below_step (zz2 HB GE400) hb); have n2_ := Aside0.mk (hbox); have n3_ := Aside0.mk ((by rw [hg]; exact (below_size (zz2 HB GE400)) : w.heap.size ≤ gb401)); have n4_ := Aside0.mk ((by rw [hg]; exact (below_size (zz2 HB GE400)) : w.heap.size ≤ gb401)); have n5_ := Aside0.mk ((by rw [hg]; exact Nat.ne_of_lt (blk_lt (zz21 BK400)) : gb400 ≠ gb401)); have n6_ := Aside0.mk ((by rw [hg]; exact Nat.ne_of_gt (blk_lt (zz21 BK400)) : gb401 ≠ gb400)); clear BK400; clear HB; have BK400 := n0_; have HB := n1_; have BK401 := n2_; have GW401 := n3_; have GE401 := n4_; have NB400_401 := n5_; have NB401_400 := n6_; clear n0_ n1_ n2_ n3_ n4_ n5_ n6_; clear hb hbox hg; have hnb14 := NB400_401.out; have hnc14 := NB401_400.out; obtain ⟨_, _, _, _, _, _, _, _⟩ := cf4 BK400; obtain ⟨_, _, _, _, _, _, _, _⟩ := cf4 BK401))
     go_ret
     exact ⟨zz1, (zz33 HB GE400 GE401)⟩
   ·rw [if_neg c5] at H
    have c5b0 : (a0_2.toList == a1_2.toList) = false := beq_eq_false_iff_ne.mpr c5;have c5b1 : (a0_2.toList != a1_2.toList) = true := bne_iff_ne.mpr c5;obtain rfl := Option.some.inj H;go_enter Tryd.func17, Tryd.ntmps17;go_wp2_with (first | ((with_reducible refine gate_dst (N := 2) rfl ?_); refine boxE 2 #[.string a0_0, .string a0_1, .string a0_2, .int .i64 a0_3] 36 ?_; intro gb400 hg w17 hbox hb; have n0_ := Aside0.mk (below_step (zz0 HB) hb); have n1_ := Aside0.mk (hbox); have n2_ := Aside0.mk ((by rw [hg]; exact (below_size (zz0 HB)) : w.heap.size ≤ gb400)); have n3_ := Aside0.mk ((by rw [hg]; exact (below_size (zz0 HB)) : w.heap.size ≤ gb400)); clear HB; have HB := n0_; have BK400 := n1_; have GW400 := n2_; have GE400 := n3_; clear n0_ n1_ n2_ n3_; clear hb hbox hg) | ((with_reducible refine gate_dst (N := 3) rfl ?_); refine boxE 3 #[.string a1_0, .string a1_1, .string a1_2, .int .i64 a1_3] 36 ?_; intro gb401 hg w18 hbox hb; have n0_ := Aside0.mk (blk_below (zz21 BK400) hb); have n1_ := Aside0.mk (below_step (zz2 HB GE400) hb); have n2_ := Aside0.mk (hbox); have n3_ := Aside0.mk ((by rw [hg]; exact (below_size (zz2 HB GE400)) : w.heap.size ≤ gb401)); have n4_ := Aside0.mk ((by rw [hg]; exact (below_size (zz2 HB GE400)) : w.heap.size ≤ gb401)); have n5_ := Aside0.mk ((by rw [hg]; exact Nat.ne_of_lt (blk_lt (zz21 BK400)) : gb400 ≠ gb401)); have n6_ := Aside0.mk ((by rw [hg]; exact Nat.ne_of_gt (blk_lt (zz21 BK400)) : gb401 ≠ gb400)); clear BK400; clear HB; have BK400 := n0_; have HB := n1_; have BK401 := n2_; have GW401 := n3_; have GE401 := n4_; have NB400_401 := n5_; have NB401_400 := n6_; clear n0_ n1_ n2_ n3_ n4_ n5_ n6_; clear hb hbox hg; have hnb19 := NB400_401.out; have hnc19 := NB401_400.out; obtain ⟨_, _, _, _, _, _, _, _⟩ := cf4 BK400; obtain ⟨_, _, _, _, _, _, _, _⟩ := cf4 BK401))
    go_ret
    exact ⟨zz1, (zz33 HB GE400 GE401)⟩
  ·rw [if_neg c4] at H
   have c4b0 : (a0_1.toList == a1_1.toList) = false := beq_eq_false_iff_ne.mpr c4;have c4b1 : (a0_1.toList != a1_1.toList) = true := bne_iff_ne.mpr c4;obtain rfl := Option.some.inj H;go_enter Tryd.func17, Tryd.ntmps17;go_wp2_with (first | ((with_reducible refine gate_dst (N := 2) rfl ?_); refine boxE 2 #[.string a0_0, .string a0_1, .string a0_2, .int .i64 a0_3] 36 ?_; intro gb400 hg w22 hbox hb; have n0_ := Aside0.mk (below_step (zz0 HB) hb); have n1_ := Aside0.mk (hbox); have n2_ := Aside0.mk ((by rw [hg]; exact (below_size (zz0 HB)) : w.heap.size ≤ gb400)); have n3_ := Aside0.mk ((by rw [hg]; exact (below_size (zz0 HB)) : w.heap.size ≤ gb400)); clear HB; have HB := n0_; have BK400 := n1_; have GW400 := n2_; have GE400 := n3_; clear n0_ n1_ n2_ n3_; clear hb hbox hg) | ((with_reducible refine gate_dst (N := 3) rfl ?_); refine boxE 3 #[.string a1_0, .string a1_1, .string a1_2, .int .i64 a1_3] 36 ?_; intro gb401 hg w23 hbox hb; have n0_ := Aside0.mk (blk_below (zz21 BK400) hb); have n1_ := Aside0.mk (below_step (zz2 HB GE400) hb); have n2_ := Aside0.mk (hbox); have n3_ := Aside0.mk ((by rw [hg]; exact (below_size (zz2 HB GE400)) : w.heap.size ≤ gb401)); have n4_ := Aside0.mk ((by rw [hg]; exact (below_size (zz2 HB GE400)) : w.heap.size ≤ gb401)); have n5_ := Aside0.mk ((by rw [hg]; exact Nat.ne_of_lt (blk_lt (zz21 BK400)) : gb400 ≠ gb401)); have n6_ := Aside0.mk ((by rw [hg]; exact Nat.ne_of_gt (blk_lt (zz21 BK400)) : gb401 ≠ gb400)); clear BK400; clear HB; have BK400 := n0_; have HB := n1_; have BK401 := n2_; have GW401 := n3_; have GE401 := n4_; have NB400_401 := n5_; have NB401_400 := n6_; clear n0_ n1_ n2_ n3_ n4_ n5_ n6_; clear hb hbox hg; have hnb24 := NB400_401.out; have hnc24 := NB401_400.out; obtain ⟨_, _, _, _, _, _, _, _⟩ := cf4 BK400; obtain ⟨_, _, _, _, _, _, _, _⟩ := cf4 BK401))
   go_ret
   exact ⟨zz1, (zz33 HB GE400 GE401)⟩
 ·rw [if_neg c3] at H
  have c3b0 : (a0_0.toList == a1_0.toList) = false := beq_eq_false_iff_ne.mpr c3;have c3b1 : (a0_0.toList != a1_0.toList) = true := bne_iff_ne.mpr c3;obtain rfl := Option.some.inj H;go_enter Tryd.func17, Tryd.ntmps17;go_wp2_with (first | ((with_reducible refine gate_dst (N := 2) rfl ?_); refine boxE 2 #[.string a0_0, .string a0_1, .string a0_2, .int .i64 a0_3] 36 ?_; intro gb400 hg w27 hbox hb; have n0_ := Aside0.mk (below_step (zz0 HB) hb); have n1_ := Aside0.mk (hbox); have n2_ := Aside0.mk ((by rw [hg]; exact (below_size (zz0 HB)) : w.heap.size ≤ gb400)); have n3_ := Aside0.mk ((by rw [hg]; exact (below_size (zz0 HB)) : w.heap.size ≤ gb400)); clear HB; have HB := n0_; have BK400 := n1_; have GW400 := n2_; have GE400 := n3_; clear n0_ n1_ n2_ n3_; clear hb hbox hg) | ((with_reducible refine gate_dst (N := 3) rfl ?_); refine boxE 3 #[.string a1_0, .string a1_1, .string a1_2, .int .i64 a1_3] 36 ?_; intro gb401 hg w28 hbox hb; have n0_ := Aside0.mk (blk_below (zz21 BK400) hb); have n1_ := Aside0.mk (below_step (zz2 HB GE400) hb); have n2_ := Aside0.mk (hbox); have n3_ := Aside0.mk ((by rw [hg]; exact (below_size (zz2 HB GE400)) : w.heap.size ≤ gb401)); have n4_ := Aside0.mk ((by rw [hg]; exact (below_size (zz2 HB GE400)) : w.heap.size ≤ gb401)); have n5_ := Aside0.mk ((by rw [hg]; exact Nat.ne_of_lt (blk_lt (zz21 BK400)) : gb400 ≠ gb401)); have n6_ := Aside0.mk ((by rw [hg]; exact Nat.ne_of_gt (blk_lt (zz21 BK400)) : gb401 ≠ gb400)); clear BK400; clear HB; have BK400 := n0_; have HB := n1_; have BK401 := n2_; have GW401 := n3_; have GE401 := n4_; have NB400_401 := n5_; have NB401_400 := n6_; clear n0_ n1_ n2_ n3_ n4_ n5_ n6_; clear hb hbox hg; have hnb29 := NB400_401.out; have hnc29 := NB401_400.out; obtain ⟨_, _, _, _, _, _, _, _⟩ := cf4 BK400; obtain ⟨_, _, _, _, _, _, _, _⟩ := cf4 BK401))
  go_ret
  exact ⟨zz1, (zz33 HB GE400 GE401)⟩
def laws_eqPageS.l0 : Nat → List (S36) → List (S36) → Int → Option (Bool)
 | 0, _, _, _ => none
 | k + 1, x0, x1, x5 => if x5 < (x0.length : Int) then (if 0 ≤ x5 then (if x5 < (x1.length : Int) then ((laws_eqPage.f ((rd_T36 x0 x5).f0) ((rd_T36 x0 x5).f1) ((rd_T36 x0 x5).f2) ((rd_T36 x0 x5).f3) ((rd_T36 x1 x5).f0) ((rd_T36 x1 x5).f1) ((rd_T36 x1 x5).f2) ((rd_T36 x1 x5).f3)).bind fun t404 => (if t404 = true then (laws_eqPageS.l0 k x0 x1 (wrap64 (x5 + 1))) else (some false))) else (none)) else (none)) else (some true)
def laws_eqPageS.f (k : Nat) (l0 : List (S36)) (l1 : List (S36)) : Option (Bool) := if (l0.length : Int) = (l1.length : Int) then (laws_eqPageS.l0 k l0 l1 0) else (some false)
def laws_eqPageS.T6 : Bool × List (List Nat × List Nat) := (true, [([], []), ([], []), ([0, 1], [0, 1]), ([2], [2]), ([], []), ([], []), ([4, 5], [4, 5]), ([6], [6]), ([3, 7], [3, 7]), ([8], [8])])
def laws_eqPageS.B6 : List Nat := [0, 0, 3, 7, 0, 0, 48, 112, 255, 511]
theorem laws_eqPageS.tab6 : rtab .any (opsOf Tryd.f9 6) = laws_eqPageS.T6 := by kernel_rfl
theorem laws_eqPageS.bits6 : waitsOk laws_eqPageS.T6.2 laws_eqPageS.B6 = true := by kernel_rfl
set_option maxHeartbeats 8000000 in
set_option maxRecDepth 100000 in
theorem laws_eqPageS.calls (k : Nat) (A0 : Option Addr) (c0 : Nat) (l0 : List (S36)) (A1 : Option Addr) (c1 : Nat) (l1 : List (S36)) (r : Bool) (w : World) (hr0 : Kd.C k36 w A0 l0.length l0) (hc0 : l0.length ≤ c0) (hr1 : Kd.C k36 w A1 l1.length l1) (hc1 : l1.length ≤ c1) (h : laws_eqPageS.f k l0 l1 = some r) :
  Calls Tryd.prog 9 #[.slice A0 l0.length c0, .slice A1 l1.length c1] w fun e w' => e = .returned (.bool r) ∧ Below w.heap.size w w' := by
 have hu36 := Tryd.underlying36;have HR0 := Aside0.mk hr0;have HC0 := Aside0.mk hc0;clear hr0 hc0;have HR1 := Aside0.mk hr1;have HC1 := Aside0.mk hc1;clear hr1 hc1;have HB := Aside0.mk (Below.refl w.heap.size w);have H : (if (l0.length : Int) = (l1.length : Int) then (laws_eqPageS.l0 k l0 l1 0) else (some false)) = some r := h;clear h;by_cases c3 : (l0.length : Int) = (l1.length : Int)
 ·rw [if_pos c3] at H
  have c3b0 : ((l0.length : Int) == (l1.length : Int)) = true := beq_iff_eq.mpr c3;have c3b1 : ((l0.length : Int) != (l1.length : Int)) = false := bne_eq_false_iff_eq.mpr c3;have c3b2 : (l0.length == l1.length) = true := by first | simpa using c3 | (simp at c3 ⊢; omega)
  clear c3;have H' := Aside0.mk H;clear H;go_enter Tryd.func9, Tryd.ntmps9;go_wp2
  go_loopg [5] k (fun kq v5 w' => ∃ (x5_1 : Int), v5 = .int .i64 x5_1 ∧ Aside0 (laws_eqPageS.l0 kq l0 l1 x5_1 = some r) ∧ Aside0 (kq ≤ k) ∧ Aside0 (Below w.heap.size w w'))
  case atStart => exact ⟨(0), zz3, H', ⟨Nat.le_refl _⟩, ⟨(zz0 HB)⟩⟩
  case round =>
   clear H';obtain ⟨x5_1, rfl, HA, HK1, HB⟩ := hrel;cases gk with
   | zero => exact absurd HA.out (by simp [laws_eqPageS.l0])
   | succ k1 =>
    have H := HA.out;clear HA;simp only [laws_eqPageS.l0] at H
    by_cases c4 : x5_1 < (l0.length : Int)
    ·rw [if_pos c4] at H
     have c4b0 : decide (x5_1 < (l0.length : Int)) = true := decide_eq_true c4;clear c4;by_cases c5 : 0 ≤ x5_1
     ·rw [if_pos c5] at H
      have c5b0 : decide (0 ≤ x5_1) = true := decide_eq_true c5;clear c5;by_cases c6 : x5_1 < (l1.length : Int)
      ·rw [if_pos c6] at H
       have c6b0 : decide (x5_1 < (l1.length : Int)) = true := decide_eq_true c6;clear c6;replace H := bindA H;obtain ⟨t404, A7, H⟩ := H;by_cases c8 : t404 = true
       ·subst c8
        rw [if_pos rfl] at H;have H' := Aside0.mk H;clear H;try go_wp2
        have n0_ := Aside0.mk (below_drew1 HB.out);clear HB;have HB := n0_;clear n0_;have p402 : 0 ≤ (x5_1 : Int) := ofD;have q402 : x5_1 < (l0.length : Int) := ofD;obtain ⟨ad402, e402, hx402_0, hx402_1, hx402_2, hx402_3⟩ := at_T36 HR0.out x5_1 p402 q402;have hw402_3 := hx402_3;have hw402_2 := hx402_2;have hw402_1 := hx402_1;have hw402_0 := hx402_0;cases e402
        replace hx402_0 := (HB.out.cell (World.block_lt_of_cell? w _ hx402_0)).trans hx402_0;replace hx402_1 := (HB.out.cell (World.block_lt_of_cell? w _ hx402_1)).trans hx402_1;replace hx402_2 := (HB.out.cell (World.block_lt_of_cell? w _ hx402_2)).trans hx402_2;replace hx402_3 := (HB.out.cell (World.block_lt_of_cell? w _ hx402_3)).trans hx402_3;replace p402 := eq_true p402;replace q402 := eq_true q402;have p403 : 0 ≤ (x5_1 : Int) := ofD;have q403 : x5_1 < (l1.length : Int) := ofD;obtain ⟨ad403, e403, hx403_0, hx403_1, hx403_2, hx403_3⟩ := at_T36 HR1.out x5_1 p403 q403;have hw403_3 := hx403_3;have hw403_2 := hx403_2;have hw403_1 := hx403_1;have hw403_0 := hx403_0;cases e403
        replace hx403_0 := (HB.out.cell (World.block_lt_of_cell? w _ hx403_0)).trans hx403_0;replace hx403_1 := (HB.out.cell (World.block_lt_of_cell? w _ hx403_1)).trans hx403_1;replace hx403_2 := (HB.out.cell (World.block_lt_of_cell? w _ hx403_2)).trans hx403_2;replace hx403_3 := (HB.out.cell (World.block_lt_of_cell? w _ hx403_3)).trans hx403_3;replace p403 := eq_true p403;replace q403 := eq_true q403;refine start_ (n := 10) (S := fun w' => w'.cell? (ad402.add ((x5_1).toNat * 4)) = some (.string ((rd_T36 l0 x5_1).f0)) ∧ w'.cell? ⟨(ad402.add ((x5_1).toNat * 4)).block, (ad402.add ((x5_1).toNat * 4)).off + 1, none⟩ = some (.string ((rd_T36 l0 x5_1).f1)) ∧ w'.cell? ⟨(ad402.add ((x5_1).toNat * 4)).block, (ad402.add ((x5_1).toNat * 4)).off + 2, none⟩ = some (.string ((rd_T36 l0 x5_1).f2)) ∧ w'.cell? ⟨(ad402.add ((x5_1).toNat * 4)).block, (ad402.add ((x5_1).toNat * 4)).off + 3, none⟩ = some (.int .i64 ((rd_T36 l0 x5_1).f3)) ∧ w'.cell? (ad403.add ((x5_1).toNat * 4)) = some (.string ((rd_T36 l1 x5_1).f0)) ∧ w'.cell? ⟨(ad403.add ((x5_1).toNat * 4)).block, (ad403.add ((x5_1).toNat * 4)).off + 1, none⟩ = some (.string ((rd_T36 l1 x5_1).f1)) ∧ w'.cell? ⟨(ad403.add ((x5_1).toNat * 4)).block, (ad403.add ((x5_1).toNat * 4)).off + 2, none⟩ = some (.string ((rd_T36 l1 x5_1).f2)) ∧ w'.cell? ⟨(ad403.add ((x5_1).toNat * 4)).block, (ad403.add ((x5_1).toNat * 4)).off + 3, none⟩ = some (.int .i64 ((rd_T36 l1 x5_1).f3))) (ds := []) #[false, false, false, false, false, false, false, false, false, false] (by kernel_rfl) rfl rfl ⟨((HB.out.cell (World.block_lt_of_cell? w _ hw402_0)).trans hw402_0), ((HB.out.cell (World.block_lt_of_cell? w _ hw402_1)).trans hw402_1), ((HB.out.cell (World.block_lt_of_cell? w _ hw402_2)).trans hw402_2), ((HB.out.cell (World.block_lt_of_cell? w _ hw402_3)).trans hw402_3), ((HB.out.cell (World.block_lt_of_cell? w _ hw403_0)).trans hw403_0), ((HB.out.cell (World.block_lt_of_cell? w _ hw403_1)).trans hw403_1), ((HB.out.cell (World.block_lt_of_cell? w _ hw403_2)).trans hw403_2), ((HB.out.cell (World.block_lt_of_cell? w _ hw403_3)).trans hw403_3)⟩ (fun hHeld => ?_); refine with_tabW laws_eqPageS.tab6 laws_eqPageS.bits6 (fun HT_ HW_ => ?_);generalize wr.drew = w9 at HB hx402_0 hx402_1 hx402_2 hx402_3 hx403_0 hx403_1 hx403_2 hx403_3 hHeld ⊢;refine pureZ 0 (some 17) #[true, false, false, false, false, false, false, false, false, false] ?_;refine pureZ 1 (some 18) #[true, true, false, false, false, false, false, false, false, false] ?_;refine pureZ 2 (some 19) #[true, true, true, false, false, false, false, false, false, false] ?_;refine pureZ 4 (some 21) #[true, true, true, false, true, false, false, false, false, false] ?_;refine pureZ 5 (some 22) #[true, true, true, false, true, true, false, false, false, false] ?_;refine pureZ 6 (some 23) #[true, true, true, false, true, true, true, false, false, false] ?_;refine take_ (i := 3) (N := some 20) (v := ?_) (a' := ?_) #[true, true, true, true, true, true, true, false, false, false] rfl rfl (take_ofW HT_.out HW_.out (by kernel_rfl)) (fun _ _ _ h => h) (Or.inl ⟨by rfl, ?_⟩) hHeld ?_ ?_;rotate_left
        ·rintro w' ⟨s0, s1, s2, s3, s4, s5, s6, s7⟩
         go_simp
         with_reducible rfl
        rotate_left
        ·simp only [Act.put, List.setIfInBounds_toArray, List.set_cons_zero, List.set_cons_succ, i64_w, i32_w]
         rfl
        refine take_ (i := 7) (N := some 24) (v := ?_) (a' := ?_) #[true, true, true, true, true, true, true, true, false, false] rfl rfl (take_ofW HT_.out HW_.out (by kernel_rfl)) (fun _ _ _ h => h) (Or.inl ⟨by rfl, ?_⟩) hHeld ?_ ?_;rotate_left
        ·rintro w' ⟨s0, s1, s2, s3, s4, s5, s6, s7⟩
         go_simp
         with_reducible rfl
        rotate_left
        ·simp only [Act.put, List.setIfInBounds_toArray, List.set_cons_zero, List.set_cons_succ, i64_w, i32_w]
         rfl
        refine one_ (i := 8) (N := some 25) #[true, true, true, true, true, true, true, true, true, false] rfl rfl (one_of HT_.out (by kernel_rfl)) (by decide) (fun K hK => ?_);refine goes_ Tryd.func17 (by kernel_rfl) rfl #[.agg #[.string ((rd_T36 l0 x5_1).f0), .string ((rd_T36 l0 x5_1).f1), .string ((rd_T36 l0 x5_1).f2), .int .i64 ((rd_T36 l0 x5_1).f3)], .agg #[.string ((rd_T36 l1 x5_1).f0), .string ((rd_T36 l1 x5_1).f1), .string ((rd_T36 l1 x5_1).f2), .int .i64 ((rd_T36 l1 x5_1).f3)]] (by rfl) rfl rfl zz23 ?_;with_reducible refine (laws_eqPage.calls ((rd_T36 l0 x5_1).f0) ((rd_T36 l0 x5_1).f1) ((rd_T36 l0 x5_1).f2) ((rd_T36 l0 x5_1).f3) ((rd_T36 l1 x5_1).f0) ((rd_T36 l1 x5_1).f1) ((rd_T36 l1 x5_1).f2) ((rd_T36 l1 x5_1).f3) true _ A7.out).mono ?_
        rintro e w10 ⟨rfl, hb⟩;refine ⟨_, rfl, ?_⟩;have n0_ := Aside0.mk (below_step (zz0 HB) hb);clear HB;have HB := n0_;clear n0_;(try clear hb)
        (try clear hb2)
        (try clear hk)
        (try clear hi)
        refine hK.out _ _ ⟨((HB.out.cell (World.block_lt_of_cell? w _ hw402_0)).trans hw402_0), ((HB.out.cell (World.block_lt_of_cell? w _ hw402_1)).trans hw402_1), ((HB.out.cell (World.block_lt_of_cell? w _ hw402_2)).trans hw402_2), ((HB.out.cell (World.block_lt_of_cell? w _ hw402_3)).trans hw402_3), ((HB.out.cell (World.block_lt_of_cell? w _ hw403_0)).trans hw403_0), ((HB.out.cell (World.block_lt_of_cell? w _ hw403_1)).trans hw403_1), ((HB.out.cell (World.block_lt_of_cell? w _ hw403_2)).trans hw403_2), ((HB.out.cell (World.block_lt_of_cell? w _ hw403_3)).trans hw403_3)⟩ (fun hHeld => ?_);clear hK K;refine norm_ (a' := ?_) ?_ ?_;rotate_left
        ·show Act.put _ (some 25) _ = _
         simp only [Act.put, List.setIfInBounds_toArray, List.set_cons_zero, List.set_cons_succ, i64_w, i32_w]
         rfl
        refine pureZ 9 (some 26) #[true, true, true, true, true, true, true, true, true, true] ?_;refine done_ (done_of HT_.out (by kernel_rfl)) ?_;try go_wp2
        go_roundg k1
        case measure => have := HK1.out; omega
        case rel => exact ⟨(wrap64 (x5_1 + 1)), zz3, H', ⟨(zz5 HK1)⟩, ⟨(zz0 HB)⟩⟩
       ·replace c8 := Bool.eq_false_iff.mpr c8
        subst c8;rw [if_neg (show ¬ (false = true) by decide)] at H;obtain rfl := Option.some.inj H;try go_wp2
        have n0_ := Aside0.mk (below_drew1 HB.out);clear HB;have HB := n0_;clear n0_;have p402 : 0 ≤ (x5_1 : Int) := ofD;have q402 : x5_1 < (l0.length : Int) := ofD;obtain ⟨ad402, e402, hx402_0, hx402_1, hx402_2, hx402_3⟩ := at_T36 HR0.out x5_1 p402 q402;have hw402_3 := hx402_3;have hw402_2 := hx402_2;have hw402_1 := hx402_1;have hw402_0 := hx402_0;cases e402
        replace hx402_0 := (HB.out.cell (World.block_lt_of_cell? w _ hx402_0)).trans hx402_0;replace hx402_1 := (HB.out.cell (World.block_lt_of_cell? w _ hx402_1)).trans hx402_1;replace hx402_2 := (HB.out.cell (World.block_lt_of_cell? w _ hx402_2)).trans hx402_2;replace hx402_3 := (HB.out.cell (World.block_lt_of_cell? w _ hx402_3)).trans hx402_3;replace p402 := eq_true p402;replace q402 := eq_true q402;have p403 : 0 ≤ (x5_1 : Int) := ofD;have q403 : x5_1 < (l1.length : Int) := ofD;obtain ⟨ad403, e403, hx403_0, hx403_1, hx403_2, hx403_3⟩ := at_T36 HR1.out x5_1 p403 q403;have hw403_3 := hx403_3;have hw403_2 := hx403_2;have hw403_1 := hx403_1;have hw403_0 := hx403_0;cases e403
        replace hx403_0 := (HB.out.cell (World.block_lt_of_cell? w _ hx403_0)).trans hx403_0;replace hx403_1 := (HB.out.cell (World.block_lt_of_cell? w _ hx403_1)).trans hx403_1;replace hx403_2 := (HB.out.cell (World.block_lt_of_cell? w _ hx403_2)).trans hx403_2;replace hx403_3 := (HB.out.cell (World.block_lt_of_cell? w _ hx403_3)).trans hx403_3;replace p403 := eq_true p403;replace q403 := eq_true q403;refine start_ (n := 10) (S := fun w' => w'.cell? (ad402.add ((x5_1).toNat * 4)) = some (.string ((rd_T36 l0 x5_1).f0)) ∧ w'.cell? ⟨(ad402.add ((x5_1).toNat * 4)).block, (ad402.add ((x5_1).toNat * 4)).off + 1, none⟩ = some (.string ((rd_T36 l0 x5_1).f1)) ∧ w'.cell? ⟨(ad402.add ((x5_1).toNat * 4)).block, (ad402.add ((x5_1).toNat * 4)).off + 2, none⟩ = some (.string ((rd_T36 l0 x5_1).f2)) ∧ w'.cell? ⟨(ad402.add ((x5_1).toNat * 4)).block, (ad402.add ((x5_1).toNat * 4)).off + 3, none⟩ = some (.int .i64 ((rd_T36 l0 x5_1).f3)) ∧ w'.cell? (ad403.add ((x5_1).toNat * 4)) = some (.string ((rd_T36 l1 x5_1).f0)) ∧ w'.cell? ⟨(ad403.add ((x5_1).toNat * 4)).block, (ad403.add ((x5_1).toNat * 4)).off + 1, none⟩ = some (.string ((rd_T36 l1 x5_1).f1)) ∧ w'.cell? ⟨(ad403.add ((x5_1).toNat * 4)).block, (ad403.add ((x5_1).toNat * 4)).off + 2, none⟩ = some (.string ((rd_T36 l1 x5_1).f2)) ∧ w'.cell? ⟨(ad403.add ((x5_1).toNat * 4)).block, (ad403.add ((x5_1).toNat * 4)).off + 3, none⟩ = some (.int .i64 ((rd_T36 l1 x5_1).f3))) (ds := []) #[false, false, false, false, false, false, false, false, false, false] (by kernel_rfl) rfl rfl ⟨((HB.out.cell (World.block_lt_of_cell? w _ hw402_0)).trans hw402_0), ((HB.out.cell (World.block_lt_of_cell? w _ hw402_1)).trans hw402_1), ((HB.out.cell (World.block_lt_of_cell? w _ hw402_2)).trans hw402_2), ((HB.out.cell (World.block_lt_of_cell? w _ hw402_3)).trans hw402_3), ((HB.out.cell (World.block_lt_of_cell? w _ hw403_0)).trans hw403_0), ((HB.out.cell (World.block_lt_of_cell? w _ hw403_1)).trans hw403_1), ((HB.out.cell (World.block_lt_of_cell? w _ hw403_2)).trans hw403_2), ((HB.out.cell (World.block_lt_of_cell? w _ hw403_3)).trans hw403_3)⟩ (fun hHeld => ?_); refine with_tabW laws_eqPageS.tab6 laws_eqPageS.bits6 (fun HT_ HW_ => ?_);generalize wr.drew = w11 at HB hx402_0 hx402_1 hx402_2 hx402_3 hx403_0 hx403_1 hx403_2 hx403_3 hHeld ⊢;refine pureZ 0 (some 17) #[true, false, false, false, false, false, false, false, false, false] ?_;refine pureZ 1 (some 18) #[true, true, false, false, false, false, false, false, false, false] ?_;refine pureZ 2 (some 19) #[true, true, true, false, false, false, false, false, false, false] ?_;refine pureZ 4 (some 21) #[true, true, true, false, true, false, false, false, false, false] ?_;refine pureZ 5 (some 22) #[true, true, true, false, true, true, false, false, false, false] ?_;refine pureZ 6 (some 23) #[true, true, true, false, true, true, true, false, false, false] ?_;refine take_ (i := 3) (N := some 20) (v := ?_) (a' := ?_) #[true, true, true, true, true, true, true, false, false, false] rfl rfl (take_ofW HT_.out HW_.out (by kernel_rfl)) (fun _ _ _ h => h) (Or.inl ⟨by rfl, ?_⟩) hHeld ?_ ?_;rotate_left
        ·rintro w' ⟨s0, s1, s2, s3, s4, s5, s6, s7⟩
         go_simp
         with_reducible rfl
        rotate_left
        ·simp only [Act.put, List.setIfInBounds_toArray, List.set_cons_zero, List.set_cons_succ, i64_w, i32_w]
         rfl
        refine take_ (i := 7) (N := some 24) (v := ?_) (a' := ?_) #[true, true, true, true, true, true, true, true, false, false] rfl rfl (take_ofW HT_.out HW_.out (by kernel_rfl)) (fun _ _ _ h => h) (Or.inl ⟨by rfl, ?_⟩) hHeld ?_ ?_;rotate_left
        ·rintro w' ⟨s0, s1, s2, s3, s4, s5, s6, s7⟩
         go_simp
         with_reducible rfl
        rotate_left
        ·simp only [Act.put, List.setIfInBounds_toArray, List.set_cons_zero, List.set_cons_succ, i64_w, i32_w]
         rfl
        refine one_ (i := 8) (N := some 25) #[true, true, true, true, true, true, true, true, true, false] rfl rfl (one_of HT_.out (by kernel_rfl)) (by decide) (fun K hK => ?_);refine goes_ Tryd.func17 (by kernel_rfl) rfl #[.agg #[.string ((rd_T36 l0 x5_1).f0), .string ((rd_T36 l0 x5_1).f1), .string ((rd_T36 l0 x5_1).f2), .int .i64 ((rd_T36 l0 x5_1).f3)], .agg #[.string ((rd_T36 l1 x5_1).f0), .string ((rd_T36 l1 x5_1).f1), .string ((rd_T36 l1 x5_1).f2), .int .i64 ((rd_T36 l1 x5_1).f3)]] (by rfl) rfl rfl zz23 ?_;with_reducible refine (laws_eqPage.calls ((rd_T36 l0 x5_1).f0) ((rd_T36 l0 x5_1).f1) ((rd_T36 l0 x5_1).f2) ((rd_T36 l0 x5_1).f3) ((rd_T36 l1 x5_1).f0) ((rd_T36 l1 x5_1).f1) ((rd_T36 l1 x5_1).f2) ((rd_T36 l1 x5_1).f3) false _ A7.out).mono ?_
        rintro e w12 ⟨rfl, hb⟩;refine ⟨_, rfl, ?_⟩;have n0_ := Aside0.mk (below_step (zz0 HB) hb);clear HB;have HB := n0_;clear n0_;(try clear hb)
        (try clear hb2)
        (try clear hk)
        (try clear hi)
        refine hK.out _ _ ⟨((HB.out.cell (World.block_lt_of_cell? w _ hw402_0)).trans hw402_0), ((HB.out.cell (World.block_lt_of_cell? w _ hw402_1)).trans hw402_1), ((HB.out.cell (World.block_lt_of_cell? w _ hw402_2)).trans hw402_2), ((HB.out.cell (World.block_lt_of_cell? w _ hw402_3)).trans hw402_3), ((HB.out.cell (World.block_lt_of_cell? w _ hw403_0)).trans hw403_0), ((HB.out.cell (World.block_lt_of_cell? w _ hw403_1)).trans hw403_1), ((HB.out.cell (World.block_lt_of_cell? w _ hw403_2)).trans hw403_2), ((HB.out.cell (World.block_lt_of_cell? w _ hw403_3)).trans hw403_3)⟩ (fun hHeld => ?_);clear hK K;refine norm_ (a' := ?_) ?_ ?_;rotate_left
        ·show Act.put _ (some 25) _ = _
         simp only [Act.put, List.setIfInBounds_toArray, List.set_cons_zero, List.set_cons_succ, i64_w, i32_w]
         rfl
        refine pureZ 9 (some 26) #[true, true, true, true, true, true, true, true, true, true] ?_;refine done_ (done_of HT_.out (by kernel_rfl)) ?_;try go_wp2
        go_ret
        exact ⟨zz1, (zz0 HB)⟩
      ·rw [if_neg c6] at H
       exact absurd H (by simp)
     ·rw [if_neg c5] at H
      exact absurd H (by simp)
    ·rw [if_neg c4] at H
     have c4b0 : decide (x5_1 < (l0.length : Int)) = false := decide_eq_false c4;clear c4;obtain rfl := Option.some.inj H;go_wp2
     go_ret
     exact ⟨zz1, (zz0 HB)⟩
 ·rw [if_neg c3] at H
  have c3b0 : ((l0.length : Int) == (l1.length : Int)) = false := beq_eq_false_iff_ne.mpr c3;have c3b1 : ((l0.length : Int) != (l1.length : Int)) = true := bne_iff_ne.mpr c3;have c3b2 : (l0.length == l1.length) = false := by first | simpa using c3 | (simp at c3 ⊢; omega)
  obtain rfl := Option.some.inj H;go_enter Tryd.func9, Tryd.ntmps9;go_wp2
  go_ret
  exact ⟨zz1, (zz0 HB)⟩
end Go.Proofs.YtpnedbnpnekahaaDoor.P
end
section
namespace Go.Proofs
open Go.Shelf
def Tryd.lays156_ren : Go.Shelf.Ren := ⟨fun | 156 => 51 | 165 => 63 | 166 => 64 | 169 => 65 | 240 => 78 | 241 => 79 | 276 => 87 | 277 => 88 | n => n, fun | 31 => 45 | 9 => 9 | 3 => 3 | 4 => 4 | 0 => 0 | 20 => 20 | 72 => 81 | 76 => 85 | 70 => 79 | 37 => 63 | 75 => 84 | 127 => 97 | 164 => 104 | 5 => 5 | 80 => 87 | n => n, fun | n => n⟩
theorem Tryd.lays156 : Go.Proofs.Lays.n156 Tryd.prog Tryd.lays156_ren := {
 mixed := by kernel_rfl
 f156 := Tryd.func51.trans (congrArg some (by kernel_rfl))
 f165 := Tryd.func63.trans (congrArg some (by kernel_rfl))
 f166 := Tryd.func64.trans (congrArg some (by kernel_rfl))
 f169 := Tryd.func65.trans (congrArg some (by kernel_rfl))
 f240 := Tryd.func78.trans (congrArg some (by kernel_rfl))
 f241 := Tryd.func79.trans (congrArg some (by kernel_rfl))
 f276 := Tryd.func87.trans (congrArg some (by kernel_rfl))
 f277 := Tryd.func88.trans (congrArg some (by kernel_rfl))
 t0 := Tryd.underlying0
 a0 := Tryd.isAgg0
 z0 := Tryd.sizeOf0
 v0 := Tryd.zeroValue0
 t3 := Tryd.underlying3
 a3 := Tryd.isAgg3
 z3 := Tryd.sizeOf3
 v3 := Tryd.zeroValue3
 t4 := Tryd.underlying4
 a4 := Tryd.isAgg4
 z4 := Tryd.sizeOf4
 v4 := Tryd.zeroValue4
 t9 := Tryd.underlying9
 a9 := Tryd.isAgg9
 z9 := Tryd.sizeOf9
 v9 := Tryd.zeroValue9
 t20 := Tryd.underlying20
 a20 := Tryd.isAgg20
 z20 := Tryd.sizeOf20
 v20 := Tryd.zeroValue20
 t31 := Tryd.underlying45
 a31 := Tryd.isAgg45
 z31 := Tryd.sizeOf45
 v31 := Tryd.zeroValue45
 t37 := Tryd.underlying63
 a37 := Tryd.isAgg63
 z37 := Tryd.sizeOf63
 v37 := Tryd.zeroValue63
 t70 := Tryd.underlying79
 a70 := Tryd.isAgg79
 z70 := Tryd.sizeOf79
 v70 := Tryd.zeroValue79
 t72 := Tryd.underlying81
 a72 := Tryd.isAgg81
 z72 := Tryd.sizeOf81
 v72 := Tryd.zeroValue81
 t75 := Tryd.underlying84
 a75 := Tryd.isAgg84
 z75 := Tryd.sizeOf84
 v75 := Tryd.zeroValue84
 t76 := Tryd.underlying85
 a76 := Tryd.isAgg85
 z76 := Tryd.sizeOf85
 v76 := Tryd.zeroValue85
 t127 := Tryd.underlying97
 a127 := Tryd.isAgg97
 z127 := Tryd.sizeOf97
 v127 := Tryd.zeroValue97
 t164 := Tryd.underlying104
 a164 := Tryd.isAgg104
 z164 := Tryd.sizeOf104
 v164 := Tryd.zeroValue104 }
theorem Tryd.Builder_Extra_156 : Builder.Extra Tryd.prog Tryd.lays156_ren := {
 sizeBuilder := by kernel_rfl
 liesBuilder := by kernel_rfl
 t5 := Tryd.underlying5
 a5 := Tryd.isAgg5
 z5 := Tryd.sizeOf5
 v5 := Tryd.zeroValue5
 infoByte := by kernel_rfl
 cellsByte := by kernel_rfl
 sizeByte := by kernel_rfl
 neB5 := by decide }
open Go.RowKit in
theorem Tryd.strings_Join_none (a : Option Addr) (c : Nat) (sep : ByteArray) (w : World) :
  Calls Tryd.prog 51 #[.slice a 0 c, .string sep] w fun e w' => e = .returned (.string ⟨#[]⟩) ∧ w' = w := Any.strings_Join_none Tryd.lays156 Tryd.Builder_Extra_156 a c sep w
open Go.RowKit in
theorem Tryd.strings_Join (bk o c : Nat) (xs : List ByteArray) (sep : ByteArray) (w : World) (hcells : ∀ (j : Nat) x, xs[j]? = some x → w.cell? ⟨bk, o + j, none⟩ = some (.string x)) (hbk : bk < w.heap.size) (hN : xs.length ≤ 140737488355328) (hcap : xs.length ≤ c) (hlen : (Lib.join (xs.map (·.data.toList)) sep.data.toList).length ≤ 140737488355328) :
  Calls Tryd.prog 51 #[.slice (some ⟨bk, o, none⟩) xs.length c, .string sep] w fun e w' => e = .returned (.string ⟨(Lib.join (xs.map (·.data.toList)) sep.data.toList).toArray⟩) ∧ Below w.heap.size w w' := Any.strings_Join Tryd.lays156 Tryd.Builder_Extra_156 bk o c xs sep w hcells hbk hN hcap hlen
def Tryd.lays119_ren : Go.Shelf.Ren := ⟨fun | 119 => 72 | n => n, fun | 21 => 21 | 4 => 4 | n => n, fun | n => n⟩
theorem Tryd.lays119 : Go.Proofs.Lays.n119 Tryd.prog Tryd.lays119_ren := {
 mixed := by kernel_rfl
 f119 := Tryd.func72.trans (congrArg some (by kernel_rfl))
 t4 := Tryd.underlying4
 a4 := Tryd.isAgg4
 z4 := Tryd.sizeOf4
 v4 := Tryd.zeroValue4
 t21 := Tryd.underlying21
 a21 := Tryd.isAgg21
 z21 := Tryd.sizeOf21
 v21 := Tryd.zeroValue21 }
theorem Tryd.utf8_ValidRune (r : Int) (w : World) :
  Calls Tryd.prog 72 #[.int .i32 r] w fun e w' => e = .returned (.bool (Lib.validRune r)) ∧ w' = w := Any.utf8_ValidRune Tryd.lays119 r w
def Tryd.lays137_ren : Go.Shelf.Ren := ⟨fun | 137 => 71 | 217 => 66 | 266 => 80 | n => n, fun | 9 => 9 | 5 => 5 | 3 => 3 | n => n, fun | n => n⟩
theorem Tryd.lays137 : Go.Proofs.Lays.n137 Tryd.prog Tryd.lays137_ren := {
 mixed := by kernel_rfl
 f137 := Tryd.func71.trans (congrArg some (by kernel_rfl))
 f217 := Tryd.func66.trans (congrArg some (by kernel_rfl))
 f266 := Tryd.func80.trans (congrArg some (by kernel_rfl))
 t3 := Tryd.underlying3
 a3 := Tryd.isAgg3
 z3 := Tryd.sizeOf3
 v3 := Tryd.zeroValue3
 t5 := Tryd.underlying5
 a5 := Tryd.isAgg5
 z5 := Tryd.sizeOf5
 v5 := Tryd.zeroValue5
 t9 := Tryd.underlying9
 a9 := Tryd.isAgg9
 z9 := Tryd.sizeOf9
 v9 := Tryd.zeroValue9 }
open Go.RowKit in
theorem Tryd.strings_IndexByte (s : ByteArray) (c : Int) (w : World) :
  Calls Tryd.prog 71 #[.string s, .int .u8 c] w fun e w' => e = .returned (.int .i64 (Lib.indexByte s.data.toList c.toNat.toUInt8)) ∧ w' = w := Any.strings_IndexByte Tryd.lays137 s c w
def Tryd.lays210_ren : Go.Shelf.Ren := ⟨fun | 210 => 53 | 206 => 70 | n => n, fun | 9 => 9 | 4 => 4 | 3 => 3 | n => n, fun | n => n⟩
theorem Tryd.lays210 : Go.Proofs.Lays.n210 Tryd.prog Tryd.lays210_ren := {
 mixed := by kernel_rfl
 f206 := Tryd.func70.trans (congrArg some (by kernel_rfl))
 f210 := Tryd.func53.trans (congrArg some (by kernel_rfl))
 t3 := Tryd.underlying3
 a3 := Tryd.isAgg3
 z3 := Tryd.sizeOf3
 v3 := Tryd.zeroValue3
 t4 := Tryd.underlying4
 a4 := Tryd.isAgg4
 z4 := Tryd.sizeOf4
 v4 := Tryd.zeroValue4
 t9 := Tryd.underlying9
 a9 := Tryd.isAgg9
 z9 := Tryd.sizeOf9
 v9 := Tryd.zeroValue9 }
open Go.RowKit in
theorem Tryd.stringslite_CutPrefix (s p : ByteArray) (w : World) :
  Calls Tryd.prog 53 #[.string s, .string p] w fun e w' => e = .returned (.tuple #[.string ⟨(Lib.trimPrefix s.data.toList p.data.toList).toArray⟩, .bool (Lib.hasPrefix s.data.toList p.data.toList)]) ∧ w' = w := Any.stringslite_CutPrefix Tryd.lays210 s p w
def Tryd.lays103_ren : Go.Shelf.Ren := ⟨fun | 103 => 47 | 210 => 53 | 206 => 70 | n => n, fun | 9 => 9 | 4 => 4 | 24 => 60 | 3 => 3 | n => n, fun | n => n⟩
theorem Tryd.lays103 : Go.Proofs.Lays.n103 Tryd.prog Tryd.lays103_ren := {
 mixed := by kernel_rfl
 f103 := Tryd.func47.trans (congrArg some (by kernel_rfl))
 f206 := Tryd.func70.trans (congrArg some (by kernel_rfl))
 f210 := Tryd.func53.trans (congrArg some (by kernel_rfl))
 t3 := Tryd.underlying3
 a3 := Tryd.isAgg3
 z3 := Tryd.sizeOf3
 v3 := Tryd.zeroValue3
 t4 := Tryd.underlying4
 a4 := Tryd.isAgg4
 z4 := Tryd.sizeOf4
 v4 := Tryd.zeroValue4
 t9 := Tryd.underlying9
 a9 := Tryd.isAgg9
 z9 := Tryd.sizeOf9
 v9 := Tryd.zeroValue9
 t24 := Tryd.underlying60
 a24 := Tryd.isAgg60
 z24 := Tryd.sizeOf60
 v24 := Tryd.zeroValue60 }
open Go.RowKit in
theorem Tryd.strings_CutPrefix (s p : ByteArray) (w : World) :
  Calls Tryd.prog 47 #[.string s, .string p] w fun e w' => e = .returned (.tuple #[.string ⟨(Lib.trimPrefix s.data.toList p.data.toList).toArray⟩, .bool (Lib.hasPrefix s.data.toList p.data.toList)]) ∧ w' = w := Any.strings_CutPrefix Tryd.lays103 s p w
def Tryd.lays219_ren : Go.Shelf.Ren := ⟨fun | 219 => 52 | 217 => 66 | 225 => 67 | 224 => 68 | 267 => 69 | 266 => 80 | 314 => 81 | n => n, fun | 9 => 9 | 3 => 3 | 4 => 4 | 5 => 5 | 46 => 90 | 146 => 99 | 51 => 98 | n => n, fun | 1 => 0 | n => n⟩
theorem Tryd.lays219 : Go.Proofs.Lays.n219 Tryd.prog Tryd.lays219_ren := {
 mixed := by kernel_rfl
 f217 := Tryd.func66.trans (congrArg some (by kernel_rfl))
 f219 := Tryd.func52.trans (congrArg some (by kernel_rfl))
 f224 := Tryd.func68.trans (congrArg some (by kernel_rfl))
 f225 := Tryd.func67.trans (congrArg some (by kernel_rfl))
 f266 := Tryd.func80.trans (congrArg some (by kernel_rfl))
 f267 := Tryd.func69.trans (congrArg some (by kernel_rfl))
 f314 := Tryd.func81.trans (congrArg some (by kernel_rfl))
 t3 := Tryd.underlying3
 a3 := Tryd.isAgg3
 z3 := Tryd.sizeOf3
 v3 := Tryd.zeroValue3
 t4 := Tryd.underlying4
 a4 := Tryd.isAgg4
 z4 := Tryd.sizeOf4
 v4 := Tryd.zeroValue4
 t5 := Tryd.underlying5
 a5 := Tryd.isAgg5
 z5 := Tryd.sizeOf5
 v5 := Tryd.zeroValue5
 t9 := Tryd.underlying9
 a9 := Tryd.isAgg9
 z9 := Tryd.sizeOf9
 v9 := Tryd.zeroValue9
 t46 := Tryd.underlying90
 a46 := Tryd.isAgg90
 z46 := Tryd.sizeOf90
 v46 := Tryd.zeroValue90
 t51 := Tryd.underlying98
 a51 := Tryd.isAgg98
 z51 := Tryd.sizeOf98
 v51 := Tryd.zeroValue98
 t146 := Tryd.underlying99
 a146 := Tryd.isAgg99
 z146 := Tryd.sizeOf99
 v146 := Tryd.zeroValue99
 g1 := by kernel_rfl }
open Go.RowKit Go.Lib in
theorem Tryd.stringslite_Index_one (s : ByteArray) (c : UInt8) (w : World) :
  Calls Tryd.prog 52 #[.string s, .string ⟨#[c]⟩] w fun e w' => e = .returned (.int .i64 (Lib.indexByte s.data.toList c)) ∧ w' = w := Any.stringslite_Index_one Tryd.lays219 s c w
open Go.RowKit Go.Lib in
theorem Tryd.stringslite_Index (s sub : ByteArray) (m : Int) (w : World) (hs : s.size < 4294967281) (hm : w.cell? ⟨0, 0, none⟩ = some (.int .i64 m)) :
  Calls Tryd.prog 52 #[.string s, .string sub] w fun e w' => e = .returned (.int .i64 (Lib.index s.data.toList sub.data.toList)) ∧ w' = w := Any.stringslite_Index Tryd.lays219 s sub m w hs hm
def Tryd.lays143_ren : Go.Shelf.Ren := ⟨fun | 143 => 85 | 219 => 52 | 217 => 66 | 225 => 67 | 224 => 68 | 267 => 69 | 266 => 80 | 314 => 81 | n => n, fun | 9 => 9 | 3 => 3 | 4 => 4 | 5 => 5 | 46 => 90 | 146 => 99 | 51 => 98 | n => n, fun | 1 => 0 | n => n⟩
theorem Tryd.lays143 : Go.Proofs.Lays.n143 Tryd.prog Tryd.lays143_ren := {
 mixed := by kernel_rfl
 f143 := Tryd.func85.trans (congrArg some (by kernel_rfl))
 f217 := Tryd.func66.trans (congrArg some (by kernel_rfl))
 f219 := Tryd.func52.trans (congrArg some (by kernel_rfl))
 f224 := Tryd.func68.trans (congrArg some (by kernel_rfl))
 f225 := Tryd.func67.trans (congrArg some (by kernel_rfl))
 f266 := Tryd.func80.trans (congrArg some (by kernel_rfl))
 f267 := Tryd.func69.trans (congrArg some (by kernel_rfl))
 f314 := Tryd.func81.trans (congrArg some (by kernel_rfl))
 t3 := Tryd.underlying3
 a3 := Tryd.isAgg3
 z3 := Tryd.sizeOf3
 v3 := Tryd.zeroValue3
 t4 := Tryd.underlying4
 a4 := Tryd.isAgg4
 z4 := Tryd.sizeOf4
 v4 := Tryd.zeroValue4
 t5 := Tryd.underlying5
 a5 := Tryd.isAgg5
 z5 := Tryd.sizeOf5
 v5 := Tryd.zeroValue5
 t9 := Tryd.underlying9
 a9 := Tryd.isAgg9
 z9 := Tryd.sizeOf9
 v9 := Tryd.zeroValue9
 t46 := Tryd.underlying90
 a46 := Tryd.isAgg90
 z46 := Tryd.sizeOf90
 v46 := Tryd.zeroValue90
 t51 := Tryd.underlying98
 a51 := Tryd.isAgg98
 z51 := Tryd.sizeOf98
 v51 := Tryd.zeroValue98
 t146 := Tryd.underlying99
 a146 := Tryd.isAgg99
 z146 := Tryd.sizeOf99
 v146 := Tryd.zeroValue99
 g1 := by kernel_rfl }
open Go.RowKit Go.Lib in
theorem Tryd.strings_Index (s sub : ByteArray) (m : Int) (w : World) (hs : s.size < 4294967281) (hm : w.cell? ⟨0, 0, none⟩ = some (.int .i64 m)) :
  Calls Tryd.prog 85 #[.string s, .string sub] w fun e w' => e = .returned (.int .i64 (Lib.index s.data.toList sub.data.toList)) ∧ w' = w := Any.strings_Index Tryd.lays143 s sub m w hs hm
def Tryd.lays220_ren : Go.Shelf.Ren := ⟨fun | 220 => 46 | 219 => 52 | 217 => 66 | 225 => 67 | 224 => 68 | 267 => 69 | 266 => 80 | 314 => 81 | n => n, fun | 9 => 9 | 4 => 4 | 3 => 3 | 5 => 5 | 46 => 90 | 146 => 99 | 51 => 98 | n => n, fun | 1 => 0 | n => n⟩
theorem Tryd.lays220 : Go.Proofs.Lays.n220 Tryd.prog Tryd.lays220_ren := {
 mixed := by kernel_rfl
 f217 := Tryd.func66.trans (congrArg some (by kernel_rfl))
 f219 := Tryd.func52.trans (congrArg some (by kernel_rfl))
 f220 := Tryd.func46.trans (congrArg some (by kernel_rfl))
 f224 := Tryd.func68.trans (congrArg some (by kernel_rfl))
 f225 := Tryd.func67.trans (congrArg some (by kernel_rfl))
 f266 := Tryd.func80.trans (congrArg some (by kernel_rfl))
 f267 := Tryd.func69.trans (congrArg some (by kernel_rfl))
 f314 := Tryd.func81.trans (congrArg some (by kernel_rfl))
 t3 := Tryd.underlying3
 a3 := Tryd.isAgg3
 z3 := Tryd.sizeOf3
 v3 := Tryd.zeroValue3
 t4 := Tryd.underlying4
 a4 := Tryd.isAgg4
 z4 := Tryd.sizeOf4
 v4 := Tryd.zeroValue4
 t5 := Tryd.underlying5
 a5 := Tryd.isAgg5
 z5 := Tryd.sizeOf5
 v5 := Tryd.zeroValue5
 t9 := Tryd.underlying9
 a9 := Tryd.isAgg9
 z9 := Tryd.sizeOf9
 v9 := Tryd.zeroValue9
 t46 := Tryd.underlying90
 a46 := Tryd.isAgg90
 z46 := Tryd.sizeOf90
 v46 := Tryd.zeroValue90
 t51 := Tryd.underlying98
 a51 := Tryd.isAgg98
 z51 := Tryd.sizeOf98
 v51 := Tryd.zeroValue98
 t146 := Tryd.underlying99
 a146 := Tryd.isAgg99
 z146 := Tryd.sizeOf99
 v146 := Tryd.zeroValue99
 g1 := by kernel_rfl }
open Go.RowKit Go.Lib in
theorem Tryd.stringslite_Cut (s sep : ByteArray) (m : Int) (w : World) (hs : s.size < 4294967281) (hm : w.cell? ⟨0, 0, none⟩ = some (.int .i64 m)) :
  Calls Tryd.prog 46 #[.string s, .string sep] w fun e w' => e = .returned (.tuple #[.string ⟨(Lib.cut s.data.toList sep.data.toList).1.toArray⟩, .string ⟨(Lib.cut s.data.toList sep.data.toList).2.1.toArray⟩, .bool (Lib.cut s.data.toList sep.data.toList).2.2]) ∧ ∃ n, w' = w.drewN n := Any.stringslite_Cut Tryd.lays220 s sep m w hs hm
def Tryd.lays145_ren : Go.Shelf.Ren := ⟨fun | 145 => 43 | 220 => 46 | 219 => 52 | 217 => 66 | 225 => 67 | 224 => 68 | 267 => 69 | 266 => 80 | 314 => 81 | n => n, fun | 9 => 9 | 4 => 4 | 59 => 54 | 3 => 3 | 5 => 5 | 46 => 90 | 146 => 99 | 51 => 98 | n => n, fun | 1 => 0 | n => n⟩
theorem Tryd.lays145 : Go.Proofs.Lays.n145 Tryd.prog Tryd.lays145_ren := {
 mixed := by kernel_rfl
 f145 := Tryd.func43.trans (congrArg some (by kernel_rfl))
 f217 := Tryd.func66.trans (congrArg some (by kernel_rfl))
 f219 := Tryd.func52.trans (congrArg some (by kernel_rfl))
 f220 := Tryd.func46.trans (congrArg some (by kernel_rfl))
 f224 := Tryd.func68.trans (congrArg some (by kernel_rfl))
 f225 := Tryd.func67.trans (congrArg some (by kernel_rfl))
 f266 := Tryd.func80.trans (congrArg some (by kernel_rfl))
 f267 := Tryd.func69.trans (congrArg some (by kernel_rfl))
 f314 := Tryd.func81.trans (congrArg some (by kernel_rfl))
 t3 := Tryd.underlying3
 a3 := Tryd.isAgg3
 z3 := Tryd.sizeOf3
 v3 := Tryd.zeroValue3
 t4 := Tryd.underlying4
 a4 := Tryd.isAgg4
 z4 := Tryd.sizeOf4
 v4 := Tryd.zeroValue4
 t5 := Tryd.underlying5
 a5 := Tryd.isAgg5
 z5 := Tryd.sizeOf5
 v5 := Tryd.zeroValue5
 t9 := Tryd.underlying9
 a9 := Tryd.isAgg9
 z9 := Tryd.sizeOf9
 v9 := Tryd.zeroValue9
 t46 := Tryd.underlying90
 a46 := Tryd.isAgg90
 z46 := Tryd.sizeOf90
 v46 := Tryd.zeroValue90
 t51 := Tryd.underlying98
 a51 := Tryd.isAgg98
 z51 := Tryd.sizeOf98
 v51 := Tryd.zeroValue98
 t59 := Tryd.underlying54
 a59 := Tryd.isAgg54
 z59 := Tryd.sizeOf54
 v59 := Tryd.zeroValue54
 t146 := Tryd.underlying99
 a146 := Tryd.isAgg99
 z146 := Tryd.sizeOf99
 v146 := Tryd.zeroValue99
 g1 := by kernel_rfl }
open Go.RowKit Go.Lib in
theorem Tryd.strings_Cut (s sep : ByteArray) (m : Int) (w : World) (hs : s.size < 4294967281) (hm : w.cell? ⟨0, 0, none⟩ = some (.int .i64 m)) :
  Calls Tryd.prog 43 #[.string s, .string sep] w fun e w' => e = .returned (.tuple #[.string ⟨(Lib.cut s.data.toList sep.data.toList).1.toArray⟩, .string ⟨(Lib.cut s.data.toList sep.data.toList).2.1.toArray⟩, .bool (Lib.cut s.data.toList sep.data.toList).2.2]) ∧ ∃ n, w' = w.drewN n := Any.strings_Cut Tryd.lays145 s sep m w hs hm
def Tryd.lays138_ren : Go.Shelf.Ren := ⟨fun | 138 => 84 | 195 => 89 | 218 => 91 | 143 => 85 | 219 => 52 | 217 => 66 | 225 => 67 | 224 => 68 | 267 => 69 | 266 => 80 | 314 => 81 | n => n, fun | 9 => 9 | 3 => 3 | 4 => 4 | 5 => 5 | 0 => 0 | 46 => 90 | 146 => 99 | 51 => 98 | n => n, fun | 1 => 0 | n => n⟩
theorem Tryd.lays138 : Go.Proofs.Lays.n138 Tryd.prog Tryd.lays138_ren := {
 mixed := by kernel_rfl
 f138 := Tryd.func84.trans (congrArg some (by kernel_rfl))
 f143 := Tryd.func85.trans (congrArg some (by kernel_rfl))
 f195 := Tryd.func89.trans (congrArg some (by kernel_rfl))
 f217 := Tryd.func66.trans (congrArg some (by kernel_rfl))
 f218 := Tryd.func91.trans (congrArg some (by kernel_rfl))
 f219 := Tryd.func52.trans (congrArg some (by kernel_rfl))
 f224 := Tryd.func68.trans (congrArg some (by kernel_rfl))
 f225 := Tryd.func67.trans (congrArg some (by kernel_rfl))
 f266 := Tryd.func80.trans (congrArg some (by kernel_rfl))
 f267 := Tryd.func69.trans (congrArg some (by kernel_rfl))
 f314 := Tryd.func81.trans (congrArg some (by kernel_rfl))
 t0 := Tryd.underlying0
 a0 := Tryd.isAgg0
 z0 := Tryd.sizeOf0
 v0 := Tryd.zeroValue0
 t3 := Tryd.underlying3
 a3 := Tryd.isAgg3
 z3 := Tryd.sizeOf3
 v3 := Tryd.zeroValue3
 t4 := Tryd.underlying4
 a4 := Tryd.isAgg4
 z4 := Tryd.sizeOf4
 v4 := Tryd.zeroValue4
 t5 := Tryd.underlying5
 a5 := Tryd.isAgg5
 z5 := Tryd.sizeOf5
 v5 := Tryd.zeroValue5
 t9 := Tryd.underlying9
 a9 := Tryd.isAgg9
 z9 := Tryd.sizeOf9
 v9 := Tryd.zeroValue9
 t46 := Tryd.underlying90
 a46 := Tryd.isAgg90
 z46 := Tryd.sizeOf90
 v46 := Tryd.zeroValue90
 t51 := Tryd.underlying98
 a51 := Tryd.isAgg98
 z51 := Tryd.sizeOf98
 v51 := Tryd.zeroValue98
 t146 := Tryd.underlying99
 a146 := Tryd.isAgg99
 z146 := Tryd.sizeOf99
 v146 := Tryd.zeroValue99
 g1 := by kernel_rfl }
open Go.RowKit Go.Lib in
theorem Tryd.strings_Count_one (s : ByteArray) (c : UInt8) (w : World) :
  Calls Tryd.prog 84 #[.string s, .string ⟨#[c]⟩] w fun e w' => e = .returned (.int .i64 (Lib.countByte s.data.toList c)) ∧ w' = w := Any.strings_Count_one Tryd.lays138 s c w
open Go.RowKit Go.Lib in
theorem Tryd.strings_Count (s sub : ByteArray) (m : Int) (w : World) (hs : s.size < 4294967281) (hm : w.cell? ⟨0, 0, none⟩ = some (.int .i64 m)) (h2 : 2 ≤ sub.size) :
  Calls Tryd.prog 84 #[.string s, .string sub] w fun e w' => e = .returned (.int .i64 (Lib.countB s sub)) ∧ w' = w := Any.strings_Count Tryd.lays138 s sub m w hs hm h2
def Tryd.lays206_ren : Go.Shelf.Ren := ⟨fun | 206 => 70 | n => n, fun | 9 => 9 | 4 => 4 | 3 => 3 | n => n, fun | n => n⟩
theorem Tryd.lays206 : Go.Proofs.Lays.n206 Tryd.prog Tryd.lays206_ren := {
 mixed := by kernel_rfl
 f206 := Tryd.func70.trans (congrArg some (by kernel_rfl))
 t3 := Tryd.underlying3
 a3 := Tryd.isAgg3
 z3 := Tryd.sizeOf3
 v3 := Tryd.zeroValue3
 t4 := Tryd.underlying4
 a4 := Tryd.isAgg4
 z4 := Tryd.sizeOf4
 v4 := Tryd.zeroValue4
 t9 := Tryd.underlying9
 a9 := Tryd.isAgg9
 z9 := Tryd.sizeOf9
 v9 := Tryd.zeroValue9 }
open Go.RowKit Go.Lib in
theorem Tryd.stringslite_HasPrefix (s p : ByteArray) (w : World) :
  Calls Tryd.prog 70 #[.string s, .string p] w fun e w' => e = .returned (.bool (Lib.hasPrefix s.data.toList p.data.toList)) ∧ w' = w := Any.stringslite_HasPrefix Tryd.lays206 s p w
def Tryd.lays221_ren : Go.Shelf.Ren := ⟨fun | 221 => 75 | 268 => 83 | 138 => 84 | 143 => 85 | 195 => 89 | 197 => 90 | 218 => 91 | 219 => 52 | 260 => 92 | 217 => 66 | 225 => 67 | 224 => 68 | 267 => 69 | 266 => 80 | 314 => 81 | n => n, fun | 9 => 9 | 3 => 3 | 31 => 45 | 4 => 4 | 0 => 0 | 105 => 108 | 21 => 21 | 5 => 5 | 46 => 90 | 119 => 110 | 139 => 113 | 138 => 112 | 146 => 99 | 51 => 98 | n => n, fun | 1 => 0 | 3 => 1 | 4 => 2 | n => n⟩
theorem Tryd.lays221 : Go.Proofs.Lays.n221 Tryd.prog Tryd.lays221_ren := {
 mixed := by kernel_rfl
 f138 := Tryd.func84.trans (congrArg some (by kernel_rfl))
 f143 := Tryd.func85.trans (congrArg some (by kernel_rfl))
 f195 := Tryd.func89.trans (congrArg some (by kernel_rfl))
 f197 := Tryd.func90.trans (congrArg some (by kernel_rfl))
 f217 := Tryd.func66.trans (congrArg some (by kernel_rfl))
 f218 := Tryd.func91.trans (congrArg some (by kernel_rfl))
 f219 := Tryd.func52.trans (congrArg some (by kernel_rfl))
 f221 := Tryd.func75.trans (congrArg some (by kernel_rfl))
 f224 := Tryd.func68.trans (congrArg some (by kernel_rfl))
 f225 := Tryd.func67.trans (congrArg some (by kernel_rfl))
 f260 := Tryd.func92.trans (congrArg some (by kernel_rfl))
 f266 := Tryd.func80.trans (congrArg some (by kernel_rfl))
 f267 := Tryd.func69.trans (congrArg some (by kernel_rfl))
 f268 := Tryd.func83.trans (congrArg some (by kernel_rfl))
 f314 := Tryd.func81.trans (congrArg some (by kernel_rfl))
 t0 := Tryd.underlying0
 a0 := Tryd.isAgg0
 z0 := Tryd.sizeOf0
 v0 := Tryd.zeroValue0
 t3 := Tryd.underlying3
 a3 := Tryd.isAgg3
 z3 := Tryd.sizeOf3
 v3 := Tryd.zeroValue3
 t4 := Tryd.underlying4
 a4 := Tryd.isAgg4
 z4 := Tryd.sizeOf4
 v4 := Tryd.zeroValue4
 t5 := Tryd.underlying5
 a5 := Tryd.isAgg5
 z5 := Tryd.sizeOf5
 v5 := Tryd.zeroValue5
 t9 := Tryd.underlying9
 a9 := Tryd.isAgg9
 z9 := Tryd.sizeOf9
 v9 := Tryd.zeroValue9
 t21 := Tryd.underlying21
 a21 := Tryd.isAgg21
 z21 := Tryd.sizeOf21
 v21 := Tryd.zeroValue21
 t31 := Tryd.underlying45
 a31 := Tryd.isAgg45
 z31 := Tryd.sizeOf45
 v31 := Tryd.zeroValue45
 t46 := Tryd.underlying90
 a46 := Tryd.isAgg90
 z46 := Tryd.sizeOf90
 v46 := Tryd.zeroValue90
 t51 := Tryd.underlying98
 a51 := Tryd.isAgg98
 z51 := Tryd.sizeOf98
 v51 := Tryd.zeroValue98
 t105 := Tryd.underlying108
 a105 := Tryd.isAgg108
 z105 := Tryd.sizeOf108
 v105 := Tryd.zeroValue108
 t119 := Tryd.underlying110
 a119 := Tryd.isAgg110
 z119 := Tryd.sizeOf110
 t138 := Tryd.underlying112
 a138 := Tryd.isAgg112
 z138 := Tryd.sizeOf112
 v138 := Tryd.zeroValue112
 t139 := Tryd.underlying113
 a139 := Tryd.isAgg113
 z139 := Tryd.sizeOf113
 v139 := Tryd.zeroValue113
 t146 := Tryd.underlying99
 a146 := Tryd.isAgg99
 z146 := Tryd.sizeOf99
 v146 := Tryd.zeroValue99
 g1 := by kernel_rfl
 g3 := by kernel_rfl
 g4 := by kernel_rfl }
open Go.RowKit Go.Lib in
theorem Tryd.strings_genSplit (s sep : ByteArray) (sv : Nat) (n : Int) (N : Nat) (m : Int) (w : World) (hs : s.size < 4294967281) (hm : w.cell? ⟨0, 0, none⟩ = some (.int .i64 m)) (h1 : 1 ≤ sep.size) (hsv : sv ≤ sep.size) (hn0 : n ≠ 0) (hn63 : n ≤ 9223372036854775807) (hN : (N : Int) = min (if n < 0 then (Lib.countB s sep : Int) + 1 else n) ((s.size : Int) + 1)) :
  Calls Tryd.prog 75 #[.string s, .string sep, .int .i64 sv, .int .i64 n] w fun e w' =>
   e = .returned (.slice (some ⟨w.heap.size, 0, none⟩) (Lib.splitB sep sv (N - 1) s).length N) ∧ w' = w.alloc (.cells (Lib.cellsOf (Lib.splitB sep sv (N - 1) s) N) 9) := Any.strings_genSplit Tryd.lays221 (by kernel_rfl) s sep sv n N m w hs hm h1 hsv hn0 hn63 hN
def Tryd.lays146_ren : Go.Shelf.Ren := ⟨fun | 146 => 60 | 221 => 75 | 268 => 83 | 138 => 84 | 143 => 85 | 195 => 89 | 197 => 90 | 218 => 91 | 219 => 52 | 260 => 92 | 217 => 66 | 225 => 67 | 224 => 68 | 267 => 69 | 266 => 80 | 314 => 81 | n => n, fun | 9 => 9 | 31 => 45 | 3 => 3 | 4 => 4 | 0 => 0 | 105 => 108 | 21 => 21 | 5 => 5 | 46 => 90 | 119 => 110 | 139 => 113 | 138 => 112 | 146 => 99 | 51 => 98 | n => n, fun | 1 => 0 | 3 => 1 | 4 => 2 | n => n⟩
theorem Tryd.lays146 : Go.Proofs.Lays.n146 Tryd.prog Tryd.lays146_ren := {
 mixed := by kernel_rfl
 f138 := Tryd.func84.trans (congrArg some (by kernel_rfl))
 f143 := Tryd.func85.trans (congrArg some (by kernel_rfl))
 f146 := Tryd.func60.trans (congrArg some (by kernel_rfl))
 f195 := Tryd.func89.trans (congrArg some (by kernel_rfl))
 f197 := Tryd.func90.trans (congrArg some (by kernel_rfl))
 f217 := Tryd.func66.trans (congrArg some (by kernel_rfl))
 f218 := Tryd.func91.trans (congrArg some (by kernel_rfl))
 f219 := Tryd.func52.trans (congrArg some (by kernel_rfl))
 f221 := Tryd.func75.trans (congrArg some (by kernel_rfl))
 f224 := Tryd.func68.trans (congrArg some (by kernel_rfl))
 f225 := Tryd.func67.trans (congrArg some (by kernel_rfl))
 f260 := Tryd.func92.trans (congrArg some (by kernel_rfl))
 f266 := Tryd.func80.trans (congrArg some (by kernel_rfl))
 f267 := Tryd.func69.trans (congrArg some (by kernel_rfl))
 f268 := Tryd.func83.trans (congrArg some (by kernel_rfl))
 f314 := Tryd.func81.trans (congrArg some (by kernel_rfl))
 t0 := Tryd.underlying0
 a0 := Tryd.isAgg0
 z0 := Tryd.sizeOf0
 v0 := Tryd.zeroValue0
 t3 := Tryd.underlying3
 a3 := Tryd.isAgg3
 z3 := Tryd.sizeOf3
 v3 := Tryd.zeroValue3
 t4 := Tryd.underlying4
 a4 := Tryd.isAgg4
 z4 := Tryd.sizeOf4
 v4 := Tryd.zeroValue4
 t5 := Tryd.underlying5
 a5 := Tryd.isAgg5
 z5 := Tryd.sizeOf5
 v5 := Tryd.zeroValue5
 t9 := Tryd.underlying9
 a9 := Tryd.isAgg9
 z9 := Tryd.sizeOf9
 v9 := Tryd.zeroValue9
 t21 := Tryd.underlying21
 a21 := Tryd.isAgg21
 z21 := Tryd.sizeOf21
 v21 := Tryd.zeroValue21
 t31 := Tryd.underlying45
 a31 := Tryd.isAgg45
 z31 := Tryd.sizeOf45
 v31 := Tryd.zeroValue45
 t46 := Tryd.underlying90
 a46 := Tryd.isAgg90
 z46 := Tryd.sizeOf90
 v46 := Tryd.zeroValue90
 t51 := Tryd.underlying98
 a51 := Tryd.isAgg98
 z51 := Tryd.sizeOf98
 v51 := Tryd.zeroValue98
 t105 := Tryd.underlying108
 a105 := Tryd.isAgg108
 z105 := Tryd.sizeOf108
 v105 := Tryd.zeroValue108
 t119 := Tryd.underlying110
 a119 := Tryd.isAgg110
 z119 := Tryd.sizeOf110
 t138 := Tryd.underlying112
 a138 := Tryd.isAgg112
 z138 := Tryd.sizeOf112
 v138 := Tryd.zeroValue112
 t139 := Tryd.underlying113
 a139 := Tryd.isAgg113
 z139 := Tryd.sizeOf113
 v139 := Tryd.zeroValue113
 t146 := Tryd.underlying99
 a146 := Tryd.isAgg99
 z146 := Tryd.sizeOf99
 v146 := Tryd.zeroValue99
 g1 := by kernel_rfl
 g3 := by kernel_rfl
 g4 := by kernel_rfl }
open Go.RowKit Go.Lib in
theorem Tryd.strings_Split (s sep : ByteArray) (m : Int) (w : World) (hs : s.size < 4294967281) (hm : w.cell? ⟨0, 0, none⟩ = some (.int .i64 m)) (h1 : 1 ≤ sep.size) :
  Calls Tryd.prog 60 #[.string s, .string sep] w fun e w' =>
   e = .returned (.slice (some ⟨w.heap.size, 0, none⟩) (Lib.countB s sep + 1) (Lib.countB s sep + 1)) ∧ w' = w.alloc (.cells ((Lib.splitB sep 0 (Lib.countB s sep) s).map Value.string).toArray 9) := Any.strings_Split Tryd.lays146 (by kernel_rfl) s sep m w hs hm h1
def Tryd.lays152_ren : Go.Shelf.Ren := ⟨fun | 152 => 54 | 137 => 71 | 119 => 72 | 224 => 68 | 225 => 67 | 217 => 66 | 266 => 80 | n => n, fun | 9 => 9 | 21 => 21 | 3 => 3 | 4 => 4 | 5 => 5 | 0 => 0 | 46 => 90 | n => n, fun | n => n⟩
theorem Tryd.lays152 : Go.Proofs.Lays.n152 Tryd.prog Tryd.lays152_ren := {
 mixed := by kernel_rfl
 f119 := Tryd.func72.trans (congrArg some (by kernel_rfl))
 f137 := Tryd.func71.trans (congrArg some (by kernel_rfl))
 f152 := Tryd.func54.trans (congrArg some (by kernel_rfl))
 f217 := Tryd.func66.trans (congrArg some (by kernel_rfl))
 f224 := Tryd.func68.trans (congrArg some (by kernel_rfl))
 f225 := Tryd.func67.trans (congrArg some (by kernel_rfl))
 f266 := Tryd.func80.trans (congrArg some (by kernel_rfl))
 t0 := Tryd.underlying0
 a0 := Tryd.isAgg0
 z0 := Tryd.sizeOf0
 v0 := Tryd.zeroValue0
 t3 := Tryd.underlying3
 a3 := Tryd.isAgg3
 z3 := Tryd.sizeOf3
 v3 := Tryd.zeroValue3
 t4 := Tryd.underlying4
 a4 := Tryd.isAgg4
 z4 := Tryd.sizeOf4
 v4 := Tryd.zeroValue4
 t5 := Tryd.underlying5
 a5 := Tryd.isAgg5
 z5 := Tryd.sizeOf5
 v5 := Tryd.zeroValue5
 t9 := Tryd.underlying9
 a9 := Tryd.isAgg9
 z9 := Tryd.sizeOf9
 v9 := Tryd.zeroValue9
 t21 := Tryd.underlying21
 a21 := Tryd.isAgg21
 z21 := Tryd.sizeOf21
 v21 := Tryd.zeroValue21
 t46 := Tryd.underlying90
 a46 := Tryd.isAgg90
 z46 := Tryd.sizeOf90
 v46 := Tryd.zeroValue90 }
open Go.RowKit Go.Lib in
theorem Tryd.strings_IndexRune_ascii (s : ByteArray) (r : Int) (w : World) (h0 : 0 ≤ r) (h1 : r < 128) :
  Calls Tryd.prog 54 #[.string s, .int .i32 r] w fun e w' => e = .returned (.int .i64 (Lib.indexByte s.data.toList r.toNat.toUInt8)) ∧ w' = w := Any.strings_IndexRune_ascii Tryd.lays152 s r w h0 h1
def Tryd.lays226_ren : Go.Shelf.Ren := ⟨fun | 226 => 55 | n => n, fun | 3 => 3 | 4 => 4 | n => n, fun | n => n⟩
theorem Tryd.lays226 : Go.Proofs.Lays.n226 Tryd.prog Tryd.lays226_ren := {
 mixed := by kernel_rfl
 f226 := Tryd.func55.trans (congrArg some (by kernel_rfl))
 t3 := Tryd.underlying3
 a3 := Tryd.isAgg3
 z3 := Tryd.sizeOf3
 v3 := Tryd.zeroValue3
 t4 := Tryd.underlying4
 a4 := Tryd.isAgg4
 z4 := Tryd.sizeOf4
 v4 := Tryd.zeroValue4 }
open Go.RowKit Go.Lib in
theorem Tryd.strings_shouldUseASCIISet (n : Int) (w : World) :
  Calls Tryd.prog 55 #[.int .i64 n] w fun e w' => e = .returned (.bool (decide (8 < n))) ∧ w' = w := Any.strings_shouldUseASCIISet Tryd.lays226 n w
def Tryd.lays153_ren : Go.Shelf.Ren := ⟨fun | 153 => 48 | 152 => 54 | 226 => 55 | 227 => 56 | 228 => 57 | 137 => 71 | 119 => 72 | 224 => 68 | 225 => 67 | 217 => 66 | 266 => 80 | n => n, fun | 9 => 9 | 3 => 3 | 4 => 4 | 5 => 5 | 21 => 21 | 117 => 76 | 116 => 75 | 0 => 0 | 46 => 90 | 124 => 93 | n => n, fun | n => n⟩
theorem Tryd.lays153 : Go.Proofs.Lays.n153 Tryd.prog Tryd.lays153_ren := {
 mixed := by kernel_rfl
 f119 := Tryd.func72.trans (congrArg some (by kernel_rfl))
 f137 := Tryd.func71.trans (congrArg some (by kernel_rfl))
 f152 := Tryd.func54.trans (congrArg some (by kernel_rfl))
 f153 := Tryd.func48.trans (congrArg some (by kernel_rfl))
 f217 := Tryd.func66.trans (congrArg some (by kernel_rfl))
 f224 := Tryd.func68.trans (congrArg some (by kernel_rfl))
 f225 := Tryd.func67.trans (congrArg some (by kernel_rfl))
 f226 := Tryd.func55.trans (congrArg some (by kernel_rfl))
 f227 := Tryd.func56.trans (congrArg some (by kernel_rfl))
 f228 := Tryd.func57.trans (congrArg some (by kernel_rfl))
 f266 := Tryd.func80.trans (congrArg some (by kernel_rfl))
 t0 := Tryd.underlying0
 a0 := Tryd.isAgg0
 z0 := Tryd.sizeOf0
 v0 := Tryd.zeroValue0
 t3 := Tryd.underlying3
 a3 := Tryd.isAgg3
 z3 := Tryd.sizeOf3
 v3 := Tryd.zeroValue3
 t4 := Tryd.underlying4
 a4 := Tryd.isAgg4
 z4 := Tryd.sizeOf4
 v4 := Tryd.zeroValue4
 t5 := Tryd.underlying5
 a5 := Tryd.isAgg5
 z5 := Tryd.sizeOf5
 v5 := Tryd.zeroValue5
 t9 := Tryd.underlying9
 a9 := Tryd.isAgg9
 z9 := Tryd.sizeOf9
 v9 := Tryd.zeroValue9
 t21 := Tryd.underlying21
 a21 := Tryd.isAgg21
 z21 := Tryd.sizeOf21
 v21 := Tryd.zeroValue21
 t46 := Tryd.underlying90
 a46 := Tryd.isAgg90
 z46 := Tryd.sizeOf90
 v46 := Tryd.zeroValue90
 t116 := Tryd.underlying75
 a116 := Tryd.isAgg75
 z116 := Tryd.sizeOf75
 t117 := Tryd.underlying76
 a117 := Tryd.isAgg76
 z117 := Tryd.sizeOf76
 v117 := Tryd.zeroValue76
 t124 := Tryd.underlying93
 a124 := Tryd.isAgg93
 z124 := Tryd.sizeOf93
 v124 := Tryd.zeroValue93 }
open Go.RowKit Go.Lib in
theorem Tryd.strings_IndexAny_long (hv116 : ∀ w, (zeroValue 75).run Tryd.prog w = .ok (.agg (Array.replicate 256 (.bool false))) w) (s chars : ByteArray) (w : World) (h2 : 2 ≤ chars.size) (h8 : 8 < s.size) (hs : s.size < 4294967281) (hcs : chars.size < 4294967281) (hascii : ∀ (j : Nat) b, chars.data.toList[j]? = some b → b.toNat < 128) :
  Calls Tryd.prog 48 #[.string s, .string chars] w fun e w' => e = .returned (.int .i64 (Lib.indexAny s.data.toList chars.data.toList)) ∧ w' = ((w.alloc (.cells (Lib.setCells chars.data.toList) 75)).alloc (.cells (Lib.setCells chars.data.toList) 75)) := Any.strings_IndexAny_long Tryd.lays153 hv116 (by kernel_rfl) s chars w h2 h8 hs hcs hascii
open Go.RowKit Go.Lib in
theorem Tryd.strings_IndexAny (hv116 : ∀ w, (zeroValue 75).run Tryd.prog w = .ok (.agg (Array.replicate 256 (.bool false))) w) (s chars : ByteArray) (w : World) (hs : s.size < 4294967281) (hcs : chars.size < 4294967281) (has : ∀ (j : Nat) b, s.data.toList[j]? = some b → b.toNat < 128) (hac : ∀ (j : Nat) b, chars.data.toList[j]? = some b → b.toNat < 128) :
  Calls Tryd.prog 48 #[.string s, .string chars] w fun e w' => e = .returned (.int .i64 (Lib.indexAny s.data.toList chars.data.toList)) ∧ Below w.heap.size w w' := Any.strings_IndexAny Tryd.lays153 hv116 (by kernel_rfl) s chars w hs hcs has hac
def Tryd.laysNm216_ren : Go.Shelf.Ren := ⟨fun | 16 => 59 | n => n, fun | 24 => 45 | 9 => 9 | 4 => 4 | n => n, fun | n => n⟩
theorem Tryd.laysNm216 : Go.Proofs.Lays2.n16 Tryd.prog Tryd.laysNm216_ren := {
 mixed := by kernel_rfl
 f16 := Tryd.func59.trans (congrArg some (by kernel_rfl))
 t4 := Tryd.underlying4
 a4 := Tryd.isAgg4
 z4 := Tryd.sizeOf4
 v4 := Tryd.zeroValue4
 t9 := Tryd.underlying9
 a9 := Tryd.isAgg9
 z9 := Tryd.sizeOf9
 v9 := Tryd.zeroValue9
 t24 := Tryd.underlying45
 a24 := Tryd.isAgg45
 z24 := Tryd.sizeOf45
 v24 := Tryd.zeroValue45
 i9 := by kernel_rfl }
open Go.RowKit Go.Lib in
theorem Tryd.slices_Clone_string (b off n c : Nat) (zs : List ByteArray) (w : World) (hz : n ≤ zs.length) (hbig : n * 16 ≤ 140737488355328) (hc : ∀ j, j < zs.length → w.cell? ⟨b, off + j, none⟩ = some (.string (zs.getD j ByteArray.empty))) :
  Calls Tryd.prog 59 #[.slice (some ⟨b, off, none⟩) n c] w fun e w' => ∃ v', e = .returned v' ∧ w'.ownsRow w.heap.size 9 1 v' n ((zs.take n).map (Value.string)) ∧ v' ≠ .slice none 0 0 ∧ Below w.heap.size w w' := Any.slices_Clone_string Tryd.laysNm216 b off n c zs w hz hbig hc
open Go.RowKit Go.Lib in
theorem Tryd.slices_Clone_string_nil (n c : Nat) (w : World) :
  Calls Tryd.prog 59 #[.slice none n c] w fun e w' => e = .returned (.slice none 0 0) ∧ w' = w := Any.slices_Clone_string_nil Tryd.laysNm216 n c w
open Go.RowKit Go.Lib in
theorem Tryd.slices_Clone_string_zero (a : Addr) (c : Nat) (w : World) :
  Calls Tryd.prog 59 #[.slice (some a) 0 c] w fun e w' => ∃ v', e = .returned v' ∧ w'.ownsRow w.heap.size 9 1 v' 0 [] ∧ v' ≠ .slice none 0 0 ∧ Below w.heap.size w w' := Any.slices_Clone_string_zero Tryd.laysNm216 a c w
end Go.Proofs
end
section
namespace Go.Proofs.YtpnedbnpnekahaaDoor.P
open Go.RowKit Go.Proofs.YtpnedbnpnekahaaDoorW.PrintWords Go.Proofs.YtpnedbnpnekahaaDoorW.PrintLast Go.Proofs.YtpnedbnpnekahaaDoorW.PrintMore Go.Proofs.YtpnedbnpnekahaaDoor.B Go.Proofs.YtpnedbnpnekahaaDoor.Ad
set_option linter.unusedVariables false
set_option linter.unusedSimpArgs false
theorem row_at {w : World} {A : Option Addr} {xs : List ByteArray} (h : Kd.C Kd.string w A xs.length xs) (hn : 0 < xs.length) :
  ∃ bk o, A = some ⟨bk, o, none⟩ ∧ bk < w.heap.size ∧ ∀ (j : Nat) x, xs[j]? = some x → w.cell? ⟨bk, o + j, none⟩ = some (.string x) := by
 obtain ⟨_, _, h3⟩ := h
 obtain ⟨ad, rfl, hc⟩ := h3 hn
 have cells : ∀ (j : Nat) x, xs[j]? = some x → w.cell? (ad.add j) = some (.string x) := by
  intro j x hx
  obtain ⟨c, hl, hk, hcell⟩ := hc j x hx
  have hk' : c = [Value.string x] := hk
  subst hk'
  have := hcell 0 (.string x) rfl
  rw [show j * Kd.string.sz + 0 = j from by show j * 1 + 0 = j; omega] at this
  exact this
 have h0 := cells 0 xs[0] (List.getElem?_eq_getElem hn)
 obtain ⟨bk, o, sp⟩ := ad
 have h0' : w.cell? ⟨bk, o, sp⟩ = some (.string xs[0]) := h0
 have hsp : sp = none := by
  cases sp with
  | none => rfl
  | some y =>
   unfold World.cell? at h0'
   simp at h0'
   split at h0' <;> simp at h0'
 subst hsp
 refine ⟨bk, o, rfl, ?_, fun j x hx => ?_⟩
 ·rcases Nat.lt_or_ge bk w.heap.size with h | h
  ·exact h
  ·unfold World.cell? at h0'
   simp [Array.getElem?_eq_none h] at h0'
 ·have := cells j x hx
  unfold Addr.add at this
  split at this
  ·rename_i hj; subst hj; exact this
  ·exact this
def strings_Join.f (l0 : List ByteArray) (a1 : ByteArray) : Option (ByteArray) :=
 if l0.length ≤ 140737488355328 ∧ (Lib.join (l0.map L) (L a1)).length ≤ 140737488355328 then some (ofL (Lib.join (l0.map L) (L a1))) else none
theorem strings_Join.calls (A0 : Option Addr) (c0 : Nat) (l0 : List ByteArray) (a1 : ByteArray) (r : ByteArray) (w : World) (hr0 : Kd.C Kd.string w A0 l0.length l0) (hc0 : l0.length ≤ c0) (h : strings_Join.f l0 a1 = some r) :
  Calls Tryd.prog 51 #[.slice A0 l0.length c0, .string a1] w fun e w' => e = .returned (.string r) ∧ Below w.heap.size w w' := by
 unfold strings_Join.f at h
 split at h
 ·rename_i hh
  obtain rfl := Option.some.inj h
  rcases Nat.eq_zero_or_pos l0.length with h0 | h0
  ·obtain rfl : l0 = [] := List.length_eq_zero_iff.1 h0
   exact (Tryd.strings_Join_none A0 c0 a1 w).mono fun e w' ⟨he, hw⟩ => ⟨he, hw ▸ Below.refl _ _⟩
  ·obtain ⟨bk, o, rfl, hb, hcells⟩ := row_at hr0 h0
   exact Tryd.strings_Join bk o c0 l0 a1 w hcells hb hh.1 hc0 hh.2
 ·cases h
end Go.Proofs.YtpnedbnpnekahaaDoor.P
end
section
namespace Go.Proofs.YtpnedbnpnekahaaDoor.P
open Go.RowKit Go.Proofs.YtpnedbnpnekahaaDoorW.PrintWords Go.Proofs.YtpnedbnpnekahaaDoorW.PrintLast Go.Proofs.YtpnedbnpnekahaaDoorW.PrintMore
attribute [local go_sem] max2_int min2_int max_two min_two max_three min_three max_four min_four
set_option linter.unusedVariables false
set_option linter.unusedSimpArgs false
def impl_writePath.f (a0_0 : ByteArray) (l0_1 : List ByteArray) (a0_2 : Bool) (a0_3 : ByteArray) : Option (ByteArray) := (strings_Join.f l0_1 (⟨#[47]⟩ : ByteArray)).bind fun t312 => (if 1 + t312.size ≤ 9223372036854775807 then (if a0_2 = true then (if 1 + a0_3.size ≤ 9223372036854775807 then (if 1 + t312.size + 1 + a0_3.size ≤ 9223372036854775807 then (some (((⟨#[47]⟩ : ByteArray) ++ t312) ++ ((⟨#[63]⟩ : ByteArray) ++ a0_3))) else (none)) else (none)) else (some ((⟨#[47]⟩ : ByteArray) ++ t312))) else (none))
set_option maxHeartbeats 8000000 in
set_option maxRecDepth 100000 in
theorem impl_writePath.calls (a0_0 : ByteArray) (A0_1 : Option Addr) (c0_1 : Nat) (l0_1 : List ByteArray) (a0_2 : Bool) (a0_3 : ByteArray) (r : ByteArray) (w : World) (hr0_1 : Kd.C Kd.string w A0_1 l0_1.length l0_1) (hc0_1 : l0_1.length ≤ c0_1) (h : impl_writePath.f a0_0 l0_1 a0_2 a0_3 = some r) :
  Calls Tryd.prog 45 #[.agg #[.string a0_0, .slice A0_1 l0_1.length c0_1, .bool a0_2, .string a0_3]] w fun e w' => e = .returned (.string r) ∧ Below w.heap.size w w' := by
 have hu47 := Tryd.underlying47;have HR0_1 := Aside0.mk hr0_1;have HC0_1 := Aside0.mk hc0_1;clear hr0_1 hc0_1;have HB := Aside0.mk (Below.refl w.heap.size w);have H : ((strings_Join.f l0_1 (⟨#[47]⟩ : ByteArray)).bind fun t312 => (if 1 + t312.size ≤ 9223372036854775807 then (if a0_2 = true then (if 1 + a0_3.size ≤ 9223372036854775807 then (if 1 + t312.size + 1 + a0_3.size ≤ 9223372036854775807 then (some (((⟨#[47]⟩ : ByteArray) ++ t312) ++ ((⟨#[63]⟩ : ByteArray) ++ a0_3))) else (none)) else (none)) else (some ((⟨#[47]⟩ : ByteArray) ++ t312))) else (none))) = some r := h;clear h;replace H := bindA H;obtain ⟨t312, A2, H⟩ := H;by_cases c3 : 1 + t312.size ≤ 9223372036854775807
 ·rw [if_pos c3] at H
  have c3b0 := eq_true c3;have c3b1 : decide (1 + t312.size ≤ 9223372036854775807) = true := decide_eq_true c3;try have c3b2 : (9223372036854775807 < 1 + t312.size) = False := eq_false (Nat.not_lt.2 c3)
  by_cases c4 : a0_2 = true
  ·subst c4
   rw [if_pos rfl] at H;by_cases c5 : 1 + a0_3.size ≤ 9223372036854775807
   ·rw [if_pos c5] at H
    have c5b0 := eq_true c5;have c5b1 : decide (1 + a0_3.size ≤ 9223372036854775807) = true := decide_eq_true c5;try have c5b2 : (9223372036854775807 < 1 + a0_3.size) = False := eq_false (Nat.not_lt.2 c5)
    by_cases c6 : 1 + t312.size + 1 + a0_3.size ≤ 9223372036854775807
    ·rw [if_pos c6] at H
     have c6b0 := eq_true c6;have c6b1 : decide (1 + t312.size + 1 + a0_3.size ≤ 9223372036854775807) = true := decide_eq_true c6;try have c6b2 : (9223372036854775807 < 1 + t312.size + 1 + a0_3.size) = False := eq_false (Nat.not_lt.2 c6)
     obtain rfl := Option.some.inj H;go_enter Tryd.func45, Tryd.ntmps45;go_wp2_with (first | ((with_reducible refine gate_dst (N := 1) rfl ?_); refine boxE 1 #[.string a0_0, .slice A0_1 l0_1.length c0_1, .bool true, .string a0_3] 47 ?_; intro gb311 hg w7 hbox hb; have n0_ := Aside0.mk (below_step (zz0 HB) hb); have n1_ := Aside0.mk (hbox); have n2_ := Aside0.mk ((by rw [hg]; exact (below_size (zz0 HB)) : w.heap.size ≤ gb311)); have n3_ := Aside0.mk ((by rw [hg]; exact (below_size (zz0 HB)) : w.heap.size ≤ gb311)); clear HB; have HB := n0_; have BK311 := n1_; have GW311 := n2_; have GE311 := n3_; clear n0_ n1_ n2_ n3_; clear hb hbox hg; obtain ⟨_, _, _, _, _, _, _, _⟩ := cf4 BK311) | ((with_reducible refine gate_callee (f := 51) rfl ?_); refine gsL (some 6) Tryd.func51 #[.slice A0_1 l0_1.length c0_1, .string (⟨#[47]⟩ : ByteArray)] ?_; (with_reducible refine (strings_Join.calls _ _ l0_1 (⟨#[47]⟩ : ByteArray) t312 _ ?side1 ?side2 A2.out).mono ?_); (case side1 => exact (zz24 HR0_1 HB)); (case side2 => exact HC0_1.out); rintro e w9 ⟨rfl, hb⟩; refine ⟨_, rfl, ?_⟩; have n0_ := Aside0.mk (blk_below (zz21 BK311) hb); have n1_ := Aside0.mk (below_step (zz2 HB GE311) hb); clear BK311; clear HB; have BK311 := n0_; have HB := n1_; clear n0_ n1_; (try clear hb); obtain ⟨_, _, _, _, _, _, _, _⟩ := cf4 BK311))
     go_ret
     exact ⟨zz1, (zz2 HB GE311)⟩
    ·rw [if_neg c6] at H
     exact absurd H (by simp)
   ·rw [if_neg c5] at H
    exact absurd H (by simp)
  ·replace c4 := Bool.eq_false_iff.mpr c4
   subst c4;rw [if_neg (show ¬ (false = true) by decide)] at H;obtain rfl := Option.some.inj H;go_enter Tryd.func45, Tryd.ntmps45;go_wp2_with (first | ((with_reducible refine gate_dst (N := 1) rfl ?_); refine boxE 1 #[.string a0_0, .slice A0_1 l0_1.length c0_1, .bool false, .string a0_3] 47 ?_; intro gb311 hg w11 hbox hb; have n0_ := Aside0.mk (below_step (zz0 HB) hb); have n1_ := Aside0.mk (hbox); have n2_ := Aside0.mk ((by rw [hg]; exact (below_size (zz0 HB)) : w.heap.size ≤ gb311)); have n3_ := Aside0.mk ((by rw [hg]; exact (below_size (zz0 HB)) : w.heap.size ≤ gb311)); clear HB; have HB := n0_; have BK311 := n1_; have GW311 := n2_; have GE311 := n3_; clear n0_ n1_ n2_ n3_; clear hb hbox hg; obtain ⟨_, _, _, _, _, _, _, _⟩ := cf4 BK311) | ((with_reducible refine gate_callee (f := 51) rfl ?_); refine gsL (some 6) Tryd.func51 #[.slice A0_1 l0_1.length c0_1, .string (⟨#[47]⟩ : ByteArray)] ?_; (with_reducible refine (strings_Join.calls _ _ l0_1 (⟨#[47]⟩ : ByteArray) t312 _ ?side1 ?side2 A2.out).mono ?_); (case side1 => exact (zz24 HR0_1 HB)); (case side2 => exact HC0_1.out); rintro e w13 ⟨rfl, hb⟩; refine ⟨_, rfl, ?_⟩; have n0_ := Aside0.mk (blk_below (zz21 BK311) hb); have n1_ := Aside0.mk (below_step (zz2 HB GE311) hb); clear BK311; clear HB; have BK311 := n0_; have HB := n1_; clear n0_ n1_; (try clear hb); obtain ⟨_, _, _, _, _, _, _, _⟩ := cf4 BK311))
   go_ret
   exact ⟨zz1, (zz2 HB GE311)⟩
 ·rw [if_neg c3] at H
  exact absurd H (by simp)
def impl_writeAddr.f (a0_0 : ByteArray) (l0_1 : List ByteArray) (a0_2 : Bool) (a0_3 : ByteArray) : Option (ByteArray) := if 2 + a0_0.size ≤ 9223372036854775807 then ((impl_writePath.f a0_0 l0_1 a0_2 a0_3).bind fun t314 => (if 2 + a0_0.size + t314.size ≤ 9223372036854775807 then (some (((⟨#[47, 47]⟩ : ByteArray) ++ a0_0) ++ t314)) else (none))) else (none)
set_option maxHeartbeats 8000000 in
set_option maxRecDepth 100000 in
theorem impl_writeAddr.calls (a0_0 : ByteArray) (A0_1 : Option Addr) (c0_1 : Nat) (l0_1 : List ByteArray) (a0_2 : Bool) (a0_3 : ByteArray) (r : ByteArray) (w : World) (hr0_1 : Kd.C Kd.string w A0_1 l0_1.length l0_1) (hc0_1 : l0_1.length ≤ c0_1) (h : impl_writeAddr.f a0_0 l0_1 a0_2 a0_3 = some r) :
  Calls Tryd.prog 39 #[.agg #[.string a0_0, .slice A0_1 l0_1.length c0_1, .bool a0_2, .string a0_3]] w fun e w' => e = .returned (.string r) ∧ Below w.heap.size w w' := by
 have hu47 := Tryd.underlying47;have HR0_1 := Aside0.mk hr0_1;have HC0_1 := Aside0.mk hc0_1;clear hr0_1 hc0_1;have HB := Aside0.mk (Below.refl w.heap.size w);have H : (if 2 + a0_0.size ≤ 9223372036854775807 then ((impl_writePath.f a0_0 l0_1 a0_2 a0_3).bind fun t314 => (if 2 + a0_0.size + t314.size ≤ 9223372036854775807 then (some (((⟨#[47, 47]⟩ : ByteArray) ++ a0_0) ++ t314)) else (none))) else (none)) = some r := h;clear h;by_cases c2 : 2 + a0_0.size ≤ 9223372036854775807
 ·rw [if_pos c2] at H
  have c2b0 := eq_true c2;have c2b1 : decide (2 + a0_0.size ≤ 9223372036854775807) = true := decide_eq_true c2;try have c2b2 : (9223372036854775807 < 2 + a0_0.size) = False := eq_false (Nat.not_lt.2 c2)
  replace H := bindA H;obtain ⟨t314, A3, H⟩ := H;by_cases c4 : 2 + a0_0.size + t314.size ≤ 9223372036854775807
  ·rw [if_pos c4] at H
   have c4b0 := eq_true c4;have c4b1 : decide (2 + a0_0.size + t314.size ≤ 9223372036854775807) = true := decide_eq_true c4;try have c4b2 : (9223372036854775807 < 2 + a0_0.size + t314.size) = False := eq_false (Nat.not_lt.2 c4)
   obtain rfl := Option.some.inj H;go_enter Tryd.func39, Tryd.ntmps39;try go_wp2_with (first | ((with_reducible refine gate_dst (N := 1) rfl ?_); refine boxE 1 #[.string a0_0, .slice A0_1 l0_1.length c0_1, .bool a0_2, .string a0_3] 47 ?_; intro gb313 hg w5 hbox hb; have n0_ := Aside0.mk (below_step (zz0 HB) hb); have n1_ := Aside0.mk (hbox); have n2_ := Aside0.mk ((by rw [hg]; exact (below_size (zz0 HB)) : w.heap.size ≤ gb313)); have n3_ := Aside0.mk ((by rw [hg]; exact (below_size (zz0 HB)) : w.heap.size ≤ gb313)); clear HB; have HB := n0_; have BK313 := n1_; have GW313 := n2_; have GE313 := n3_; clear n0_ n1_ n2_ n3_; clear hb hbox hg))
   have n0_ := Aside0.mk (blk_drew BK313.out);have n1_ := Aside0.mk (below_drew1 HB.out);clear BK313;clear HB;have BK313 := n0_;have HB := n1_;clear n0_ n1_;refine start_ (n := 7) (S := fun w' => w'.cell? ⟨gb313, 0, none⟩ = some (.string a0_0) ∧ w'.cell? ⟨gb313, 1, none⟩ = some (.slice A0_1 l0_1.length c0_1) ∧ w'.cell? ⟨gb313, 2, none⟩ = some (.bool a0_2) ∧ w'.cell? ⟨gb313, 3, none⟩ = some (.string a0_3)) (ds := []) #[false, false, false, false, false, false, false] (by kernel_rfl) rfl rfl ⟨(blk_cell BK313.out 0).trans rfl, (blk_cell BK313.out 1).trans rfl, (blk_cell BK313.out 2).trans rfl, (blk_cell BK313.out 3).trans rfl⟩ (fun hHeld => ?_);generalize w5.drew = w6 at BK313 HB hHeld ⊢;refine pure_ (i := 0) (N := some 3) (v := ?_) (a' := ?_) #[true, false, false, false, false, false, false] rfl rfl (by kernel_rfl) (fun _ _ _ h => h) (Or.inl ⟨by rfl, ?_⟩) ?_ ?_;rotate_left
   ·intro w'
    go_simp
    with_reducible rfl
   rotate_left
   ·simp only [Act.put, List.setIfInBounds_toArray, List.set_cons_zero, List.set_cons_succ, i64_w, i32_w]
    rfl
   refine take_ (i := 1) (N := some 4) (v := ?_) (a' := ?_) #[true, true, false, false, false, false, false] rfl rfl (by kernel_rfl) (fun _ _ _ h => h) (Or.inl ⟨by rfl, ?_⟩) hHeld ?_ ?_;rotate_left
   ·rintro w' ⟨s0, s1, s2, s3⟩
    go_simp
    with_reducible rfl
   rotate_left
   ·simp only [Act.put, List.setIfInBounds_toArray, List.set_cons_zero, List.set_cons_succ, i64_w, i32_w]
    rfl
   refine pure_ (i := 2) (N := some 5) (v := ?_) (a' := ?_) #[true, true, true, false, false, false, false] rfl rfl (by kernel_rfl) (fun _ _ _ h => h) (Or.inl ⟨by rfl, ?_⟩) ?_ ?_;rotate_left
   ·intro w'
    go_simp
    with_reducible rfl
   rotate_left
   ·simp only [Act.put, List.setIfInBounds_toArray, List.set_cons_zero, List.set_cons_succ, i64_w, i32_w]
    rfl
   refine take_ (i := 3) (N := some 6) (v := ?_) (a' := ?_) #[true, true, true, true, false, false, false] rfl rfl (by kernel_rfl) (fun _ _ _ h => h) (Or.inl ⟨by rfl, ?_⟩) hHeld ?_ ?_;rotate_left
   ·rintro w' ⟨s0, s1, s2, s3⟩
    go_simp
    with_reducible rfl
   rotate_left
   ·simp only [Act.put, List.setIfInBounds_toArray, List.set_cons_zero, List.set_cons_succ, i64_w, i32_w]
    rfl
   refine one_ (i := 4) (N := some 7) #[true, true, true, true, true, false, false] rfl rfl (by kernel_rfl) (by decide) (fun K hK => ?_);refine goes_ Tryd.func45 (by kernel_rfl) rfl #[.agg #[.string a0_0, .slice A0_1 l0_1.length c0_1, .bool a0_2, .string a0_3]] (by rfl) rfl rfl zz23 ?_;with_reducible refine (impl_writePath.calls a0_0 _ _ l0_1 a0_2 a0_3 t314 _ ?side1 ?side2 A3.out).mono ?_
   (case side1 => exact (zz24 HR0_1 HB))
   (case side2 => exact HC0_1.out)
   rintro e w7 ⟨rfl, hb⟩;refine ⟨_, rfl, ?_⟩;have n0_ := Aside0.mk (blk_below (zz21 BK313) hb);have n1_ := Aside0.mk (below_step (zz2 HB GE313) hb);clear BK313;clear HB;have BK313 := n0_;have HB := n1_;clear n0_ n1_;(try clear hb)
   (try clear hb2)
   (try clear hk)
   (try clear hi)
   refine hK.out _ _ ⟨(blk_cell BK313.out 0).trans rfl, (blk_cell BK313.out 1).trans rfl, (blk_cell BK313.out 2).trans rfl, (blk_cell BK313.out 3).trans rfl⟩ (fun hHeld => ?_);clear hK K;refine norm_ (a' := ?_) ?_ ?_;rotate_left
   ·show Act.put _ (some 7) _ = _
    simp only [Act.put, List.setIfInBounds_toArray, List.set_cons_zero, List.set_cons_succ, i64_w, i32_w]
    rfl
   refine pure_ (i := 5) (N := some 8) (v := ?_) (a' := ?_) #[true, true, true, true, true, true, false] rfl rfl (by kernel_rfl) (fun _ _ _ h => h) (Or.inl ⟨by rfl, ?_⟩) ?_ ?_;rotate_left
   ·intro w'
    go_simp
    with_reducible rfl
   rotate_left
   ·simp only [Act.put, List.setIfInBounds_toArray, List.set_cons_zero, List.set_cons_succ, i64_w, i32_w]
    rfl
   refine pure_ (i := 6) (N := some 2) (v := ?_) (a' := ?_) #[true, true, true, true, true, true, true] rfl rfl (by kernel_rfl) (fun _ _ _ h => h) (Or.inl ⟨by rfl, ?_⟩) ?_ ?_;rotate_left
   ·intro w'
    go_simp
    with_reducible rfl
   rotate_left
   ·simp only [Act.put, List.setIfInBounds_toArray, List.set_cons_zero, List.set_cons_succ, i64_w, i32_w]
    rfl
   refine done_ (by kernel_rfl) ?_;try go_wp2
   go_ret
   exact ⟨zz1, (zz2 HB GE313)⟩
  ·rw [if_neg c4] at H
   exact absurd H (by simp)
 ·rw [if_neg c2] at H
  exact absurd H (by simp)
end Go.Proofs.YtpnedbnpnekahaaDoor.P
end
section
namespace Go.Proofs.YtpnedbnpnekahaaDoor.P
open Go.RowKit Go.Proofs.YtpnedbnpnekahaaDoorW.PrintWords Go.Proofs.YtpnedbnpnekahaaDoorW.PrintLast Go.Proofs.YtpnedbnpnekahaaDoorW.PrintMore Go.Proofs.YtpnedbnpnekahaaDoor.B Go.Proofs.YtpnedbnpnekahaaDoor.Ad
set_option linter.unusedVariables false
set_option linter.unusedSimpArgs false
def stringslite_Index.f (a0 : ByteArray) (a1 : ByteArray) : Option (Int) := match L a1 with
 | [c] => some (Lib.indexByte (L a0) c)
 | _ => none
theorem one_of_L {a : ByteArray} {c : UInt8} (h : L a = [c]) : a = ⟨#[c]⟩ := L_inj (by rw [h])
theorem stringslite_Index.calls (a0 : ByteArray) (a1 : ByteArray) (r : Int) (w : World) (h : stringslite_Index.f a0 a1 = some r) :
  Calls Tryd.prog 52 #[.string a0, .string a1] w fun e w' => e = .returned (.int .i64 r) ∧ Below w.heap.size w w' := by
 unfold stringslite_Index.f at h
 split at h
 ·rename_i c hc
  obtain rfl := Option.some.inj h
  obtain rfl := one_of_L hc
  exact (Tryd.stringslite_Index_one a0 c w).mono fun e w' ⟨he, hw⟩ => ⟨he, hw ▸ Below.refl _ _⟩
 ·cases h
def strings_Count.f (a0 : ByteArray) (a1 : ByteArray) : Option (Int) := match L a1 with
 | [c] => some (Lib.countByte (L a0) c)
 | _ => none
theorem strings_Count.calls (a0 : ByteArray) (a1 : ByteArray) (r : Int) (w : World) (h : strings_Count.f a0 a1 = some r) :
  Calls Tryd.prog 84 #[.string a0, .string a1] w fun e w' => e = .returned (.int .i64 r) ∧ Below w.heap.size w w' := by
 unfold strings_Count.f at h
 split at h
 ·rename_i c hc
  obtain rfl := Option.some.inj h
  obtain rfl := one_of_L hc
  exact (Tryd.strings_Count_one a0 c w).mono fun e w' ⟨he, hw⟩ => ⟨he, hw ▸ Below.refl _ _⟩
 ·cases h
end Go.Proofs.YtpnedbnpnekahaaDoor.P
end
section
namespace Go.Proofs.YtpnedbnpnekahaaDoor.P
open Go.RowKit Go.Proofs.YtpnedbnpnekahaaDoorW.PrintWords Go.Proofs.YtpnedbnpnekahaaDoorW.PrintLast Go.Proofs.YtpnedbnpnekahaaDoorW.PrintMore
attribute [local go_sem] max2_int min2_int max_two min_two max_three min_three max_four min_four
set_option linter.unusedVariables false
set_option linter.unusedSimpArgs false
def stringslite_Cut.f (a0 : ByteArray) (a1 : ByteArray) : Option (ByteArray × ByteArray × Bool) := (stringslite_Index.f a0 a1).bind fun t250 => (if t250 ≥ 0 then (if 0 ≤ t250 then (if t250 ≤ (a0.size : Int) then (if 0 ≤ (wrap64 (t250 + (a1.size : Int))) then (if (wrap64 (t250 + (a1.size : Int))) ≤ (a0.size : Int) then (some (a0.extract 0 (t250 : Int).toNat, a0.extract ((wrap64 (t250 + (a1.size : Int))) : Int).toNat a0.size, true)) else (none)) else (none)) else (none)) else (none)) else (some (a0, (⟨#[]⟩ : ByteArray), false)))
set_option maxHeartbeats 8000000 in
set_option maxRecDepth 100000 in
theorem stringslite_Cut.calls (a0 : ByteArray) (a1 : ByteArray) (r1 : ByteArray) (r2 : ByteArray) (r3 : Bool) (w : World) (h : stringslite_Cut.f a0 a1 = some (r1, r2, r3)) :
  Calls Tryd.prog 46 #[.string a0, .string a1] w fun e w' => e = .returned (.tuple #[.string r1, .string r2, .bool r3]) ∧ Below w.heap.size w w' := by
 have HB := Aside0.mk (Below.refl w.heap.size w);have H : ((stringslite_Index.f a0 a1).bind fun t250 => (if t250 ≥ 0 then (if 0 ≤ t250 then (if t250 ≤ (a0.size : Int) then (if 0 ≤ (wrap64 (t250 + (a1.size : Int))) then (if (wrap64 (t250 + (a1.size : Int))) ≤ (a0.size : Int) then (some (a0.extract 0 (t250 : Int).toNat, a0.extract ((wrap64 (t250 + (a1.size : Int))) : Int).toNat a0.size, true)) else (none)) else (none)) else (none)) else (none)) else (some (a0, (⟨#[]⟩ : ByteArray), false)))) = some (r1, r2, r3) := h;clear h;replace H := bindA H;obtain ⟨t250, A3, H⟩ := H;by_cases c4 : t250 ≥ 0
 ·rw [if_pos c4] at H
  have c4b0 : decide (0 ≤ t250) = true := decide_eq_true c4;clear c4;by_cases c5 : 0 ≤ t250
  ·rw [if_pos c5] at H
   have c5b0 := eq_true c5;have c5b1 : decide (0 ≤ t250) = true := decide_eq_true c5;clear c5;by_cases c6 : t250 ≤ (a0.size : Int)
   ·rw [if_pos c6] at H
    have c6b0 := eq_true c6;have c6b1 : decide (t250 ≤ (a0.size : Int)) = true := decide_eq_true c6;clear c6;obtain ⟨ji7, hji7⟩ : ∃ j_ : Int, (wrap64 (t250 + (a1.size : Int))) = j_ := ⟨_, rfl⟩;replace H : (if 0 ≤ (ji7) then (if (ji7) ≤ (a0.size : Int) then (some (a0.extract 0 (t250 : Int).toNat, a0.extract ((ji7) : Int).toNat a0.size, true)) else (none)) else (none)) = some (r1, r2, r3) := by first | (rw [hji7] at H; exact H) | (simp only [hji7] at H ⊢; exact H)
    (try rw [hji7] at A3)
    have hji7w : (IntKind.i64.wrap (t250 + (a1.size : Int))) = ji7 := (i64_w _).trans hji7;by_cases c8 : 0 ≤ (ji7)
    ·rw [if_pos c8] at H
     have c8b0 := eq_true c8;have c8b1 : decide (0 ≤ (ji7)) = true := decide_eq_true c8;clear c8;by_cases c9 : (ji7) ≤ (a0.size : Int)
     ·rw [if_pos c9] at H
      have c9b0 := eq_true c9;have c9b1 : decide ((ji7) ≤ (a0.size : Int)) = true := decide_eq_true c9;clear c9;simp only [Option.some.injEq, Prod.mk.injEq] at H
      obtain ⟨rfl, rfl, rfl⟩ := H;go_enter Tryd.func46, Tryd.ntmps46;go_wp2_with (first | (go_at_call 52; (with_reducible refine (stringslite_Index.calls a0 a1 t250 _ A3.out).mono ?_); rintro e w10 ⟨rfl, hb⟩; have n0_ := Aside0.mk (below_step (zz0 HB) hb); clear HB; have HB := n0_; clear n0_; (try clear hb)))
      repeat (go_quiet (first | (go_at_call 52; (with_reducible refine (stringslite_Index.calls a0 a1 t250 _ A3.out).mono ?_); rintro e w10 ⟨rfl, hb⟩; have n0_ := Aside0.mk (below_step (zz0 HB) hb); clear HB; have HB := n0_; clear n0_; (try clear hb))); try go_wp2_with (first | (go_at_call 52; (with_reducible refine (stringslite_Index.calls a0 a1 t250 _ A3.out).mono ?_); rintro e w10 ⟨rfl, hb⟩; have n0_ := Aside0.mk (below_step (zz0 HB) hb); clear HB; have HB := n0_; clear n0_; (try clear hb))))
      go_ret3
      exact ⟨(by first | rfl | (simp [errW_none, errW_some] <;> rfl) | (simp only [← hji7]; first | rfl | (simp [errW_none, errW_some] <;> rfl)) | (simp [*, errW_none, errW_some] <;> rfl)), (zz0 HB)⟩
     ·rw [if_neg c9] at H
      exact absurd H (by simp)
    ·rw [if_neg c8] at H
     exact absurd H (by simp)
   ·rw [if_neg c6] at H
    exact absurd H (by simp)
  ·rw [if_neg c5] at H
   exact absurd H (by simp)
 ·rw [if_neg c4] at H
  have c4b0 : decide (0 ≤ t250) = false := decide_eq_false c4;clear c4;simp only [Option.some.injEq, Prod.mk.injEq] at H
  obtain ⟨rfl, rfl, rfl⟩ := H;go_enter Tryd.func46, Tryd.ntmps46;go_wp2_with (first | (go_at_call 52; (with_reducible refine (stringslite_Index.calls a0 a1 t250 _ A3.out).mono ?_); rintro e w11 ⟨rfl, hb⟩; have n0_ := Aside0.mk (below_step (zz0 HB) hb); clear HB; have HB := n0_; clear n0_; (try clear hb)))
  repeat (go_quiet (first | (go_at_call 52; (with_reducible refine (stringslite_Index.calls a0 a1 t250 _ A3.out).mono ?_); rintro e w11 ⟨rfl, hb⟩; have n0_ := Aside0.mk (below_step (zz0 HB) hb); clear HB; have HB := n0_; clear n0_; (try clear hb))); try go_wp2_with (first | (go_at_call 52; (with_reducible refine (stringslite_Index.calls a0 a1 t250 _ A3.out).mono ?_); rintro e w11 ⟨rfl, hb⟩; have n0_ := Aside0.mk (below_step (zz0 HB) hb); clear HB; have HB := n0_; clear n0_; (try clear hb))))
  go_ret3
  exact ⟨zz1, (zz0 HB)⟩
def strings_Cut.f (a0 : ByteArray) (a1 : ByteArray) : Option (ByteArray × ByteArray × Bool) := (stringslite_Cut.f a0 a1).bind fun bt251 => (some (bt251.1, bt251.2.1, bt251.2.2))
set_option maxHeartbeats 8000000 in
set_option maxRecDepth 100000 in
theorem strings_Cut.calls (a0 : ByteArray) (a1 : ByteArray) (r1 : ByteArray) (r2 : ByteArray) (r3 : Bool) (w : World) (h : strings_Cut.f a0 a1 = some (r1, r2, r3)) :
  Calls Tryd.prog 43 #[.string a0, .string a1] w fun e w' => e = .returned (.tuple #[.string r1, .string r2, .bool r3]) ∧ Below w.heap.size w w' := by
 have HB := Aside0.mk (Below.refl w.heap.size w);have H : ((stringslite_Cut.f a0 a1).bind fun bt251 => (some (bt251.1, bt251.2.1, bt251.2.2))) = some (r1, r2, r3) := h;clear h;replace H := bindA H;obtain ⟨⟨t251, t252, t253⟩, A3, H⟩ := H;try dsimp -simprocs only at H
 simp only [Option.some.injEq, Prod.mk.injEq] at H
 obtain ⟨rfl, rfl, rfl⟩ := H;go_enter Tryd.func43, Tryd.ntmps43;go_wp2_with (first | ((with_reducible refine gate_callee (f := 46) rfl ?_); refine gsL (some 9) Tryd.func46 #[.string a0, .string a1] ?_; (with_reducible refine (stringslite_Cut.calls a0 a1 t251 t252 t253 _ A3.out).mono ?_); rintro e w4 ⟨rfl, hb⟩; refine ⟨_, rfl, ?_⟩; have n0_ := Aside0.mk (below_step (zz0 HB) hb); clear HB; have HB := n0_; clear n0_; (try clear hb)))
 go_ret3
 exact ⟨zz1, (zz0 HB)⟩
def stringslite_HasPrefix.f (a0 : ByteArray) (a1 : ByteArray) : Option (Bool) := if (a0.size : Int) ≥ (a1.size : Int) then (if 0 ≤ (a1.size : Int) then (if (a1.size : Int) ≤ (a0.size : Int) then (some ((a0.extract 0 ((a1.size : Int) : Int).toNat).toList == a1.toList)) else (none)) else (none)) else (some false)
set_option maxHeartbeats 8000000 in
set_option maxRecDepth 100000 in
theorem stringslite_HasPrefix.calls (a0 : ByteArray) (a1 : ByteArray) (r : Bool) (w : World) (h : stringslite_HasPrefix.f a0 a1 = some r) :
  Calls Tryd.prog 70 #[.string a0, .string a1] w fun e w' => e = .returned (.bool r) ∧ Drawn0 w w' := by
 have H : (if (a0.size : Int) ≥ (a1.size : Int) then (if 0 ≤ (a1.size : Int) then (if (a1.size : Int) ≤ (a0.size : Int) then (some ((a0.extract 0 ((a1.size : Int) : Int).toNat).toList == a1.toList)) else (none)) else (none)) else (some false)) = some r := h;clear h;by_cases c3 : (a0.size : Int) ≥ (a1.size : Int)
 ·rw [if_pos c3] at H
  have c3b0 : decide ((a1.size : Int) ≤ (a0.size : Int)) = true := decide_eq_true c3;have c3b1 : decide (a1.size ≤ a0.size) = true := decide_eq_true (Int.ofNat_le.mp c3);clear c3;by_cases c4 : 0 ≤ (a1.size : Int)
  ·rw [if_pos c4] at H
   have c4b0 := eq_true c4;have c4b1 : decide (0 ≤ (a1.size : Int)) = true := decide_eq_true c4;clear c4;by_cases c5 : (a1.size : Int) ≤ (a0.size : Int)
   ·rw [if_pos c5] at H
    have c5b0 := eq_true c5;have c5b1 : decide ((a1.size : Int) ≤ (a0.size : Int)) = true := decide_eq_true c5;clear c5;obtain rfl := Option.some.inj H;go_enter Tryd.func70, Tryd.ntmps70;go_wp2
    go_ret
    exact ⟨zz3, zz6⟩
   ·rw [if_neg c5] at H
    exact absurd H (by simp)
  ·rw [if_neg c4] at H
   exact absurd H (by simp)
 ·rw [if_neg c3] at H
  have c3b0 : decide ((a1.size : Int) ≤ (a0.size : Int)) = false := decide_eq_false c3;have c3b1 : decide (a1.size ≤ a0.size) = false := decide_eq_false (fun h => c3 (Int.ofNat_le.mpr h));clear c3;obtain rfl := Option.some.inj H;go_enter Tryd.func70, Tryd.ntmps70;go_wp2
  go_ret
  exact ⟨zz3, zz6⟩
def stringslite_CutPrefix.f (a0 : ByteArray) (a1 : ByteArray) : Option (ByteArray × Bool) := (stringslite_HasPrefix.f a0 a1).bind fun t254 => (if t254 = true then (if 0 ≤ (a1.size : Int) then (if (a1.size : Int) ≤ (a0.size : Int) then (some (a0.extract ((a1.size : Int) : Int).toNat a0.size, true)) else (none)) else (none)) else (some (a0, false)))
set_option maxHeartbeats 8000000 in
set_option maxRecDepth 100000 in
theorem stringslite_CutPrefix.calls (a0 : ByteArray) (a1 : ByteArray) (r1 : ByteArray) (r2 : Bool) (w : World) (h : stringslite_CutPrefix.f a0 a1 = some (r1, r2)) :
  Calls Tryd.prog 53 #[.string a0, .string a1] w fun e w' => e = .returned (.tuple #[.string r1, .bool r2]) ∧ Drawn0 w w' := by
 have H : ((stringslite_HasPrefix.f a0 a1).bind fun t254 => (if t254 = true then (if 0 ≤ (a1.size : Int) then (if (a1.size : Int) ≤ (a0.size : Int) then (some (a0.extract ((a1.size : Int) : Int).toNat a0.size, true)) else (none)) else (none)) else (some (a0, false)))) = some (r1, r2) := h;clear h;replace H := bindA H;obtain ⟨t254, A3, H⟩ := H;by_cases c4 : t254 = true
 ·subst c4
  rw [if_pos rfl] at H;by_cases c5 : 0 ≤ (a1.size : Int)
  ·rw [if_pos c5] at H
   have c5b0 := eq_true c5;have c5b1 : decide (0 ≤ (a1.size : Int)) = true := decide_eq_true c5;clear c5;by_cases c6 : (a1.size : Int) ≤ (a0.size : Int)
   ·rw [if_pos c6] at H
    have c6b0 := eq_true c6;have c6b1 : decide ((a1.size : Int) ≤ (a0.size : Int)) = true := decide_eq_true c6;clear c6;simp only [Option.some.injEq, Prod.mk.injEq] at H
    obtain ⟨rfl, rfl⟩ := H;go_enter Tryd.func53, Tryd.ntmps53;go_wp2_with (first | ((with_reducible refine gate_callee (f := 70) rfl ?_); refine gsL (some 8) Tryd.func70 #[.string a0, .string a1] ?_; (with_reducible refine (stringslite_HasPrefix.calls a0 a1 true _ A3.out).mono ?_); rintro e w' ⟨rfl, ⟨nd, rfl⟩⟩; refine ⟨_, rfl, ?_⟩))
    go_ret2
    exact ⟨zz3, zz6⟩
   ·rw [if_neg c6] at H
    exact absurd H (by simp)
  ·rw [if_neg c5] at H
   exact absurd H (by simp)
 ·replace c4 := Bool.eq_false_iff.mpr c4
  subst c4;rw [if_neg (show ¬ (false = true) by decide)] at H;simp only [Option.some.injEq, Prod.mk.injEq] at H
  obtain ⟨rfl, rfl⟩ := H;go_enter Tryd.func53, Tryd.ntmps53;go_wp2_with (first | ((with_reducible refine gate_callee (f := 70) rfl ?_); refine gsL (some 8) Tryd.func70 #[.string a0, .string a1] ?_; (with_reducible refine (stringslite_HasPrefix.calls a0 a1 false _ A3.out).mono ?_); rintro e w' ⟨rfl, ⟨nd, rfl⟩⟩; refine ⟨_, rfl, ?_⟩))
  go_ret2
  exact ⟨zz3, zz6⟩
def strings_CutPrefix.f (a0 : ByteArray) (a1 : ByteArray) : Option (ByteArray × Bool) := (stringslite_CutPrefix.f a0 a1).bind fun bt255 => (some (bt255.1, bt255.2))
set_option maxHeartbeats 8000000 in
set_option maxRecDepth 100000 in
theorem strings_CutPrefix.calls (a0 : ByteArray) (a1 : ByteArray) (r1 : ByteArray) (r2 : Bool) (w : World) (h : strings_CutPrefix.f a0 a1 = some (r1, r2)) :
  Calls Tryd.prog 47 #[.string a0, .string a1] w fun e w' => e = .returned (.tuple #[.string r1, .bool r2]) ∧ Drawn0 w w' := by
 have H : ((stringslite_CutPrefix.f a0 a1).bind fun bt255 => (some (bt255.1, bt255.2))) = some (r1, r2) := h;clear h;replace H := bindA H;obtain ⟨⟨t255, t256⟩, A3, H⟩ := H;try dsimp -simprocs only at H
 simp only [Option.some.injEq, Prod.mk.injEq] at H
 obtain ⟨rfl, rfl⟩ := H;go_enter Tryd.func47, Tryd.ntmps47;go_wp2_with (first | ((with_reducible refine gate_callee (f := 53) rfl ?_); refine gsL (some 8) Tryd.func53 #[.string a0, .string a1] ?_; (with_reducible refine (stringslite_CutPrefix.calls a0 a1 t255 t256 _ A3.out).mono ?_); rintro e w' ⟨rfl, ⟨nd, rfl⟩⟩; refine ⟨_, rfl, ?_⟩))
 go_ret2
 exact ⟨zz3, zz6⟩
end Go.Proofs.YtpnedbnpnekahaaDoor.P
end
section
namespace Go.Proofs.YtpnedbnpnekahaaDoor.P
open Go.RowKit Go.Proofs.YtpnedbnpnekahaaDoorW.PrintWords Go.Proofs.YtpnedbnpnekahaaDoorW.PrintLast Go.Proofs.YtpnedbnpnekahaaDoorW.PrintMore
set_option linter.unusedVariables false
set_option linter.unusedSimpArgs false
def hexS : ByteArray := ⟨#[48, 49, 50, 51, 52, 53, 54, 55, 56, 57, 65, 66, 67, 68, 69, 70]⟩
def figAt (k : Nat) : Nat := if k < 10 then 48 + k else 55 + k
def figI (b : Int) : Int × Bool := if 48 ≤ b ∧ b ≤ 57 then (b - 48, true) else if 65 ≤ b ∧ b ≤ 70 then (b - 55, true) else (0, false)
def impl_figureValue.f (a0 : Int) : Option (Int × Bool) := if 0 ≤ a0 ∧ a0 < 256 then some (figI (if 97 ≤ a0 ∧ a0 ≤ 102 then a0 - 32 else a0)) else none
theorem hex_at : ∀ k : Nat, k < 16 → hexS.size = 16 ∧ ∃ h : k < hexS.size, (hexS[k]'h).toNat = figAt k := by decide +kernel
theorem fig_hit {k : Nat} {b : Int} (hk : k < 16) (h : (figAt k : Int) = b) : figI b = ((k : Int), true) := by
 unfold figAt at h; unfold figI
 split at h
 ·rw [if_pos (by omega)]; congr 1; omega
 ·rw [if_neg (by omega), if_pos (by omega)]; congr 1; omega
theorem fig_miss {b : Int} (h : ∀ j : Nat, j < 16 → (figAt j : Int) ≠ b) : figI b = (0, false) := by
 unfold figI
 split
 ·rename_i hh
  exact absurd (by unfold figAt; rw [if_pos (by omega)]; omega) (h (b - 48).toNat (by omega))
 ·split
  ·rename_i hh
   exact absurd (by unfold figAt; rw [if_neg (by omega)]; omega) (h (b - 55).toNat (by omega))
  ·rfl
set_option maxHeartbeats 1000000 in
set_option maxRecDepth 1000000 in
theorem impl_figureValue.calls (a0 : Int) (r0 : Int) (r1 : Bool) (w : World) (h : impl_figureValue.f a0 = some (r0, r1)) :
  Calls Tryd.prog 82 #[.int .u8 a0] w fun e w' => e = .returned (.tuple #[.int .i64 r0, .bool r1]) ∧ Below w.heap.size w w' := by
 unfold impl_figureValue.f at h
 split at h
 case isFalse => cases h
 rename_i hh
 have h := Option.some.inj h
 obtain ⟨b, hb⟩ : ∃ b, b = (if 97 ≤ a0 ∧ a0 ≤ 102 then a0 - 32 else a0) := ⟨_, rfl⟩
 rw [← hb] at h
 by_cases h1 : 97 ≤ a0
 ·by_cases h2 : a0 ≤ 102
  ·rw [if_pos ⟨h1, h2⟩] at hb
   go_enter Tryd.func82, Tryd.ntmps82
   go_wp2
   go_loopw [4] (fun n w' => ∃ k : Nat, k ≤ 16 ∧ w' = w.iter hexS k ∧ ∀ j : Nat, j < k → (figAt j : Int) ≠ (a0 - 32)) (fun _ w' => 16 - w'.iterPos w.heap.size)
   case atStart => exact ⟨0, by omega, rfl, fun j hj => absurd hj (by omega)⟩
   case round =>
    obtain ⟨k, hk, rfl, hne⟩ := hrel
    have hbel : ∀ p, Below w.heap.size w (w.iter hexS p) := fun p => (Below.refl _ _).alloc (Nat.le_refl _) _
    by_cases hlt : k < 16
    ·obtain ⟨hsz, hx, hf⟩ := hex_at k hlt
     have hnx : ∀ ty, (Instr.next (.pointer (some ⟨w.heap.size, 0, none⟩)) true ty).run Tryd.prog (w.iter hexS k) = .ok (.tuple #[.bool true, .int .i64 k, .int .i32 (figAt k : Nat)]) (w.iter hexS (k + 1)) := fun ty => by
      have hfl : figAt k < 128 := by unfold figAt; split <;> omega
      rw [← hf]
      exact run_next_ascii w hexS k ty hx (by rw [hf]; exact hfl)
     by_cases he : (figAt k : Int) = (a0 - 32)
     ·have hr := fig_hit hlt he
      rw [← hb, h, Prod.mk.injEq] at hr
      obtain ⟨rfl, rfl⟩ := hr
      go_wp2
      go_ret2
      exact ⟨rfl, hbel _⟩
     ·go_wp2
      refine ⟨⟨k + 1, by omega, rfl, fun j hj => ?_⟩, by simp; omega⟩
      by_cases e : j = k
      ·subst e; exact he
      ·exact hne j (by omega)
    ·obtain rfl : k = 16 := by omega
     have hr := fig_miss hne
     rw [← hb, h, Prod.mk.injEq] at hr
     obtain ⟨rfl, rfl⟩ := hr
     have hnx : ∀ ty, (Instr.next (.pointer (some ⟨w.heap.size, 0, none⟩)) true ty).run Tryd.prog (w.iter hexS 16) = _ := fun ty => run_next_end w hexS 16 ty (by decide)
     go_wp2
     go_ret2
     exact ⟨rfl, hbel _⟩
  ·rw [if_neg (fun e => h2 e.2)] at hb
   go_enter Tryd.func82, Tryd.ntmps82
   go_wp2
   go_loopw [4] (fun n w' => ∃ k : Nat, k ≤ 16 ∧ w' = w.iter hexS k ∧ ∀ j : Nat, j < k → (figAt j : Int) ≠ a0) (fun _ w' => 16 - w'.iterPos w.heap.size)
   case atStart => exact ⟨0, by omega, rfl, fun j hj => absurd hj (by omega)⟩
   case round =>
    obtain ⟨k, hk, rfl, hne⟩ := hrel
    have hbel : ∀ p, Below w.heap.size w (w.iter hexS p) := fun p => (Below.refl _ _).alloc (Nat.le_refl _) _
    by_cases hlt : k < 16
    ·obtain ⟨hsz, hx, hf⟩ := hex_at k hlt
     have hnx : ∀ ty, (Instr.next (.pointer (some ⟨w.heap.size, 0, none⟩)) true ty).run Tryd.prog (w.iter hexS k) = .ok (.tuple #[.bool true, .int .i64 k, .int .i32 (figAt k : Nat)]) (w.iter hexS (k + 1)) := fun ty => by
      have hfl : figAt k < 128 := by unfold figAt; split <;> omega
      rw [← hf]
      exact run_next_ascii w hexS k ty hx (by rw [hf]; exact hfl)
     by_cases he : (figAt k : Int) = a0
     ·have hr := fig_hit hlt he
      rw [← hb, h, Prod.mk.injEq] at hr
      obtain ⟨rfl, rfl⟩ := hr
      go_wp2
      go_ret2
      exact ⟨rfl, hbel _⟩
     ·go_wp2
      refine ⟨⟨k + 1, by omega, rfl, fun j hj => ?_⟩, by simp; omega⟩
      by_cases e : j = k
      ·subst e; exact he
      ·exact hne j (by omega)
    ·obtain rfl : k = 16 := by omega
     have hr := fig_miss hne
     rw [← hb, h, Prod.mk.injEq] at hr
     obtain ⟨rfl, rfl⟩ := hr
     have hnx : ∀ ty, (Instr.next (.pointer (some ⟨w.heap.size, 0, none⟩)) true ty).run Tryd.prog (w.iter hexS 16) = _ := fun ty => run_next_end w hexS 16 ty (by decide)
     go_wp2
     go_ret2
     exact ⟨rfl, hbel _⟩
 ·rw [if_neg (fun e => h1 e.1)] at hb
  go_enter Tryd.func82, Tryd.ntmps82
  go_wp2
  go_loopw [4] (fun n w' => ∃ k : Nat, k ≤ 16 ∧ w' = w.iter hexS k ∧ ∀ j : Nat, j < k → (figAt j : Int) ≠ a0) (fun _ w' => 16 - w'.iterPos w.heap.size)
  case atStart => exact ⟨0, by omega, rfl, fun j hj => absurd hj (by omega)⟩
  case round =>
   obtain ⟨k, hk, rfl, hne⟩ := hrel
   have hbel : ∀ p, Below w.heap.size w (w.iter hexS p) := fun p => (Below.refl _ _).alloc (Nat.le_refl _) _
   by_cases hlt : k < 16
   ·obtain ⟨hsz, hx, hf⟩ := hex_at k hlt
    have hnx : ∀ ty, (Instr.next (.pointer (some ⟨w.heap.size, 0, none⟩)) true ty).run Tryd.prog (w.iter hexS k) = .ok (.tuple #[.bool true, .int .i64 k, .int .i32 (figAt k : Nat)]) (w.iter hexS (k + 1)) := fun ty => by
     have hfl : figAt k < 128 := by unfold figAt; split <;> omega
     rw [← hf]
     exact run_next_ascii w hexS k ty hx (by rw [hf]; exact hfl)
    by_cases he : (figAt k : Int) = a0
    ·have hr := fig_hit hlt he
     rw [← hb, h, Prod.mk.injEq] at hr
     obtain ⟨rfl, rfl⟩ := hr
     go_wp2
     go_ret2
     exact ⟨rfl, hbel _⟩
    ·go_wp2
     refine ⟨⟨k + 1, by omega, rfl, fun j hj => ?_⟩, by simp; omega⟩
     by_cases e : j = k
     ·subst e; exact he
     ·exact hne j (by omega)
   ·obtain rfl : k = 16 := by omega
    have hr := fig_miss hne
    rw [← hb, h, Prod.mk.injEq] at hr
    obtain ⟨rfl, rfl⟩ := hr
    have hnx : ∀ ty, (Instr.next (.pointer (some ⟨w.heap.size, 0, none⟩)) true ty).run Tryd.prog (w.iter hexS 16) = _ := fun ty => run_next_end w hexS 16 ty (by decide)
    go_wp2
    go_ret2
    exact ⟨rfl, hbel _⟩
end Go.Proofs.YtpnedbnpnekahaaDoor.P
end
section
namespace Go.Proofs.YtpnedbnpnekahaaDoor.P
open Go.RowKit Go.Proofs.YtpnedbnpnekahaaDoorW.PrintWords Go.Proofs.YtpnedbnpnekahaaDoorW.PrintLast Go.Proofs.YtpnedbnpnekahaaDoorW.PrintMore
attribute [local go_sem] max2_int min2_int max_two min_two max_three min_three max_four min_four
set_option linter.unusedVariables false
set_option linter.unusedSimpArgs false
def impl_signByte.f (a0 : ByteArray) (a1 : Int) : Option (Int × Bool) := if (wrap64 ((a0.size : Int) - a1)) < 3 then (some (0, false)) else (if 0 ≤ (wrap64 (a1 + 1)) then (if (wrap64 (a1 + 1)) < (a0.size : Int) then ((impl_figureValue.f (bt a0 (wrap64 (a1 + 1)))).bind fun bt257 => (if 0 ≤ (wrap64 (a1 + 2)) then (if (wrap64 (a1 + 2)) < (a0.size : Int) then ((impl_figureValue.f (bt a0 (wrap64 (a1 + 2)))).bind fun bt259 => (if bt257.2 = true then (if bt259.2 = true then (some ((wrap64 ((wrap64 (bt257.1 * 16)) + bt259.1)) % 256, true)) else (some (0, false))) else (some (0, false)))) else (none)) else (none))) else (none)) else (none))
set_option maxHeartbeats 8000000 in
set_option maxRecDepth 100000 in
theorem impl_signByte.calls (a0 : ByteArray) (a1 : Int) (r1 : Int) (r2 : Bool) (w : World) (h : impl_signByte.f a0 a1 = some (r1, r2)) :
  Calls Tryd.prog 73 #[.string a0, .int .i64 a1] w fun e w' => e = .returned (.tuple #[.int .u8 r1, .bool r2]) ∧ Below w.heap.size w w' := by
 have HB := Aside0.mk (Below.refl w.heap.size w);have H : (if (wrap64 ((a0.size : Int) - a1)) < 3 then (some (0, false)) else (if 0 ≤ (wrap64 (a1 + 1)) then (if (wrap64 (a1 + 1)) < (a0.size : Int) then ((impl_figureValue.f (bt a0 (wrap64 (a1 + 1)))).bind fun bt257 => (if 0 ≤ (wrap64 (a1 + 2)) then (if (wrap64 (a1 + 2)) < (a0.size : Int) then ((impl_figureValue.f (bt a0 (wrap64 (a1 + 2)))).bind fun bt259 => (if bt257.2 = true then (if bt259.2 = true then (some ((wrap64 ((wrap64 (bt257.1 * 16)) + bt259.1)) % 256, true)) else (some (0, false))) else (some (0, false)))) else (none)) else (none))) else (none)) else (none))) = some (r1, r2) := h;clear h;by_cases c3 : (wrap64 ((a0.size : Int) - a1)) < 3
 ·rw [if_pos c3] at H
  have c3b0 : decide ((wrap64 ((a0.size : Int) - a1)) < 3) = true := decide_eq_true c3;clear c3;simp only [Option.some.injEq, Prod.mk.injEq] at H
  obtain ⟨rfl, rfl⟩ := H;go_enter Tryd.func73, Tryd.ntmps73;go_wp2
  go_ret2
  exact ⟨zz1, (zz0 HB)⟩
 ·rw [if_neg c3] at H
  have c3b0 : decide ((wrap64 ((a0.size : Int) - a1)) < 3) = false := decide_eq_false c3;clear c3;obtain ⟨ji4, hji4⟩ : ∃ j_ : Int, (wrap64 (a1 + 1)) = j_ := ⟨_, rfl⟩;replace H : (if 0 ≤ (ji4) then (if (ji4) < (a0.size : Int) then ((impl_figureValue.f (bt a0 (ji4))).bind fun bt257 => (if 0 ≤ (wrap64 (a1 + 2)) then (if (wrap64 (a1 + 2)) < (a0.size : Int) then ((impl_figureValue.f (bt a0 (wrap64 (a1 + 2)))).bind fun bt259 => (if bt257.2 = true then (if bt259.2 = true then (some ((wrap64 ((wrap64 (bt257.1 * 16)) + bt259.1)) % 256, true)) else (some (0, false))) else (some (0, false)))) else (none)) else (none))) else (none)) else (none)) = some (r1, r2) := by first | (rw [hji4] at H; exact H) | (simp only [hji4] at H ⊢; exact H)
  have hji4w : (IntKind.i64.wrap (a1 + 1)) = ji4 := (i64_w _).trans hji4;by_cases c5 : 0 ≤ (ji4)
  ·rw [if_pos c5] at H
   have c5b0 : decide (0 ≤ (ji4)) = true := decide_eq_true c5;clear c5;by_cases c6 : (ji4) < (a0.size : Int)
   ·rw [if_pos c6] at H
    have c6b0 : decide ((ji4) < (a0.size : Int)) = true := decide_eq_true c6;clear c6;replace H := bindA H;obtain ⟨⟨t257, t258⟩, A8, H⟩ := H;try dsimp -simprocs only at H
    obtain ⟨ji9, hji9⟩ : ∃ j_ : Int, (wrap64 (a1 + 2)) = j_ := ⟨_, rfl⟩;replace H : (if 0 ≤ (ji9) then (if (ji9) < (a0.size : Int) then ((impl_figureValue.f (bt a0 (ji9))).bind fun bt259 => (if t258 = true then (if bt259.2 = true then (some ((wrap64 ((wrap64 (t257 * 16)) + bt259.1)) % 256, true)) else (some (0, false))) else (some (0, false)))) else (none)) else (none)) = some (r1, r2) := by first | (rw [hji9] at H; exact H) | (simp only [hji9] at H ⊢; exact H)
    (try rw [hji9] at A8)
    have hji9w : (IntKind.i64.wrap (a1 + 2)) = ji9 := (i64_w _).trans hji9;by_cases c10 : 0 ≤ (ji9)
    ·rw [if_pos c10] at H
     have c10b0 : decide (0 ≤ (ji9)) = true := decide_eq_true c10;clear c10;by_cases c11 : (ji9) < (a0.size : Int)
     ·rw [if_pos c11] at H
      have c11b0 : decide ((ji9) < (a0.size : Int)) = true := decide_eq_true c11;clear c11;replace H := bindA H;obtain ⟨⟨t259, t260⟩, A13, H⟩ := H;try dsimp -simprocs only at H
      by_cases c14 : t258 = true
      ·subst c14
       rw [if_pos rfl] at H;by_cases c15 : t260 = true
       ·subst c15
        rw [if_pos rfl] at H;simp only [Option.some.injEq, Prod.mk.injEq] at H
        obtain ⟨rfl, rfl⟩ := H;have p7 : 0 ≤ ((ji4) : Int) := ofD;have q7 : (ji4) < (a0.size : Int) := ofD;have hx7 := bt_at a0 (ji4);replace p7 := eq_true p7;replace q7 := eq_true q7;go_enter Tryd.func73, Tryd.ntmps73;go_wp2_with (first | ((with_reducible refine gate_callee (f := 82) rfl ?_); refine goesL_ (some 20) rfl rfl Tryd.func82 (by kernel_rfl) rfl #[.int .u8 (bt a0 (ji4))] rfl zz63 ?_; (with_reducible refine (impl_figureValue.calls (bt a0 (ji4)) t257 true _ A8.out).mono ?_); rintro e w16 ⟨rfl, hb⟩; refine ⟨_, rfl, ?_⟩; have n0_ := Aside0.mk (below_step (zz0 HB) hb); clear HB; have HB := n0_; clear n0_; (try clear hb); have p12 : 0 ≤ ((ji9) : Int) := ofD; have q12 : (ji9) < (a0.size : Int) := ofD; have hx12 := bt_at a0 (ji9); replace p12 := eq_true p12; replace q12 := eq_true q12) | ((with_reducible refine gate_callee (f := 82) rfl ?_); refine goesL_ (some 28) rfl rfl Tryd.func82 (by kernel_rfl) rfl #[.int .u8 (bt a0 (ji9))] rfl zz64 ?_; (with_reducible refine (impl_figureValue.calls (bt a0 (ji9)) t259 true _ A13.out).mono ?_); rintro e w17 ⟨rfl, hb⟩; refine ⟨_, rfl, ?_⟩; have n0_ := Aside0.mk (below_step (zz0 HB) hb); clear HB; have HB := n0_; clear n0_; (try clear hb)))
        go_ret2
        exact ⟨zz65, (zz0 HB)⟩
       ·replace c15 := Bool.eq_false_iff.mpr c15
        subst c15;rw [if_neg (show ¬ (false = true) by decide)] at H;simp only [Option.some.injEq, Prod.mk.injEq] at H
        obtain ⟨rfl, rfl⟩ := H;have p7 : 0 ≤ ((ji4) : Int) := ofD;have q7 : (ji4) < (a0.size : Int) := ofD;have hx7 := bt_at a0 (ji4);replace p7 := eq_true p7;replace q7 := eq_true q7;go_enter Tryd.func73, Tryd.ntmps73;go_wp2_with (first | ((with_reducible refine gate_callee (f := 82) rfl ?_); refine goesL_ (some 20) rfl rfl Tryd.func82 (by kernel_rfl) rfl #[.int .u8 (bt a0 (ji4))] rfl zz63 ?_; (with_reducible refine (impl_figureValue.calls (bt a0 (ji4)) t257 true _ A8.out).mono ?_); rintro e w18 ⟨rfl, hb⟩; refine ⟨_, rfl, ?_⟩; have n0_ := Aside0.mk (below_step (zz0 HB) hb); clear HB; have HB := n0_; clear n0_; (try clear hb); have p12 : 0 ≤ ((ji9) : Int) := ofD; have q12 : (ji9) < (a0.size : Int) := ofD; have hx12 := bt_at a0 (ji9); replace p12 := eq_true p12; replace q12 := eq_true q12) | ((with_reducible refine gate_callee (f := 82) rfl ?_); refine goesL_ (some 28) rfl rfl Tryd.func82 (by kernel_rfl) rfl #[.int .u8 (bt a0 (ji9))] rfl zz64 ?_; (with_reducible refine (impl_figureValue.calls (bt a0 (ji9)) t259 false _ A13.out).mono ?_); rintro e w19 ⟨rfl, hb⟩; refine ⟨_, rfl, ?_⟩; have n0_ := Aside0.mk (below_step (zz0 HB) hb); clear HB; have HB := n0_; clear n0_; (try clear hb)))
        go_ret2
        exact ⟨zz65, (zz0 HB)⟩
      ·replace c14 := Bool.eq_false_iff.mpr c14
       subst c14;rw [if_neg (show ¬ (false = true) by decide)] at H;simp only [Option.some.injEq, Prod.mk.injEq] at H
       obtain ⟨rfl, rfl⟩ := H;have p7 : 0 ≤ ((ji4) : Int) := ofD;have q7 : (ji4) < (a0.size : Int) := ofD;have hx7 := bt_at a0 (ji4);replace p7 := eq_true p7;replace q7 := eq_true q7;go_enter Tryd.func73, Tryd.ntmps73;go_wp2_with (first | ((with_reducible refine gate_callee (f := 82) rfl ?_); refine goesL_ (some 20) rfl rfl Tryd.func82 (by kernel_rfl) rfl #[.int .u8 (bt a0 (ji4))] rfl zz63 ?_; (with_reducible refine (impl_figureValue.calls (bt a0 (ji4)) t257 false _ A8.out).mono ?_); rintro e w20 ⟨rfl, hb⟩; refine ⟨_, rfl, ?_⟩; have n0_ := Aside0.mk (below_step (zz0 HB) hb); clear HB; have HB := n0_; clear n0_; (try clear hb); have p12 : 0 ≤ ((ji9) : Int) := ofD; have q12 : (ji9) < (a0.size : Int) := ofD; have hx12 := bt_at a0 (ji9); replace p12 := eq_true p12; replace q12 := eq_true q12) | ((with_reducible refine gate_callee (f := 82) rfl ?_); refine goesL_ (some 28) rfl rfl Tryd.func82 (by kernel_rfl) rfl #[.int .u8 (bt a0 (ji9))] rfl zz64 ?_; (with_reducible refine (impl_figureValue.calls (bt a0 (ji9)) t259 t260 _ A13.out).mono ?_); rintro e w21 ⟨rfl, hb⟩; refine ⟨_, rfl, ?_⟩; have n0_ := Aside0.mk (below_step (zz0 HB) hb); clear HB; have HB := n0_; clear n0_; (try clear hb)))
       go_ret2
       exact ⟨zz65, (zz0 HB)⟩
     ·rw [if_neg c11] at H
      exact absurd H (by simp)
    ·rw [if_neg c10] at H
     exact absurd H (by simp)
   ·rw [if_neg c6] at H
    exact absurd H (by simp)
  ·rw [if_neg c5] at H
   exact absurd H (by simp)
def impl_standsForItself.f (a0 : Int) : Option (Bool) := if a0 ≥ 97 then (if a0 ≤ 122 then (some true) else (if a0 ≥ 48 then (if a0 ≤ 57 then (some true) else (if a0 = 46 then (some true) else (some (a0 == 45)))) else (if a0 = 46 then (some true) else (some (a0 == 45))))) else (if a0 ≥ 48 then (if a0 ≤ 57 then (some true) else (if a0 = 46 then (some true) else (some (a0 == 45)))) else (if a0 = 46 then (some true) else (some (a0 == 45))))
set_option maxHeartbeats 8000000 in
set_option maxRecDepth 100000 in
theorem impl_standsForItself.calls (a0 : Int) (r : Bool) (w : World) (h : impl_standsForItself.f a0 = some r) :
  Calls Tryd.prog 74 #[.int .u8 a0] w fun e w' => e = .returned (.bool r) ∧ Drawn0 w w' := by
 have H : (if a0 ≥ 97 then (if a0 ≤ 122 then (some true) else (if a0 ≥ 48 then (if a0 ≤ 57 then (some true) else (if a0 = 46 then (some true) else (some (a0 == 45)))) else (if a0 = 46 then (some true) else (some (a0 == 45))))) else (if a0 ≥ 48 then (if a0 ≤ 57 then (some true) else (if a0 = 46 then (some true) else (some (a0 == 45)))) else (if a0 = 46 then (some true) else (some (a0 == 45))))) = some r := h;clear h;by_cases c2 : a0 ≥ 97
 ·rw [if_pos c2] at H
  have c2b0 : decide (97 ≤ a0) = true := decide_eq_true c2;clear c2;by_cases c3 : a0 ≤ 122
  ·rw [if_pos c3] at H
   have c3b0 : decide (a0 ≤ 122) = true := decide_eq_true c3;clear c3;obtain rfl := Option.some.inj H;go_enter Tryd.func74, Tryd.ntmps74;go_wp2
   go_ret
   exact ⟨zz3, zz6⟩
  ·rw [if_neg c3] at H
   have c3b0 : decide (a0 ≤ 122) = false := decide_eq_false c3;clear c3;by_cases c4 : a0 ≥ 48
   ·rw [if_pos c4] at H
    have c4b0 : decide (48 ≤ a0) = true := decide_eq_true c4;clear c4;by_cases c5 : a0 ≤ 57
    ·rw [if_pos c5] at H
     have c5b0 : decide (a0 ≤ 57) = true := decide_eq_true c5;clear c5;obtain rfl := Option.some.inj H;go_enter Tryd.func74, Tryd.ntmps74;go_wp2
     go_ret
     exact ⟨zz3, zz6⟩
    ·rw [if_neg c5] at H
     have c5b0 : decide (a0 ≤ 57) = false := decide_eq_false c5;clear c5;by_cases c6 : a0 = 46
     ·rw [if_pos c6] at H
      have c6b0 : (a0 == 46) = true := beq_iff_eq.mpr c6;have c6b1 : (a0 != 46) = false := bne_eq_false_iff_eq.mpr c6;clear c6;obtain rfl := Option.some.inj H;go_enter Tryd.func74, Tryd.ntmps74;go_wp2
      go_ret
      exact ⟨zz3, zz6⟩
     ·rw [if_neg c6] at H
      have c6b0 : (a0 == 46) = false := beq_eq_false_iff_ne.mpr c6;have c6b1 : (a0 != 46) = true := bne_iff_ne.mpr c6;obtain rfl := Option.some.inj H;go_enter Tryd.func74, Tryd.ntmps74;go_wp2
      go_ret
      exact ⟨zz3, zz6⟩
   ·rw [if_neg c4] at H
    have c4b0 : decide (48 ≤ a0) = false := decide_eq_false c4;clear c4;by_cases c7 : a0 = 46
    ·rw [if_pos c7] at H
     have c7b0 : (a0 == 46) = true := beq_iff_eq.mpr c7;have c7b1 : (a0 != 46) = false := bne_eq_false_iff_eq.mpr c7;clear c7;obtain rfl := Option.some.inj H;go_enter Tryd.func74, Tryd.ntmps74;go_wp2
     go_ret
     exact ⟨zz3, zz6⟩
    ·rw [if_neg c7] at H
     have c7b0 : (a0 == 46) = false := beq_eq_false_iff_ne.mpr c7;have c7b1 : (a0 != 46) = true := bne_iff_ne.mpr c7;obtain rfl := Option.some.inj H;go_enter Tryd.func74, Tryd.ntmps74;go_wp2
     go_ret
     exact ⟨zz3, zz6⟩
 ·rw [if_neg c2] at H
  have c2b0 : decide (97 ≤ a0) = false := decide_eq_false c2;clear c2;by_cases c8 : a0 ≥ 48
  ·rw [if_pos c8] at H
   have c8b0 : decide (48 ≤ a0) = true := decide_eq_true c8;clear c8;by_cases c9 : a0 ≤ 57
   ·rw [if_pos c9] at H
    have c9b0 : decide (a0 ≤ 57) = true := decide_eq_true c9;clear c9;obtain rfl := Option.some.inj H;go_enter Tryd.func74, Tryd.ntmps74;go_wp2
    go_ret
    exact ⟨zz3, zz6⟩
   ·rw [if_neg c9] at H
    have c9b0 : decide (a0 ≤ 57) = false := decide_eq_false c9;clear c9;by_cases c10 : a0 = 46
    ·rw [if_pos c10] at H
     have c10b0 : (a0 == 46) = true := beq_iff_eq.mpr c10;have c10b1 : (a0 != 46) = false := bne_eq_false_iff_eq.mpr c10;clear c10;obtain rfl := Option.some.inj H;go_enter Tryd.func74, Tryd.ntmps74;go_wp2
     go_ret
     exact ⟨zz3, zz6⟩
    ·rw [if_neg c10] at H
     have c10b0 : (a0 == 46) = false := beq_eq_false_iff_ne.mpr c10;have c10b1 : (a0 != 46) = true := bne_iff_ne.mpr c10;obtain rfl := Option.some.inj H;go_enter Tryd.func74, Tryd.ntmps74;go_wp2
     go_ret
     exact ⟨zz3, zz6⟩
  ·rw [if_neg c8] at H
   have c8b0 : decide (48 ≤ a0) = false := decide_eq_false c8;clear c8;by_cases c11 : a0 = 46
   ·rw [if_pos c11] at H
    have c11b0 : (a0 == 46) = true := beq_iff_eq.mpr c11;have c11b1 : (a0 != 46) = false := bne_eq_false_iff_eq.mpr c11;clear c11;obtain rfl := Option.some.inj H;go_enter Tryd.func74, Tryd.ntmps74;go_wp2
    go_ret
    exact ⟨zz3, zz6⟩
   ·rw [if_neg c11] at H
    have c11b0 : (a0 == 46) = false := beq_eq_false_iff_ne.mpr c11;have c11b1 : (a0 != 46) = true := bne_iff_ne.mpr c11;obtain rfl := Option.some.inj H;go_enter Tryd.func74, Tryd.ntmps74;go_wp2
    go_ret
    exact ⟨zz3, zz6⟩
def impl_EscNorm.l0 : Nat → ByteArray → List Int → Int → Option (ByteArray × Bool)
 | 0, _, _, _ => none
 | k + 1, x0, x4, x5 => if x5 < (x0.size : Int) then (if 0 ≤ x5 then (if (bt x0 x5) = 37 then ((impl_signByte.f x0 x5).bind fun bt261 => (if bt261.2 = true then ((impl_standsForItself.f bt261.1).bind fun t263 => (if t263 = true then (if x4.length < 140737488355328 then (impl_EscNorm.l0 k x0 (x4 ++ [bt261.1]) (wrap64 ((wrap64 (x5 + 2)) + 1))) else (none)) else (if 0 ≤ (bt261.1 / 16) then (if (bt261.1 / 16) < 16 then (if 0 ≤ (Go.bits .and .u8 bt261.1 15) then (if (Go.bits .and .u8 bt261.1 15) < 16 then ((some (([37, bt (⟨#[48, 49, 50, 51, 52, 53, 54, 55, 56, 57, 65, 66, 67, 68, 69, 70]⟩ : ByteArray) (bt261.1 / 16), bt (⟨#[48, 49, 50, 51, 52, 53, 54, 55, 56, 57, 65, 66, 67, 68, 69, 70]⟩ : ByteArray) (Go.bits .and .u8 bt261.1 15)] : List Int) : List Int)).bind fun y267 => (if x4.length + y267.length < 140737488355328 then (impl_EscNorm.l0 k x0 (x4 ++ y267) (wrap64 ((wrap64 (x5 + 2)) + 1))) else (none))) else (none)) else (none)) else (none)) else (none)))) else (some ((⟨#[]⟩ : ByteArray), false)))) else ((impl_standsForItself.f (bt x0 x5)).bind fun t273 => (if t273 = true then (if x4.length < 140737488355328 then (impl_EscNorm.l0 k x0 (x4 ++ [bt x0 x5]) (wrap64 (x5 + 1))) else (none)) else (if 0 ≤ ((bt x0 x5) / 16) then (if ((bt x0 x5) / 16) < 16 then (if 0 ≤ (Go.bits .and .u8 (bt x0 x5) 15) then (if (Go.bits .and .u8 (bt x0 x5) 15) < 16 then ((some (([37, bt (⟨#[48, 49, 50, 51, 52, 53, 54, 55, 56, 57, 65, 66, 67, 68, 69, 70]⟩ : ByteArray) ((bt x0 x5) / 16), bt (⟨#[48, 49, 50, 51, 52, 53, 54, 55, 56, 57, 65, 66, 67, 68, 69, 70]⟩ : ByteArray) (Go.bits .and .u8 (bt x0 x5) 15)] : List Int) : List Int)).bind fun y277 => (if x4.length + y277.length < 140737488355328 then (impl_EscNorm.l0 k x0 (x4 ++ y277) (wrap64 (x5 + 1))) else (none))) else (none)) else (none)) else (none)) else (none))))) else (none)) else (some (strOfNums x4, true))
def impl_EscNorm.f (k : Nat) (a0 : ByteArray) : Option (ByteArray × Bool) := if (a0.size : Int) > 60 then (some ((⟨#[]⟩ : ByteArray), false)) else (impl_EscNorm.l0 k a0 ([] : List Int) 0)
theorem impl_EscNorm.mono_l : ∀ k, (∀ y0 y1 y2, LeO (impl_EscNorm.l0 k y0 y1 y2) (impl_EscNorm.l0 (k + 1) y0 y1 y2))
 | 0 => fun _ _ _ r h => by simp [impl_EscNorm.l0] at h
 | k + 1 => by
  have ih0 := impl_EscNorm.mono_l k
  ·intro y0 y1 y2
   unfold impl_EscNorm.l0
   repeat' first | (with_reducible first | exact ih0 _ _ _ | exact LeO.refl _ | exact LeO.none _ | refine LeO.ite ?_ ?_ | refine LeO.bind ?_ (fun _ => ?_)) | exact LeO.none _ | refine LeO.ite ?_ ?_ | refine LeO.bind ?_ (fun _ => ?_)
def impl_EscNorm.T16 : Bool × List (List Nat × List Nat) := (true, [([], []), ([], []), ([1], [1]), ([2], [2]), ([], []), ([4], [4]), ([5], [5]), ([3, 6], [3, 6]), ([0, 7], [0, 7]), ([8, 8, 0, 1, 2, 3, 4, 5, 6, 7, 8], [0, 8])])
def impl_EscNorm.B16 : List Nat := [0, 0, 2, 6, 0, 16, 48, 126, 255, 511]
theorem impl_EscNorm.tab16 : rtab .any (opsOf Tryd.f58 16) = impl_EscNorm.T16 := by kernel_rfl
theorem impl_EscNorm.bits16 : waitsOk impl_EscNorm.T16.2 impl_EscNorm.B16 = true := by kernel_rfl
set_option maxHeartbeats 8000000 in
set_option maxRecDepth 100000 in
theorem impl_EscNorm.calls (k : Nat) (a0 : ByteArray) (r1 : ByteArray) (r2 : Bool) (w : World) (h : impl_EscNorm.f k a0 = some (r1, r2)) :
  Calls Tryd.prog 58 #[.string a0] w fun e w' => e = .returned (.tuple #[.string r1, .bool r2]) ∧ Below w.heap.size w w' := by
 have HB := Aside0.mk (Below.refl w.heap.size w);have H : (if (a0.size : Int) > 60 then (some ((⟨#[]⟩ : ByteArray), false)) else (impl_EscNorm.l0 k a0 ([] : List Int) 0)) = some (r1, r2) := h;clear h;by_cases c2 : (a0.size : Int) > 60
 ·rw [if_pos c2] at H
  have c2b0 : decide (60 < (a0.size : Int)) = true := decide_eq_true c2;have c2b1 : decide (60 < a0.size) = true := decide_eq_true (by omega);clear c2;simp only [Option.some.injEq, Prod.mk.injEq] at H
  obtain ⟨rfl, rfl⟩ := H;go_enter Tryd.func58, Tryd.ntmps58;go_wp2
  go_ret2
  exact ⟨zz1, (zz0 HB)⟩
 ·rw [if_neg c2] at H
  have c2b0 : decide (60 < (a0.size : Int)) = false := decide_eq_false c2;have c2b1 : decide (60 < a0.size) = false := decide_eq_false (by omega);clear c2;have H' := Aside0.mk H;clear H;go_enter Tryd.func58, Tryd.ntmps58;go_wp2
  go_loopg [4, 5] k (fun kq v4 v5 w' => ∃ (x4_1 : List Int) (x5_1 : Int), v5 = .int .i64 x5_1 ∧ Aside0 (impl_EscNorm.l0 kq a0 x4_1 x5_1 = some (r1, r2)) ∧ Aside0 (kq ≤ k) ∧ Aside0 (Kd.R (Kd.int .u8) 5 w' w.heap.size (fun _ => True) v4 x4_1) ∧ Aside0 (Below w.heap.size w w'))
  case atStart => exact ⟨(([] : List Int)), (0), zz3, H', ⟨Nat.le_refl _⟩, ⟨zz38⟩, ⟨(zz0 HB)⟩⟩
  case round =>
   clear H';obtain ⟨x4_1, x5_1, rfl, HA, HK1, HO_4, HB⟩ := hrel;cases gk with
   | zero => exact absurd HA.out (by simp [impl_EscNorm.l0])
   | succ k1 =>
    have H := HA.out;clear HA;simp only [impl_EscNorm.l0] at H
    by_cases c3 : x5_1 < (a0.size : Int)
    ·rw [if_pos c3] at H
     have c3b0 : decide (x5_1 < (a0.size : Int)) = true := decide_eq_true c3;clear c3;by_cases c4 : 0 ≤ x5_1
     ·rw [if_pos c4] at H
      have c4b0 : decide (0 ≤ x5_1) = true := decide_eq_true c4;clear c4;by_cases c6 : (bt a0 x5_1) = 37
      ·rw [if_pos c6] at H
       have c6b0 : ((bt a0 x5_1) == 37) = true := beq_iff_eq.mpr c6;have c6b1 : ((bt a0 x5_1) != 37) = false := bne_eq_false_iff_eq.mpr c6;clear c6;replace H := bindA H;obtain ⟨⟨t261, t262⟩, A7, H⟩ := H;try dsimp -simprocs only at H
       by_cases c8 : t262 = true
       ·subst c8
        rw [if_pos rfl] at H;replace H := bindA H;obtain ⟨t263, A9, H⟩ := H;by_cases c10 : t263 = true
        ·subst c10
         rw [if_pos rfl] at H;by_cases c11 : x4_1.length < 140737488355328
         ·rw [if_pos c11] at H
          have LMc11 := Aside0.mk c11;clear c11;obtain ⟨y264, Ny264⟩ := toY (x4_1 ++ [t261]);(first | with_reducible replace H := bindZ Ny264 H | rw [← Ny264.out] at H | skip)
          have H' := Aside0.mk H;clear H;have p5 : 0 ≤ (x5_1 : Int) := ofD;have q5 : x5_1 < (a0.size : Int) := ofD;have hx5 := bt_at a0 x5_1;replace p5 := eq_true p5;replace q5 := eq_true q5;go_wp2_with (first | ((with_reducible refine gate_callee (f := 73) rfl ?_); refine gsL (some 26) Tryd.func73 #[.string a0, .int .i64 x5_1] ?_; (with_reducible refine (impl_signByte.calls a0 x5_1 t261 true _ A7.out).mono ?_); rintro e w12 ⟨rfl, hb⟩; refine ⟨_, rfl, ?_⟩; have n0_ := Aside0.mk (Kd.R_below (zz28 HO_4) hb); have n1_ := Aside0.mk (below_step (zz0 HB) hb); clear HO_4; clear HB; have HO_4 := n0_; have HB := n1_; clear n0_ n1_; (try clear hb)) | ((with_reducible refine gate_callee (f := 74) rfl ?_); refine gsL (some 35) Tryd.func74 #[.int .u8 t261] ?_; (with_reducible refine (impl_standsForItself.calls t261 true _ A9.out).mono ?_); rintro e w' ⟨rfl, ⟨nd, rfl⟩⟩; refine ⟨_, rfl, ?_⟩) | ((with_reducible refine gate_builtin (b := .append) (xs := #[.tmp 36, .tmp 38]) rfl ?_); at_builtin; refine Kd.R_append (Kd.int .u8) (w0 := w) w.heap.size rfl (.tmp 36) (.tmp 38) 63 5 (.int .u8 0) 1 rfl Tryd.underlying63 info5 rfl (by decide) (by omega) u4 x4_1 t261 [.int .u8 t261] (fun _ => True) (fun _ => False) rfl rfl ?aP (fun _ hk => hk.elim) ?aF ?aO ?aB ?aS ?aL ?_; (case aP => exact rfl); (case aB => exact (zz0 HB)); (case aF => exact (fun _ _ => trivial)); (case aO => exact (zz28 HO_4)); (case aS => exact (below_size (zz0 HB))); (case aL => exact (zz5 LMc11)); intro v265 w13 ho hb hg hat; rw [← Ny264.out] at ho; have n0_ := Aside0.mk (hb); have n1_ := Aside0.mk (ho); clear HB; clear HO_4; have HB := n0_; have HO266 := n1_; clear n0_ n1_; clear ho hb hg hat))
          go_roundg k1
          case measure => have := HK1.out; omega
          case rel => exact ⟨(y264), (wrap64 ((wrap64 (x5_1 + 2)) + 1)), zz3, H', ⟨(zz5 HK1)⟩, ⟨(zz28 HO266)⟩, ⟨(zz0 HB)⟩⟩
         ·rw [if_neg c11] at H
          exact absurd H (by simp)
        ·replace c10 := Bool.eq_false_iff.mpr c10
         subst c10;rw [if_neg (show ¬ (false = true) by decide)] at H;obtain ⟨ji14, hji14⟩ : ∃ j_ : Int, (t261 / 16) = j_ := ⟨_, rfl⟩;replace H : (if 0 ≤ (ji14) then (if (ji14) < 16 then (if 0 ≤ (Go.bits .and .u8 t261 15) then (if (Go.bits .and .u8 t261 15) < 16 then ((some (([37, bt (⟨#[48, 49, 50, 51, 52, 53, 54, 55, 56, 57, 65, 66, 67, 68, 69, 70]⟩ : ByteArray) (ji14), bt (⟨#[48, 49, 50, 51, 52, 53, 54, 55, 56, 57, 65, 66, 67, 68, 69, 70]⟩ : ByteArray) (Go.bits .and .u8 t261 15)] : List Int) : List Int)).bind fun y267 => (if x4_1.length + y267.length < 140737488355328 then (impl_EscNorm.l0 k1 a0 (x4_1 ++ y267) (wrap64 ((wrap64 (x5_1 + 2)) + 1))) else (none))) else (none)) else (none)) else (none)) else (none)) = some (r1, r2) := by first | (rw [hji14] at H; exact H) | (simp only [hji14] at H ⊢; exact H)
         (try rw [hji14] at A7)
         (try rw [hji14] at A9)
         by_cases c15 : 0 ≤ (ji14)
         ·rw [if_pos c15] at H
          have c15b0 : decide (0 ≤ (ji14)) = true := decide_eq_true c15;clear c15;by_cases c16 : (ji14) < 16
          ·rw [if_pos c16] at H
           have c16b0 : decide ((ji14) < 16) = true := decide_eq_true c16;clear c16;by_cases c18 : 0 ≤ (Go.bits .and .u8 t261 15)
           ·rw [if_pos c18] at H
            have c18b0 : decide (0 ≤ (Go.bits .and .u8 t261 15)) = true := decide_eq_true c18;clear c18;by_cases c19 : (Go.bits .and .u8 t261 15) < 16
            ·rw [if_pos c19] at H
             have c19b0 : decide ((Go.bits .and .u8 t261 15) < 16) = true := decide_eq_true c19;clear c19;obtain ⟨y267, Ny267⟩ := toY (([37, bt (⟨#[48, 49, 50, 51, 52, 53, 54, 55, 56, 57, 65, 66, 67, 68, 69, 70]⟩ : ByteArray) (ji14), bt (⟨#[48, 49, 50, 51, 52, 53, 54, 55, 56, 57, 65, 66, 67, 68, 69, 70]⟩ : ByteArray) (Go.bits .and .u8 t261 15)] : List Int));(first | with_reducible replace H := bindZ Ny267 H | rw [← Ny267.out] at H | skip)
             by_cases c21 : x4_1.length + y267.length < 140737488355328
             ·rw [if_pos c21] at H
              have LMc21 := Aside0.mk c21;clear c21;obtain ⟨y270, Ny270⟩ := toY (x4_1 ++ y267);(first | with_reducible replace H := bindZ Ny270 H | rw [← Ny270.out] at H | skip)
              have H' := Aside0.mk H;clear H;have p5 : 0 ≤ (x5_1 : Int) := ofD;have q5 : x5_1 < (a0.size : Int) := ofD;have hx5 := bt_at a0 x5_1;replace p5 := eq_true p5;replace q5 := eq_true q5;try go_wp2_with (first | ((with_reducible refine gate_callee (f := 73) rfl ?_); refine gsL (some 26) Tryd.func73 #[.string a0, .int .i64 x5_1] ?_; (with_reducible refine (impl_signByte.calls a0 x5_1 t261 true _ A7.out).mono ?_); rintro e w22 ⟨rfl, hb⟩; refine ⟨_, rfl, ?_⟩; have n0_ := Aside0.mk (Kd.R_below (zz28 HO_4) hb); have n1_ := Aside0.mk (below_step (zz0 HB) hb); clear HO_4; clear HB; have HO_4 := n0_; have HB := n1_; clear n0_ n1_; (try clear hb)) | ((with_reducible refine gate_callee (f := 74) rfl ?_); refine gsL (some 35) Tryd.func74 #[.int .u8 t261] ?_; (with_reducible refine (impl_standsForItself.calls t261 false _ A9.out).mono ?_); rintro e w' ⟨rfl, ⟨nd, rfl⟩⟩; refine ⟨_, rfl, ?_⟩))
              (try (rw [drewN_self w22]; generalize hq_ : World.drewN w22 _ = w22; have n0_ : Aside0 (Kd.R (Kd.int .u8) 5 w22 w.heap.size (fun _ => True) u4 x4_1) := ⟨(by rw [← hq_]; exact (zz28 HO_4))⟩; have n1_ : Aside0 (Below w.heap.size w w22) := ⟨(by rw [← hq_]; exact (zz0 HB))⟩; clear HO_4 HB hq_; have HO_4 := n0_; have HB := n1_; clear n0_ n1_))
              have n0_ := Aside0.mk (Kd.R_drew HO_4.out);have n1_ := Aside0.mk (below_drew1 HB.out);clear HO_4;clear HB;have HO_4 := n0_;have HB := n1_;clear n0_ n1_;have p17 : 0 ≤ ((ji14) : Int) := ofD;have q17 : (ji14) < (16 : Int) := ofD;have hx17 := bt_at (⟨#[48, 49, 50, 51, 52, 53, 54, 55, 56, 57, 65, 66, 67, 68, 69, 70]⟩ : ByteArray) (ji14);replace p17 := eq_true p17;replace q17 := eq_true q17;have p20 : 0 ≤ ((Go.bits .and .u8 t261 15) : Int) := ofD;have q20 : (Go.bits .and .u8 t261 15) < (16 : Int) := ofD;have hx20 := bt_at (⟨#[48, 49, 50, 51, 52, 53, 54, 55, 56, 57, 65, 66, 67, 68, 69, 70]⟩ : ByteArray) (Go.bits .and .u8 t261 15);replace p20 := eq_true p20;replace q20 := eq_true q20;refine start_ (n := 10) (S := fun w' => True) (ds := []) #[false, false, false, false, false, false, false, false, false, false] (by kernel_rfl) rfl rfl trivial (fun hHeld => ?_); refine with_tabW impl_EscNorm.tab16 impl_EscNorm.bits16 (fun HT_ HW_ => ?_);generalize w22.drew = w23 at HO_4 HB hHeld ⊢;refine pureZ 0 (some 40) #[true, false, false, false, false, false, false, false, false, false] ?_;refine pureZ 1 (some 41) #[true, true, false, false, false, false, false, false, false, false] ?_;refine pureZ 2 (some 42) #[true, true, true, false, false, false, false, false, false, false] ?_;refine pureZ 4 (some 44) #[true, true, true, false, true, false, false, false, false, false] ?_;refine pureZ 5 (some 45) #[true, true, true, false, true, true, false, false, false, false] ?_;refine take_ (i := 3) (N := some 43) (v := ?_) (a' := ?_) #[true, true, true, true, true, true, false, false, false, false] rfl rfl (take_ofW HT_.out HW_.out (by kernel_rfl)) (fun _ _ _ h => h) (Or.inl ⟨by rfl, ?_⟩) hHeld ?_ ?_;rotate_left
              ·intro w' _
               go_simp
               with_reducible rfl
              rotate_left
              ·simp only [Act.put, List.setIfInBounds_toArray, List.set_cons_zero, List.set_cons_succ, i64_w, i32_w]
               rfl
              refine take_ (i := 6) (N := some 46) (v := ?_) (a' := ?_) #[true, true, true, true, true, true, true, false, false, false] rfl rfl (take_ofW HT_.out HW_.out (by kernel_rfl)) (fun _ _ _ h => h) (Or.inl ⟨by rfl, ?_⟩) hHeld ?_ ?_;rotate_left
              ·intro w' _
               go_simp
               with_reducible rfl
              rotate_left
              ·simp only [Act.put, List.setIfInBounds_toArray, List.set_cons_zero, List.set_cons_succ, i64_w, i32_w]
               rfl
              refine one_ (i := 7) (N := some 47) #[true, true, true, true, true, true, true, true, false, false] rfl rfl (one_of HT_.out (by kernel_rfl)) (by decide) (fun K hK => ?_);refine Kd.R_lit_step (Kd.int .u8) _ 5 ?hg (N := 47) ?hd (xs := ([37, bt (⟨#[48, 49, 50, 51, 52, 53, 54, 55, 56, 57, 65, 66, 67, 68, 69, 70]⟩ : ByteArray) (ji14), bt (⟨#[48, 49, 50, 51, 52, 53, 54, 55, 56, 57, 65, 66, 67, 68, 69, 70]⟩ : ByteArray) (Go.bits .and .u8 t261 15)] : List Int)) (inner := [.int .u8 37, .int .u8 (bt (⟨#[48, 49, 50, 51, 52, 53, 54, 55, 56, 57, 65, 66, 67, 68, 69, 70]⟩ : ByteArray) (ji14)), .int .u8 (bt (⟨#[48, 49, 50, 51, 52, 53, 54, 55, 56, 57, 65, 66, 67, 68, 69, 70]⟩ : ByteArray) (Go.bits .and .u8 t261 15))]) (ok := fun _ => True) (okp := fun _ => True) ?hr ?hp (fun _ hk => hk) trivial (Below.refl _ _) (Nat.le_refl _) (by simp) ?_; (case hd => rfl); (case hg => rfl); (case hr => exact zz19); (case hp => exact (Reps.one (show Kd.M (Kd.int .u8) _ _ _ 37 [.int .u8 37] from rfl) (Reps.one (show Kd.M (Kd.int .u8) _ _ _ (bt (⟨#[48, 49, 50, 51, 52, 53, 54, 55, 56, 57, 65, 66, 67, 68, 69, 70]⟩ : ByteArray) (ji14)) [.int .u8 (bt (⟨#[48, 49, 50, 51, 52, 53, 54, 55, 56, 57, 65, 66, 67, 68, 69, 70]⟩ : ByteArray) (ji14))] from rfl) (Reps.one (show Kd.M (Kd.int .u8) _ _ _ (bt (⟨#[48, 49, 50, 51, 52, 53, 54, 55, 56, 57, 65, 66, 67, 68, 69, 70]⟩ : ByteArray) (Go.bits .and .u8 t261 15)) [.int .u8 (bt (⟨#[48, 49, 50, 51, 52, 53, 54, 55, 56, 57, 65, 66, 67, 68, 69, 70]⟩ : ByteArray) (Go.bits .and .u8 t261 15))] from rfl) (Reps.none _ _)))));intro v268 w24 ho25 hb hg_ hnew_;clear hg_ hnew_;(first | rw [← Ny267.out] at ho25 | (simp only [Int.reduceToNat] at ho25; rw [← Ny267.out] at ho25))
              have n0_ := Aside0.mk (Kd.R_elder' (zz28 HO_4) (Kd.R_base ho25) hb);have n1_ := Aside0.mk (Kd.R_lower (Kd.R_new' ho25 (Kd.R_lt (zz28 HO_4))) (below_size (zz0 HB)));have n2_ := Aside0.mk (below_step (zz0 HB) hb);clear HO_4;clear HB;have HO_4 := n0_;have HO269 := n1_;have HB := n2_;clear n0_ n1_ n2_;clear hb ho25;obtain ⟨Ao27, co27, eo27⟩ := Kd.R_slice HO269.out;(first | subst eo27 | (injection eo27 with f1_ f2_ f3_; have f4_ := f1_.symm; have f5_ := f3_.symm; clear f1_ f2_ f3_; subst f4_; subst f5_))
              refine hK.out _ _ trivial (fun hHeld => ?_);clear hK K;refine norm_ (a' := ?_) ?_ ?_;rotate_left
              ·show Act.put _ (some 47) _ = _
               simp only [Act.put, List.setIfInBounds_toArray, List.set_cons_zero, List.set_cons_succ, i64_w, i32_w]
               rfl
              refine one_ (i := 8) (N := some 48) #[true, true, true, true, true, true, true, true, true, false] rfl rfl (one_of HT_.out (by kernel_rfl)) (by decide) (fun K hK => ?_);refine Kd.R_append_rows_step (Kd.int .u8) (w0 := w) w.heap.size (by rfl) (.tmp 40) (.tmp 47) 63 5 (.int .u8 0) 1 rfl Tryd.underlying63 info5 rfl (by decide) (by omega) u4 x4_1 y267 _ _ _ (fun k_ => some k_ ≠ (.slice Ao27 y267.length co27 : Value).ownBlock) (fun _ => False) rfl rfl ?aO ?aR (fun _ _ h => h) (fun _ h => h.elim) ?aF ?aB ?aS ?aL ?_;(case aR => exact (zz39 HO269))
              (case aB => exact (zz0 HB))
              (case aF => exact (fun k_ hk => Kd.fresh' (Kd.R_lt (zz28 HO269)) k_ hk))
              (case aO => exact (zz34 HO_4))
              (case aS => exact (below_size (zz0 HB)))
              (case aL => exact (zz5 LMc21))
              intro v271 w26 ho hb hg hat;rw [← Ny270.out] at ho;have n0_ := Aside0.mk (Kd.R_after (ok := (fun _ => True)) (zz28 HO269) hg hat);have n1_ := Aside0.mk (hb);have n2_ := Aside0.mk (ho);clear HO269;clear HB;clear HO_4;have HO269 := n0_;have HB := n1_;have HO272 := n2_;clear n0_ n1_ n2_;clear ho hb hg hat;refine hK.out _ _ trivial (fun hHeld => ?_);clear hK K;refine norm_ (a' := ?_) ?_ ?_;rotate_left
              ·show Act.put _ (some 48) _ = _
               simp only [Act.put, List.setIfInBounds_toArray, List.set_cons_zero, List.set_cons_succ, i64_w, i32_w]
               rfl
              refine pureZ 9 (some 4) #[true, true, true, true, true, true, true, true, true, true] ?_;refine done_ (done_of HT_.out (by kernel_rfl)) ?_;try go_wp2
              go_roundg k1
              case measure => have := HK1.out; omega
              case rel => exact ⟨(y270), (wrap64 ((wrap64 (x5_1 + 2)) + 1)), zz3, H', ⟨(zz5 HK1)⟩, ⟨(zz69 HO272)⟩, ⟨(zz0 HB)⟩⟩
             ·rw [if_neg c21] at H
              exact absurd H (by simp)
            ·rw [if_neg c19] at H
             exact absurd H (by simp)
           ·rw [if_neg c18] at H
            exact absurd H (by simp)
          ·rw [if_neg c16] at H
           exact absurd H (by simp)
         ·rw [if_neg c15] at H
          exact absurd H (by simp)
       ·replace c8 := Bool.eq_false_iff.mpr c8
        subst c8;rw [if_neg (show ¬ (false = true) by decide)] at H;simp only [Option.some.injEq, Prod.mk.injEq] at H
        obtain ⟨rfl, rfl⟩ := H;have p5 : 0 ≤ (x5_1 : Int) := ofD;have q5 : x5_1 < (a0.size : Int) := ofD;have hx5 := bt_at a0 x5_1;replace p5 := eq_true p5;replace q5 := eq_true q5;go_wp2_with (first | ((with_reducible refine gate_callee (f := 73) rfl ?_); refine gsL (some 26) Tryd.func73 #[.string a0, .int .i64 x5_1] ?_; (with_reducible refine (impl_signByte.calls a0 x5_1 t261 false _ A7.out).mono ?_); rintro e w28 ⟨rfl, hb⟩; refine ⟨_, rfl, ?_⟩; have n0_ := Aside0.mk (Kd.R_below (zz28 HO_4) hb); have n1_ := Aside0.mk (below_step (zz0 HB) hb); clear HO_4; clear HB; have HO_4 := n0_; have HB := n1_; clear n0_ n1_; (try clear hb)))
        go_ret2
        exact ⟨zz1, (zz0 HB)⟩
      ·rw [if_neg c6] at H
       have c6b0 : ((bt a0 x5_1) == 37) = false := beq_eq_false_iff_ne.mpr c6;have c6b1 : ((bt a0 x5_1) != 37) = true := bne_iff_ne.mpr c6;replace H := bindA H;obtain ⟨t273, A29, H⟩ := H;by_cases c30 : t273 = true
       ·subst c30
        rw [if_pos rfl] at H;by_cases c31 : x4_1.length < 140737488355328
        ·rw [if_pos c31] at H
         have LMc31 := Aside0.mk c31;clear c31;obtain ⟨y274, Ny274⟩ := toY (x4_1 ++ [bt a0 x5_1]);(first | with_reducible replace H := bindZ Ny274 H | rw [← Ny274.out] at H | skip)
         have H' := Aside0.mk H;clear H;have p5 : 0 ≤ (x5_1 : Int) := ofD;have q5 : x5_1 < (a0.size : Int) := ofD;have hx5 := bt_at a0 x5_1;replace p5 := eq_true p5;replace q5 := eq_true q5;go_wp2_with (first | ((with_reducible refine gate_callee (f := 74) rfl ?_); refine gsL (some 35) Tryd.func74 #[.int .u8 (bt a0 x5_1)] ?_; (with_reducible refine (impl_standsForItself.calls (bt a0 x5_1) true _ A29.out).mono ?_); rintro e w' ⟨rfl, ⟨nd, rfl⟩⟩; refine ⟨_, rfl, ?_⟩) | ((with_reducible refine gate_builtin (b := .append) (xs := #[.tmp 36, .tmp 38]) rfl ?_); at_builtin; refine Kd.R_append (Kd.int .u8) (w0 := w) w.heap.size rfl (.tmp 36) (.tmp 38) 63 5 (.int .u8 0) 1 rfl Tryd.underlying63 info5 rfl (by decide) (by omega) u4 x4_1 (bt a0 x5_1) [.int .u8 (bt a0 x5_1)] (fun _ => True) (fun _ => False) rfl rfl ?aP (fun _ hk => hk.elim) ?aF ?aO ?aB ?aS ?aL ?_; (case aP => exact rfl); (case aB => exact (zz0 HB)); (case aF => exact (fun _ _ => trivial)); (case aO => exact (zz28 HO_4)); (case aS => exact (below_size (zz0 HB))); (case aL => exact (zz5 LMc31)); intro v275 w32 ho hb hg hat; rw [← Ny274.out] at ho; have n0_ := Aside0.mk (hb); have n1_ := Aside0.mk (ho); clear HB; clear HO_4; have HB := n0_; have HO276 := n1_; clear n0_ n1_; clear ho hb hg hat))
         go_roundg k1
         case measure => have := HK1.out; omega
         case rel => exact ⟨(y274), (wrap64 (x5_1 + 1)), zz3, H', ⟨(zz5 HK1)⟩, ⟨(zz28 HO276)⟩, ⟨(zz0 HB)⟩⟩
        ·rw [if_neg c31] at H
         exact absurd H (by simp)
       ·replace c30 := Bool.eq_false_iff.mpr c30
        subst c30;rw [if_neg (show ¬ (false = true) by decide)] at H;obtain ⟨ji33, hji33⟩ : ∃ j_ : Int, ((bt a0 x5_1) / 16) = j_ := ⟨_, rfl⟩;replace H : (if 0 ≤ (ji33) then (if (ji33) < 16 then (if 0 ≤ (Go.bits .and .u8 (bt a0 x5_1) 15) then (if (Go.bits .and .u8 (bt a0 x5_1) 15) < 16 then ((some (([37, bt (⟨#[48, 49, 50, 51, 52, 53, 54, 55, 56, 57, 65, 66, 67, 68, 69, 70]⟩ : ByteArray) (ji33), bt (⟨#[48, 49, 50, 51, 52, 53, 54, 55, 56, 57, 65, 66, 67, 68, 69, 70]⟩ : ByteArray) (Go.bits .and .u8 (bt a0 x5_1) 15)] : List Int) : List Int)).bind fun y277 => (if x4_1.length + y277.length < 140737488355328 then (impl_EscNorm.l0 k1 a0 (x4_1 ++ y277) (wrap64 (x5_1 + 1))) else (none))) else (none)) else (none)) else (none)) else (none)) = some (r1, r2) := by first | (rw [hji33] at H; exact H) | (simp only [hji33] at H ⊢; exact H)
        (try rw [hji33] at A29)
        by_cases c34 : 0 ≤ (ji33)
        ·rw [if_pos c34] at H
         have c34b0 : decide (0 ≤ (ji33)) = true := decide_eq_true c34;clear c34;by_cases c35 : (ji33) < 16
         ·rw [if_pos c35] at H
          have c35b0 : decide ((ji33) < 16) = true := decide_eq_true c35;clear c35;by_cases c37 : 0 ≤ (Go.bits .and .u8 (bt a0 x5_1) 15)
          ·rw [if_pos c37] at H
           have c37b0 : decide (0 ≤ (Go.bits .and .u8 (bt a0 x5_1) 15)) = true := decide_eq_true c37;clear c37;by_cases c38 : (Go.bits .and .u8 (bt a0 x5_1) 15) < 16
           ·rw [if_pos c38] at H
            have c38b0 : decide ((Go.bits .and .u8 (bt a0 x5_1) 15) < 16) = true := decide_eq_true c38;clear c38;obtain ⟨y277, Ny277⟩ := toY (([37, bt (⟨#[48, 49, 50, 51, 52, 53, 54, 55, 56, 57, 65, 66, 67, 68, 69, 70]⟩ : ByteArray) (ji33), bt (⟨#[48, 49, 50, 51, 52, 53, 54, 55, 56, 57, 65, 66, 67, 68, 69, 70]⟩ : ByteArray) (Go.bits .and .u8 (bt a0 x5_1) 15)] : List Int));(first | with_reducible replace H := bindZ Ny277 H | rw [← Ny277.out] at H | skip)
            by_cases c40 : x4_1.length + y277.length < 140737488355328
            ·rw [if_pos c40] at H
             have LMc40 := Aside0.mk c40;clear c40;obtain ⟨y280, Ny280⟩ := toY (x4_1 ++ y277);(first | with_reducible replace H := bindZ Ny280 H | rw [← Ny280.out] at H | skip)
             have H' := Aside0.mk H;clear H;have p5 : 0 ≤ (x5_1 : Int) := ofD;have q5 : x5_1 < (a0.size : Int) := ofD;have hx5 := bt_at a0 x5_1;replace p5 := eq_true p5;replace q5 := eq_true q5;try go_wp2_with (first | ((with_reducible refine gate_callee (f := 74) rfl ?_); refine gsL (some 35) Tryd.func74 #[.int .u8 (bt a0 x5_1)] ?_; (with_reducible refine (impl_standsForItself.calls (bt a0 x5_1) false _ A29.out).mono ?_); rintro e w' ⟨rfl, ⟨nd, rfl⟩⟩; refine ⟨_, rfl, ?_⟩))
             (try (rw [drewN_self wr]; generalize hq_ : World.drewN wr _ = wr; have n0_ : Aside0 (Kd.R (Kd.int .u8) 5 wr w.heap.size (fun _ => True) u4 x4_1) := ⟨(by rw [← hq_]; exact (zz28 HO_4))⟩; have n1_ : Aside0 (Below w.heap.size w wr) := ⟨(by rw [← hq_]; exact (zz0 HB))⟩; clear HO_4 HB hq_; have HO_4 := n0_; have HB := n1_; clear n0_ n1_))
             have n0_ := Aside0.mk (Kd.R_drew HO_4.out);have n1_ := Aside0.mk (below_drew1 HB.out);clear HO_4;clear HB;have HO_4 := n0_;have HB := n1_;clear n0_ n1_;have p36 : 0 ≤ ((ji33) : Int) := ofD;have q36 : (ji33) < (16 : Int) := ofD;have hx36 := bt_at (⟨#[48, 49, 50, 51, 52, 53, 54, 55, 56, 57, 65, 66, 67, 68, 69, 70]⟩ : ByteArray) (ji33);replace p36 := eq_true p36;replace q36 := eq_true q36;have p39 : 0 ≤ ((Go.bits .and .u8 (bt a0 x5_1) 15) : Int) := ofD;have q39 : (Go.bits .and .u8 (bt a0 x5_1) 15) < (16 : Int) := ofD;have hx39 := bt_at (⟨#[48, 49, 50, 51, 52, 53, 54, 55, 56, 57, 65, 66, 67, 68, 69, 70]⟩ : ByteArray) (Go.bits .and .u8 (bt a0 x5_1) 15);replace p39 := eq_true p39;replace q39 := eq_true q39;refine start_ (n := 10) (S := fun w' => True) (ds := []) #[false, false, false, false, false, false, false, false, false, false] (by kernel_rfl) rfl rfl trivial (fun hHeld => ?_); refine with_tabW impl_EscNorm.tab16 impl_EscNorm.bits16 (fun HT_ HW_ => ?_);generalize wr.drew = w41 at HO_4 HB hHeld ⊢;refine pureZ 0 (some 40) #[true, false, false, false, false, false, false, false, false, false] ?_;refine pureZ 1 (some 41) #[true, true, false, false, false, false, false, false, false, false] ?_;refine pureZ 2 (some 42) #[true, true, true, false, false, false, false, false, false, false] ?_;refine pureZ 4 (some 44) #[true, true, true, false, true, false, false, false, false, false] ?_;refine pureZ 5 (some 45) #[true, true, true, false, true, true, false, false, false, false] ?_;refine take_ (i := 3) (N := some 43) (v := ?_) (a' := ?_) #[true, true, true, true, true, true, false, false, false, false] rfl rfl (take_ofW HT_.out HW_.out (by kernel_rfl)) (fun _ _ _ h => h) (Or.inl ⟨by rfl, ?_⟩) hHeld ?_ ?_;rotate_left
             ·intro w' _
              go_simp
              with_reducible rfl
             rotate_left
             ·simp only [Act.put, List.setIfInBounds_toArray, List.set_cons_zero, List.set_cons_succ, i64_w, i32_w]
              rfl
             refine take_ (i := 6) (N := some 46) (v := ?_) (a' := ?_) #[true, true, true, true, true, true, true, false, false, false] rfl rfl (take_ofW HT_.out HW_.out (by kernel_rfl)) (fun _ _ _ h => h) (Or.inl ⟨by rfl, ?_⟩) hHeld ?_ ?_;rotate_left
             ·intro w' _
              go_simp
              with_reducible rfl
             rotate_left
             ·simp only [Act.put, List.setIfInBounds_toArray, List.set_cons_zero, List.set_cons_succ, i64_w, i32_w]
              rfl
             refine one_ (i := 7) (N := some 47) #[true, true, true, true, true, true, true, true, false, false] rfl rfl (one_of HT_.out (by kernel_rfl)) (by decide) (fun K hK => ?_);refine Kd.R_lit_step (Kd.int .u8) _ 5 ?hg (N := 47) ?hd (xs := ([37, bt (⟨#[48, 49, 50, 51, 52, 53, 54, 55, 56, 57, 65, 66, 67, 68, 69, 70]⟩ : ByteArray) (ji33), bt (⟨#[48, 49, 50, 51, 52, 53, 54, 55, 56, 57, 65, 66, 67, 68, 69, 70]⟩ : ByteArray) (Go.bits .and .u8 (bt a0 x5_1) 15)] : List Int)) (inner := [.int .u8 37, .int .u8 (bt (⟨#[48, 49, 50, 51, 52, 53, 54, 55, 56, 57, 65, 66, 67, 68, 69, 70]⟩ : ByteArray) (ji33)), .int .u8 (bt (⟨#[48, 49, 50, 51, 52, 53, 54, 55, 56, 57, 65, 66, 67, 68, 69, 70]⟩ : ByteArray) (Go.bits .and .u8 (bt a0 x5_1) 15))]) (ok := fun _ => True) (okp := fun _ => True) ?hr ?hp (fun _ hk => hk) trivial (Below.refl _ _) (Nat.le_refl _) (by simp) ?_; (case hd => rfl); (case hg => rfl); (case hr => exact zz19); (case hp => exact (Reps.one (show Kd.M (Kd.int .u8) _ _ _ 37 [.int .u8 37] from rfl) (Reps.one (show Kd.M (Kd.int .u8) _ _ _ (bt (⟨#[48, 49, 50, 51, 52, 53, 54, 55, 56, 57, 65, 66, 67, 68, 69, 70]⟩ : ByteArray) (ji33)) [.int .u8 (bt (⟨#[48, 49, 50, 51, 52, 53, 54, 55, 56, 57, 65, 66, 67, 68, 69, 70]⟩ : ByteArray) (ji33))] from rfl) (Reps.one (show Kd.M (Kd.int .u8) _ _ _ (bt (⟨#[48, 49, 50, 51, 52, 53, 54, 55, 56, 57, 65, 66, 67, 68, 69, 70]⟩ : ByteArray) (Go.bits .and .u8 (bt a0 x5_1) 15)) [.int .u8 (bt (⟨#[48, 49, 50, 51, 52, 53, 54, 55, 56, 57, 65, 66, 67, 68, 69, 70]⟩ : ByteArray) (Go.bits .and .u8 (bt a0 x5_1) 15))] from rfl) (Reps.none _ _)))));intro v278 w42 ho43 hb hg_ hnew_;clear hg_ hnew_;(first | rw [← Ny277.out] at ho43 | (simp only [Int.reduceToNat] at ho43; rw [← Ny277.out] at ho43))
             have n0_ := Aside0.mk (Kd.R_elder' (zz28 HO_4) (Kd.R_base ho43) hb);have n1_ := Aside0.mk (Kd.R_lower (Kd.R_new' ho43 (Kd.R_lt (zz28 HO_4))) (below_size (zz0 HB)));have n2_ := Aside0.mk (below_step (zz0 HB) hb);clear HO_4;clear HB;have HO_4 := n0_;have HO279 := n1_;have HB := n2_;clear n0_ n1_ n2_;clear hb ho43;obtain ⟨Ao45, co45, eo45⟩ := Kd.R_slice HO279.out;(first | subst eo45 | (injection eo45 with f1_ f2_ f3_; have f4_ := f1_.symm; have f5_ := f3_.symm; clear f1_ f2_ f3_; subst f4_; subst f5_))
             refine hK.out _ _ trivial (fun hHeld => ?_);clear hK K;refine norm_ (a' := ?_) ?_ ?_;rotate_left
             ·show Act.put _ (some 47) _ = _
              simp only [Act.put, List.setIfInBounds_toArray, List.set_cons_zero, List.set_cons_succ, i64_w, i32_w]
              rfl
             refine one_ (i := 8) (N := some 48) #[true, true, true, true, true, true, true, true, true, false] rfl rfl (one_of HT_.out (by kernel_rfl)) (by decide) (fun K hK => ?_);refine Kd.R_append_rows_step (Kd.int .u8) (w0 := w) w.heap.size (by rfl) (.tmp 40) (.tmp 47) 63 5 (.int .u8 0) 1 rfl Tryd.underlying63 info5 rfl (by decide) (by omega) u4 x4_1 y277 _ _ _ (fun k_ => some k_ ≠ (.slice Ao45 y277.length co45 : Value).ownBlock) (fun _ => False) rfl rfl ?aO ?aR (fun _ _ h => h) (fun _ h => h.elim) ?aF ?aB ?aS ?aL ?_;(case aR => exact (zz39 HO279))
             (case aB => exact (zz0 HB))
             (case aF => exact (fun k_ hk => Kd.fresh' (Kd.R_lt (zz28 HO279)) k_ hk))
             (case aO => exact (zz34 HO_4))
             (case aS => exact (below_size (zz0 HB)))
             (case aL => exact (zz5 LMc40))
             intro v281 w44 ho hb hg hat;rw [← Ny280.out] at ho;have n0_ := Aside0.mk (Kd.R_after (ok := (fun _ => True)) (zz28 HO279) hg hat);have n1_ := Aside0.mk (hb);have n2_ := Aside0.mk (ho);clear HO279;clear HB;clear HO_4;have HO279 := n0_;have HB := n1_;have HO282 := n2_;clear n0_ n1_ n2_;clear ho hb hg hat;refine hK.out _ _ trivial (fun hHeld => ?_);clear hK K;refine norm_ (a' := ?_) ?_ ?_;rotate_left
             ·show Act.put _ (some 48) _ = _
              simp only [Act.put, List.setIfInBounds_toArray, List.set_cons_zero, List.set_cons_succ, i64_w, i32_w]
              rfl
             refine pureZ 9 (some 4) #[true, true, true, true, true, true, true, true, true, true] ?_;refine done_ (done_of HT_.out (by kernel_rfl)) ?_;try go_wp2
             go_roundg k1
             case measure => have := HK1.out; omega
             case rel => exact ⟨(y280), (wrap64 (x5_1 + 1)), zz3, H', ⟨(zz5 HK1)⟩, ⟨(zz69 HO282)⟩, ⟨(zz0 HB)⟩⟩
            ·rw [if_neg c40] at H
             exact absurd H (by simp)
           ·rw [if_neg c38] at H
            exact absurd H (by simp)
          ·rw [if_neg c37] at H
           exact absurd H (by simp)
         ·rw [if_neg c35] at H
          exact absurd H (by simp)
        ·rw [if_neg c34] at H
         exact absurd H (by simp)
     ·rw [if_neg c4] at H
      exact absurd H (by simp)
    ·rw [if_neg c3] at H
     have c3b0 : decide (x5_1 < (a0.size : Int)) = false := decide_eq_false c3;clear c3;simp only [Option.some.injEq, Prod.mk.injEq] at H
     obtain ⟨rfl, rfl⟩ := H;have hcv46 := own_string (P := Tryd.prog) Tryd.underlying63 Tryd.underlying5 Tryd.underlying9 (Kd.own_of_R HO_4.out);go_wp2
     go_ret2
     exact ⟨zz1, (zz0 HB)⟩
def strings_Index.f (a0 : ByteArray) (a1 : ByteArray) : Option (Int) := (stringslite_Index.f a0 a1).bind fun t283 => (some t283)
set_option maxHeartbeats 8000000 in
set_option maxRecDepth 100000 in
theorem strings_Index.calls (a0 : ByteArray) (a1 : ByteArray) (r : Int) (w : World) (h : strings_Index.f a0 a1 = some r) :
  Calls Tryd.prog 85 #[.string a0, .string a1] w fun e w' => e = .returned (.int .i64 r) ∧ Below w.heap.size w w' := by
 have HB := Aside0.mk (Below.refl w.heap.size w);have H : ((stringslite_Index.f a0 a1).bind fun t283 => (some t283)) = some r := h;clear h;replace H := bindA H;obtain ⟨t283, A3, H⟩ := H;obtain rfl := Option.some.inj H;go_enter Tryd.func85, Tryd.ntmps85;go_wp2_with (first | ((with_reducible refine gate_callee (f := 52) rfl ?_); refine gsL (some 7) Tryd.func52 #[.string a0, .string a1] ?_; (with_reducible refine (stringslite_Index.calls a0 a1 t283 _ A3.out).mono ?_); rintro e w4 ⟨rfl, hb⟩; refine ⟨_, rfl, ?_⟩; have n0_ := Aside0.mk (below_step (zz0 HB) hb); clear HB; have HB := n0_; clear n0_; (try clear hb)))
 go_ret
 exact ⟨zz1, (zz0 HB)⟩
end Go.Proofs.YtpnedbnpnekahaaDoor.P
end
section
namespace Go.Proofs.YtpnedbnpnekahaaDoor.P
open Go.RowKit Go.Proofs.YtpnedbnpnekahaaDoorW.PrintWords Go.Proofs.YtpnedbnpnekahaaDoorW.PrintLast Go.Proofs.YtpnedbnpnekahaaDoorW.PrintMore
set_option linter.unusedVariables false
def strings_explode.f (a0 : ByteArray) (a1 : Int) : Option (List ByteArray) := none
theorem strings_explode.calls (a0 : ByteArray) (a1 : Int) (r : List ByteArray) (w : World) (h : strings_explode.f a0 a1 = some r) :
  Calls Tryd.prog 83 #[.string a0, .int .i64 a1] w fun e w' => ∃ v0_ : Value, e = .returned (v0_) ∧ Kd.R Kd.string 9 w' w.heap.size (fun _ => True) v0_ r ∧ Below w.heap.size w w' := by
 cases h
end Go.Proofs.YtpnedbnpnekahaaDoor.P
end
section
namespace Go.Proofs.YtpnedbnpnekahaaDoor.P
open Go.RowKit Go.Proofs.YtpnedbnpnekahaaDoorW.PrintWords Go.Proofs.YtpnedbnpnekahaaDoorW.PrintLast Go.Proofs.YtpnedbnpnekahaaDoorW.PrintMore
attribute [local go_sem] max2_int min2_int max_two min_two max_three min_three max_four min_four
set_option linter.unusedVariables false
set_option linter.unusedSimpArgs false
mutual
def strings_genSplit.j0 : Nat → ByteArray → ByteArray → Int → Int → Option (List ByteArray)
 | 0, _, _, _, _ => none
 | k + 1, x0, x1, x2, x3 => if 0 ≤ (mn x3 (wrap64 ((x0.size : Int) + 1))) then (if (mn x3 (wrap64 ((x0.size : Int) + 1)) : Int).toNat ≤ 17592186044416 then (strings_genSplit.l0 k x0 x1 x2 (wrap64 ((mn x3 (wrap64 ((x0.size : Int) + 1))) - 1)) (List.replicate (mn x3 (wrap64 ((x0.size : Int) + 1)) : Int).toNat (⟨#[]⟩ : ByteArray)) 0) else (none)) else (none)
def strings_genSplit.l0 : Nat → ByteArray → ByteArray → Int → Int → List ByteArray → Int → Option (List ByteArray)
 | 0, _, _, _, _, _, _ => none
 | k + 1, x0, x1, x2, x3, x9, x10 => if x10 < x3 then ((strings_Index.f x0 x1).bind fun t291 => (if t291 < 0 then (if 0 ≤ x10 then (if x10 < (x9.length : Int) then (if 0 ≤ (wrap64 (x10 + 1)) then (if (wrap64 (x10 + 1)) ≤ (x9.length : Int) then (some ((x9.set (x10 : Int).toNat x0).take ((wrap64 (x10 + 1)) : Int).toNat)) else (none)) else (none)) else (none)) else (none)) else (if 0 ≤ (wrap64 (t291 + x2)) then (if (wrap64 (t291 + x2)) ≤ (x0.size : Int) then (if 0 ≤ x10 then (if x10 < (x9.length : Int) then (if 0 ≤ (wrap64 (t291 + (x1.size : Int))) then (if (wrap64 (t291 + (x1.size : Int))) ≤ (x0.size : Int) then (strings_genSplit.l0 k (x0.extract ((wrap64 (t291 + (x1.size : Int))) : Int).toNat x0.size) x1 x2 x3 (x9.set (x10 : Int).toNat (x0.extract 0 ((wrap64 (t291 + x2)) : Int).toNat)) (wrap64 (x10 + 1))) else (none)) else (none)) else (none)) else (none)) else (none)) else (none)))) else (if 0 ≤ x10 then (if x10 < (x9.length : Int) then (if 0 ≤ (wrap64 (x10 + 1)) then (if (wrap64 (x10 + 1)) ≤ (x9.length : Int) then (some ((x9.set (x10 : Int).toNat x0).take ((wrap64 (x10 + 1)) : Int).toNat)) else (none)) else (none)) else (none)) else (none))
end
def strings_genSplit.f (k : Nat) (a0 : ByteArray) (a1 : ByteArray) (a2 : Int) (a3 : Int) : Option (List ByteArray) := if a3 = 0 then (some ([] : List ByteArray)) else (if a1.toList = ([] : List UInt8) then ((strings_explode.f a0 a3).bind fun t284 => (some t284)) else (if a3 < 0 then ((strings_Count.f a0 a1).bind fun t287 => (strings_genSplit.j0 k a0 a1 a2 (wrap64 (t287 + 1)))) else (strings_genSplit.j0 k a0 a1 a2 a3)))
set_option maxHeartbeats 8000000 in
set_option maxRecDepth 100000 in
theorem strings_genSplit.calls (k : Nat) (a0 : ByteArray) (a1 : ByteArray) (a2 : Int) (a3 : Int) (r : List ByteArray) (w : World) (h : strings_genSplit.f k a0 a1 a2 a3 = some r) :
  Calls Tryd.prog 75 #[.string a0, .string a1, .int .i64 a2, .int .i64 a3] w fun e w' => ∃ v0_ : Value, e = .returned (v0_) ∧ Kd.R Kd.string 9 w' w.heap.size (fun _ => True) v0_ r ∧ Below w.heap.size w w' := by
 have HB := Aside0.mk (Below.refl w.heap.size w);have H : (if a3 = 0 then (some ([] : List ByteArray)) else (if a1.toList = ([] : List UInt8) then ((strings_explode.f a0 a3).bind fun t284 => (some t284)) else (if a3 < 0 then ((strings_Count.f a0 a1).bind fun t287 => (strings_genSplit.j0 k a0 a1 a2 (wrap64 (t287 + 1)))) else (strings_genSplit.j0 k a0 a1 a2 a3)))) = some r := h;clear h;by_cases c5 : a3 = 0
 ·rw [if_pos c5] at H
  have c5b0 : (a3 == 0) = true := beq_iff_eq.mpr c5;have c5b1 : (a3 != 0) = false := bne_eq_false_iff_eq.mpr c5;clear c5;obtain rfl := Option.some.inj H;go_enter Tryd.func75, Tryd.ntmps75;go_wp2
  go_ret
  exact ⟨_, zz1, zz38, (zz0 HB)⟩
 ·rw [if_neg c5] at H
  have c5b0 : (a3 == 0) = false := beq_eq_false_iff_ne.mpr c5;have c5b1 : (a3 != 0) = true := bne_iff_ne.mpr c5;by_cases c6 : a1.toList = ([] : List UInt8)
  ·rw [if_pos c6] at H
   have c6b0 : (a1.toList == ([] : List UInt8)) = true := beq_iff_eq.mpr c6;have c6b1 : (a1.toList != ([] : List UInt8)) = false := bne_eq_false_iff_eq.mpr c6;clear c6;replace H := bindA H;obtain ⟨t284, A7, H⟩ := H;obtain rfl := Option.some.inj H;go_enter Tryd.func75, Tryd.ntmps75;go_wp2_with (first | ((with_reducible refine gate_callee (f := 83) rfl ?_); refine gsL (some 18) Tryd.func83 #[.string a0, .int .i64 a3] ?_; (with_reducible refine (strings_explode.calls a0 a3 t284 _ A7.out).mono ?_); rintro e w8 ⟨v285, rfl, ho0, hb⟩; refine ⟨_, rfl, ?_⟩; have n0_ := Aside0.mk (Kd.R_lower ho0 (below_size (zz0 HB))); have n1_ := Aside0.mk (below_step (zz0 HB) hb); clear HB; have HO286 := n0_; have HB := n1_; clear n0_ n1_; (try clear hb ho0)))
   go_ret
   exact ⟨_, zz1, (zz28 HO286), (zz0 HB)⟩
  ·rw [if_neg c6] at H
   have c6b0 : (a1.toList == ([] : List UInt8)) = false := beq_eq_false_iff_ne.mpr c6;have c6b1 : (a1.toList != ([] : List UInt8)) = true := bne_iff_ne.mpr c6;have HC9 := Aside0.mk H;clear H;go_enter Tryd.func75, Tryd.ntmps75;go_upto_if 20 with (fail)
   go_cut [3] (fun v3 wc => ∃ (kq : Nat) (x3_8 : Int), v3 = .int .i64 x3_8 ∧ Aside0 (strings_genSplit.j0 kq a0 a1 a2 x3_8 = some r) ∧ Aside0 (kq ≤ k) ∧ Aside0 (Below w.heap.size w wc))
   case first =>
    have H := HC9.out;clear HC9;by_cases c10 : a3 < 0
    ·rw [if_pos c10] at H
     have c10b0 : decide (a3 < 0) = true := decide_eq_true c10;clear c10;(first | rw [c10b0] | (simp only [i64_w, i32_w]; rw [c10b0]) | skip)
     replace H := bindA H;obtain ⟨t287, A11, H⟩ := H;have H' := Aside0.mk H;clear H;go_wp2_with (first | ((with_reducible refine gate_callee (f := 84) rfl ?_); refine gsL (some 23) Tryd.func84 #[.string a0, .string a1] ?_; (with_reducible refine (strings_Count.calls a0 a1 t287 _ A11.out).mono ?_); rintro e w12 ⟨rfl, hb⟩; refine ⟨_, rfl, ?_⟩; have n0_ := Aside0.mk (below_step (zz0 HB) hb); clear HB; have HB := n0_; clear n0_; (try clear hb)))
     go_meet
     case rel => exact ⟨_, (wrap64 (t287 + 1)), zz3, H', ⟨zz9⟩, ⟨(zz0 HB)⟩⟩
    ·rw [if_neg c10] at H
     have c10b0 : decide (a3 < 0) = false := decide_eq_false c10;clear c10;(first | rw [c10b0] | (simp only [i64_w, i32_w]; rw [c10b0]) | skip)
     have H' := Aside0.mk H;clear H;go_wp2
     go_meet
     case rel => exact ⟨_, (a3), zz3, H', ⟨zz9⟩, ⟨(zz0 HB)⟩⟩
   case rest =>
    clear HC9;obtain ⟨kq, x3_8, rfl, HA, HJ8, HB⟩ := hcut;cases kq with
    | zero => exact absurd HA.out (by simp [strings_genSplit.j0])
    | succ kj8 =>
     have H := HA.out;clear HA;simp only [strings_genSplit.j0] at H
     obtain ⟨ji13, hji13⟩ : ∃ j_ : Int, (mn x3_8 (wrap64 ((a0.size : Int) + 1))) = j_ := ⟨_, rfl⟩;replace H : (if 0 ≤ (ji13) then (if (ji13 : Int).toNat ≤ 17592186044416 then (strings_genSplit.l0 kj8 a0 a1 a2 (wrap64 ((ji13) - 1)) (List.replicate (ji13 : Int).toNat (⟨#[]⟩ : ByteArray)) 0) else (none)) else (none)) = some r := by first | (rw [hji13] at H; exact H) | (simp only [hji13] at H ⊢; exact H)
     have hji13_ : (if (wrap64 ((a0.size : Int) + 1)) < x3_8 then (wrap64 ((a0.size : Int) + 1)) else x3_8) = ji13 := hji13;by_cases c14 : 0 ≤ (ji13)
     ·rw [if_pos c14] at H
      have c14b0 := eq_true c14;have c14b1 : decide (0 ≤ (ji13)) = true := decide_eq_true c14;clear c14;by_cases c15 : (ji13 : Int).toNat ≤ 17592186044416
      ·rw [if_pos c15] at H
       have c15b0 := eq_true c15;have c15b1 : decide ((ji13 : Int).toNat ≤ 17592186044416) = true := decide_eq_true c15;clear c15;obtain ⟨y288, Ny288⟩ := toY (List.replicate (ji13 : Int).toNat (⟨#[]⟩ : ByteArray));(first | with_reducible replace H := bindZ Ny288 H | rw [← Ny288.out] at H | skip)
       have H' := Aside0.mk H;clear H;go_wp2_with (first | ((with_reducible refine gate_dst (N := 31) rfl ?_); refine Kd.R_make Kd.string _ 9 rfl (N := 31) rfl 45 _ _ rfl ji13 rfl rfl Tryd.underlying45 (.string ⟨#[]⟩) 16 info9 rfl (by decide) (by omega) (⟨#[]⟩ : ByteArray) (ok := fun _ => True) (okp := fun _ => True) rfl (fun _ hk => hk) trivial ofD (Nat.le_trans (Nat.mul_le_mul_right _ (ofD : ji13.toNat ≤ 17592186044416)) (by omega)) (Below.refl _ _) (Nat.le_refl _) ?_; intro v289 w16 ho17 hb hg_ hnew_; clear hg_ hnew_; (first | rw [← Ny288.out] at ho17 | (simp only [Int.reduceToNat] at ho17; rw [← Ny288.out] at ho17)); have n0_ := Aside0.mk (Kd.R_lower ho17 (below_size (zz0 HB))); have n1_ := Aside0.mk (below_step (zz0 HB) hb); clear HB; have HO290 := n0_; have HB := n1_; clear n0_ n1_; clear hb ho17))
       go_loopg [0, 10] kj8 (fun kq v0 v10 w' => ∃ (x0_2 : ByteArray) (x9_2 : List ByteArray) (x10_2 : Int), v0 = .string x0_2 ∧ v10 = .int .i64 x10_2 ∧ Aside0 (strings_genSplit.l0 kq x0_2 a1 a2 (wrap64 ((ji13) - 1)) x9_2 x10_2 = some r) ∧ Aside0 (kq ≤ kj8) ∧ Aside0 (Kd.R Kd.string 9 w' w.heap.size (fun _ => True) v289 x9_2) ∧ Aside0 (Below w.heap.size w w'))
       case atStart => exact ⟨(a0), (y288), (0), zz3, zz3, H', ⟨Nat.le_refl _⟩, ⟨(zz28 HO290)⟩, ⟨(zz0 HB)⟩⟩
       case round =>
        clear H';obtain ⟨x0_2, x9_2, x10_2, rfl, rfl, HA, HK2, HO_9, HB⟩ := hrel;cases gk with
        | zero => exact absurd HA.out (by simp [strings_genSplit.l0])
        | succ k2 =>
         have H := HA.out;clear HA;simp only [strings_genSplit.l0] at H
         by_cases c18 : x10_2 < (wrap64 ((ji13) - 1))
         ·rw [if_pos c18] at H
          have c18b0 : decide (x10_2 < (wrap64 ((ji13) - 1))) = true := decide_eq_true c18;clear c18;replace H := bindA H;obtain ⟨t291, A19, H⟩ := H;by_cases c20 : t291 < 0
          ·rw [if_pos c20] at H
           have c20b0 : decide (t291 < 0) = true := decide_eq_true c20;clear c20;by_cases c21 : 0 ≤ x10_2
           ·rw [if_pos c21] at H
            have c21b0 : decide (0 ≤ x10_2) = true := decide_eq_true c21;clear c21;by_cases c22 : x10_2 < (x9_2.length : Int)
            ·rw [if_pos c22] at H
             have c22b0 : decide (x10_2 < (x9_2.length : Int)) = true := decide_eq_true c22;clear c22;obtain ⟨y292, hy292⟩ : ∃ y_ : List ByteArray, y_ = (x9_2.set (x10_2 : Int).toNat x0_2) := ⟨_, rfl⟩;replace H : (if 0 ≤ (wrap64 (x10_2 + 1)) then (if (wrap64 (x10_2 + 1)) ≤ (x9_2.length : Int) then (some (y292.take ((wrap64 (x10_2 + 1)) : Int).toNat)) else (none)) else (none)) = some r := by first | (rw [hy292]; with_reducible exact H) | (have H2_ := (Option.bind_some _ _).symm.trans H; rw [hy292]; with_reducible exact H2_) | (have H2_ := (Option.bind_some _ _).symm.trans H; with_reducible exact H2_) | with_reducible exact H | (rw [hy292]; exact H) | exact H
             have Ny292 := Aside0.mk hy292;have Ly292 : y292.length ≤ x9_2.length ∧ x9_2.length ≤ y292.length := by rw [hy292, List.length_set]; exact ⟨Nat.le_refl _, Nat.le_refl _⟩
             have My292 := Ly292.1;replace Ly292 := Ly292.2;clear hy292;obtain ⟨ji24, hji24⟩ : ∃ j_ : Int, (wrap64 (x10_2 + 1)) = j_ := ⟨_, rfl⟩;replace H : (if 0 ≤ (ji24) then (if (ji24) ≤ (x9_2.length : Int) then (some (y292.take ((ji24) : Int).toNat)) else (none)) else (none)) = some r := by first | (rw [hji24] at H; exact H) | (simp only [hji24] at H ⊢; exact H)
             (try rw [hji24] at A19)
             have hji24w : (IntKind.i64.wrap (x10_2 + 1)) = ji24 := (i64_w _).trans hji24;by_cases c25 : 0 ≤ (ji24)
             ·rw [if_pos c25] at H
              have c25b0 := eq_true c25;have c25b1 : decide (0 ≤ (ji24)) = true := decide_eq_true c25;clear c25;by_cases c26 : (ji24) ≤ (x9_2.length : Int)
              ·rw [if_pos c26] at H
               have c26b0 := eq_true c26;have c26b1 : decide ((ji24) ≤ (x9_2.length : Int)) = true := decide_eq_true c26;clear c26;obtain ⟨y293, Ny293⟩ := toY (y292.take ((ji24) : Int).toNat);(first | with_reducible replace H := bindZ Ny293 H | rw [← Ny293.out] at H | skip)
               obtain rfl := Option.some.inj H;go_wp2_with (first | ((with_reducible refine gate_callee (f := 85) rfl ?_); refine gsL (some 39) Tryd.func85 #[.string x0_2, .string a1] ?_; (with_reducible refine (strings_Index.calls x0_2 a1 t291 _ A19.out).mono ?_); rintro e w27 ⟨rfl, hb⟩; refine ⟨_, rfl, ?_⟩; have n0_ := Aside0.mk (Kd.R_below (zz28 HO_9) hb); have n1_ := Aside0.mk (below_step (zz0 HB) hb); clear HO_9; clear HB; have HO_9 := n0_; have HB := n1_; clear n0_ n1_; (try clear hb); have p23 : 0 ≤ (x10_2 : Int) := ofD; have q23 : (x10_2 : Int) < ((x9_2.length : Int) : Int) := ofD; obtain ⟨go23, co23, eo23, gb23, gl23, cl23, HG23⟩ := Kd.R_form HO_9.out (by omega); (first | cases eo23 | (injection eo23 with ea_ en_ ec_; (first | subst ea_ | (injection ea_ with ea_; subst ea_)); subst ec_; clear en_)); have GB23 := Aside0.mk gb23; have GG23 := Aside0.mk HG23; clear gb23 gl23 HG23; obtain ⟨hx23_0, hf23_0⟩ := Kd.R_celln (⟨#[]⟩ : ByteArray) HO_9.out (x10_2 : Int) p23 q23; replace p23 := eq_true p23; replace q23 := eq_true q23; obtain ⟨hy28_, hz28_⟩ := Kd.R_celln (⟨#[]⟩ : ByteArray) HO_9.out (x10_2 : Int) ofD ofD; have HP28 := Kd.R_putg HO_9.out (x10_2 : Int) x0_2) | ((with_reducible refine gate_store (t := 9) (p := 61) rfl ?_); refine store_event (t := 9) (p := 61) (v := ?vo_w29) (w1 := (w27.setCell ⟨go23, (x10_2 : Int).toNat, none⟩ (.string x0_2))) ?hg ?ho ?hn ?hr ?_; (case ho => rfl); (case hg => rfl); (case hn => rfl); (case hr => exact zz19); intro w29 hw; have hg : w27.grownBy w29 (some go23) := (by rw [hw]; exact HP28.2); have hp_ : Kd.R Kd.string 9 w29 w.heap.size (fun _ => True) (.slice (some ⟨go23, 0, none⟩) x9_2.length co23) y292 := (by rw [hw, Ny292.out]; exact HP28.1); clear HP28; have n0_ := Aside0.mk (hp_); have n1_ := Aside0.mk ((by rw [hw]; exact below_set (HB.out) GB23.out : Below w.heap.size w w29)); clear HO_9; clear HB; have HO_9 := n0_; have HB := n1_; clear n0_ n1_; clear hg hw hp_; have q30 : ((ji24) : Int) ≤ ((x9_2.length : Int) : Int) := ofD; obtain ⟨i030, hi030, _, hsz30, _⟩ := info_parts info9; have hcut30 := cut_to (P := Tryd.prog) 45 9 .i64 Tryd.underlying45 hi030 (some ⟨go23, 0, none⟩) x9_2.length co23 (ji24) ofD q30 (Kd.R_reads' HO_9.out).2.1; have hr30 := Kd.R_take (m := ((ji24) : Int).toNat) HO_9.out (by omega); have hy30 : y293.length = ((ji24) : Int).toNat := (by rw [Ny293.out, List.length_take]; omega); rw [← Ny293.out] at hr30; rw [← hy30] at hr30 hcut30; clear hy30 hi030 hsz30 HO_9; have HO295 := Aside0.mk hr30; clear hr30; replace q30 := eq_true q30))
               go_ret
               exact ⟨_, (by first | rfl | (simp [errW_none, errW_some] <;> rfl) | (simp only [← hji13, ← hji24]; first | rfl | (simp [errW_none, errW_some] <;> rfl)) | (simp [*, errW_none, errW_some] <;> rfl)), (zz28 HO295), (zz0 HB)⟩
              ·rw [if_neg c26] at H
               exact absurd H (by simp)
             ·rw [if_neg c25] at H
              exact absurd H (by simp)
            ·rw [if_neg c22] at H
             exact absurd H (by simp)
           ·rw [if_neg c21] at H
            exact absurd H (by simp)
          ·rw [if_neg c20] at H
           have c20b0 : decide (t291 < 0) = false := decide_eq_false c20;clear c20;obtain ⟨ji31, hji31⟩ : ∃ j_ : Int, (wrap64 (t291 + a2)) = j_ := ⟨_, rfl⟩;replace H : (if 0 ≤ (ji31) then (if (ji31) ≤ (x0_2.size : Int) then (if 0 ≤ x10_2 then (if x10_2 < (x9_2.length : Int) then (if 0 ≤ (wrap64 (t291 + (a1.size : Int))) then (if (wrap64 (t291 + (a1.size : Int))) ≤ (x0_2.size : Int) then (strings_genSplit.l0 k2 (x0_2.extract ((wrap64 (t291 + (a1.size : Int))) : Int).toNat x0_2.size) a1 a2 (wrap64 ((ji13) - 1)) (x9_2.set (x10_2 : Int).toNat (x0_2.extract 0 ((ji31) : Int).toNat)) (wrap64 (x10_2 + 1))) else (none)) else (none)) else (none)) else (none)) else (none)) else (none)) = some r := by first | (rw [hji31] at H; exact H) | (simp only [hji31] at H ⊢; exact H)
           (try rw [hji31] at A19)
           have hji31w : (IntKind.i64.wrap (t291 + a2)) = ji31 := (i64_w _).trans hji31;by_cases c32 : 0 ≤ (ji31)
           ·rw [if_pos c32] at H
            have c32b0 := eq_true c32;have c32b1 : decide (0 ≤ (ji31)) = true := decide_eq_true c32;clear c32;by_cases c33 : (ji31) ≤ (x0_2.size : Int)
            ·rw [if_pos c33] at H
             have c33b0 := eq_true c33;have c33b1 : decide ((ji31) ≤ (x0_2.size : Int)) = true := decide_eq_true c33;clear c33;by_cases c34 : 0 ≤ x10_2
             ·rw [if_pos c34] at H
              have c34b0 : decide (0 ≤ x10_2) = true := decide_eq_true c34;clear c34;by_cases c35 : x10_2 < (x9_2.length : Int)
              ·rw [if_pos c35] at H
               have c35b0 : decide (x10_2 < (x9_2.length : Int)) = true := decide_eq_true c35;clear c35;obtain ⟨y296, hy296⟩ : ∃ y_ : List ByteArray, y_ = (x9_2.set (x10_2 : Int).toNat (x0_2.extract 0 ((ji31) : Int).toNat)) := ⟨_, rfl⟩;replace H : (if 0 ≤ (wrap64 (t291 + (a1.size : Int))) then (if (wrap64 (t291 + (a1.size : Int))) ≤ (x0_2.size : Int) then (strings_genSplit.l0 k2 (x0_2.extract ((wrap64 (t291 + (a1.size : Int))) : Int).toNat x0_2.size) a1 a2 (wrap64 ((ji13) - 1)) y296 (wrap64 (x10_2 + 1))) else (none)) else (none)) = some r := by first | (rw [hy296]; with_reducible exact H) | (have H2_ := (Option.bind_some _ _).symm.trans H; rw [hy296]; with_reducible exact H2_) | (have H2_ := (Option.bind_some _ _).symm.trans H; with_reducible exact H2_) | with_reducible exact H | (rw [hy296]; exact H) | exact H
               have Ny296 := Aside0.mk hy296;have Ly296 : y296.length ≤ x9_2.length ∧ x9_2.length ≤ y296.length := by rw [hy296, List.length_set]; exact ⟨Nat.le_refl _, Nat.le_refl _⟩
               have My296 := Ly296.1;replace Ly296 := Ly296.2;clear hy296;obtain ⟨ji37, hji37⟩ : ∃ j_ : Int, (wrap64 (t291 + (a1.size : Int))) = j_ := ⟨_, rfl⟩;replace H : (if 0 ≤ (ji37) then (if (ji37) ≤ (x0_2.size : Int) then (strings_genSplit.l0 k2 (x0_2.extract ((ji37) : Int).toNat x0_2.size) a1 a2 (wrap64 ((ji13) - 1)) y296 (wrap64 (x10_2 + 1))) else (none)) else (none)) = some r := by first | (rw [hji37] at H; exact H) | (simp only [hji37] at H ⊢; exact H)
               (try rw [hji37] at A19)
               have hji37w : (IntKind.i64.wrap (t291 + (a1.size : Int))) = ji37 := (i64_w _).trans hji37;by_cases c38 : 0 ≤ (ji37)
               ·rw [if_pos c38] at H
                have c38b0 := eq_true c38;have c38b1 : decide (0 ≤ (ji37)) = true := decide_eq_true c38;clear c38;by_cases c39 : (ji37) ≤ (x0_2.size : Int)
                ·rw [if_pos c39] at H
                 have c39b0 := eq_true c39;have c39b1 : decide ((ji37) ≤ (x0_2.size : Int)) = true := decide_eq_true c39;clear c39;have H' := Aside0.mk H;clear H;go_wp2_with (first | ((with_reducible refine gate_callee (f := 85) rfl ?_); refine gsL (some 39) Tryd.func85 #[.string x0_2, .string a1] ?_; (with_reducible refine (strings_Index.calls x0_2 a1 t291 _ A19.out).mono ?_); rintro e w40 ⟨rfl, hb⟩; refine ⟨_, rfl, ?_⟩; have n0_ := Aside0.mk (Kd.R_below (zz28 HO_9) hb); have n1_ := Aside0.mk (below_step (zz0 HB) hb); clear HO_9; clear HB; have HO_9 := n0_; have HB := n1_; clear n0_ n1_; (try clear hb); have p36 : 0 ≤ (x10_2 : Int) := ofD; have q36 : (x10_2 : Int) < ((x9_2.length : Int) : Int) := ofD; obtain ⟨go36, co36, eo36, gb36, gl36, cl36, HG36⟩ := Kd.R_form HO_9.out (by omega); (first | cases eo36 | (injection eo36 with ea_ en_ ec_; (first | subst ea_ | (injection ea_ with ea_; subst ea_)); subst ec_; clear en_)); have GB36 := Aside0.mk gb36; have GG36 := Aside0.mk HG36; clear gb36 gl36 HG36; obtain ⟨hx36_0, hf36_0⟩ := Kd.R_celln (⟨#[]⟩ : ByteArray) HO_9.out (x10_2 : Int) p36 q36; replace p36 := eq_true p36; replace q36 := eq_true q36; obtain ⟨hy41_, hz41_⟩ := Kd.R_celln (⟨#[]⟩ : ByteArray) HO_9.out (x10_2 : Int) ofD ofD; have HP41 := Kd.R_putg HO_9.out (x10_2 : Int) (x0_2.extract 0 ((ji31) : Int).toNat)) | ((with_reducible refine gate_store (t := 9) (p := 49) rfl ?_); refine store_event (t := 9) (p := 49) (v := ?vo_w42) (w1 := (w40.setCell ⟨go36, (x10_2 : Int).toNat, none⟩ (.string (x0_2.extract 0 ((ji31) : Int).toNat)))) ?hg ?ho ?hn ?hr ?_; (case ho => rfl); (case hg => rfl); (case hn => rfl); (case hr => exact zz19); intro w42 hw; have hg : w40.grownBy w42 (some go36) := (by rw [hw]; exact HP41.2); have hp_ : Kd.R Kd.string 9 w42 w.heap.size (fun _ => True) (.slice (some ⟨go36, 0, none⟩) x9_2.length co36) y296 := (by rw [hw, Ny296.out]; exact HP41.1); clear HP41; have n0_ := Aside0.mk (hp_); have n1_ := Aside0.mk ((by rw [hw]; exact below_set (HB.out) GB36.out : Below w.heap.size w w42)); clear HO_9; clear HB; have HO_9 := n0_; have HB := n1_; clear n0_ n1_; clear hg hw hp_))
                 go_roundg k2
                 case measure => have := HJ8.out; have := HK2.out; omega
                 case rel => exact ⟨(x0_2.extract ((ji37) : Int).toNat x0_2.size), (y296), (wrap64 (x10_2 + 1)), (by first | rfl | (simp only [i64_w, i32_w]; done) | (simp only [aid_isEmpty, aid_isEmpty2]; done) | (simp; done) | ((simp only [← hji37] <;> (first | rfl | simp)); done) | (simp [*]; done)), zz3, H', ⟨(zz20 HJ8 HK2)⟩, ⟨(zz28 HO_9)⟩, ⟨(zz0 HB)⟩⟩
                ·rw [if_neg c39] at H
                 exact absurd H (by simp)
               ·rw [if_neg c38] at H
                exact absurd H (by simp)
              ·rw [if_neg c35] at H
               exact absurd H (by simp)
             ·rw [if_neg c34] at H
              exact absurd H (by simp)
            ·rw [if_neg c33] at H
             exact absurd H (by simp)
           ·rw [if_neg c32] at H
            exact absurd H (by simp)
         ·rw [if_neg c18] at H
          have c18b0 : decide (x10_2 < (wrap64 ((ji13) - 1))) = false := decide_eq_false c18;clear c18;by_cases c43 : 0 ≤ x10_2
          ·rw [if_pos c43] at H
           have c43b0 : decide (0 ≤ x10_2) = true := decide_eq_true c43;clear c43;by_cases c44 : x10_2 < (x9_2.length : Int)
           ·rw [if_pos c44] at H
            have c44b0 : decide (x10_2 < (x9_2.length : Int)) = true := decide_eq_true c44;clear c44;obtain ⟨y297, hy297⟩ : ∃ y_ : List ByteArray, y_ = (x9_2.set (x10_2 : Int).toNat x0_2) := ⟨_, rfl⟩;replace H : (if 0 ≤ (wrap64 (x10_2 + 1)) then (if (wrap64 (x10_2 + 1)) ≤ (x9_2.length : Int) then (some (y297.take ((wrap64 (x10_2 + 1)) : Int).toNat)) else (none)) else (none)) = some r := by first | (rw [hy297]; with_reducible exact H) | (have H2_ := (Option.bind_some _ _).symm.trans H; rw [hy297]; with_reducible exact H2_) | (have H2_ := (Option.bind_some _ _).symm.trans H; with_reducible exact H2_) | with_reducible exact H | (rw [hy297]; exact H) | exact H
            have Ny297 := Aside0.mk hy297;have Ly297 : y297.length ≤ x9_2.length ∧ x9_2.length ≤ y297.length := by rw [hy297, List.length_set]; exact ⟨Nat.le_refl _, Nat.le_refl _⟩
            have My297 := Ly297.1;replace Ly297 := Ly297.2;clear hy297;obtain ⟨ji46, hji46⟩ : ∃ j_ : Int, (wrap64 (x10_2 + 1)) = j_ := ⟨_, rfl⟩;replace H : (if 0 ≤ (ji46) then (if (ji46) ≤ (x9_2.length : Int) then (some (y297.take ((ji46) : Int).toNat)) else (none)) else (none)) = some r := by first | (rw [hji46] at H; exact H) | (simp only [hji46] at H ⊢; exact H)
            have hji46w : (IntKind.i64.wrap (x10_2 + 1)) = ji46 := (i64_w _).trans hji46;by_cases c47 : 0 ≤ (ji46)
            ·rw [if_pos c47] at H
             have c47b0 := eq_true c47;have c47b1 : decide (0 ≤ (ji46)) = true := decide_eq_true c47;clear c47;by_cases c48 : (ji46) ≤ (x9_2.length : Int)
             ·rw [if_pos c48] at H
              have c48b0 := eq_true c48;have c48b1 : decide ((ji46) ≤ (x9_2.length : Int)) = true := decide_eq_true c48;clear c48;obtain ⟨y298, Ny298⟩ := toY (y297.take ((ji46) : Int).toNat);(first | with_reducible replace H := bindZ Ny298 H | rw [← Ny298.out] at H | skip)
              obtain rfl := Option.some.inj H;have p45 : 0 ≤ (x10_2 : Int) := ofD;have q45 : (x10_2 : Int) < ((x9_2.length : Int) : Int) := ofD;obtain ⟨go45, co45, eo45, gb45, gl45, cl45, HG45⟩ := Kd.R_form HO_9.out (by omega);(first | cases eo45 | (injection eo45 with ea_ en_ ec_; (first | subst ea_ | (injection ea_ with ea_; subst ea_)); subst ec_; clear en_))
              have GB45 := Aside0.mk gb45;have GG45 := Aside0.mk HG45;clear gb45 gl45 HG45;obtain ⟨hx45_0, hf45_0⟩ := Kd.R_celln (⟨#[]⟩ : ByteArray) HO_9.out (x10_2 : Int) p45 q45;replace p45 := eq_true p45;replace q45 := eq_true q45;have HP49 := Kd.R_putg HO_9.out (x10_2 : Int) x0_2;go_wp2_with (first | ((with_reducible refine gate_store (t := 9) (p := 61) rfl ?_); refine store_event (t := 9) (p := 61) (v := ?vo_w50) (w1 := (wr.setCell ⟨go45, (x10_2 : Int).toNat, none⟩ (.string x0_2))) ?hg ?ho ?hn ?hr ?_; (case ho => rfl); (case hg => rfl); (case hn => rfl); (case hr => exact zz19); intro w50 hw; have hg : wr.grownBy w50 (some go45) := (by rw [hw]; exact HP49.2); have hp_ : Kd.R Kd.string 9 w50 w.heap.size (fun _ => True) (.slice (some ⟨go45, 0, none⟩) x9_2.length co45) y297 := (by rw [hw, Ny297.out]; exact HP49.1); clear HP49; have n0_ := Aside0.mk (hp_); have n1_ := Aside0.mk ((by rw [hw]; exact below_set (HB.out) GB45.out : Below w.heap.size w w50)); clear HO_9; clear HB; have HO_9 := n0_; have HB := n1_; clear n0_ n1_; clear hg hw hp_; have q51 : ((ji46) : Int) ≤ ((x9_2.length : Int) : Int) := ofD; obtain ⟨i051, hi051, _, hsz51, _⟩ := info_parts info9; have hcut51 := cut_to (P := Tryd.prog) 45 9 .i64 Tryd.underlying45 hi051 (some ⟨go45, 0, none⟩) x9_2.length co45 (ji46) ofD q51 (Kd.R_reads' HO_9.out).2.1; have hr51 := Kd.R_take (m := ((ji46) : Int).toNat) HO_9.out (by omega); have hy51 : y298.length = ((ji46) : Int).toNat := (by rw [Ny298.out, List.length_take]; omega); rw [← Ny298.out] at hr51; rw [← hy51] at hr51 hcut51; clear hy51 hi051 hsz51 HO_9; have HO300 := Aside0.mk hr51; clear hr51; replace q51 := eq_true q51))
              go_ret
              exact ⟨_, (by first | rfl | (simp [errW_none, errW_some] <;> rfl) | (simp only [← hji13, ← hji46]; first | rfl | (simp [errW_none, errW_some] <;> rfl)) | (simp [*, errW_none, errW_some] <;> rfl)), (zz28 HO300), (zz0 HB)⟩
             ·rw [if_neg c48] at H
              exact absurd H (by simp)
            ·rw [if_neg c47] at H
             exact absurd H (by simp)
           ·rw [if_neg c44] at H
            exact absurd H (by simp)
          ·rw [if_neg c43] at H
           exact absurd H (by simp)
      ·rw [if_neg c15] at H
       exact absurd H (by simp)
     ·rw [if_neg c14] at H
      exact absurd H (by simp)
def strings_Split.f (k : Nat) (a0 : ByteArray) (a1 : ByteArray) : Option (List ByteArray) := (strings_genSplit.f k a0 a1 0 (-1)).bind fun t301 => (some t301)
set_option maxHeartbeats 8000000 in
set_option maxRecDepth 100000 in
theorem strings_Split.calls (k : Nat) (a0 : ByteArray) (a1 : ByteArray) (r : List ByteArray) (w : World) (h : strings_Split.f k a0 a1 = some r) :
  Calls Tryd.prog 60 #[.string a0, .string a1] w fun e w' => ∃ v0_ : Value, e = .returned (v0_) ∧ Kd.R Kd.string 9 w' w.heap.size (fun _ => True) v0_ r ∧ Below w.heap.size w w' := by
 have HB := Aside0.mk (Below.refl w.heap.size w);have H : ((strings_genSplit.f k a0 a1 0 (-1)).bind fun t301 => (some t301)) = some r := h;clear h;replace H := bindA H;obtain ⟨t301, A3, H⟩ := H;obtain rfl := Option.some.inj H;go_enter Tryd.func60, Tryd.ntmps60;go_wp2_with (first | ((with_reducible refine gate_callee (f := 75) rfl ?_); refine gsL (some 7) Tryd.func75 #[.string a0, .string a1, .int .i64 0, .int .i64 (-1)] ?_; (with_reducible refine (strings_genSplit.calls k a0 a1 0 (-1) t301 _ A3.out).mono ?_); rintro e w4 ⟨v302, rfl, ho0, hb⟩; refine ⟨_, rfl, ?_⟩; have n0_ := Aside0.mk (Kd.R_lower ho0 (below_size (zz0 HB))); have n1_ := Aside0.mk (below_step (zz0 HB) hb); clear HB; have HO303 := n0_; have HB := n1_; clear n0_ n1_; (try clear hb ho0)))
 go_ret
 exact ⟨_, zz1, (zz28 HO303), (zz0 HB)⟩
mutual
def impl_PathClean.l0 : Nat → List ByteArray → List ByteArray → Int → Int → Option (List ByteArray)
 | 0, _, _, _, _ => none
 | k + 1, x3, x6, x7, x8 => if x8 < x7 then (if 0 ≤ x8 then (if x8 < (x6.length : Int) then (if (rdOf ByteArray.empty x6 x8).toList = ([] : List UInt8) then (impl_PathClean.j1 k x3 (rdOf ByteArray.empty x6 x8) x6 x7 x8 (rdOf ByteArray.empty x6 x8) ((rdOf ByteArray.empty x6 x8).toList == ([] : List UInt8))) else (impl_PathClean.j1 k x3 (rdOf ByteArray.empty x6 x8) x6 x7 x8 (rdOf ByteArray.empty x6 x8) ((rdOf ByteArray.empty x6 x8).toList == ([46] : List UInt8)))) else (none)) else (none)) else (some x3)
def impl_PathClean.j1 : Nat → List ByteArray → ByteArray → List ByteArray → Int → Int → ByteArray → Bool → Option (List ByteArray)
 | 0, _, _, _, _, _, _, _ => none
 | k + 1, x3, x5, x6, x7, x8, x12, x13 => if x13 = true then (impl_PathClean.l0 k x3 x6 x7 (wrap64 (x8 + 1))) else (if x12.toList = ([46, 46] : List UInt8) then (if (x3.length : Int) > 0 then (if 0 ≤ (wrap64 ((x3.length : Int) - 1)) then (if (wrap64 ((x3.length : Int) - 1)) ≤ (x3.length : Int) then (impl_PathClean.l0 k (x3.take ((wrap64 ((x3.length : Int) - 1)) : Int).toNat) x6 x7 (wrap64 (x8 + 1))) else (none)) else (none)) else (impl_PathClean.l0 k x3 x6 x7 (wrap64 (x8 + 1)))) else (if x3.length < 8796093022208 then (impl_PathClean.l0 k (x3 ++ [x5]) x6 x7 (wrap64 (x8 + 1))) else (none)))
end
def impl_PathClean.f (k : Nat) (l0 : List ByteArray) : Option (List ByteArray) := impl_PathClean.l0 k ([] : List ByteArray) l0 (l0.length : Int) 0
set_option maxHeartbeats 8000000 in
set_option maxRecDepth 100000 in
theorem impl_PathClean.calls (k : Nat) (A0 : Option Addr) (c0 : Nat) (l0 : List ByteArray) (r : List ByteArray) (w : World) (hr0 : Kd.C Kd.string w A0 l0.length l0) (hc0 : l0.length ≤ c0) (h : impl_PathClean.f k l0 = some r) :
  Calls Tryd.prog 61 #[.slice A0 l0.length c0] w fun e w' => ∃ v0_ : Value, e = .returned (v0_) ∧ Kd.R Kd.string 9 w' w.heap.size (fun _ => True) v0_ r ∧ Below w.heap.size w w' := by
 have HR0 := Aside0.mk hr0;have HC0 := Aside0.mk hc0;clear hr0 hc0;have HB := Aside0.mk (Below.refl w.heap.size w);have H : (impl_PathClean.l0 k ([] : List ByteArray) l0 (l0.length : Int) 0) = some r := h;clear h;have H' := Aside0.mk H;clear H;go_enter Tryd.func61, Tryd.ntmps61;go_wp2
 go_step3
 go_wp2
 go_step3
 go_wp2
 go_loopg [3, 8] k (fun kq v3 v8 w' => ∃ (x3_1 : List ByteArray) (x8_1 : Int), v8 = .int .i64 x8_1 ∧ Aside0 (impl_PathClean.l0 kq x3_1 l0 (l0.length : Int) x8_1 = some r) ∧ Aside0 (kq ≤ k) ∧ Aside0 (Kd.R Kd.string 9 w' w.heap.size (fun _ => True) v3 x3_1) ∧ Aside0 (Below w.heap.size w w'))
 case atStart => exact ⟨(([] : List ByteArray)), (0), zz3, H', ⟨Nat.le_refl _⟩, ⟨zz38⟩, ⟨(zz0 HB)⟩⟩
 case round =>
  clear H';obtain ⟨x3_1, x8_1, rfl, HA, HK1, HO_3, HB⟩ := hrel;cases gk with
  | zero => exact absurd HA.out (by simp [impl_PathClean.l0])
  | succ k1 =>
   have H := HA.out;clear HA;simp only [impl_PathClean.l0] at H
   by_cases c2 : x8_1 < (l0.length : Int)
   ·rw [if_pos c2] at H
    have c2b0 : decide (x8_1 < (l0.length : Int)) = true := decide_eq_true c2;clear c2;by_cases c3 : 0 ≤ x8_1
    ·rw [if_pos c3] at H
     have c3b0 : decide (0 ≤ x8_1) = true := decide_eq_true c3;clear c3;by_cases c4 : x8_1 < (l0.length : Int)
     ·rw [if_pos c4] at H
      have c4b0 : decide (x8_1 < (l0.length : Int)) = true := decide_eq_true c4;clear c4;have HC5 := Aside0.mk H;clear H;have p304 : 0 ≤ (x8_1 : Int) := ofD;have q304 : x8_1 < (l0.length : Int) := ofD;obtain ⟨ad304, e304, hx304_0⟩ := Kd.at_string HR0.out x8_1 p304 q304;cases e304
      replace hx304_0 := (HB.out.cell (World.block_lt_of_cell? w _ hx304_0)).trans hx304_0;replace p304 := eq_true p304;replace q304 := eq_true q304;go_upto_if 13 with (fail)
      go_cut [13] (fun v13 wc => ∃ (kq : Nat) (x13_4 : Bool), v13 = .bool x13_4 ∧ Aside0 (impl_PathClean.j1 kq x3_1 (rdOf ByteArray.empty l0 x8_1) l0 (l0.length : Int) x8_1 (rdOf ByteArray.empty l0 x8_1) x13_4 = some r) ∧ Aside0 (kq ≤ k1) ∧ Aside0 (Kd.R Kd.string 9 wc w.heap.size (fun _ => True) u3 x3_1) ∧ Aside0 (Below w.heap.size w wc))
      case first =>
       have H := HC5.out;clear HC5;by_cases c6 : (rdOf ByteArray.empty l0 x8_1).toList = ([] : List UInt8)
       ·rw [if_pos c6] at H
        have c6b0 : ((rdOf ByteArray.empty l0 x8_1).toList == ([] : List UInt8)) = true := beq_iff_eq.mpr c6;have c6i0 : (rdOf ByteArray.empty l0 x8_1).toList.isEmpty = true := (aid_isEmpty2 _).symm.trans c6b0;have c6b1 : ((rdOf ByteArray.empty l0 x8_1).toList != ([] : List UInt8)) = false := bne_eq_false_iff_eq.mpr c6;clear c6;(first | rw [c6b0] | (simp only [i64_w, i32_w]; rw [c6b0]) | skip)
        have H' := Aside0.mk H;clear H;go_wp2
        all_goals (first | (exfalso; have h_ : (rdOf ByteArray.empty l0 x8_1).toList.isEmpty = false := (by assumption); rw [c6i0] at h_; cases h_; done) | skip)
        go_meet
        case rel => exact ⟨_, (((rdOf ByteArray.empty l0 x8_1).toList == ([] : List UInt8))), zz3, H', ⟨(zz11 HK1)⟩, ⟨(zz28 HO_3)⟩, ⟨(zz0 HB)⟩⟩
       ·rw [if_neg c6] at H
        have c6b0 : ((rdOf ByteArray.empty l0 x8_1).toList == ([] : List UInt8)) = false := beq_eq_false_iff_ne.mpr c6;have c6i0 : (rdOf ByteArray.empty l0 x8_1).toList.isEmpty = false := (aid_isEmpty2 _).symm.trans c6b0;have c6b1 : ((rdOf ByteArray.empty l0 x8_1).toList != ([] : List UInt8)) = true := bne_iff_ne.mpr c6;(first | rw [c6b0] | (simp only [i64_w, i32_w]; rw [c6b0]) | skip)
        have H' := Aside0.mk H;clear H;go_wp2
        all_goals (first | (exfalso; have h_ : (rdOf ByteArray.empty l0 x8_1).toList.isEmpty = true := (by assumption); rw [c6i0] at h_; cases h_; done) | skip)
        go_meet
        case rel => exact ⟨_, (((rdOf ByteArray.empty l0 x8_1).toList == ([46] : List UInt8))), zz3, H', ⟨(zz11 HK1)⟩, ⟨(zz28 HO_3)⟩, ⟨(zz0 HB)⟩⟩
      case rest =>
       clear HC5;obtain ⟨kq, x13_4, rfl, HA, HJ4, HO_3, HB⟩ := hcut;cases kq with
       | zero => exact absurd HA.out (by simp [impl_PathClean.j1])
       | succ kj4 =>
        have H := HA.out;clear HA;simp only [impl_PathClean.j1] at H
        by_cases c7 : x13_4 = true
        ·subst c7
         rw [if_pos rfl] at H;have H' := Aside0.mk H;clear H;go_wp2
         go_roundg kj4
         case measure => have := HK1.out; have := HJ4.out; omega
         case rel => exact ⟨(x3_1), (wrap64 (x8_1 + 1)), zz3, H', ⟨(zz20 HK1 HJ4)⟩, ⟨(zz28 HO_3)⟩, ⟨(zz0 HB)⟩⟩
        ·replace c7 := Bool.eq_false_iff.mpr c7
         subst c7;rw [if_neg (show ¬ (false = true) by decide)] at H;by_cases c8 : (rdOf ByteArray.empty l0 x8_1).toList = ([46, 46] : List UInt8)
         ·rw [if_pos c8] at H
          have c8b0 : ((rdOf ByteArray.empty l0 x8_1).toList == ([46, 46] : List UInt8)) = true := beq_iff_eq.mpr c8;have c8b1 : ((rdOf ByteArray.empty l0 x8_1).toList != ([46, 46] : List UInt8)) = false := bne_eq_false_iff_eq.mpr c8;clear c8;by_cases c9 : (x3_1.length : Int) > 0
          ·rw [if_pos c9] at H
           have c9b0 : decide (0 < (x3_1.length : Int)) = true := decide_eq_true c9;have c9b1 : decide (0 < x3_1.length) = true := decide_eq_true (by omega);clear c9;obtain ⟨ji10, hji10⟩ : ∃ j_ : Int, (wrap64 ((x3_1.length : Int) - 1)) = j_ := ⟨_, rfl⟩;replace H : (if 0 ≤ (ji10) then (if (ji10) ≤ (x3_1.length : Int) then (impl_PathClean.l0 kj4 (x3_1.take ((ji10) : Int).toNat) l0 (l0.length : Int) (wrap64 (x8_1 + 1))) else (none)) else (none)) = some r := by first | (rw [hji10] at H; exact H) | (simp only [hji10] at H ⊢; exact H)
           have hji10w : (IntKind.i64.wrap ((x3_1.length : Int) - 1)) = ji10 := (i64_w _).trans hji10;by_cases c11 : 0 ≤ (ji10)
           ·rw [if_pos c11] at H
            have c11b0 := eq_true c11;have c11b1 : decide (0 ≤ (ji10)) = true := decide_eq_true c11;clear c11;by_cases c12 : (ji10) ≤ (x3_1.length : Int)
            ·rw [if_pos c12] at H
             have c12b0 := eq_true c12;have c12b1 : decide ((ji10) ≤ (x3_1.length : Int)) = true := decide_eq_true c12;clear c12;obtain ⟨y305, Ny305⟩ := toY (x3_1.take ((ji10) : Int).toNat);(first | with_reducible replace H := bindZ Ny305 H | rw [← Ny305.out] at H | skip)
             have H' := Aside0.mk H;clear H;obtain ⟨Ao13, co13, eo13⟩ := Kd.R_slice HO_3.out;subst eo13;have q14 : ((ji10) : Int) ≤ ((x3_1.length : Int) : Int) := ofD;obtain ⟨i014, hi014, _, hsz14, _⟩ := info_parts info9;have hcut14 := cut_to (P := Tryd.prog) 45 9 .i64 Tryd.underlying45 hi014 Ao13 x3_1.length co13 (ji10) ofD q14 (Kd.R_reads' HO_3.out).2.1;have hr14 := Kd.R_take (m := ((ji10) : Int).toNat) HO_3.out (by omega);have hy14 : y305.length = ((ji10) : Int).toNat := (by rw [Ny305.out, List.length_take]; omega);rw [← Ny305.out] at hr14;rw [← hy14] at hr14 hcut14;clear hy14 hi014 hsz14 HO_3;have HO307 := Aside0.mk hr14;clear hr14;replace q14 := eq_true q14;go_wp2
             go_roundg kj4
             case measure => have := HK1.out; have := HJ4.out; omega
             case rel => exact ⟨(y305), (wrap64 (x8_1 + 1)), zz3, H', ⟨(zz20 HK1 HJ4)⟩, ⟨(zz28 HO307)⟩, ⟨(zz0 HB)⟩⟩
            ·rw [if_neg c12] at H
             exact absurd H (by simp)
           ·rw [if_neg c11] at H
            exact absurd H (by simp)
          ·rw [if_neg c9] at H
           have c9b0 : decide (0 < (x3_1.length : Int)) = false := decide_eq_false c9;have c9b1 : decide (0 < x3_1.length) = false := decide_eq_false (by omega);clear c9;have H' := Aside0.mk H;clear H;obtain ⟨Ao15, co15, eo15⟩ := Kd.R_slice HO_3.out;subst eo15;go_wp2
           go_roundg kj4
           case measure => have := HK1.out; have := HJ4.out; omega
           case rel => exact ⟨(x3_1), (wrap64 (x8_1 + 1)), zz3, H', ⟨(zz20 HK1 HJ4)⟩, ⟨(zz28 HO_3)⟩, ⟨(zz0 HB)⟩⟩
         ·rw [if_neg c8] at H
          have c8b0 : ((rdOf ByteArray.empty l0 x8_1).toList == ([46, 46] : List UInt8)) = false := beq_eq_false_iff_ne.mpr c8;have c8b1 : ((rdOf ByteArray.empty l0 x8_1).toList != ([46, 46] : List UInt8)) = true := bne_iff_ne.mpr c8;by_cases c16 : x3_1.length < 8796093022208
          ·rw [if_pos c16] at H
           have LMc16 := Aside0.mk c16;clear c16;obtain ⟨y308, Ny308⟩ := toY (x3_1 ++ [(rdOf ByteArray.empty l0 x8_1)]);(first | with_reducible replace H := bindZ Ny308 H | rw [← Ny308.out] at H | skip)
           have H' := Aside0.mk H;clear H;go_wp2_with (first | ((with_reducible refine gate_builtin (b := .append) (xs := #[.tmp 26, .tmp 28]) rfl ?_); at_builtin; refine Kd.R_append Kd.string (w0 := w) w.heap.size rfl (.tmp 26) (.tmp 28) 45 9 (.string ⟨#[]⟩) 16 rfl Tryd.underlying45 info9 rfl (by decide) (by omega) u3 x3_1 (rdOf ByteArray.empty l0 x8_1) [.string (rdOf ByteArray.empty l0 x8_1)] (fun _ => True) (fun _ => False) rfl rfl ?aP (fun _ hk => hk.elim) ?aF ?aO ?aB ?aS ?aL ?_; (case aP => exact rfl); (case aB => exact (zz0 HB)); (case aF => exact (fun _ _ => trivial)); (case aO => exact (zz28 HO_3)); (case aS => exact (below_size (zz0 HB))); (case aL => exact (zz5 LMc16)); intro v309 w17 ho hb hg hat; rw [← Ny308.out] at ho; have n0_ := Aside0.mk (hb); have n1_ := Aside0.mk (ho); clear HB; clear HO_3; have HB := n0_; have HO310 := n1_; clear n0_ n1_; clear ho hb hg hat))
           go_roundg kj4
           case measure => have := HK1.out; have := HJ4.out; omega
           case rel => exact ⟨(y308), (wrap64 (x8_1 + 1)), zz3, H', ⟨(zz20 HK1 HJ4)⟩, ⟨(zz28 HO310)⟩, ⟨(zz0 HB)⟩⟩
          ·rw [if_neg c16] at H
           exact absurd H (by simp)
     ·rw [if_neg c4] at H
      exact absurd H (by simp)
    ·rw [if_neg c3] at H
     exact absurd H (by simp)
   ·rw [if_neg c2] at H
    have c2b0 : decide (x8_1 < (l0.length : Int)) = false := decide_eq_false c2;clear c2;obtain rfl := Option.some.inj H;go_wp2
    go_ret
    exact ⟨_, zz1, (zz28 HO_3), (zz0 HB)⟩
def impl_allSmallLetters.l0 : Nat → ByteArray → Int → Option (Bool)
 | 0, _, _ => none
 | k + 1, x0, x3 => if x3 < (x0.size : Int) then (if 0 ≤ x3 then (if (bt x0 x3) < 97 then (some false) else (if (bt x0 x3) > 122 then (some false) else (impl_allSmallLetters.l0 k x0 (wrap64 (x3 + 1))))) else (none)) else (some true)
def impl_allSmallLetters.f (k : Nat) (a0 : ByteArray) : Option (Bool) := impl_allSmallLetters.l0 k a0 0
theorem impl_allSmallLetters.mono_l : ∀ k, (∀ y0 y1, LeO (impl_allSmallLetters.l0 k y0 y1) (impl_allSmallLetters.l0 (k + 1) y0 y1))
 | 0 => fun _ _ r h => by simp [impl_allSmallLetters.l0] at h
 | k + 1 => by
  have ih0 := impl_allSmallLetters.mono_l k
  ·intro y0 y1
   unfold impl_allSmallLetters.l0
   repeat' first | (with_reducible first | exact ih0 _ _ | exact LeO.refl _ | exact LeO.none _ | refine LeO.ite ?_ ?_ | refine LeO.bind ?_ (fun _ => ?_)) | exact LeO.none _ | refine LeO.ite ?_ ?_ | refine LeO.bind ?_ (fun _ => ?_)
theorem impl_allSmallLetters.mono : ∀ a0 k, LeO (impl_allSmallLetters.f k a0) (impl_allSmallLetters.f (k + 1) a0) := by
 intro a0 k;have ih0 := impl_allSmallLetters.mono_l k;unfold impl_allSmallLetters.f
 repeat' first | (with_reducible first | exact ih0 _ _ | exact LeO.refl _ | exact LeO.none _ | refine LeO.ite ?_ ?_ | refine LeO.bind ?_ (fun _ => ?_)) | exact LeO.none _ | refine LeO.ite ?_ ?_ | refine LeO.bind ?_ (fun _ => ?_)
set_option maxHeartbeats 8000000 in
set_option maxRecDepth 100000 in
theorem impl_allSmallLetters.calls (k : Nat) (a0 : ByteArray) (r : Bool) (w : World) (h : impl_allSmallLetters.f k a0 = some r) :
  Calls Tryd.prog 86 #[.string a0] w fun e w' => e = .returned (.bool r) ∧ Drawn0 w w' := by
 have H : (impl_allSmallLetters.l0 k a0 0) = some r := h;clear h;have H' := Aside0.mk H;clear H;go_enter Tryd.func86, Tryd.ntmps86;go_wp2
 go_loopg [3] k (fun kq v3 w' => ∃ (x3_1 : Int), v3 = .int .i64 x3_1 ∧ Aside0 (impl_allSmallLetters.l0 kq a0 x3_1 = some r) ∧ Aside0 (kq ≤ k) ∧ Drawn0 w w')
 case atStart => exact ⟨(0), zz3, H', ⟨Nat.le_refl _⟩, zz6⟩
 case round =>
  clear H';obtain ⟨x3_1, rfl, HA, HK1, ⟨m1, rfl⟩⟩ := hrel;cases gk with
  | zero => exact absurd HA.out (by simp [impl_allSmallLetters.l0])
  | succ k1 =>
   have H := HA.out;clear HA;simp only [impl_allSmallLetters.l0] at H
   by_cases c2 : x3_1 < (a0.size : Int)
   ·rw [if_pos c2] at H
    have c2b0 : decide (x3_1 < (a0.size : Int)) = true := decide_eq_true c2;clear c2;by_cases c3 : 0 ≤ x3_1
    ·rw [if_pos c3] at H
     have c3b0 : decide (0 ≤ x3_1) = true := decide_eq_true c3;clear c3;by_cases c5 : (bt a0 x3_1) < 97
     ·rw [if_pos c5] at H
      have c5b0 : decide ((bt a0 x3_1) < 97) = true := decide_eq_true c5;clear c5;obtain rfl := Option.some.inj H;have p4 : 0 ≤ (x3_1 : Int) := ofD;have q4 : x3_1 < (a0.size : Int) := ofD;have hx4 := bt_at a0 x3_1;replace p4 := eq_true p4;replace q4 := eq_true q4;go_wp2
      go_ret
      exact ⟨zz3, zz6⟩
     ·rw [if_neg c5] at H
      have c5b0 : decide ((bt a0 x3_1) < 97) = false := decide_eq_false c5;clear c5;by_cases c7 : (bt a0 x3_1) > 122
      ·rw [if_pos c7] at H
       have c7b0 : decide (122 < (bt a0 x3_1)) = true := decide_eq_true c7;clear c7;obtain rfl := Option.some.inj H;have p4 : 0 ≤ (x3_1 : Int) := ofD;have q4 : x3_1 < (a0.size : Int) := ofD;have hx4 := bt_at a0 x3_1;replace p4 := eq_true p4;replace q4 := eq_true q4;have p6 : 0 ≤ (x3_1 : Int) := ofD;have q6 : x3_1 < (a0.size : Int) := ofD;have hx6 := bt_at a0 x3_1;replace p6 := eq_true p6;replace q6 := eq_true q6;go_wp2
       go_ret
       exact ⟨zz3, zz6⟩
      ·rw [if_neg c7] at H
       have c7b0 : decide (122 < (bt a0 x3_1)) = false := decide_eq_false c7;clear c7;have H' := Aside0.mk H;clear H;have p4 : 0 ≤ (x3_1 : Int) := ofD;have q4 : x3_1 < (a0.size : Int) := ofD;have hx4 := bt_at a0 x3_1;replace p4 := eq_true p4;replace q4 := eq_true q4;have p6 : 0 ≤ (x3_1 : Int) := ofD;have q6 : x3_1 < (a0.size : Int) := ofD;have hx6 := bt_at a0 x3_1;replace p6 := eq_true p6;replace q6 := eq_true q6;go_wp2
       go_roundg k1
       case measure => have := HK1.out; omega
       case rel => exact ⟨(wrap64 (x3_1 + 1)), zz3, H', ⟨(zz5 HK1)⟩, zz6⟩
    ·rw [if_neg c3] at H
     exact absurd H (by simp)
   ·rw [if_neg c2] at H
    have c2b0 : decide (x3_1 < (a0.size : Int)) = false := decide_eq_false c2;clear c2;obtain rfl := Option.some.inj H;go_wp2
    go_ret
    exact ⟨zz3, zz6⟩
def impl_isHouse.f (k : Nat) (a0 : ByteArray) : Option (Bool) := if (a0.size : Int) ≥ 1 then (if (a0.size : Int) ≤ 5 then ((impl_allSmallLetters.f k a0).bind fun t315 => (some t315)) else (some false)) else (some false)
set_option maxHeartbeats 8000000 in
set_option maxRecDepth 100000 in
theorem impl_isHouse.calls (k : Nat) (a0 : ByteArray) (r : Bool) (w : World) (h : impl_isHouse.f k a0 = some r) :
  Calls Tryd.prog 76 #[.string a0] w fun e w' => e = .returned (.bool r) ∧ Drawn0 w w' := by
 have H : (if (a0.size : Int) ≥ 1 then (if (a0.size : Int) ≤ 5 then ((impl_allSmallLetters.f k a0).bind fun t315 => (some t315)) else (some false)) else (some false)) = some r := h;clear h;by_cases c2 : (a0.size : Int) ≥ 1
 ·rw [if_pos c2] at H
  have c2b0 : decide (1 ≤ (a0.size : Int)) = true := decide_eq_true c2;have c2b1 : decide (1 ≤ a0.size) = true := decide_eq_true (by omega);clear c2;by_cases c3 : (a0.size : Int) ≤ 5
  ·rw [if_pos c3] at H
   have c3b0 : decide ((a0.size : Int) ≤ 5) = true := decide_eq_true c3;have c3b1 : decide (a0.size ≤ 5) = true := decide_eq_true (by omega);clear c3;replace H := bindA H;obtain ⟨t315, A4, H⟩ := H;obtain rfl := Option.some.inj H;go_enter Tryd.func76, Tryd.ntmps76;go_wp2_with (first | (go_at_call 86; (with_reducible refine (impl_allSmallLetters.calls k a0 t315 _ A4.out).mono ?_); rintro e w' ⟨rfl, ⟨nd, rfl⟩⟩))
   go_ret
   exact ⟨zz3, zz6⟩
  ·rw [if_neg c3] at H
   have c3b0 : decide ((a0.size : Int) ≤ 5) = false := decide_eq_false c3;have c3b1 : decide (a0.size ≤ 5) = false := decide_eq_false (by omega);clear c3;obtain rfl := Option.some.inj H;go_enter Tryd.func76, Tryd.ntmps76;go_wp2
   go_ret
   exact ⟨zz3, zz6⟩
 ·rw [if_neg c2] at H
  have c2b0 : decide (1 ≤ (a0.size : Int)) = false := decide_eq_false c2;have c2b1 : decide (1 ≤ a0.size) = false := decide_eq_false (by omega);clear c2;obtain rfl := Option.some.inj H;go_enter Tryd.func76, Tryd.ntmps76;go_wp2
  go_ret
  exact ⟨zz3, zz6⟩
end Go.Proofs.YtpnedbnpnekahaaDoor.P
end
