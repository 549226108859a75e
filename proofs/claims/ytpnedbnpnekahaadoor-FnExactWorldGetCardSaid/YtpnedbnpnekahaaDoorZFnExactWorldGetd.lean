/- Part 4 of the proof of FnExactWorldGet: the plain functions of what it reaches, that Go comes to just their answers, what they answer, and the words that the walks use; conditions: each theorem's own. -/
import Derived.Test.YtpnedbnpnekahaaDoorZFnExactWorldGetb
import Derived.Test.YtpnedbnpnekahaaDoorZFnExactWorldGetc
import Derived.Laws.RangeAny
import Derived.Laws.Runes
import Derived.Laws.RangeString
import Derived.Laws.Strings3
import Derived.Lib.IndexAny
import Derived.Lib.IndexBytes
import Derived.Deep.LoopGhost
import Derived.Maps.Own
import Derived.Maps.OwnSet
import Derived.Carry

section
namespace Go.Proofs.YtpnedbnpnekahaaDoor.P
open Go.RowKit Go.Proofs.YtpnedbnpnekahaaDoorW.PrintWords Go.Proofs.YtpnedbnpnekahaaDoorW.PrintLast Go.Proofs.YtpnedbnpnekahaaDoorW.PrintMore
attribute [local go_sem] max2_int min2_int max_two min_two max_three min_three max_four min_four
set_option linter.unusedVariables false
set_option linter.unusedSimpArgs false
def impl_signByte.f (a0 : ByteArray) (a1 : Int) : Option (Int × Bool) := if (wrap64 ((a0.size : Int) - a1)) < 3 then (some (0, false)) else (if 0 ≤ (wrap64 (a1 + 1)) then (if (wrap64 (a1 + 1)) < (a0.size : Int) then ((impl_figureValue.f (bt a0 (wrap64 (a1 + 1)))).bind fun bt257 => (if 0 ≤ (wrap64 (a1 + 2)) then (if (wrap64 (a1 + 2)) < (a0.size : Int) then ((impl_figureValue.f (bt a0 (wrap64 (a1 + 2)))).bind fun bt259 => (if bt257.2 = true then (if bt259.2 = true then (some ((wrap64 ((wrap64 (bt257.1 * 16)) + bt259.1)) % 256, true)) else (some (0, false))) else (some (0, false)))) else (none)) else (none))) else (none)) else (none))
set_option maxHeartbeats 8000000 in
set_option maxRecDepth 100000 in
theorem impl_signByte.calls (a0 : ByteArray) (a1 : Int) (r1 : Int) (r2 : Bool) (w : World) (h : impl_signByte.f a0 a1 = some (r1, r2)) :
  Calls Tryd.prog 73 #[.string a0, .int .i64 a1] w fun e w' => e = .returned (.tuple #[.int .u8 r1, .bool r2]) ∧ Below w.heap.size w w' := by
 have HB := Aside0.mk (Below.refl w.heap.size w);have H : (if (wrap64 ((a0.size : Int) - a1)) < 3 then (some (0, false)) else (if 0 ≤ (wrap64 (a1 + 1)) then (if (wrap64 (a1 + 1)) < (a0.size : Int) then ((impl_figureValue.f (bt a0 (wrap64 (a1 + 1)))).bind fun bt257 => (if 0 ≤ (wrap64 (a1 + 2)) then (if (wrap64 (a1 + 2)) < (a0.size : Int) then ((impl_figureValue.f (bt a0 (wrap64 (a1 + 2)))).bind fun bt259 => (if bt257.2 = true then (if bt259.2 = true then (some ((wrap64 ((wrap64 (bt257.1 * 16)) + bt259.1)) % 256, true)) else (some (0, false))) else (some (0, false)))) else (none)) else (none))) else (none)) else (none))) = some (r1, r2) := h;clear h;by_cases c3 : (wrap64 ((a0.size : Int) - a1)) < 3
 ·rw [if_pos c3] at H
  have c3b0 : decide ((wrap64 ((a0.size : Int) - a1)) < 3) = true := decide_eq_true c3;clear c3;simp only [Option.some.injEq, Prod.mk.injEq] at H
  obtain ⟨rfl, rfl⟩ := H;go_enter Tryd.func73, Tryd.ntmps73;go_wp2
  go_ret2
  exact ⟨zz1, (zz0 HB)⟩
 ·rw [if_neg c3] at H
  have c3b0 : decide ((wrap64 ((a0.size : Int) - a1)) < 3) = false := decide_eq_false c3;clear c3;obtain ⟨ji4, hji4⟩ : ∃ j_ : Int, (wrap64 (a1 + 1)) = j_ := ⟨_, rfl⟩;replace H : (if 0 ≤ (ji4) then (if (ji4) < (a0.size : Int) then ((impl_figureValue.f (bt a0 (ji4))).bind fun bt257 => (if 0 ≤ (wrap64 (a1 + 2)) then (if (wrap64 (a1 + 2)) < (a0.size : Int) then ((impl_figureValue.f (bt a0 (wrap64 (a1 + 2)))).bind fun bt259 => (if bt257.2 = true then (if bt259.2 = true then (some ((wrap64 ((wrap64 (bt257.1 * 16)) + bt259.1)) % 256, true)) else (some (0, false))) else (some (0, false)))) else (none)) else (none))) else (none)) else (none)) = some (r1, r2) := by first | (rw [hji4] at H; exact H) | (simp only [hji4] at H ⊢; exact H)
  have hji4w : (IntKind.i64.wrap (a1 + 1)) = ji4 := (i64_w _).trans hji4;by_cases c5 : 0 ≤ (ji4)
  ·rw [if_pos c5] at H
   have c5b0 : decide (0 ≤ (ji4)) = true := decide_eq_true c5;clear c5;by_cases c6 : (ji4) < (a0.size : Int)
   ·rw [if_pos c6] at H
    have c6b0 : decide ((ji4) < (a0.size : Int)) = true := decide_eq_true c6;clear c6;replace H := bindA H;obtain ⟨⟨t257, t258⟩, A8, H⟩ := H;try dsimp -simprocs only at H
    obtain ⟨ji9, hji9⟩ : ∃ j_ : Int, (wrap64 (a1 + 2)) = j_ := ⟨_, rfl⟩;replace H : (if 0 ≤ (ji9) then (if (ji9) < (a0.size : Int) then ((impl_figureValue.f (bt a0 (ji9))).bind fun bt259 => (if t258 = true then (if bt259.2 = true then (some ((wrap64 ((wrap64 (t257 * 16)) + bt259.1)) % 256, true)) else (some (0, false))) else (some (0, false)))) else (none)) else (none)) = some (r1, r2) := by first | (rw [hji9] at H; exact H) | (simp only [hji9] at H ⊢; exact H)
    (try rw [hji9] at A8)
    have hji9w : (IntKind.i64.wrap (a1 + 2)) = ji9 := (i64_w _).trans hji9;by_cases c10 : 0 ≤ (ji9)
    ·rw [if_pos c10] at H
     have c10b0 : decide (0 ≤ (ji9)) = true := decide_eq_true c10;clear c10;by_cases c11 : (ji9) < (a0.size : Int)
     ·rw [if_pos c11] at H
      have c11b0 : decide ((ji9) < (a0.size : Int)) = true := decide_eq_true c11;clear c11;replace H := bindA H;obtain ⟨⟨t259, t260⟩, A13, H⟩ := H;try dsimp -simprocs only at H
      by_cases c14 : t258 = true
      ·subst c14
       rw [if_pos rfl] at H;by_cases c15 : t260 = true
       ·subst c15
        rw [if_pos rfl] at H;simp only [Option.some.injEq, Prod.mk.injEq] at H
        obtain ⟨rfl, rfl⟩ := H;have p7 : 0 ≤ ((ji4) : Int) := ofD;have q7 : (ji4) < (a0.size : Int) := ofD;have hx7 := bt_at a0 (ji4);replace p7 := eq_true p7;replace q7 := eq_true q7;go_enter Tryd.func73, Tryd.ntmps73;go_wp2_with (first | ((with_reducible refine gate_callee (f := 82) rfl ?_); refine goesL_ (some 20) rfl rfl Tryd.func82 (by kernel_rfl) rfl #[.int .u8 (bt a0 (ji4))] rfl zz65 ?_; (with_reducible refine (impl_figureValue.calls (bt a0 (ji4)) t257 true _ A8.out).mono ?_); rintro e w16 ⟨rfl, hb⟩; refine ⟨_, rfl, ?_⟩; have n0_ := Aside0.mk (below_step (zz0 HB) hb); clear HB; have HB := n0_; clear n0_; (try clear hb); have p12 : 0 ≤ ((ji9) : Int) := ofD; have q12 : (ji9) < (a0.size : Int) := ofD; have hx12 := bt_at a0 (ji9); replace p12 := eq_true p12; replace q12 := eq_true q12) | ((with_reducible refine gate_callee (f := 82) rfl ?_); refine goesL_ (some 28) rfl rfl Tryd.func82 (by kernel_rfl) rfl #[.int .u8 (bt a0 (ji9))] rfl zz66 ?_; (with_reducible refine (impl_figureValue.calls (bt a0 (ji9)) t259 true _ A13.out).mono ?_); rintro e w17 ⟨rfl, hb⟩; refine ⟨_, rfl, ?_⟩; have n0_ := Aside0.mk (below_step (zz0 HB) hb); clear HB; have HB := n0_; clear n0_; (try clear hb)))
        go_ret2
        exact ⟨zz67, (zz0 HB)⟩
       ·replace c15 := Bool.eq_false_iff.mpr c15
        subst c15;rw [if_neg (show ¬ (false = true) by decide)] at H;simp only [Option.some.injEq, Prod.mk.injEq] at H
        obtain ⟨rfl, rfl⟩ := H;have p7 : 0 ≤ ((ji4) : Int) := ofD;have q7 : (ji4) < (a0.size : Int) := ofD;have hx7 := bt_at a0 (ji4);replace p7 := eq_true p7;replace q7 := eq_true q7;go_enter Tryd.func73, Tryd.ntmps73;go_wp2_with (first | ((with_reducible refine gate_callee (f := 82) rfl ?_); refine goesL_ (some 20) rfl rfl Tryd.func82 (by kernel_rfl) rfl #[.int .u8 (bt a0 (ji4))] rfl zz65 ?_; (with_reducible refine (impl_figureValue.calls (bt a0 (ji4)) t257 true _ A8.out).mono ?_); rintro e w18 ⟨rfl, hb⟩; refine ⟨_, rfl, ?_⟩; have n0_ := Aside0.mk (below_step (zz0 HB) hb); clear HB; have HB := n0_; clear n0_; (try clear hb); have p12 : 0 ≤ ((ji9) : Int) := ofD; have q12 : (ji9) < (a0.size : Int) := ofD; have hx12 := bt_at a0 (ji9); replace p12 := eq_true p12; replace q12 := eq_true q12) | ((with_reducible refine gate_callee (f := 82) rfl ?_); refine goesL_ (some 28) rfl rfl Tryd.func82 (by kernel_rfl) rfl #[.int .u8 (bt a0 (ji9))] rfl zz66 ?_; (with_reducible refine (impl_figureValue.calls (bt a0 (ji9)) t259 false _ A13.out).mono ?_); rintro e w19 ⟨rfl, hb⟩; refine ⟨_, rfl, ?_⟩; have n0_ := Aside0.mk (below_step (zz0 HB) hb); clear HB; have HB := n0_; clear n0_; (try clear hb)))
        go_ret2
        exact ⟨zz67, (zz0 HB)⟩
      ·replace c14 := Bool.eq_false_iff.mpr c14
       subst c14;rw [if_neg (show ¬ (false = true) by decide)] at H;simp only [Option.some.injEq, Prod.mk.injEq] at H
       obtain ⟨rfl, rfl⟩ := H;have p7 : 0 ≤ ((ji4) : Int) := ofD;have q7 : (ji4) < (a0.size : Int) := ofD;have hx7 := bt_at a0 (ji4);replace p7 := eq_true p7;replace q7 := eq_true q7;go_enter Tryd.func73, Tryd.ntmps73;go_wp2_with (first | ((with_reducible refine gate_callee (f := 82) rfl ?_); refine goesL_ (some 20) rfl rfl Tryd.func82 (by kernel_rfl) rfl #[.int .u8 (bt a0 (ji4))] rfl zz65 ?_; (with_reducible refine (impl_figureValue.calls (bt a0 (ji4)) t257 false _ A8.out).mono ?_); rintro e w20 ⟨rfl, hb⟩; refine ⟨_, rfl, ?_⟩; have n0_ := Aside0.mk (below_step (zz0 HB) hb); clear HB; have HB := n0_; clear n0_; (try clear hb); have p12 : 0 ≤ ((ji9) : Int) := ofD; have q12 : (ji9) < (a0.size : Int) := ofD; have hx12 := bt_at a0 (ji9); replace p12 := eq_true p12; replace q12 := eq_true q12) | ((with_reducible refine gate_callee (f := 82) rfl ?_); refine goesL_ (some 28) rfl rfl Tryd.func82 (by kernel_rfl) rfl #[.int .u8 (bt a0 (ji9))] rfl zz66 ?_; (with_reducible refine (impl_figureValue.calls (bt a0 (ji9)) t259 t260 _ A13.out).mono ?_); rintro e w21 ⟨rfl, hb⟩; refine ⟨_, rfl, ?_⟩; have n0_ := Aside0.mk (below_step (zz0 HB) hb); clear HB; have HB := n0_; clear n0_; (try clear hb)))
       go_ret2
       exact ⟨zz67, (zz0 HB)⟩
     ·rw [if_neg c11] at H
      exact absurd H (by simp)
    ·rw [if_neg c10] at H
     exact absurd H (by simp)
   ·rw [if_neg c6] at H
    exact absurd H (by simp)
  ·rw [if_neg c5] at H
   exact absurd H (by simp)
def impl_standsForItself.f (a0 : Int) : Option (Bool) := if a0 ≥ 97 then (if a0 ≤ 122 then (some true) else (if a0 ≥ 48 then (if a0 ≤ 57 then (some true) else (if a0 = 46 then (some true) else (some (a0 == 45)))) else (if a0 = 46 then (some true) else (some (a0 == 45))))) else (if a0 ≥ 48 then (if a0 ≤ 57 then (some true) else (if a0 = 46 then (some true) else (some (a0 == 45)))) else (if a0 = 46 then (some true) else (some (a0 == 45))))
set_option maxHeartbeats 8000000 in
set_option maxRecDepth 100000 in
theorem impl_standsForItself.calls (a0 : Int) (r : Bool) (w : World) (h : impl_standsForItself.f a0 = some r) :
  Calls Tryd.prog 74 #[.int .u8 a0] w fun e w' => e = .returned (.bool r) ∧ Drawn0 w w' := by
 have H : (if a0 ≥ 97 then (if a0 ≤ 122 then (some true) else (if a0 ≥ 48 then (if a0 ≤ 57 then (some true) else (if a0 = 46 then (some true) else (some (a0 == 45)))) else (if a0 = 46 then (some true) else (some (a0 == 45))))) else (if a0 ≥ 48 then (if a0 ≤ 57 then (some true) else (if a0 = 46 then (some true) else (some (a0 == 45)))) else (if a0 = 46 then (some true) else (some (a0 == 45))))) = some r := h;clear h;by_cases c2 : a0 ≥ 97
 ·rw [if_pos c2] at H
  have c2b0 : decide (97 ≤ a0) = true := decide_eq_true c2;clear c2;by_cases c3 : a0 ≤ 122
  ·rw [if_pos c3] at H
   have c3b0 : decide (a0 ≤ 122) = true := decide_eq_true c3;clear c3;obtain rfl := Option.some.inj H;go_enter Tryd.func74, Tryd.ntmps74;go_wp2
   go_ret
   exact ⟨zz3, zz17⟩
  ·rw [if_neg c3] at H
   have c3b0 : decide (a0 ≤ 122) = false := decide_eq_false c3;clear c3;by_cases c4 : a0 ≥ 48
   ·rw [if_pos c4] at H
    have c4b0 : decide (48 ≤ a0) = true := decide_eq_true c4;clear c4;by_cases c5 : a0 ≤ 57
    ·rw [if_pos c5] at H
     have c5b0 : decide (a0 ≤ 57) = true := decide_eq_true c5;clear c5;obtain rfl := Option.some.inj H;go_enter Tryd.func74, Tryd.ntmps74;go_wp2
     go_ret
     exact ⟨zz3, zz17⟩
    ·rw [if_neg c5] at H
     have c5b0 : decide (a0 ≤ 57) = false := decide_eq_false c5;clear c5;by_cases c6 : a0 = 46
     ·rw [if_pos c6] at H
      have c6b0 : (a0 == 46) = true := beq_iff_eq.mpr c6;have c6b1 : (a0 != 46) = false := bne_eq_false_iff_eq.mpr c6;clear c6;obtain rfl := Option.some.inj H;go_enter Tryd.func74, Tryd.ntmps74;go_wp2
      go_ret
      exact ⟨zz3, zz17⟩
     ·rw [if_neg c6] at H
      have c6b0 : (a0 == 46) = false := beq_eq_false_iff_ne.mpr c6;have c6b1 : (a0 != 46) = true := bne_iff_ne.mpr c6;obtain rfl := Option.some.inj H;go_enter Tryd.func74, Tryd.ntmps74;go_wp2
      go_ret
      exact ⟨zz3, zz17⟩
   ·rw [if_neg c4] at H
    have c4b0 : decide (48 ≤ a0) = false := decide_eq_false c4;clear c4;by_cases c7 : a0 = 46
    ·rw [if_pos c7] at H
     have c7b0 : (a0 == 46) = true := beq_iff_eq.mpr c7;have c7b1 : (a0 != 46) = false := bne_eq_false_iff_eq.mpr c7;clear c7;obtain rfl := Option.some.inj H;go_enter Tryd.func74, Tryd.ntmps74;go_wp2
     go_ret
     exact ⟨zz3, zz17⟩
    ·rw [if_neg c7] at H
     have c7b0 : (a0 == 46) = false := beq_eq_false_iff_ne.mpr c7;have c7b1 : (a0 != 46) = true := bne_iff_ne.mpr c7;obtain rfl := Option.some.inj H;go_enter Tryd.func74, Tryd.ntmps74;go_wp2
     go_ret
     exact ⟨zz3, zz17⟩
 ·rw [if_neg c2] at H
  have c2b0 : decide (97 ≤ a0) = false := decide_eq_false c2;clear c2;by_cases c8 : a0 ≥ 48
  ·rw [if_pos c8] at H
   have c8b0 : decide (48 ≤ a0) = true := decide_eq_true c8;clear c8;by_cases c9 : a0 ≤ 57
   ·rw [if_pos c9] at H
    have c9b0 : decide (a0 ≤ 57) = true := decide_eq_true c9;clear c9;obtain rfl := Option.some.inj H;go_enter Tryd.func74, Tryd.ntmps74;go_wp2
    go_ret
    exact ⟨zz3, zz17⟩
   ·rw [if_neg c9] at H
    have c9b0 : decide (a0 ≤ 57) = false := decide_eq_false c9;clear c9;by_cases c10 : a0 = 46
    ·rw [if_pos c10] at H
     have c10b0 : (a0 == 46) = true := beq_iff_eq.mpr c10;have c10b1 : (a0 != 46) = false := bne_eq_false_iff_eq.mpr c10;clear c10;obtain rfl := Option.some.inj H;go_enter Tryd.func74, Tryd.ntmps74;go_wp2
     go_ret
     exact ⟨zz3, zz17⟩
    ·rw [if_neg c10] at H
     have c10b0 : (a0 == 46) = false := beq_eq_false_iff_ne.mpr c10;have c10b1 : (a0 != 46) = true := bne_iff_ne.mpr c10;obtain rfl := Option.some.inj H;go_enter Tryd.func74, Tryd.ntmps74;go_wp2
     go_ret
     exact ⟨zz3, zz17⟩
  ·rw [if_neg c8] at H
   have c8b0 : decide (48 ≤ a0) = false := decide_eq_false c8;clear c8;by_cases c11 : a0 = 46
   ·rw [if_pos c11] at H
    have c11b0 : (a0 == 46) = true := beq_iff_eq.mpr c11;have c11b1 : (a0 != 46) = false := bne_eq_false_iff_eq.mpr c11;clear c11;obtain rfl := Option.some.inj H;go_enter Tryd.func74, Tryd.ntmps74;go_wp2
    go_ret
    exact ⟨zz3, zz17⟩
   ·rw [if_neg c11] at H
    have c11b0 : (a0 == 46) = false := beq_eq_false_iff_ne.mpr c11;have c11b1 : (a0 != 46) = true := bne_iff_ne.mpr c11;obtain rfl := Option.some.inj H;go_enter Tryd.func74, Tryd.ntmps74;go_wp2
    go_ret
    exact ⟨zz3, zz17⟩
def impl_EscNorm.l0 : Nat → ByteArray → List Int → Int → Option (ByteArray × Bool)
 | 0, _, _, _ => none
 | k + 1, x0, x4, x5 => if x5 < (x0.size : Int) then (if 0 ≤ x5 then (if (bt x0 x5) = 37 then ((impl_signByte.f x0 x5).bind fun bt261 => (if bt261.2 = true then ((impl_standsForItself.f bt261.1).bind fun t263 => (if t263 = true then (if x4.length < 140737488355328 then (impl_EscNorm.l0 k x0 (x4 ++ [bt261.1]) (wrap64 ((wrap64 (x5 + 2)) + 1))) else (none)) else (if 0 ≤ (bt261.1 / 16) then (if (bt261.1 / 16) < 16 then (if 0 ≤ (Go.bits .and .u8 bt261.1 15) then (if (Go.bits .and .u8 bt261.1 15) < 16 then ((some (([37, bt (⟨#[48, 49, 50, 51, 52, 53, 54, 55, 56, 57, 65, 66, 67, 68, 69, 70]⟩ : ByteArray) (bt261.1 / 16), bt (⟨#[48, 49, 50, 51, 52, 53, 54, 55, 56, 57, 65, 66, 67, 68, 69, 70]⟩ : ByteArray) (Go.bits .and .u8 bt261.1 15)] : List Int) : List Int)).bind fun y267 => (if x4.length + y267.length < 140737488355328 then (impl_EscNorm.l0 k x0 (x4 ++ y267) (wrap64 ((wrap64 (x5 + 2)) + 1))) else (none))) else (none)) else (none)) else (none)) else (none)))) else (some ((⟨#[]⟩ : ByteArray), false)))) else ((impl_standsForItself.f (bt x0 x5)).bind fun t273 => (if t273 = true then (if x4.length < 140737488355328 then (impl_EscNorm.l0 k x0 (x4 ++ [bt x0 x5]) (wrap64 (x5 + 1))) else (none)) else (if 0 ≤ ((bt x0 x5) / 16) then (if ((bt x0 x5) / 16) < 16 then (if 0 ≤ (Go.bits .and .u8 (bt x0 x5) 15) then (if (Go.bits .and .u8 (bt x0 x5) 15) < 16 then ((some (([37, bt (⟨#[48, 49, 50, 51, 52, 53, 54, 55, 56, 57, 65, 66, 67, 68, 69, 70]⟩ : ByteArray) ((bt x0 x5) / 16), bt (⟨#[48, 49, 50, 51, 52, 53, 54, 55, 56, 57, 65, 66, 67, 68, 69, 70]⟩ : ByteArray) (Go.bits .and .u8 (bt x0 x5) 15)] : List Int) : List Int)).bind fun y277 => (if x4.length + y277.length < 140737488355328 then (impl_EscNorm.l0 k x0 (x4 ++ y277) (wrap64 (x5 + 1))) else (none))) else (none)) else (none)) else (none)) else (none))))) else (none)) else (some (strOfNums x4, true))
def impl_EscNorm.f (k : Nat) (a0 : ByteArray) : Option (ByteArray × Bool) := if (a0.size : Int) > 60 then (some ((⟨#[]⟩ : ByteArray), false)) else (impl_EscNorm.l0 k a0 ([] : List Int) 0)
theorem impl_EscNorm.mono_l : ∀ k, (∀ y0 y1 y2, LeO (impl_EscNorm.l0 k y0 y1 y2) (impl_EscNorm.l0 (k + 1) y0 y1 y2))
 | 0 => fun _ _ _ r h => by simp [impl_EscNorm.l0] at h
 | k + 1 => by
  have ih0 := impl_EscNorm.mono_l k
  ·intro y0 y1 y2
   unfold impl_EscNorm.l0
   repeat' first | (with_reducible first | exact ih0 _ _ _ | exact LeO.refl _ | exact LeO.none _ | refine LeO.ite ?_ ?_ | refine LeO.bind ?_ (fun _ => ?_)) | exact LeO.none _ | refine LeO.ite ?_ ?_ | refine LeO.bind ?_ (fun _ => ?_)
theorem impl_EscNorm.mono : ∀ a0 k, LeO (impl_EscNorm.f k a0) (impl_EscNorm.f (k + 1) a0) := by
 intro a0 k;have ih0 := impl_EscNorm.mono_l k;unfold impl_EscNorm.f
 repeat' first | (with_reducible first | exact ih0 _ _ _ | exact LeO.refl _ | exact LeO.none _ | refine LeO.ite ?_ ?_ | refine LeO.bind ?_ (fun _ => ?_)) | exact LeO.none _ | refine LeO.ite ?_ ?_ | refine LeO.bind ?_ (fun _ => ?_)
def impl_EscNorm.T16 : Bool × List (List Nat × List Nat) := (true, [([], []), ([], []), ([1], [1]), ([2], [2]), ([], []), ([4], [4]), ([5], [5]), ([3, 6], [3, 6]), ([0, 7], [0, 7]), ([8, 8, 0, 1, 2, 3, 4, 5, 6, 7, 8], [0, 8])])
def impl_EscNorm.B16 : List Nat := [0, 0, 2, 6, 0, 16, 48, 126, 255, 511]
theorem impl_EscNorm.tab16 : rtab .any (opsOf Tryd.f58 16) = impl_EscNorm.T16 := by kernel_rfl
theorem impl_EscNorm.bits16 : waitsOk impl_EscNorm.T16.2 impl_EscNorm.B16 = true := by kernel_rfl
set_option maxHeartbeats 8000000 in
set_option maxRecDepth 100000 in
theorem impl_EscNorm.calls (k : Nat) (a0 : ByteArray) (r1 : ByteArray) (r2 : Bool) (w : World) (h : impl_EscNorm.f k a0 = some (r1, r2)) :
  Calls Tryd.prog 58 #[.string a0] w fun e w' => e = .returned (.tuple #[.string r1, .bool r2]) ∧ Below w.heap.size w w' := by
 have HB := Aside0.mk (Below.refl w.heap.size w);have H : (if (a0.size : Int) > 60 then (some ((⟨#[]⟩ : ByteArray), false)) else (impl_EscNorm.l0 k a0 ([] : List Int) 0)) = some (r1, r2) := h;clear h;by_cases c2 : (a0.size : Int) > 60
 ·rw [if_pos c2] at H
  have c2b0 : decide (60 < (a0.size : Int)) = true := decide_eq_true c2;have c2b1 : decide (60 < a0.size) = true := decide_eq_true (by omega);clear c2;simp only [Option.some.injEq, Prod.mk.injEq] at H
  obtain ⟨rfl, rfl⟩ := H;go_enter Tryd.func58, Tryd.ntmps58;go_wp2
  go_ret2
  exact ⟨zz1, (zz0 HB)⟩
 ·rw [if_neg c2] at H
  have c2b0 : decide (60 < (a0.size : Int)) = false := decide_eq_false c2;have c2b1 : decide (60 < a0.size) = false := decide_eq_false (by omega);clear c2;have H' := Aside0.mk H;clear H;go_enter Tryd.func58, Tryd.ntmps58;go_wp2
  go_loopg [4, 5] k (fun kq v4 v5 w' => ∃ (x4_1 : List Int) (x5_1 : Int), v5 = .int .i64 x5_1 ∧ Aside0 (impl_EscNorm.l0 kq a0 x4_1 x5_1 = some (r1, r2)) ∧ Aside0 (kq ≤ k) ∧ Aside0 (Kd.R (Kd.int .u8) 5 w' w.heap.size (fun _ => True) v4 x4_1) ∧ Aside0 (Below w.heap.size w w'))
  case atStart => exact ⟨(([] : List Int)), (0), zz3, H', ⟨Nat.le_refl _⟩, ⟨zz44⟩, ⟨(zz0 HB)⟩⟩
  case round =>
   clear H';obtain ⟨x4_1, x5_1, rfl, HA, HK1, HO_4, HB⟩ := hrel;cases gk with
   | zero => exact absurd HA.out (by simp [impl_EscNorm.l0])
   | succ k1 =>
    have H := HA.out;clear HA;simp only [impl_EscNorm.l0] at H
    by_cases c3 : x5_1 < (a0.size : Int)
    ·rw [if_pos c3] at H
     have c3b0 : decide (x5_1 < (a0.size : Int)) = true := decide_eq_true c3;clear c3;by_cases c4 : 0 ≤ x5_1
     ·rw [if_pos c4] at H
      have c4b0 : decide (0 ≤ x5_1) = true := decide_eq_true c4;clear c4;by_cases c6 : (bt a0 x5_1) = 37
      ·rw [if_pos c6] at H
       have c6b0 : ((bt a0 x5_1) == 37) = true := beq_iff_eq.mpr c6;have c6b1 : ((bt a0 x5_1) != 37) = false := bne_eq_false_iff_eq.mpr c6;clear c6;replace H := bindA H;obtain ⟨⟨t261, t262⟩, A7, H⟩ := H;try dsimp -simprocs only at H
       by_cases c8 : t262 = true
       ·subst c8
        rw [if_pos rfl] at H;replace H := bindA H;obtain ⟨t263, A9, H⟩ := H;by_cases c10 : t263 = true
        ·subst c10
         rw [if_pos rfl] at H;by_cases c11 : x4_1.length < 140737488355328
         ·rw [if_pos c11] at H
          have LMc11 := Aside0.mk c11;clear c11;obtain ⟨y264, Ny264⟩ := toY (x4_1 ++ [t261]);(first | with_reducible replace H := bindZ Ny264 H | rw [← Ny264.out] at H | skip)
          have H' := Aside0.mk H;clear H;have p5 : 0 ≤ (x5_1 : Int) := ofD;have q5 : x5_1 < (a0.size : Int) := ofD;have hx5 := bt_at a0 x5_1;replace p5 := eq_true p5;replace q5 := eq_true q5;go_wp2_with (first | ((with_reducible refine gate_callee (f := 73) rfl ?_); refine gsL (some 26) Tryd.func73 #[.string a0, .int .i64 x5_1] ?_; (with_reducible refine (impl_signByte.calls a0 x5_1 t261 true _ A7.out).mono ?_); rintro e w12 ⟨rfl, hb⟩; refine ⟨_, rfl, ?_⟩; have n0_ := Aside0.mk (Kd.R_below (zz10 HO_4) hb); have n1_ := Aside0.mk (below_step (zz0 HB) hb); clear HO_4; clear HB; have HO_4 := n0_; have HB := n1_; clear n0_ n1_; (try clear hb)) | ((with_reducible refine gate_callee (f := 74) rfl ?_); refine gsL (some 35) Tryd.func74 #[.int .u8 t261] ?_; (with_reducible refine (impl_standsForItself.calls t261 true _ A9.out).mono ?_); rintro e w' ⟨rfl, ⟨nd, rfl⟩⟩; refine ⟨_, rfl, ?_⟩) | ((with_reducible refine gate_builtin (b := .append) (xs := #[.tmp 36, .tmp 38]) rfl ?_); at_builtin; refine Kd.R_append (Kd.int .u8) (w0 := w) w.heap.size rfl (.tmp 36) (.tmp 38) 63 5 (.int .u8 0) 1 rfl Tryd.underlying63 info5 rfl (by decide) (by omega) u4 x4_1 t261 [.int .u8 t261] (fun _ => True) (fun _ => False) rfl rfl ?aP (fun _ hk => hk.elim) ?aF ?aO ?aB ?aS ?aL ?_; (case aP => exact rfl); (case aB => exact (zz0 HB)); (case aF => exact (fun _ _ => trivial)); (case aO => exact (zz10 HO_4)); (case aS => exact (below_size (zz0 HB))); (case aL => exact (zz5 LMc11)); intro v265 w13 ho hb hg hat; rw [← Ny264.out] at ho; have n0_ := Aside0.mk (hb); have n1_ := Aside0.mk (ho); clear HB; clear HO_4; have HB := n0_; have HO266 := n1_; clear n0_ n1_; clear ho hb hg hat))
          go_roundg k1
          case measure => have := HK1.out; omega
          case rel => exact ⟨(y264), (wrap64 ((wrap64 (x5_1 + 2)) + 1)), zz3, H', ⟨(zz5 HK1)⟩, ⟨(zz10 HO266)⟩, ⟨(zz0 HB)⟩⟩
         ·rw [if_neg c11] at H
          exact absurd H (by simp)
        ·replace c10 := Bool.eq_false_iff.mpr c10
         subst c10;rw [if_neg (show ¬ (false = true) by decide)] at H;obtain ⟨ji14, hji14⟩ : ∃ j_ : Int, (t261 / 16) = j_ := ⟨_, rfl⟩;replace H : (if 0 ≤ (ji14) then (if (ji14) < 16 then (if 0 ≤ (Go.bits .and .u8 t261 15) then (if (Go.bits .and .u8 t261 15) < 16 then ((some (([37, bt (⟨#[48, 49, 50, 51, 52, 53, 54, 55, 56, 57, 65, 66, 67, 68, 69, 70]⟩ : ByteArray) (ji14), bt (⟨#[48, 49, 50, 51, 52, 53, 54, 55, 56, 57, 65, 66, 67, 68, 69, 70]⟩ : ByteArray) (Go.bits .and .u8 t261 15)] : List Int) : List Int)).bind fun y267 => (if x4_1.length + y267.length < 140737488355328 then (impl_EscNorm.l0 k1 a0 (x4_1 ++ y267) (wrap64 ((wrap64 (x5_1 + 2)) + 1))) else (none))) else (none)) else (none)) else (none)) else (none)) = some (r1, r2) := by first | (rw [hji14] at H; exact H) | (simp only [hji14] at H ⊢; exact H)
         (try rw [hji14] at A7)
         (try rw [hji14] at A9)
         by_cases c15 : 0 ≤ (ji14)
         ·rw [if_pos c15] at H
          have c15b0 : decide (0 ≤ (ji14)) = true := decide_eq_true c15;clear c15;by_cases c16 : (ji14) < 16
          ·rw [if_pos c16] at H
           have c16b0 : decide ((ji14) < 16) = true := decide_eq_true c16;clear c16;by_cases c18 : 0 ≤ (Go.bits .and .u8 t261 15)
           ·rw [if_pos c18] at H
            have c18b0 : decide (0 ≤ (Go.bits .and .u8 t261 15)) = true := decide_eq_true c18;clear c18;by_cases c19 : (Go.bits .and .u8 t261 15) < 16
            ·rw [if_pos c19] at H
             have c19b0 : decide ((Go.bits .and .u8 t261 15) < 16) = true := decide_eq_true c19;clear c19;obtain ⟨y267, Ny267⟩ := toY (([37, bt (⟨#[48, 49, 50, 51, 52, 53, 54, 55, 56, 57, 65, 66, 67, 68, 69, 70]⟩ : ByteArray) (ji14), bt (⟨#[48, 49, 50, 51, 52, 53, 54, 55, 56, 57, 65, 66, 67, 68, 69, 70]⟩ : ByteArray) (Go.bits .and .u8 t261 15)] : List Int));(first | with_reducible replace H := bindZ Ny267 H | rw [← Ny267.out] at H | skip)
             by_cases c21 : x4_1.length + y267.length < 140737488355328
             ·rw [if_pos c21] at H
              have LMc21 := Aside0.mk c21;clear c21;obtain ⟨y270, Ny270⟩ := toY (x4_1 ++ y267);(first | with_reducible replace H := bindZ Ny270 H | rw [← Ny270.out] at H | skip)
              have H' := Aside0.mk H;clear H;have p5 : 0 ≤ (x5_1 : Int) := ofD;have q5 : x5_1 < (a0.size : Int) := ofD;have hx5 := bt_at a0 x5_1;replace p5 := eq_true p5;replace q5 := eq_true q5;try go_wp2_with (first | ((with_reducible refine gate_callee (f := 73) rfl ?_); refine gsL (some 26) Tryd.func73 #[.string a0, .int .i64 x5_1] ?_; (with_reducible refine (impl_signByte.calls a0 x5_1 t261 true _ A7.out).mono ?_); rintro e w22 ⟨rfl, hb⟩; refine ⟨_, rfl, ?_⟩; have n0_ := Aside0.mk (Kd.R_below (zz10 HO_4) hb); have n1_ := Aside0.mk (below_step (zz0 HB) hb); clear HO_4; clear HB; have HO_4 := n0_; have HB := n1_; clear n0_ n1_; (try clear hb)) | ((with_reducible refine gate_callee (f := 74) rfl ?_); refine gsL (some 35) Tryd.func74 #[.int .u8 t261] ?_; (with_reducible refine (impl_standsForItself.calls t261 false _ A9.out).mono ?_); rintro e w' ⟨rfl, ⟨nd, rfl⟩⟩; refine ⟨_, rfl, ?_⟩))
              (try (rw [drewN_self w22]; generalize hq_ : World.drewN w22 _ = w22; have n0_ : Aside0 (Kd.R (Kd.int .u8) 5 w22 w.heap.size (fun _ => True) u4 x4_1) := ⟨(by rw [← hq_]; exact (zz10 HO_4))⟩; have n1_ : Aside0 (Below w.heap.size w w22) := ⟨(by rw [← hq_]; exact (zz0 HB))⟩; clear HO_4 HB hq_; have HO_4 := n0_; have HB := n1_; clear n0_ n1_))
              have n0_ := Aside0.mk (Kd.R_drew HO_4.out);have n1_ := Aside0.mk (below_drew1 HB.out);clear HO_4;clear HB;have HO_4 := n0_;have HB := n1_;clear n0_ n1_;have p17 : 0 ≤ ((ji14) : Int) := ofD;have q17 : (ji14) < (16 : Int) := ofD;have hx17 := bt_at (⟨#[48, 49, 50, 51, 52, 53, 54, 55, 56, 57, 65, 66, 67, 68, 69, 70]⟩ : ByteArray) (ji14);replace p17 := eq_true p17;replace q17 := eq_true q17;have p20 : 0 ≤ ((Go.bits .and .u8 t261 15) : Int) := ofD;have q20 : (Go.bits .and .u8 t261 15) < (16 : Int) := ofD;have hx20 := bt_at (⟨#[48, 49, 50, 51, 52, 53, 54, 55, 56, 57, 65, 66, 67, 68, 69, 70]⟩ : ByteArray) (Go.bits .and .u8 t261 15);replace p20 := eq_true p20;replace q20 := eq_true q20;refine start_ (n := 10) (S := fun w' => True) (ds := []) #[false, false, false, false, false, false, false, false, false, false] (by kernel_rfl) rfl rfl trivial (fun hHeld => ?_); refine with_tabW impl_EscNorm.tab16 impl_EscNorm.bits16 (fun HT_ HW_ => ?_);generalize w22.drew = w23 at HO_4 HB hHeld ⊢;refine pureZ 0 (some 40) #[true, false, false, false, false, false, false, false, false, false] ?_;refine pureZ 1 (some 41) #[true, true, false, false, false, false, false, false, false, false] ?_;refine pureZ 2 (some 42) #[true, true, true, false, false, false, false, false, false, false] ?_;refine pureZ 4 (some 44) #[true, true, true, false, true, false, false, false, false, false] ?_;refine pureZ 5 (some 45) #[true, true, true, false, true, true, false, false, false, false] ?_;refine take_ (i := 3) (N := some 43) (v := ?_) (a' := ?_) #[true, true, true, true, true, true, false, false, false, false] rfl rfl (take_ofW HT_.out HW_.out (by kernel_rfl)) (fun _ _ _ h => h) (Or.inl ⟨by rfl, ?_⟩) hHeld ?_ ?_;rotate_left
              ·intro w' _
               go_simp
               with_reducible rfl
              rotate_left
              ·simp only [Act.put, List.setIfInBounds_toArray, List.set_cons_zero, List.set_cons_succ, i64_w, i32_w]
               rfl
              refine take_ (i := 6) (N := some 46) (v := ?_) (a' := ?_) #[true, true, true, true, true, true, true, false, false, false] rfl rfl (take_ofW HT_.out HW_.out (by kernel_rfl)) (fun _ _ _ h => h) (Or.inl ⟨by rfl, ?_⟩) hHeld ?_ ?_;rotate_left
              ·intro w' _
               go_simp
               with_reducible rfl
              rotate_left
              ·simp only [Act.put, List.setIfInBounds_toArray, List.set_cons_zero, List.set_cons_succ, i64_w, i32_w]
               rfl
              refine one_ (i := 7) (N := some 47) #[true, true, true, true, true, true, true, true, false, false] rfl rfl (one_of HT_.out (by kernel_rfl)) (by decide) (fun K hK => ?_);refine Kd.R_lit_step (Kd.int .u8) _ 5 ?hg (N := 47) ?hd (xs := ([37, bt (⟨#[48, 49, 50, 51, 52, 53, 54, 55, 56, 57, 65, 66, 67, 68, 69, 70]⟩ : ByteArray) (ji14), bt (⟨#[48, 49, 50, 51, 52, 53, 54, 55, 56, 57, 65, 66, 67, 68, 69, 70]⟩ : ByteArray) (Go.bits .and .u8 t261 15)] : List Int)) (inner := [.int .u8 37, .int .u8 (bt (⟨#[48, 49, 50, 51, 52, 53, 54, 55, 56, 57, 65, 66, 67, 68, 69, 70]⟩ : ByteArray) (ji14)), .int .u8 (bt (⟨#[48, 49, 50, 51, 52, 53, 54, 55, 56, 57, 65, 66, 67, 68, 69, 70]⟩ : ByteArray) (Go.bits .and .u8 t261 15))]) (ok := fun _ => True) (okp := fun _ => True) ?hr ?hp (fun _ hk => hk) trivial (Below.refl _ _) (Nat.le_refl _) (by simp) ?_; (case hd => rfl); (case hg => rfl); (case hr => exact zz12); (case hp => exact (Reps.one (show Kd.M (Kd.int .u8) _ _ _ 37 [.int .u8 37] from rfl) (Reps.one (show Kd.M (Kd.int .u8) _ _ _ (bt (⟨#[48, 49, 50, 51, 52, 53, 54, 55, 56, 57, 65, 66, 67, 68, 69, 70]⟩ : ByteArray) (ji14)) [.int .u8 (bt (⟨#[48, 49, 50, 51, 52, 53, 54, 55, 56, 57, 65, 66, 67, 68, 69, 70]⟩ : ByteArray) (ji14))] from rfl) (Reps.one (show Kd.M (Kd.int .u8) _ _ _ (bt (⟨#[48, 49, 50, 51, 52, 53, 54, 55, 56, 57, 65, 66, 67, 68, 69, 70]⟩ : ByteArray) (Go.bits .and .u8 t261 15)) [.int .u8 (bt (⟨#[48, 49, 50, 51, 52, 53, 54, 55, 56, 57, 65, 66, 67, 68, 69, 70]⟩ : ByteArray) (Go.bits .and .u8 t261 15))] from rfl) (Reps.none _ _)))));intro v268 w24 ho25 hb hg_ hnew_;clear hg_ hnew_;(first | rw [← Ny267.out] at ho25 | (simp only [Int.reduceToNat] at ho25; rw [← Ny267.out] at ho25))
              have n0_ := Aside0.mk (Kd.R_elder' (zz10 HO_4) (Kd.R_base ho25) hb);have n1_ := Aside0.mk (Kd.R_lower (Kd.R_new' ho25 (Kd.R_lt (zz10 HO_4))) (below_size (zz0 HB)));have n2_ := Aside0.mk (below_step (zz0 HB) hb);clear HO_4;clear HB;have HO_4 := n0_;have HO269 := n1_;have HB := n2_;clear n0_ n1_ n2_;clear hb ho25;obtain ⟨Ao27, co27, eo27⟩ := Kd.R_slice HO269.out;(first | subst eo27 | (injection eo27 with f1_ f2_ f3_; have f4_ := f1_.symm; have f5_ := f3_.symm; clear f1_ f2_ f3_; subst f4_; subst f5_))
              refine hK.out _ _ trivial (fun hHeld => ?_);clear hK K;refine norm_ (a' := ?_) ?_ ?_;rotate_left
              ·show Act.put _ (some 47) _ = _
               simp only [Act.put, List.setIfInBounds_toArray, List.set_cons_zero, List.set_cons_succ, i64_w, i32_w]
               rfl
              refine one_ (i := 8) (N := some 48) #[true, true, true, true, true, true, true, true, true, false] rfl rfl (one_of HT_.out (by kernel_rfl)) (by decide) (fun K hK => ?_);refine Kd.R_append_rows_step (Kd.int .u8) (w0 := w) w.heap.size (by rfl) (.tmp 40) (.tmp 47) 63 5 (.int .u8 0) 1 rfl Tryd.underlying63 info5 rfl (by decide) (by omega) u4 x4_1 y267 _ _ _ (fun k_ => some k_ ≠ (.slice Ao27 y267.length co27 : Value).ownBlock) (fun _ => False) rfl rfl ?aO ?aR (fun _ _ h => h) (fun _ h => h.elim) ?aF ?aB ?aS ?aL ?_;(case aR => exact (zz45 HO269))
              (case aB => exact (zz0 HB))
              (case aF => exact (fun k_ hk => Kd.fresh' (Kd.R_lt (zz10 HO269)) k_ hk))
              (case aO => exact (zz40 HO_4))
              (case aS => exact (below_size (zz0 HB)))
              (case aL => exact (zz5 LMc21))
              intro v271 w26 ho hb hg hat;rw [← Ny270.out] at ho;have n0_ := Aside0.mk (Kd.R_after (ok := (fun _ => True)) (zz10 HO269) hg hat);have n1_ := Aside0.mk (hb);have n2_ := Aside0.mk (ho);clear HO269;clear HB;clear HO_4;have HO269 := n0_;have HB := n1_;have HO272 := n2_;clear n0_ n1_ n2_;clear ho hb hg hat;refine hK.out _ _ trivial (fun hHeld => ?_);clear hK K;refine norm_ (a' := ?_) ?_ ?_;rotate_left
              ·show Act.put _ (some 48) _ = _
               simp only [Act.put, List.setIfInBounds_toArray, List.set_cons_zero, List.set_cons_succ, i64_w, i32_w]
               rfl
              refine pureZ 9 (some 4) #[true, true, true, true, true, true, true, true, true, true] ?_;refine done_ (done_of HT_.out (by kernel_rfl)) ?_;try go_wp2
              go_roundg k1
              case measure => have := HK1.out; omega
              case rel => exact ⟨(y270), (wrap64 ((wrap64 (x5_1 + 2)) + 1)), zz3, H', ⟨(zz5 HK1)⟩, ⟨(zz71 HO272)⟩, ⟨(zz0 HB)⟩⟩
             ·rw [if_neg c21] at H
              exact absurd H (by simp)
            ·rw [if_neg c19] at H
             exact absurd H (by simp)
           ·rw [if_neg c18] at H
            exact absurd H (by simp)
          ·rw [if_neg c16] at H
           exact absurd H (by simp)
         ·rw [if_neg c15] at H
          exact absurd H (by simp)
       ·replace c8 := Bool.eq_false_iff.mpr c8
        subst c8;rw [if_neg (show ¬ (false = true) by decide)] at H;simp only [Option.some.injEq, Prod.mk.injEq] at H
        obtain ⟨rfl, rfl⟩ := H;have p5 : 0 ≤ (x5_1 : Int) := ofD;have q5 : x5_1 < (a0.size : Int) := ofD;have hx5 := bt_at a0 x5_1;replace p5 := eq_true p5;replace q5 := eq_true q5;go_wp2_with (first | ((with_reducible refine gate_callee (f := 73) rfl ?_); refine gsL (some 26) Tryd.func73 #[.string a0, .int .i64 x5_1] ?_; (with_reducible refine (impl_signByte.calls a0 x5_1 t261 false _ A7.out).mono ?_); rintro e w28 ⟨rfl, hb⟩; refine ⟨_, rfl, ?_⟩; have n0_ := Aside0.mk (Kd.R_below (zz10 HO_4) hb); have n1_ := Aside0.mk (below_step (zz0 HB) hb); clear HO_4; clear HB; have HO_4 := n0_; have HB := n1_; clear n0_ n1_; (try clear hb)))
        go_ret2
        exact ⟨zz1, (zz0 HB)⟩
      ·rw [if_neg c6] at H
       have c6b0 : ((bt a0 x5_1) == 37) = false := beq_eq_false_iff_ne.mpr c6;have c6b1 : ((bt a0 x5_1) != 37) = true := bne_iff_ne.mpr c6;replace H := bindA H;obtain ⟨t273, A29, H⟩ := H;by_cases c30 : t273 = true
       ·subst c30
        rw [if_pos rfl] at H;by_cases c31 : x4_1.length < 140737488355328
        ·rw [if_pos c31] at H
         have LMc31 := Aside0.mk c31;clear c31;obtain ⟨y274, Ny274⟩ := toY (x4_1 ++ [bt a0 x5_1]);(first | with_reducible replace H := bindZ Ny274 H | rw [← Ny274.out] at H | skip)
         have H' := Aside0.mk H;clear H;have p5 : 0 ≤ (x5_1 : Int) := ofD;have q5 : x5_1 < (a0.size : Int) := ofD;have hx5 := bt_at a0 x5_1;replace p5 := eq_true p5;replace q5 := eq_true q5;go_wp2_with (first | ((with_reducible refine gate_callee (f := 74) rfl ?_); refine gsL (some 35) Tryd.func74 #[.int .u8 (bt a0 x5_1)] ?_; (with_reducible refine (impl_standsForItself.calls (bt a0 x5_1) true _ A29.out).mono ?_); rintro e w' ⟨rfl, ⟨nd, rfl⟩⟩; refine ⟨_, rfl, ?_⟩) | ((with_reducible refine gate_builtin (b := .append) (xs := #[.tmp 36, .tmp 38]) rfl ?_); at_builtin; refine Kd.R_append (Kd.int .u8) (w0 := w) w.heap.size rfl (.tmp 36) (.tmp 38) 63 5 (.int .u8 0) 1 rfl Tryd.underlying63 info5 rfl (by decide) (by omega) u4 x4_1 (bt a0 x5_1) [.int .u8 (bt a0 x5_1)] (fun _ => True) (fun _ => False) rfl rfl ?aP (fun _ hk => hk.elim) ?aF ?aO ?aB ?aS ?aL ?_; (case aP => exact rfl); (case aB => exact (zz0 HB)); (case aF => exact (fun _ _ => trivial)); (case aO => exact (zz10 HO_4)); (case aS => exact (below_size (zz0 HB))); (case aL => exact (zz5 LMc31)); intro v275 w32 ho hb hg hat; rw [← Ny274.out] at ho; have n0_ := Aside0.mk (hb); have n1_ := Aside0.mk (ho); clear HB; clear HO_4; have HB := n0_; have HO276 := n1_; clear n0_ n1_; clear ho hb hg hat))
         go_roundg k1
         case measure => have := HK1.out; omega
         case rel => exact ⟨(y274), (wrap64 (x5_1 + 1)), zz3, H', ⟨(zz5 HK1)⟩, ⟨(zz10 HO276)⟩, ⟨(zz0 HB)⟩⟩
        ·rw [if_neg c31] at H
         exact absurd H (by simp)
       ·replace c30 := Bool.eq_false_iff.mpr c30
        subst c30;rw [if_neg (show ¬ (false = true) by decide)] at H;obtain ⟨ji33, hji33⟩ : ∃ j_ : Int, ((bt a0 x5_1) / 16) = j_ := ⟨_, rfl⟩;replace H : (if 0 ≤ (ji33) then (if (ji33) < 16 then (if 0 ≤ (Go.bits .and .u8 (bt a0 x5_1) 15) then (if (Go.bits .and .u8 (bt a0 x5_1) 15) < 16 then ((some (([37, bt (⟨#[48, 49, 50, 51, 52, 53, 54, 55, 56, 57, 65, 66, 67, 68, 69, 70]⟩ : ByteArray) (ji33), bt (⟨#[48, 49, 50, 51, 52, 53, 54, 55, 56, 57, 65, 66, 67, 68, 69, 70]⟩ : ByteArray) (Go.bits .and .u8 (bt a0 x5_1) 15)] : List Int) : List Int)).bind fun y277 => (if x4_1.length + y277.length < 140737488355328 then (impl_EscNorm.l0 k1 a0 (x4_1 ++ y277) (wrap64 (x5_1 + 1))) else (none))) else (none)) else (none)) else (none)) else (none)) = some (r1, r2) := by first | (rw [hji33] at H; exact H) | (simp only [hji33] at H ⊢; exact H)
        (try rw [hji33] at A29)
        by_cases c34 : 0 ≤ (ji33)
        ·rw [if_pos c34] at H
         have c34b0 : decide (0 ≤ (ji33)) = true := decide_eq_true c34;clear c34;by_cases c35 : (ji33) < 16
         ·rw [if_pos c35] at H
          have c35b0 : decide ((ji33) < 16) = true := decide_eq_true c35;clear c35;by_cases c37 : 0 ≤ (Go.bits .and .u8 (bt a0 x5_1) 15)
          ·rw [if_pos c37] at H
           have c37b0 : decide (0 ≤ (Go.bits .and .u8 (bt a0 x5_1) 15)) = true := decide_eq_true c37;clear c37;by_cases c38 : (Go.bits .and .u8 (bt a0 x5_1) 15) < 16
           ·rw [if_pos c38] at H
            have c38b0 : decide ((Go.bits .and .u8 (bt a0 x5_1) 15) < 16) = true := decide_eq_true c38;clear c38;obtain ⟨y277, Ny277⟩ := toY (([37, bt (⟨#[48, 49, 50, 51, 52, 53, 54, 55, 56, 57, 65, 66, 67, 68, 69, 70]⟩ : ByteArray) (ji33), bt (⟨#[48, 49, 50, 51, 52, 53, 54, 55, 56, 57, 65, 66, 67, 68, 69, 70]⟩ : ByteArray) (Go.bits .and .u8 (bt a0 x5_1) 15)] : List Int));(first | with_reducible replace H := bindZ Ny277 H | rw [← Ny277.out] at H | skip)
            by_cases c40 : x4_1.length + y277.length < 140737488355328
            ·rw [if_pos c40] at H
             have LMc40 := Aside0.mk c40;clear c40;obtain ⟨y280, Ny280⟩ := toY (x4_1 ++ y277);(first | with_reducible replace H := bindZ Ny280 H | rw [← Ny280.out] at H | skip)
             have H' := Aside0.mk H;clear H;have p5 : 0 ≤ (x5_1 : Int) := ofD;have q5 : x5_1 < (a0.size : Int) := ofD;have hx5 := bt_at a0 x5_1;replace p5 := eq_true p5;replace q5 := eq_true q5;try go_wp2_with (first | ((with_reducible refine gate_callee (f := 74) rfl ?_); refine gsL (some 35) Tryd.func74 #[.int .u8 (bt a0 x5_1)] ?_; (with_reducible refine (impl_standsForItself.calls (bt a0 x5_1) false _ A29.out).mono ?_); rintro e w' ⟨rfl, ⟨nd, rfl⟩⟩; refine ⟨_, rfl, ?_⟩))
             (try (rw [drewN_self wr]; generalize hq_ : World.drewN wr _ = wr; have n0_ : Aside0 (Kd.R (Kd.int .u8) 5 wr w.heap.size (fun _ => True) u4 x4_1) := ⟨(by rw [← hq_]; exact (zz10 HO_4))⟩; have n1_ : Aside0 (Below w.heap.size w wr) := ⟨(by rw [← hq_]; exact (zz0 HB))⟩; clear HO_4 HB hq_; have HO_4 := n0_; have HB := n1_; clear n0_ n1_))
             have n0_ := Aside0.mk (Kd.R_drew HO_4.out);have n1_ := Aside0.mk (below_drew1 HB.out);clear HO_4;clear HB;have HO_4 := n0_;have HB := n1_;clear n0_ n1_;have p36 : 0 ≤ ((ji33) : Int) := ofD;have q36 : (ji33) < (16 : Int) := ofD;have hx36 := bt_at (⟨#[48, 49, 50, 51, 52, 53, 54, 55, 56, 57, 65, 66, 67, 68, 69, 70]⟩ : ByteArray) (ji33);replace p36 := eq_true p36;replace q36 := eq_true q36;have p39 : 0 ≤ ((Go.bits .and .u8 (bt a0 x5_1) 15) : Int) := ofD;have q39 : (Go.bits .and .u8 (bt a0 x5_1) 15) < (16 : Int) := ofD;have hx39 := bt_at (⟨#[48, 49, 50, 51, 52, 53, 54, 55, 56, 57, 65, 66, 67, 68, 69, 70]⟩ : ByteArray) (Go.bits .and .u8 (bt a0 x5_1) 15);replace p39 := eq_true p39;replace q39 := eq_true q39;refine start_ (n := 10) (S := fun w' => True) (ds := []) #[false, false, false, false, false, false, false, false, false, false] (by kernel_rfl) rfl rfl trivial (fun hHeld => ?_); refine with_tabW impl_EscNorm.tab16 impl_EscNorm.bits16 (fun HT_ HW_ => ?_);generalize wr.drew = w41 at HO_4 HB hHeld ⊢;refine pureZ 0 (some 40) #[true, false, false, false, false, false, false, false, false, false] ?_;refine pureZ 1 (some 41) #[true, true, false, false, false, false, false, false, false, false] ?_;refine pureZ 2 (some 42) #[true, true, true, false, false, false, false, false, false, false] ?_;refine pureZ 4 (some 44) #[true, true, true, false, true, false, false, false, false, false] ?_;refine pureZ 5 (some 45) #[true, true, true, false, true, true, false, false, false, false] ?_;refine take_ (i := 3) (N := some 43) (v := ?_) (a' := ?_) #[true, true, true, true, true, true, false, false, false, false] rfl rfl (take_ofW HT_.out HW_.out (by kernel_rfl)) (fun _ _ _ h => h) (Or.inl ⟨by rfl, ?_⟩) hHeld ?_ ?_;rotate_left
             ·intro w' _
              go_simp
              with_reducible rfl
             rotate_left
             ·simp only [Act.put, List.setIfInBounds_toArray, List.set_cons_zero, List.set_cons_succ, i64_w, i32_w]
              rfl
             refine take_ (i := 6) (N := some 46) (v := ?_) (a' := ?_) #[true, true, true, true, true, true, true, false, false, false] rfl rfl (take_ofW HT_.out HW_.out (by kernel_rfl)) (fun _ _ _ h => h) (Or.inl ⟨by rfl, ?_⟩) hHeld ?_ ?_;rotate_left
             ·intro w' _
              go_simp
              with_reducible rfl
             rotate_left
             ·simp only [Act.put, List.setIfInBounds_toArray, List.set_cons_zero, List.set_cons_succ, i64_w, i32_w]
              rfl
             refine one_ (i := 7) (N := some 47) #[true, true, true, true, true, true, true, true, false, false] rfl rfl (one_of HT_.out (by kernel_rfl)) (by decide) (fun K hK => ?_);refine Kd.R_lit_step (Kd.int .u8) _ 5 ?hg (N := 47) ?hd (xs := ([37, bt (⟨#[48, 49, 50, 51, 52, 53, 54, 55, 56, 57, 65, 66, 67, 68, 69, 70]⟩ : ByteArray) (ji33), bt (⟨#[48, 49, 50, 51, 52, 53, 54, 55, 56, 57, 65, 66, 67, 68, 69, 70]⟩ : ByteArray) (Go.bits .and .u8 (bt a0 x5_1) 15)] : List Int)) (inner := [.int .u8 37, .int .u8 (bt (⟨#[48, 49, 50, 51, 52, 53, 54, 55, 56, 57, 65, 66, 67, 68, 69, 70]⟩ : ByteArray) (ji33)), .int .u8 (bt (⟨#[48, 49, 50, 51, 52, 53, 54, 55, 56, 57, 65, 66, 67, 68, 69, 70]⟩ : ByteArray) (Go.bits .and .u8 (bt a0 x5_1) 15))]) (ok := fun _ => True) (okp := fun _ => True) ?hr ?hp (fun _ hk => hk) trivial (Below.refl _ _) (Nat.le_refl _) (by simp) ?_; (case hd => rfl); (case hg => rfl); (case hr => exact zz12); (case hp => exact (Reps.one (show Kd.M (Kd.int .u8) _ _ _ 37 [.int .u8 37] from rfl) (Reps.one (show Kd.M (Kd.int .u8) _ _ _ (bt (⟨#[48, 49, 50, 51, 52, 53, 54, 55, 56, 57, 65, 66, 67, 68, 69, 70]⟩ : ByteArray) (ji33)) [.int .u8 (bt (⟨#[48, 49, 50, 51, 52, 53, 54, 55, 56, 57, 65, 66, 67, 68, 69, 70]⟩ : ByteArray) (ji33))] from rfl) (Reps.one (show Kd.M (Kd.int .u8) _ _ _ (bt (⟨#[48, 49, 50, 51, 52, 53, 54, 55, 56, 57, 65, 66, 67, 68, 69, 70]⟩ : ByteArray) (Go.bits .and .u8 (bt a0 x5_1) 15)) [.int .u8 (bt (⟨#[48, 49, 50, 51, 52, 53, 54, 55, 56, 57, 65, 66, 67, 68, 69, 70]⟩ : ByteArray) (Go.bits .and .u8 (bt a0 x5_1) 15))] from rfl) (Reps.none _ _)))));intro v278 w42 ho43 hb hg_ hnew_;clear hg_ hnew_;(first | rw [← Ny277.out] at ho43 | (simp only [Int.reduceToNat] at ho43; rw [← Ny277.out] at ho43))
             have n0_ := Aside0.mk (Kd.R_elder' (zz10 HO_4) (Kd.R_base ho43) hb);have n1_ := Aside0.mk (Kd.R_lower (Kd.R_new' ho43 (Kd.R_lt (zz10 HO_4))) (below_size (zz0 HB)));have n2_ := Aside0.mk (below_step (zz0 HB) hb);clear HO_4;clear HB;have HO_4 := n0_;have HO279 := n1_;have HB := n2_;clear n0_ n1_ n2_;clear hb ho43;obtain ⟨Ao45, co45, eo45⟩ := Kd.R_slice HO279.out;(first | subst eo45 | (injection eo45 with f1_ f2_ f3_; have f4_ := f1_.symm; have f5_ := f3_.symm; clear f1_ f2_ f3_; subst f4_; subst f5_))
             refine hK.out _ _ trivial (fun hHeld => ?_);clear hK K;refine norm_ (a' := ?_) ?_ ?_;rotate_left
             ·show Act.put _ (some 47) _ = _
              simp only [Act.put, List.setIfInBounds_toArray, List.set_cons_zero, List.set_cons_succ, i64_w, i32_w]
              rfl
             refine one_ (i := 8) (N := some 48) #[true, true, true, true, true, true, true, true, true, false] rfl rfl (one_of HT_.out (by kernel_rfl)) (by decide) (fun K hK => ?_);refine Kd.R_append_rows_step (Kd.int .u8) (w0 := w) w.heap.size (by rfl) (.tmp 40) (.tmp 47) 63 5 (.int .u8 0) 1 rfl Tryd.underlying63 info5 rfl (by decide) (by omega) u4 x4_1 y277 _ _ _ (fun k_ => some k_ ≠ (.slice Ao45 y277.length co45 : Value).ownBlock) (fun _ => False) rfl rfl ?aO ?aR (fun _ _ h => h) (fun _ h => h.elim) ?aF ?aB ?aS ?aL ?_;(case aR => exact (zz45 HO279))
             (case aB => exact (zz0 HB))
             (case aF => exact (fun k_ hk => Kd.fresh' (Kd.R_lt (zz10 HO279)) k_ hk))
             (case aO => exact (zz40 HO_4))
             (case aS => exact (below_size (zz0 HB)))
             (case aL => exact (zz5 LMc40))
             intro v281 w44 ho hb hg hat;rw [← Ny280.out] at ho;have n0_ := Aside0.mk (Kd.R_after (ok := (fun _ => True)) (zz10 HO279) hg hat);have n1_ := Aside0.mk (hb);have n2_ := Aside0.mk (ho);clear HO279;clear HB;clear HO_4;have HO279 := n0_;have HB := n1_;have HO282 := n2_;clear n0_ n1_ n2_;clear ho hb hg hat;refine hK.out _ _ trivial (fun hHeld => ?_);clear hK K;refine norm_ (a' := ?_) ?_ ?_;rotate_left
             ·show Act.put _ (some 48) _ = _
              simp only [Act.put, List.setIfInBounds_toArray, List.set_cons_zero, List.set_cons_succ, i64_w, i32_w]
              rfl
             refine pureZ 9 (some 4) #[true, true, true, true, true, true, true, true, true, true] ?_;refine done_ (done_of HT_.out (by kernel_rfl)) ?_;try go_wp2
             go_roundg k1
             case measure => have := HK1.out; omega
             case rel => exact ⟨(y280), (wrap64 (x5_1 + 1)), zz3, H', ⟨(zz5 HK1)⟩, ⟨(zz71 HO282)⟩, ⟨(zz0 HB)⟩⟩
            ·rw [if_neg c40] at H
             exact absurd H (by simp)
           ·rw [if_neg c38] at H
            exact absurd H (by simp)
          ·rw [if_neg c37] at H
           exact absurd H (by simp)
         ·rw [if_neg c35] at H
          exact absurd H (by simp)
        ·rw [if_neg c34] at H
         exact absurd H (by simp)
     ·rw [if_neg c4] at H
      exact absurd H (by simp)
    ·rw [if_neg c3] at H
     have c3b0 : decide (x5_1 < (a0.size : Int)) = false := decide_eq_false c3;clear c3;simp only [Option.some.injEq, Prod.mk.injEq] at H
     obtain ⟨rfl, rfl⟩ := H;have hcv46 := own_string (P := Tryd.prog) Tryd.underlying63 Tryd.underlying5 Tryd.underlying9 (Kd.own_of_R HO_4.out);go_wp2
     go_ret2
     exact ⟨zz1, (zz0 HB)⟩
def strings_Index.f (a0 : ByteArray) (a1 : ByteArray) : Option (Int) := (stringslite_Index.f a0 a1).bind fun t283 => (some t283)
set_option maxHeartbeats 8000000 in
set_option maxRecDepth 100000 in
theorem strings_Index.calls (a0 : ByteArray) (a1 : ByteArray) (r : Int) (w : World) (h : strings_Index.f a0 a1 = some r) :
  Calls Tryd.prog 85 #[.string a0, .string a1] w fun e w' => e = .returned (.int .i64 r) ∧ Below w.heap.size w w' := by
 have HB := Aside0.mk (Below.refl w.heap.size w);have H : ((stringslite_Index.f a0 a1).bind fun t283 => (some t283)) = some r := h;clear h;replace H := bindA H;obtain ⟨t283, A3, H⟩ := H;obtain rfl := Option.some.inj H;go_enter Tryd.func85, Tryd.ntmps85;go_wp2_with (first | ((with_reducible refine gate_callee (f := 52) rfl ?_); refine gsL (some 7) Tryd.func52 #[.string a0, .string a1] ?_; (with_reducible refine (stringslite_Index.calls a0 a1 t283 _ A3.out).mono ?_); rintro e w4 ⟨rfl, hb⟩; refine ⟨_, rfl, ?_⟩; have n0_ := Aside0.mk (below_step (zz0 HB) hb); clear HB; have HB := n0_; clear n0_; (try clear hb)))
 go_ret
 exact ⟨zz1, (zz0 HB)⟩
end Go.Proofs.YtpnedbnpnekahaaDoor.P
end
section
namespace Go.Proofs.YtpnedbnpnekahaaDoor.P
open Go.RowKit Go.Proofs.YtpnedbnpnekahaaDoorW.PrintWords Go.Proofs.YtpnedbnpnekahaaDoorW.PrintLast Go.Proofs.YtpnedbnpnekahaaDoorW.PrintMore
set_option linter.unusedVariables false
def strings_explode.f (a0 : ByteArray) (a1 : Int) : Option (List ByteArray) := none
theorem strings_explode.calls (a0 : ByteArray) (a1 : Int) (r : List ByteArray) (w : World) (h : strings_explode.f a0 a1 = some r) :
  Calls Tryd.prog 83 #[.string a0, .int .i64 a1] w fun e w' => ∃ v0_ : Value, e = .returned (v0_) ∧ Kd.R Kd.string 9 w' w.heap.size (fun _ => True) v0_ r ∧ Below w.heap.size w w' := by
 cases h
end Go.Proofs.YtpnedbnpnekahaaDoor.P
end
section
namespace Go.Proofs.YtpnedbnpnekahaaDoor.P
open Go.RowKit Go.Proofs.YtpnedbnpnekahaaDoorW.PrintWords Go.Proofs.YtpnedbnpnekahaaDoorW.PrintLast Go.Proofs.YtpnedbnpnekahaaDoorW.PrintMore
attribute [local go_sem] max2_int min2_int max_two min_two max_three min_three max_four min_four
set_option linter.unusedVariables false
set_option linter.unusedSimpArgs false
mutual
def strings_genSplit.j0 : Nat → ByteArray → ByteArray → Int → Int → Option (List ByteArray)
 | 0, _, _, _, _ => none
 | k + 1, x0, x1, x2, x3 => if 0 ≤ (mn x3 (wrap64 ((x0.size : Int) + 1))) then (if (mn x3 (wrap64 ((x0.size : Int) + 1)) : Int).toNat ≤ 17592186044416 then (strings_genSplit.l0 k x0 x1 x2 (wrap64 ((mn x3 (wrap64 ((x0.size : Int) + 1))) - 1)) (List.replicate (mn x3 (wrap64 ((x0.size : Int) + 1)) : Int).toNat (⟨#[]⟩ : ByteArray)) 0) else (none)) else (none)
def strings_genSplit.l0 : Nat → ByteArray → ByteArray → Int → Int → List ByteArray → Int → Option (List ByteArray)
 | 0, _, _, _, _, _, _ => none
 | k + 1, x0, x1, x2, x3, x9, x10 => if x10 < x3 then ((strings_Index.f x0 x1).bind fun t291 => (if t291 < 0 then (if 0 ≤ x10 then (if x10 < (x9.length : Int) then (if 0 ≤ (wrap64 (x10 + 1)) then (if (wrap64 (x10 + 1)) ≤ (x9.length : Int) then (some ((x9.set (x10 : Int).toNat x0).take ((wrap64 (x10 + 1)) : Int).toNat)) else (none)) else (none)) else (none)) else (none)) else (if 0 ≤ (wrap64 (t291 + x2)) then (if (wrap64 (t291 + x2)) ≤ (x0.size : Int) then (if 0 ≤ x10 then (if x10 < (x9.length : Int) then (if 0 ≤ (wrap64 (t291 + (x1.size : Int))) then (if (wrap64 (t291 + (x1.size : Int))) ≤ (x0.size : Int) then (strings_genSplit.l0 k (x0.extract ((wrap64 (t291 + (x1.size : Int))) : Int).toNat x0.size) x1 x2 x3 (x9.set (x10 : Int).toNat (x0.extract 0 ((wrap64 (t291 + x2)) : Int).toNat)) (wrap64 (x10 + 1))) else (none)) else (none)) else (none)) else (none)) else (none)) else (none)))) else (if 0 ≤ x10 then (if x10 < (x9.length : Int) then (if 0 ≤ (wrap64 (x10 + 1)) then (if (wrap64 (x10 + 1)) ≤ (x9.length : Int) then (some ((x9.set (x10 : Int).toNat x0).take ((wrap64 (x10 + 1)) : Int).toNat)) else (none)) else (none)) else (none)) else (none))
end
def strings_genSplit.f (k : Nat) (a0 : ByteArray) (a1 : ByteArray) (a2 : Int) (a3 : Int) : Option (List ByteArray) := if a3 = 0 then (some ([] : List ByteArray)) else (if a1.toList = ([] : List UInt8) then ((strings_explode.f a0 a3).bind fun t284 => (some t284)) else (if a3 < 0 then ((strings_Count.f a0 a1).bind fun t287 => (strings_genSplit.j0 k a0 a1 a2 (wrap64 (t287 + 1)))) else (strings_genSplit.j0 k a0 a1 a2 a3)))
theorem strings_genSplit.mono_l : ∀ k, (∀ y0 y1 y2 y3, LeO (strings_genSplit.j0 k y0 y1 y2 y3) (strings_genSplit.j0 (k + 1) y0 y1 y2 y3)) ∧ (∀ y0 y1 y2 y3 y4 y5, LeO (strings_genSplit.l0 k y0 y1 y2 y3 y4 y5) (strings_genSplit.l0 (k + 1) y0 y1 y2 y3 y4 y5))
 | 0 => ⟨fun _ _ _ _ r h => by simp [strings_genSplit.j0] at h, fun _ _ _ _ _ _ r h => by simp [strings_genSplit.l0] at h⟩
 | k + 1 => by
  obtain ⟨ih0, ih1⟩ := strings_genSplit.mono_l k;refine ⟨?_, ?_⟩
  ·intro y0 y1 y2 y3
   unfold strings_genSplit.j0
   repeat' first | (with_reducible first | exact ih0 _ _ _ _ | exact ih1 _ _ _ _ _ _ | exact LeO.refl _ | exact LeO.none _ | refine LeO.ite ?_ ?_ | refine LeO.bind ?_ (fun _ => ?_)) | exact LeO.none _ | refine LeO.ite ?_ ?_ | refine LeO.bind ?_ (fun _ => ?_)
  ·intro y0 y1 y2 y3 y4 y5
   unfold strings_genSplit.l0
   repeat' first | (with_reducible first | exact ih0 _ _ _ _ | exact ih1 _ _ _ _ _ _ | exact LeO.refl _ | exact LeO.none _ | refine LeO.ite ?_ ?_ | refine LeO.bind ?_ (fun _ => ?_)) | exact LeO.none _ | refine LeO.ite ?_ ?_ | refine LeO.bind ?_ (fun _ => ?_)
theorem strings_genSplit.mono : ∀ a0 a1 a2 a3 k, LeO (strings_genSplit.f k a0 a1 a2 a3) (strings_genSplit.f (k + 1) a0 a1 a2 a3) := by
 intro a0 a1 a2 a3 k;obtain ⟨ih0, ih1⟩ := strings_genSplit.mono_l k;unfold strings_genSplit.f
 repeat' first | (with_reducible first | exact ih0 _ _ _ _ | exact ih1 _ _ _ _ _ _ | exact LeO.refl _ | exact LeO.none _ | refine LeO.ite ?_ ?_ | refine LeO.bind ?_ (fun _ => ?_)) | exact LeO.none _ | refine LeO.ite ?_ ?_ | refine LeO.bind ?_ (fun _ => ?_)
set_option maxHeartbeats 8000000 in
set_option maxRecDepth 100000 in
theorem strings_genSplit.calls (k : Nat) (a0 : ByteArray) (a1 : ByteArray) (a2 : Int) (a3 : Int) (r : List ByteArray) (w : World) (h : strings_genSplit.f k a0 a1 a2 a3 = some r) :
  Calls Tryd.prog 75 #[.string a0, .string a1, .int .i64 a2, .int .i64 a3] w fun e w' => ∃ v0_ : Value, e = .returned (v0_) ∧ Kd.R Kd.string 9 w' w.heap.size (fun _ => True) v0_ r ∧ Below w.heap.size w w' := by
 have HB := Aside0.mk (Below.refl w.heap.size w);have H : (if a3 = 0 then (some ([] : List ByteArray)) else (if a1.toList = ([] : List UInt8) then ((strings_explode.f a0 a3).bind fun t284 => (some t284)) else (if a3 < 0 then ((strings_Count.f a0 a1).bind fun t287 => (strings_genSplit.j0 k a0 a1 a2 (wrap64 (t287 + 1)))) else (strings_genSplit.j0 k a0 a1 a2 a3)))) = some r := h;clear h;by_cases c5 : a3 = 0
 ·rw [if_pos c5] at H
  have c5b0 : (a3 == 0) = true := beq_iff_eq.mpr c5;have c5b1 : (a3 != 0) = false := bne_eq_false_iff_eq.mpr c5;clear c5;obtain rfl := Option.some.inj H;go_enter Tryd.func75, Tryd.ntmps75;go_wp2
  go_ret
  exact ⟨_, zz1, zz44, (zz0 HB)⟩
 ·rw [if_neg c5] at H
  have c5b0 : (a3 == 0) = false := beq_eq_false_iff_ne.mpr c5;have c5b1 : (a3 != 0) = true := bne_iff_ne.mpr c5;by_cases c6 : a1.toList = ([] : List UInt8)
  ·rw [if_pos c6] at H
   have c6b0 : (a1.toList == ([] : List UInt8)) = true := beq_iff_eq.mpr c6;have c6b1 : (a1.toList != ([] : List UInt8)) = false := bne_eq_false_iff_eq.mpr c6;clear c6;replace H := bindA H;obtain ⟨t284, A7, H⟩ := H;obtain rfl := Option.some.inj H;go_enter Tryd.func75, Tryd.ntmps75;go_wp2_with (first | ((with_reducible refine gate_callee (f := 83) rfl ?_); refine gsL (some 18) Tryd.func83 #[.string a0, .int .i64 a3] ?_; (with_reducible refine (strings_explode.calls a0 a3 t284 _ A7.out).mono ?_); rintro e w8 ⟨v285, rfl, ho0, hb⟩; refine ⟨_, rfl, ?_⟩; have n0_ := Aside0.mk (Kd.R_lower ho0 (below_size (zz0 HB))); have n1_ := Aside0.mk (below_step (zz0 HB) hb); clear HB; have HO286 := n0_; have HB := n1_; clear n0_ n1_; (try clear hb ho0)))
   go_ret
   exact ⟨_, zz1, (zz10 HO286), (zz0 HB)⟩
  ·rw [if_neg c6] at H
   have c6b0 : (a1.toList == ([] : List UInt8)) = false := beq_eq_false_iff_ne.mpr c6;have c6b1 : (a1.toList != ([] : List UInt8)) = true := bne_iff_ne.mpr c6;have HC9 := Aside0.mk H;clear H;go_enter Tryd.func75, Tryd.ntmps75;go_upto_if 20 with (fail)
   go_cut [3] (fun v3 wc => ∃ (kq : Nat) (x3_8 : Int), v3 = .int .i64 x3_8 ∧ Aside0 (strings_genSplit.j0 kq a0 a1 a2 x3_8 = some r) ∧ Aside0 (kq ≤ k) ∧ Aside0 (Below w.heap.size w wc))
   case first =>
    have H := HC9.out;clear HC9;by_cases c10 : a3 < 0
    ·rw [if_pos c10] at H
     have c10b0 : decide (a3 < 0) = true := decide_eq_true c10;clear c10;(first | rw [c10b0] | (simp only [i64_w, i32_w]; rw [c10b0]) | skip)
     replace H := bindA H;obtain ⟨t287, A11, H⟩ := H;have H' := Aside0.mk H;clear H;go_wp2_with (first | ((with_reducible refine gate_callee (f := 84) rfl ?_); refine gsL (some 23) Tryd.func84 #[.string a0, .string a1] ?_; (with_reducible refine (strings_Count.calls a0 a1 t287 _ A11.out).mono ?_); rintro e w12 ⟨rfl, hb⟩; refine ⟨_, rfl, ?_⟩; have n0_ := Aside0.mk (below_step (zz0 HB) hb); clear HB; have HB := n0_; clear n0_; (try clear hb)))
     go_meet
     case rel => exact ⟨_, (wrap64 (t287 + 1)), zz3, H', ⟨zz20⟩, ⟨(zz0 HB)⟩⟩
    ·rw [if_neg c10] at H
     have c10b0 : decide (a3 < 0) = false := decide_eq_false c10;clear c10;(first | rw [c10b0] | (simp only [i64_w, i32_w]; rw [c10b0]) | skip)
     have H' := Aside0.mk H;clear H;go_wp2
     go_meet
     case rel => exact ⟨_, (a3), zz3, H', ⟨zz20⟩, ⟨(zz0 HB)⟩⟩
   case rest =>
    clear HC9;obtain ⟨kq, x3_8, rfl, HA, HJ8, HB⟩ := hcut;cases kq with
    | zero => exact absurd HA.out (by simp [strings_genSplit.j0])
    | succ kj8 =>
     have H := HA.out;clear HA;simp only [strings_genSplit.j0] at H
     obtain ⟨ji13, hji13⟩ : ∃ j_ : Int, (mn x3_8 (wrap64 ((a0.size : Int) + 1))) = j_ := ⟨_, rfl⟩;replace H : (if 0 ≤ (ji13) then (if (ji13 : Int).toNat ≤ 17592186044416 then (strings_genSplit.l0 kj8 a0 a1 a2 (wrap64 ((ji13) - 1)) (List.replicate (ji13 : Int).toNat (⟨#[]⟩ : ByteArray)) 0) else (none)) else (none)) = some r := by first | (rw [hji13] at H; exact H) | (simp only [hji13] at H ⊢; exact H)
     have hji13_ : (if (wrap64 ((a0.size : Int) + 1)) < x3_8 then (wrap64 ((a0.size : Int) + 1)) else x3_8) = ji13 := hji13;by_cases c14 : 0 ≤ (ji13)
     ·rw [if_pos c14] at H
      have c14b0 := eq_true c14;have c14b1 : decide (0 ≤ (ji13)) = true := decide_eq_true c14;clear c14;by_cases c15 : (ji13 : Int).toNat ≤ 17592186044416
      ·rw [if_pos c15] at H
       have c15b0 := eq_true c15;have c15b1 : decide ((ji13 : Int).toNat ≤ 17592186044416) = true := decide_eq_true c15;clear c15;obtain ⟨y288, Ny288⟩ := toY (List.replicate (ji13 : Int).toNat (⟨#[]⟩ : ByteArray));(first | with_reducible replace H := bindZ Ny288 H | rw [← Ny288.out] at H | skip)
       have H' := Aside0.mk H;clear H;go_wp2_with (first | ((with_reducible refine gate_dst (N := 31) rfl ?_); refine Kd.R_make Kd.string _ 9 rfl (N := 31) rfl 45 _ _ rfl ji13 rfl rfl Tryd.underlying45 (.string ⟨#[]⟩) 16 info9 rfl (by decide) (by omega) (⟨#[]⟩ : ByteArray) (ok := fun _ => True) (okp := fun _ => True) rfl (fun _ hk => hk) trivial ofD (Nat.le_trans (Nat.mul_le_mul_right _ (ofD : ji13.toNat ≤ 17592186044416)) (by omega)) (Below.refl _ _) (Nat.le_refl _) ?_; intro v289 w16 ho17 hb hg_ hnew_; clear hg_ hnew_; (first | rw [← Ny288.out] at ho17 | (simp only [Int.reduceToNat] at ho17; rw [← Ny288.out] at ho17)); have n0_ := Aside0.mk (Kd.R_lower ho17 (below_size (zz0 HB))); have n1_ := Aside0.mk (below_step (zz0 HB) hb); clear HB; have HO290 := n0_; have HB := n1_; clear n0_ n1_; clear hb ho17))
       go_loopg [0, 10] kj8 (fun kq v0 v10 w' => ∃ (x0_2 : ByteArray) (x9_2 : List ByteArray) (x10_2 : Int), v0 = .string x0_2 ∧ v10 = .int .i64 x10_2 ∧ Aside0 (strings_genSplit.l0 kq x0_2 a1 a2 (wrap64 ((ji13) - 1)) x9_2 x10_2 = some r) ∧ Aside0 (kq ≤ kj8) ∧ Aside0 (Kd.R Kd.string 9 w' w.heap.size (fun _ => True) v289 x9_2) ∧ Aside0 (Below w.heap.size w w'))
       case atStart => exact ⟨(a0), (y288), (0), zz3, zz3, H', ⟨Nat.le_refl _⟩, ⟨(zz10 HO290)⟩, ⟨(zz0 HB)⟩⟩
       case round =>
        clear H';obtain ⟨x0_2, x9_2, x10_2, rfl, rfl, HA, HK2, HO_9, HB⟩ := hrel;cases gk with
        | zero => exact absurd HA.out (by simp [strings_genSplit.l0])
        | succ k2 =>
         have H := HA.out;clear HA;simp only [strings_genSplit.l0] at H
         by_cases c18 : x10_2 < (wrap64 ((ji13) - 1))
         ·rw [if_pos c18] at H
          have c18b0 : decide (x10_2 < (wrap64 ((ji13) - 1))) = true := decide_eq_true c18;clear c18;replace H := bindA H;obtain ⟨t291, A19, H⟩ := H;by_cases c20 : t291 < 0
          ·rw [if_pos c20] at H
           have c20b0 : decide (t291 < 0) = true := decide_eq_true c20;clear c20;by_cases c21 : 0 ≤ x10_2
           ·rw [if_pos c21] at H
            have c21b0 : decide (0 ≤ x10_2) = true := decide_eq_true c21;clear c21;by_cases c22 : x10_2 < (x9_2.length : Int)
            ·rw [if_pos c22] at H
             have c22b0 : decide (x10_2 < (x9_2.length : Int)) = true := decide_eq_true c22;clear c22;obtain ⟨y292, hy292⟩ : ∃ y_ : List ByteArray, y_ = (x9_2.set (x10_2 : Int).toNat x0_2) := ⟨_, rfl⟩;replace H : (if 0 ≤ (wrap64 (x10_2 + 1)) then (if (wrap64 (x10_2 + 1)) ≤ (x9_2.length : Int) then (some (y292.take ((wrap64 (x10_2 + 1)) : Int).toNat)) else (none)) else (none)) = some r := by first | (rw [hy292]; with_reducible exact H) | (have H2_ := (Option.bind_some _ _).symm.trans H; rw [hy292]; with_reducible exact H2_) | (have H2_ := (Option.bind_some _ _).symm.trans H; with_reducible exact H2_) | with_reducible exact H | (rw [hy292]; exact H) | exact H
             have Ny292 := Aside0.mk hy292;have Ly292 : y292.length ≤ x9_2.length ∧ x9_2.length ≤ y292.length := by rw [hy292, List.length_set]; exact ⟨Nat.le_refl _, Nat.le_refl _⟩
             have My292 := Ly292.1;replace Ly292 := Ly292.2;clear hy292;obtain ⟨ji24, hji24⟩ : ∃ j_ : Int, (wrap64 (x10_2 + 1)) = j_ := ⟨_, rfl⟩;replace H : (if 0 ≤ (ji24) then (if (ji24) ≤ (x9_2.length : Int) then (some (y292.take ((ji24) : Int).toNat)) else (none)) else (none)) = some r := by first | (rw [hji24] at H; exact H) | (simp only [hji24] at H ⊢; exact H)
             (try rw [hji24] at A19)
             have hji24w : (IntKind.i64.wrap (x10_2 + 1)) = ji24 := (i64_w _).trans hji24;by_cases c25 : 0 ≤ (ji24)
             ·rw [if_pos c25] at H
              have c25b0 := eq_true c25;have c25b1 : decide (0 ≤ (ji24)) = true := decide_eq_true c25;clear c25;by_cases c26 : (ji24) ≤ (x9_2.length : Int)
              ·rw [if_pos c26] at H
               have c26b0 := eq_true c26;have c26b1 : decide ((ji24) ≤ (x9_2.length : Int)) = true := decide_eq_true c26;clear c26;obtain ⟨y293, Ny293⟩ := toY (y292.take ((ji24) : Int).toNat);(first | with_reducible replace H := bindZ Ny293 H | rw [← Ny293.out] at H | skip)
               obtain rfl := Option.some.inj H;go_wp2_with (first | ((with_reducible refine gate_callee (f := 85) rfl ?_); refine gsL (some 39) Tryd.func85 #[.string x0_2, .string a1] ?_; (with_reducible refine (strings_Index.calls x0_2 a1 t291 _ A19.out).mono ?_); rintro e w27 ⟨rfl, hb⟩; refine ⟨_, rfl, ?_⟩; have n0_ := Aside0.mk (Kd.R_below (zz10 HO_9) hb); have n1_ := Aside0.mk (below_step (zz0 HB) hb); clear HO_9; clear HB; have HO_9 := n0_; have HB := n1_; clear n0_ n1_; (try clear hb); have p23 : 0 ≤ (x10_2 : Int) := ofD; have q23 : (x10_2 : Int) < ((x9_2.length : Int) : Int) := ofD; obtain ⟨go23, co23, eo23, gb23, gl23, cl23, HG23⟩ := Kd.R_form HO_9.out (by omega); (first | cases eo23 | (injection eo23 with ea_ en_ ec_; (first | subst ea_ | (injection ea_ with ea_; subst ea_)); subst ec_; clear en_)); have GB23 := Aside0.mk gb23; have GG23 := Aside0.mk HG23; clear gb23 gl23 HG23; obtain ⟨hx23_0, hf23_0⟩ := Kd.R_celln (⟨#[]⟩ : ByteArray) HO_9.out (x10_2 : Int) p23 q23; replace p23 := eq_true p23; replace q23 := eq_true q23; obtain ⟨hy28_, hz28_⟩ := Kd.R_celln (⟨#[]⟩ : ByteArray) HO_9.out (x10_2 : Int) ofD ofD; have HP28 := Kd.R_putg HO_9.out (x10_2 : Int) x0_2) | ((with_reducible refine gate_store (t := 9) (p := 61) rfl ?_); refine store_event (t := 9) (p := 61) (v := ?vo_w29) (w1 := (w27.setCell ⟨go23, (x10_2 : Int).toNat, none⟩ (.string x0_2))) ?hg ?ho ?hn ?hr ?_; (case ho => rfl); (case hg => rfl); (case hn => rfl); (case hr => exact zz12); intro w29 hw; have hg : w27.grownBy w29 (some go23) := (by rw [hw]; exact HP28.2); have hp_ : Kd.R Kd.string 9 w29 w.heap.size (fun _ => True) (.slice (some ⟨go23, 0, none⟩) x9_2.length co23) y292 := (by rw [hw, Ny292.out]; exact HP28.1); clear HP28; have n0_ := Aside0.mk (hp_); have n1_ := Aside0.mk ((by rw [hw]; exact below_set (HB.out) GB23.out : Below w.heap.size w w29)); clear HO_9; clear HB; have HO_9 := n0_; have HB := n1_; clear n0_ n1_; clear hg hw hp_; have q30 : ((ji24) : Int) ≤ ((x9_2.length : Int) : Int) := ofD; obtain ⟨i030, hi030, _, hsz30, _⟩ := info_parts info9; have hcut30 := cut_to (P := Tryd.prog) 45 9 .i64 Tryd.underlying45 hi030 (some ⟨go23, 0, none⟩) x9_2.length co23 (ji24) ofD q30 (Kd.R_reads' HO_9.out).2.1; have hr30 := Kd.R_take (m := ((ji24) : Int).toNat) HO_9.out (by omega); have hy30 : y293.length = ((ji24) : Int).toNat := (by rw [Ny293.out, List.length_take]; omega); rw [← Ny293.out] at hr30; rw [← hy30] at hr30 hcut30; clear hy30 hi030 hsz30 HO_9; have HO295 := Aside0.mk hr30; clear hr30; replace q30 := eq_true q30))
               go_ret
               exact ⟨_, (by first | rfl | (simp [errW_none, errW_some] <;> rfl) | (simp only [← hji13, ← hji24]; first | rfl | (simp [errW_none, errW_some] <;> rfl)) | (simp [*, errW_none, errW_some] <;> rfl)), (zz10 HO295), (zz0 HB)⟩
              ·rw [if_neg c26] at H
               exact absurd H (by simp)
             ·rw [if_neg c25] at H
              exact absurd H (by simp)
            ·rw [if_neg c22] at H
             exact absurd H (by simp)
           ·rw [if_neg c21] at H
            exact absurd H (by simp)
          ·rw [if_neg c20] at H
           have c20b0 : decide (t291 < 0) = false := decide_eq_false c20;clear c20;obtain ⟨ji31, hji31⟩ : ∃ j_ : Int, (wrap64 (t291 + a2)) = j_ := ⟨_, rfl⟩;replace H : (if 0 ≤ (ji31) then (if (ji31) ≤ (x0_2.size : Int) then (if 0 ≤ x10_2 then (if x10_2 < (x9_2.length : Int) then (if 0 ≤ (wrap64 (t291 + (a1.size : Int))) then (if (wrap64 (t291 + (a1.size : Int))) ≤ (x0_2.size : Int) then (strings_genSplit.l0 k2 (x0_2.extract ((wrap64 (t291 + (a1.size : Int))) : Int).toNat x0_2.size) a1 a2 (wrap64 ((ji13) - 1)) (x9_2.set (x10_2 : Int).toNat (x0_2.extract 0 ((ji31) : Int).toNat)) (wrap64 (x10_2 + 1))) else (none)) else (none)) else (none)) else (none)) else (none)) else (none)) = some r := by first | (rw [hji31] at H; exact H) | (simp only [hji31] at H ⊢; exact H)
           (try rw [hji31] at A19)
           have hji31w : (IntKind.i64.wrap (t291 + a2)) = ji31 := (i64_w _).trans hji31;by_cases c32 : 0 ≤ (ji31)
           ·rw [if_pos c32] at H
            have c32b0 := eq_true c32;have c32b1 : decide (0 ≤ (ji31)) = true := decide_eq_true c32;clear c32;by_cases c33 : (ji31) ≤ (x0_2.size : Int)
            ·rw [if_pos c33] at H
             have c33b0 := eq_true c33;have c33b1 : decide ((ji31) ≤ (x0_2.size : Int)) = true := decide_eq_true c33;clear c33;by_cases c34 : 0 ≤ x10_2
             ·rw [if_pos c34] at H
              have c34b0 : decide (0 ≤ x10_2) = true := decide_eq_true c34;clear c34;by_cases c35 : x10_2 < (x9_2.length : Int)
              ·rw [if_pos c35] at H
               have c35b0 : decide (x10_2 < (x9_2.length : Int)) = true := decide_eq_true c35;clear c35;obtain ⟨y296, hy296⟩ : ∃ y_ : List ByteArray, y_ = (x9_2.set (x10_2 : Int).toNat (x0_2.extract 0 ((ji31) : Int).toNat)) := ⟨_, rfl⟩;replace H : (if 0 ≤ (wrap64 (t291 + (a1.size : Int))) then (if (wrap64 (t291 + (a1.size : Int))) ≤ (x0_2.size : Int) then (strings_genSplit.l0 k2 (x0_2.extract ((wrap64 (t291 + (a1.size : Int))) : Int).toNat x0_2.size) a1 a2 (wrap64 ((ji13) - 1)) y296 (wrap64 (x10_2 + 1))) else (none)) else (none)) = some r := by first | (rw [hy296]; with_reducible exact H) | (have H2_ := (Option.bind_some _ _).symm.trans H; rw [hy296]; with_reducible exact H2_) | (have H2_ := (Option.bind_some _ _).symm.trans H; with_reducible exact H2_) | with_reducible exact H | (rw [hy296]; exact H) | exact H
               have Ny296 := Aside0.mk hy296;have Ly296 : y296.length ≤ x9_2.length ∧ x9_2.length ≤ y296.length := by rw [hy296, List.length_set]; exact ⟨Nat.le_refl _, Nat.le_refl _⟩
               have My296 := Ly296.1;replace Ly296 := Ly296.2;clear hy296;obtain ⟨ji37, hji37⟩ : ∃ j_ : Int, (wrap64 (t291 + (a1.size : Int))) = j_ := ⟨_, rfl⟩;replace H : (if 0 ≤ (ji37) then (if (ji37) ≤ (x0_2.size : Int) then (strings_genSplit.l0 k2 (x0_2.extract ((ji37) : Int).toNat x0_2.size) a1 a2 (wrap64 ((ji13) - 1)) y296 (wrap64 (x10_2 + 1))) else (none)) else (none)) = some r := by first | (rw [hji37] at H; exact H) | (simp only [hji37] at H ⊢; exact H)
               (try rw [hji37] at A19)
               have hji37w : (IntKind.i64.wrap (t291 + (a1.size : Int))) = ji37 := (i64_w _).trans hji37;by_cases c38 : 0 ≤ (ji37)
               ·rw [if_pos c38] at H
                have c38b0 := eq_true c38;have c38b1 : decide (0 ≤ (ji37)) = true := decide_eq_true c38;clear c38;by_cases c39 : (ji37) ≤ (x0_2.size : Int)
                ·rw [if_pos c39] at H
                 have c39b0 := eq_true c39;have c39b1 : decide ((ji37) ≤ (x0_2.size : Int)) = true := decide_eq_true c39;clear c39;have H' := Aside0.mk H;clear H;go_wp2_with (first | ((with_reducible refine gate_callee (f := 85) rfl ?_); refine gsL (some 39) Tryd.func85 #[.string x0_2, .string a1] ?_; (with_reducible refine (strings_Index.calls x0_2 a1 t291 _ A19.out).mono ?_); rintro e w40 ⟨rfl, hb⟩; refine ⟨_, rfl, ?_⟩; have n0_ := Aside0.mk (Kd.R_below (zz10 HO_9) hb); have n1_ := Aside0.mk (below_step (zz0 HB) hb); clear HO_9; clear HB; have HO_9 := n0_; have HB := n1_; clear n0_ n1_; (try clear hb); have p36 : 0 ≤ (x10_2 : Int) := ofD; have q36 : (x10_2 : Int) < ((x9_2.length : Int) : Int) := ofD; obtain ⟨go36, co36, eo36, gb36, gl36, cl36, HG36⟩ := Kd.R_form HO_9.out (by omega); (first | cases eo36 | (injection eo36 with ea_ en_ ec_; (first | subst ea_ | (injection ea_ with ea_; subst ea_)); subst ec_; clear en_)); have GB36 := Aside0.mk gb36; have GG36 := Aside0.mk HG36; clear gb36 gl36 HG36; obtain ⟨hx36_0, hf36_0⟩ := Kd.R_celln (⟨#[]⟩ : ByteArray) HO_9.out (x10_2 : Int) p36 q36; replace p36 := eq_true p36; replace q36 := eq_true q36; obtain ⟨hy41_, hz41_⟩ := Kd.R_celln (⟨#[]⟩ : ByteArray) HO_9.out (x10_2 : Int) ofD ofD; have HP41 := Kd.R_putg HO_9.out (x10_2 : Int) (x0_2.extract 0 ((ji31) : Int).toNat)) | ((with_reducible refine gate_store (t := 9) (p := 49) rfl ?_); refine store_event (t := 9) (p := 49) (v := ?vo_w42) (w1 := (w40.setCell ⟨go36, (x10_2 : Int).toNat, none⟩ (.string (x0_2.extract 0 ((ji31) : Int).toNat)))) ?hg ?ho ?hn ?hr ?_; (case ho => rfl); (case hg => rfl); (case hn => rfl); (case hr => exact zz12); intro w42 hw; have hg : w40.grownBy w42 (some go36) := (by rw [hw]; exact HP41.2); have hp_ : Kd.R Kd.string 9 w42 w.heap.size (fun _ => True) (.slice (some ⟨go36, 0, none⟩) x9_2.length co36) y296 := (by rw [hw, Ny296.out]; exact HP41.1); clear HP41; have n0_ := Aside0.mk (hp_); have n1_ := Aside0.mk ((by rw [hw]; exact below_set (HB.out) GB36.out : Below w.heap.size w w42)); clear HO_9; clear HB; have HO_9 := n0_; have HB := n1_; clear n0_ n1_; clear hg hw hp_))
                 go_roundg k2
                 case measure => have := HJ8.out; have := HK2.out; omega
                 case rel => exact ⟨(x0_2.extract ((ji37) : Int).toNat x0_2.size), (y296), (wrap64 (x10_2 + 1)), (by first | rfl | (simp only [i64_w, i32_w]; done) | (simp only [aid_isEmpty, aid_isEmpty2]; done) | (simp; done) | ((simp only [← hji37] <;> (first | rfl | simp)); done) | (simp [*]; done)), zz3, H', ⟨(zz30 HJ8 HK2)⟩, ⟨(zz10 HO_9)⟩, ⟨(zz0 HB)⟩⟩
                ·rw [if_neg c39] at H
                 exact absurd H (by simp)
               ·rw [if_neg c38] at H
                exact absurd H (by simp)
              ·rw [if_neg c35] at H
               exact absurd H (by simp)
             ·rw [if_neg c34] at H
              exact absurd H (by simp)
            ·rw [if_neg c33] at H
             exact absurd H (by simp)
           ·rw [if_neg c32] at H
            exact absurd H (by simp)
         ·rw [if_neg c18] at H
          have c18b0 : decide (x10_2 < (wrap64 ((ji13) - 1))) = false := decide_eq_false c18;clear c18;by_cases c43 : 0 ≤ x10_2
          ·rw [if_pos c43] at H
           have c43b0 : decide (0 ≤ x10_2) = true := decide_eq_true c43;clear c43;by_cases c44 : x10_2 < (x9_2.length : Int)
           ·rw [if_pos c44] at H
            have c44b0 : decide (x10_2 < (x9_2.length : Int)) = true := decide_eq_true c44;clear c44;obtain ⟨y297, hy297⟩ : ∃ y_ : List ByteArray, y_ = (x9_2.set (x10_2 : Int).toNat x0_2) := ⟨_, rfl⟩;replace H : (if 0 ≤ (wrap64 (x10_2 + 1)) then (if (wrap64 (x10_2 + 1)) ≤ (x9_2.length : Int) then (some (y297.take ((wrap64 (x10_2 + 1)) : Int).toNat)) else (none)) else (none)) = some r := by first | (rw [hy297]; with_reducible exact H) | (have H2_ := (Option.bind_some _ _).symm.trans H; rw [hy297]; with_reducible exact H2_) | (have H2_ := (Option.bind_some _ _).symm.trans H; with_reducible exact H2_) | with_reducible exact H | (rw [hy297]; exact H) | exact H
            have Ny297 := Aside0.mk hy297;have Ly297 : y297.length ≤ x9_2.length ∧ x9_2.length ≤ y297.length := by rw [hy297, List.length_set]; exact ⟨Nat.le_refl _, Nat.le_refl _⟩
            have My297 := Ly297.1;replace Ly297 := Ly297.2;clear hy297;obtain ⟨ji46, hji46⟩ : ∃ j_ : Int, (wrap64 (x10_2 + 1)) = j_ := ⟨_, rfl⟩;replace H : (if 0 ≤ (ji46) then (if (ji46) ≤ (x9_2.length : Int) then (some (y297.take ((ji46) : Int).toNat)) else (none)) else (none)) = some r := by first | (rw [hji46] at H; exact H) | (simp only [hji46] at H ⊢; exact H)
            have hji46w : (IntKind.i64.wrap (x10_2 + 1)) = ji46 := (i64_w _).trans hji46;by_cases c47 : 0 ≤ (ji46)
            ·rw [if_pos c47] at H
             have c47b0 := eq_true c47;have c47b1 : decide (0 ≤ (ji46)) = true := decide_eq_true c47;clear c47;by_cases c48 : (ji46) ≤ (x9_2.length : Int)
             ·rw [if_pos c48] at H
              have c48b0 := eq_true c48;have c48b1 : decide ((ji46) ≤ (x9_2.length : Int)) = true := decide_eq_true c48;clear c48;obtain ⟨y298, Ny298⟩ := toY (y297.take ((ji46) : Int).toNat);(first | with_reducible replace H := bindZ Ny298 H | rw [← Ny298.out] at H | skip)
              obtain rfl := Option.some.inj H;have p45 : 0 ≤ (x10_2 : Int) := ofD;have q45 : (x10_2 : Int) < ((x9_2.length : Int) : Int) := ofD;obtain ⟨go45, co45, eo45, gb45, gl45, cl45, HG45⟩ := Kd.R_form HO_9.out (by omega);(first | cases eo45 | (injection eo45 with ea_ en_ ec_; (first | subst ea_ | (injection ea_ with ea_; subst ea_)); subst ec_; clear en_))
              have GB45 := Aside0.mk gb45;have GG45 := Aside0.mk HG45;clear gb45 gl45 HG45;obtain ⟨hx45_0, hf45_0⟩ := Kd.R_celln (⟨#[]⟩ : ByteArray) HO_9.out (x10_2 : Int) p45 q45;replace p45 := eq_true p45;replace q45 := eq_true q45;have HP49 := Kd.R_putg HO_9.out (x10_2 : Int) x0_2;go_wp2_with (first | ((with_reducible refine gate_store (t := 9) (p := 61) rfl ?_); refine store_event (t := 9) (p := 61) (v := ?vo_w50) (w1 := (wr.setCell ⟨go45, (x10_2 : Int).toNat, none⟩ (.string x0_2))) ?hg ?ho ?hn ?hr ?_; (case ho => rfl); (case hg => rfl); (case hn => rfl); (case hr => exact zz12); intro w50 hw; have hg : wr.grownBy w50 (some go45) := (by rw [hw]; exact HP49.2); have hp_ : Kd.R Kd.string 9 w50 w.heap.size (fun _ => True) (.slice (some ⟨go45, 0, none⟩) x9_2.length co45) y297 := (by rw [hw, Ny297.out]; exact HP49.1); clear HP49; have n0_ := Aside0.mk (hp_); have n1_ := Aside0.mk ((by rw [hw]; exact below_set (HB.out) GB45.out : Below w.heap.size w w50)); clear HO_9; clear HB; have HO_9 := n0_; have HB := n1_; clear n0_ n1_; clear hg hw hp_; have q51 : ((ji46) : Int) ≤ ((x9_2.length : Int) : Int) := ofD; obtain ⟨i051, hi051, _, hsz51, _⟩ := info_parts info9; have hcut51 := cut_to (P := Tryd.prog) 45 9 .i64 Tryd.underlying45 hi051 (some ⟨go45, 0, none⟩) x9_2.length co45 (ji46) ofD q51 (Kd.R_reads' HO_9.out).2.1; have hr51 := Kd.R_take (m := ((ji46) : Int).toNat) HO_9.out (by omega); have hy51 : y298.length = ((ji46) : Int).toNat := (by rw [Ny298.out, List.length_take]; omega); rw [← Ny298.out] at hr51; rw [← hy51] at hr51 hcut51; clear hy51 hi051 hsz51 HO_9; have HO300 := Aside0.mk hr51; clear hr51; replace q51 := eq_true q51))
              go_ret
              exact ⟨_, (by first | rfl | (simp [errW_none, errW_some] <;> rfl) | (simp only [← hji13, ← hji46]; first | rfl | (simp [errW_none, errW_some] <;> rfl)) | (simp [*, errW_none, errW_some] <;> rfl)), (zz10 HO300), (zz0 HB)⟩
             ·rw [if_neg c48] at H
              exact absurd H (by simp)
            ·rw [if_neg c47] at H
             exact absurd H (by simp)
           ·rw [if_neg c44] at H
            exact absurd H (by simp)
          ·rw [if_neg c43] at H
           exact absurd H (by simp)
      ·rw [if_neg c15] at H
       exact absurd H (by simp)
     ·rw [if_neg c14] at H
      exact absurd H (by simp)
def strings_Split.f (k : Nat) (a0 : ByteArray) (a1 : ByteArray) : Option (List ByteArray) := (strings_genSplit.f k a0 a1 0 (-1)).bind fun t301 => (some t301)
theorem strings_Split.mono : ∀ a0 a1 k, LeO (strings_Split.f k a0 a1) (strings_Split.f (k + 1) a0 a1) := by
 intro a0 a1 k;unfold strings_Split.f
 repeat' first | (with_reducible first | exact strings_genSplit.mono _ _ _ _ _ | exact LeO.refl _ | exact LeO.none _ | refine LeO.ite ?_ ?_ | refine LeO.bind ?_ (fun _ => ?_)) | exact LeO.none _ | refine LeO.ite ?_ ?_ | refine LeO.bind ?_ (fun _ => ?_)
set_option maxHeartbeats 8000000 in
set_option maxRecDepth 100000 in
theorem strings_Split.calls (k : Nat) (a0 : ByteArray) (a1 : ByteArray) (r : List ByteArray) (w : World) (h : strings_Split.f k a0 a1 = some r) :
  Calls Tryd.prog 60 #[.string a0, .string a1] w fun e w' => ∃ v0_ : Value, e = .returned (v0_) ∧ Kd.R Kd.string 9 w' w.heap.size (fun _ => True) v0_ r ∧ Below w.heap.size w w' := by
 have HB := Aside0.mk (Below.refl w.heap.size w);have H : ((strings_genSplit.f k a0 a1 0 (-1)).bind fun t301 => (some t301)) = some r := h;clear h;replace H := bindA H;obtain ⟨t301, A3, H⟩ := H;obtain rfl := Option.some.inj H;go_enter Tryd.func60, Tryd.ntmps60;go_wp2_with (first | ((with_reducible refine gate_callee (f := 75) rfl ?_); refine gsL (some 7) Tryd.func75 #[.string a0, .string a1, .int .i64 0, .int .i64 (-1)] ?_; (with_reducible refine (strings_genSplit.calls k a0 a1 0 (-1) t301 _ A3.out).mono ?_); rintro e w4 ⟨v302, rfl, ho0, hb⟩; refine ⟨_, rfl, ?_⟩; have n0_ := Aside0.mk (Kd.R_lower ho0 (below_size (zz0 HB))); have n1_ := Aside0.mk (below_step (zz0 HB) hb); clear HB; have HO303 := n0_; have HB := n1_; clear n0_ n1_; (try clear hb ho0)))
 go_ret
 exact ⟨_, zz1, (zz10 HO303), (zz0 HB)⟩
mutual
def impl_PathClean.l0 : Nat → List ByteArray → List ByteArray → Int → Int → Option (List ByteArray)
 | 0, _, _, _, _ => none
 | k + 1, x3, x6, x7, x8 => if x8 < x7 then (if 0 ≤ x8 then (if x8 < (x6.length : Int) then (if (rdOf ByteArray.empty x6 x8).toList = ([] : List UInt8) then (impl_PathClean.j1 k x3 (rdOf ByteArray.empty x6 x8) x6 x7 x8 (rdOf ByteArray.empty x6 x8) ((rdOf ByteArray.empty x6 x8).toList == ([] : List UInt8))) else (impl_PathClean.j1 k x3 (rdOf ByteArray.empty x6 x8) x6 x7 x8 (rdOf ByteArray.empty x6 x8) ((rdOf ByteArray.empty x6 x8).toList == ([46] : List UInt8)))) else (none)) else (none)) else (some x3)
def impl_PathClean.j1 : Nat → List ByteArray → ByteArray → List ByteArray → Int → Int → ByteArray → Bool → Option (List ByteArray)
 | 0, _, _, _, _, _, _, _ => none
 | k + 1, x3, x5, x6, x7, x8, x12, x13 => if x13 = true then (impl_PathClean.l0 k x3 x6 x7 (wrap64 (x8 + 1))) else (if x12.toList = ([46, 46] : List UInt8) then (if (x3.length : Int) > 0 then (if 0 ≤ (wrap64 ((x3.length : Int) - 1)) then (if (wrap64 ((x3.length : Int) - 1)) ≤ (x3.length : Int) then (impl_PathClean.l0 k (x3.take ((wrap64 ((x3.length : Int) - 1)) : Int).toNat) x6 x7 (wrap64 (x8 + 1))) else (none)) else (none)) else (impl_PathClean.l0 k x3 x6 x7 (wrap64 (x8 + 1)))) else (if x3.length < 8796093022208 then (impl_PathClean.l0 k (x3 ++ [x5]) x6 x7 (wrap64 (x8 + 1))) else (none)))
end
def impl_PathClean.f (k : Nat) (l0 : List ByteArray) : Option (List ByteArray) := impl_PathClean.l0 k ([] : List ByteArray) l0 (l0.length : Int) 0
theorem impl_PathClean.mono_l : ∀ k, (∀ y0 y1 y2 y3, LeO (impl_PathClean.l0 k y0 y1 y2 y3) (impl_PathClean.l0 (k + 1) y0 y1 y2 y3)) ∧ (∀ y0 y1 y2 y3 y4 y5 y6, LeO (impl_PathClean.j1 k y0 y1 y2 y3 y4 y5 y6) (impl_PathClean.j1 (k + 1) y0 y1 y2 y3 y4 y5 y6))
 | 0 => ⟨fun _ _ _ _ r h => by simp [impl_PathClean.l0] at h, fun _ _ _ _ _ _ _ r h => by simp [impl_PathClean.j1] at h⟩
 | k + 1 => by
  obtain ⟨ih0, ih1⟩ := impl_PathClean.mono_l k;refine ⟨?_, ?_⟩
  ·intro y0 y1 y2 y3
   unfold impl_PathClean.l0
   repeat' first | (with_reducible first | exact ih0 _ _ _ _ | exact ih1 _ _ _ _ _ _ _ | exact LeO.refl _ | exact LeO.none _ | refine LeO.ite ?_ ?_ | refine LeO.bind ?_ (fun _ => ?_)) | exact LeO.none _ | refine LeO.ite ?_ ?_ | refine LeO.bind ?_ (fun _ => ?_)
  ·intro y0 y1 y2 y3 y4 y5 y6
   unfold impl_PathClean.j1
   repeat' first | (with_reducible first | exact ih0 _ _ _ _ | exact ih1 _ _ _ _ _ _ _ | exact LeO.refl _ | exact LeO.none _ | refine LeO.ite ?_ ?_ | refine LeO.bind ?_ (fun _ => ?_)) | exact LeO.none _ | refine LeO.ite ?_ ?_ | refine LeO.bind ?_ (fun _ => ?_)
theorem impl_PathClean.mono : ∀ a0 k, LeO (impl_PathClean.f k a0) (impl_PathClean.f (k + 1) a0) := by
 intro a0 k;obtain ⟨ih0, ih1⟩ := impl_PathClean.mono_l k;unfold impl_PathClean.f
 repeat' first | (with_reducible first | exact ih0 _ _ _ _ | exact ih1 _ _ _ _ _ _ _ | exact LeO.refl _ | exact LeO.none _ | refine LeO.ite ?_ ?_ | refine LeO.bind ?_ (fun _ => ?_)) | exact LeO.none _ | refine LeO.ite ?_ ?_ | refine LeO.bind ?_ (fun _ => ?_)
set_option maxHeartbeats 8000000 in
set_option maxRecDepth 100000 in
theorem impl_PathClean.calls (k : Nat) (A0 : Option Addr) (c0 : Nat) (l0 : List ByteArray) (r : List ByteArray) (w : World) (hr0 : Kd.C Kd.string w A0 l0.length l0) (hc0 : l0.length ≤ c0) (h : impl_PathClean.f k l0 = some r) :
  Calls Tryd.prog 61 #[.slice A0 l0.length c0] w fun e w' => ∃ v0_ : Value, e = .returned (v0_) ∧ Kd.R Kd.string 9 w' w.heap.size (fun _ => True) v0_ r ∧ Below w.heap.size w w' := by
 have HR0 := Aside0.mk hr0;have HC0 := Aside0.mk hc0;clear hr0 hc0;have HB := Aside0.mk (Below.refl w.heap.size w);have H : (impl_PathClean.l0 k ([] : List ByteArray) l0 (l0.length : Int) 0) = some r := h;clear h;have H' := Aside0.mk H;clear H;go_enter Tryd.func61, Tryd.ntmps61;go_wp2
 go_step3
 go_wp2
 go_step3
 go_wp2
 go_loopg [3, 8] k (fun kq v3 v8 w' => ∃ (x3_1 : List ByteArray) (x8_1 : Int), v8 = .int .i64 x8_1 ∧ Aside0 (impl_PathClean.l0 kq x3_1 l0 (l0.length : Int) x8_1 = some r) ∧ Aside0 (kq ≤ k) ∧ Aside0 (Kd.R Kd.string 9 w' w.heap.size (fun _ => True) v3 x3_1) ∧ Aside0 (Below w.heap.size w w'))
 case atStart => exact ⟨(([] : List ByteArray)), (0), zz3, H', ⟨Nat.le_refl _⟩, ⟨zz44⟩, ⟨(zz0 HB)⟩⟩
 case round =>
  clear H';obtain ⟨x3_1, x8_1, rfl, HA, HK1, HO_3, HB⟩ := hrel;cases gk with
  | zero => exact absurd HA.out (by simp [impl_PathClean.l0])
  | succ k1 =>
   have H := HA.out;clear HA;simp only [impl_PathClean.l0] at H
   by_cases c2 : x8_1 < (l0.length : Int)
   ·rw [if_pos c2] at H
    have c2b0 : decide (x8_1 < (l0.length : Int)) = true := decide_eq_true c2;clear c2;by_cases c3 : 0 ≤ x8_1
    ·rw [if_pos c3] at H
     have c3b0 : decide (0 ≤ x8_1) = true := decide_eq_true c3;clear c3;by_cases c4 : x8_1 < (l0.length : Int)
     ·rw [if_pos c4] at H
      have c4b0 : decide (x8_1 < (l0.length : Int)) = true := decide_eq_true c4;clear c4;have HC5 := Aside0.mk H;clear H;have p304 : 0 ≤ (x8_1 : Int) := ofD;have q304 : x8_1 < (l0.length : Int) := ofD;obtain ⟨ad304, e304, hx304_0⟩ := Kd.at_string HR0.out x8_1 p304 q304;cases e304
      replace hx304_0 := (HB.out.cell (World.block_lt_of_cell? w _ hx304_0)).trans hx304_0;replace p304 := eq_true p304;replace q304 := eq_true q304;go_upto_if 13 with (fail)
      go_cut [13] (fun v13 wc => ∃ (kq : Nat) (x13_4 : Bool), v13 = .bool x13_4 ∧ Aside0 (impl_PathClean.j1 kq x3_1 (rdOf ByteArray.empty l0 x8_1) l0 (l0.length : Int) x8_1 (rdOf ByteArray.empty l0 x8_1) x13_4 = some r) ∧ Aside0 (kq ≤ k1) ∧ Aside0 (Kd.R Kd.string 9 wc w.heap.size (fun _ => True) u3 x3_1) ∧ Aside0 (Below w.heap.size w wc))
      case first =>
       have H := HC5.out;clear HC5;by_cases c6 : (rdOf ByteArray.empty l0 x8_1).toList = ([] : List UInt8)
       ·rw [if_pos c6] at H
        have c6b0 : ((rdOf ByteArray.empty l0 x8_1).toList == ([] : List UInt8)) = true := beq_iff_eq.mpr c6;have c6i0 : (rdOf ByteArray.empty l0 x8_1).toList.isEmpty = true := (aid_isEmpty2 _).symm.trans c6b0;have c6b1 : ((rdOf ByteArray.empty l0 x8_1).toList != ([] : List UInt8)) = false := bne_eq_false_iff_eq.mpr c6;clear c6;(first | rw [c6b0] | (simp only [i64_w, i32_w]; rw [c6b0]) | skip)
        have H' := Aside0.mk H;clear H;go_wp2
        all_goals (first | (exfalso; have h_ : (rdOf ByteArray.empty l0 x8_1).toList.isEmpty = false := (by assumption); rw [c6i0] at h_; cases h_; done) | skip)
        go_meet
        case rel => exact ⟨_, (((rdOf ByteArray.empty l0 x8_1).toList == ([] : List UInt8))), zz3, H', ⟨(zz22 HK1)⟩, ⟨(zz10 HO_3)⟩, ⟨(zz0 HB)⟩⟩
       ·rw [if_neg c6] at H
        have c6b0 : ((rdOf ByteArray.empty l0 x8_1).toList == ([] : List UInt8)) = false := beq_eq_false_iff_ne.mpr c6;have c6i0 : (rdOf ByteArray.empty l0 x8_1).toList.isEmpty = false := (aid_isEmpty2 _).symm.trans c6b0;have c6b1 : ((rdOf ByteArray.empty l0 x8_1).toList != ([] : List UInt8)) = true := bne_iff_ne.mpr c6;(first | rw [c6b0] | (simp only [i64_w, i32_w]; rw [c6b0]) | skip)
        have H' := Aside0.mk H;clear H;go_wp2
        all_goals (first | (exfalso; have h_ : (rdOf ByteArray.empty l0 x8_1).toList.isEmpty = true := (by assumption); rw [c6i0] at h_; cases h_; done) | skip)
        go_meet
        case rel => exact ⟨_, (((rdOf ByteArray.empty l0 x8_1).toList == ([46] : List UInt8))), zz3, H', ⟨(zz22 HK1)⟩, ⟨(zz10 HO_3)⟩, ⟨(zz0 HB)⟩⟩
      case rest =>
       clear HC5;obtain ⟨kq, x13_4, rfl, HA, HJ4, HO_3, HB⟩ := hcut;cases kq with
       | zero => exact absurd HA.out (by simp [impl_PathClean.j1])
       | succ kj4 =>
        have H := HA.out;clear HA;simp only [impl_PathClean.j1] at H
        by_cases c7 : x13_4 = true
        ·subst c7
         rw [if_pos rfl] at H;have H' := Aside0.mk H;clear H;go_wp2
         go_roundg kj4
         case measure => have := HK1.out; have := HJ4.out; omega
         case rel => exact ⟨(x3_1), (wrap64 (x8_1 + 1)), zz3, H', ⟨(zz30 HK1 HJ4)⟩, ⟨(zz10 HO_3)⟩, ⟨(zz0 HB)⟩⟩
        ·replace c7 := Bool.eq_false_iff.mpr c7
         subst c7;rw [if_neg (show ¬ (false = true) by decide)] at H;by_cases c8 : (rdOf ByteArray.empty l0 x8_1).toList = ([46, 46] : List UInt8)
         ·rw [if_pos c8] at H
          have c8b0 : ((rdOf ByteArray.empty l0 x8_1).toList == ([46, 46] : List UInt8)) = true := beq_iff_eq.mpr c8;have c8b1 : ((rdOf ByteArray.empty l0 x8_1).toList != ([46, 46] : List UInt8)) = false := bne_eq_false_iff_eq.mpr c8;clear c8;by_cases c9 : (x3_1.length : Int) > 0
          ·rw [if_pos c9] at H
           have c9b0 : decide (0 < (x3_1.length : Int)) = true := decide_eq_true c9;have c9b1 : decide (0 < x3_1.length) = true := decide_eq_true (by omega);clear c9;obtain ⟨ji10, hji10⟩ : ∃ j_ : Int, (wrap64 ((x3_1.length : Int) - 1)) = j_ := ⟨_, rfl⟩;replace H : (if 0 ≤ (ji10) then (if (ji10) ≤ (x3_1.length : Int) then (impl_PathClean.l0 kj4 (x3_1.take ((ji10) : Int).toNat) l0 (l0.length : Int) (wrap64 (x8_1 + 1))) else (none)) else (none)) = some r := by first | (rw [hji10] at H; exact H) | (simp only [hji10] at H ⊢; exact H)
           have hji10w : (IntKind.i64.wrap ((x3_1.length : Int) - 1)) = ji10 := (i64_w _).trans hji10;by_cases c11 : 0 ≤ (ji10)
           ·rw [if_pos c11] at H
            have c11b0 := eq_true c11;have c11b1 : decide (0 ≤ (ji10)) = true := decide_eq_true c11;clear c11;by_cases c12 : (ji10) ≤ (x3_1.length : Int)
            ·rw [if_pos c12] at H
             have c12b0 := eq_true c12;have c12b1 : decide ((ji10) ≤ (x3_1.length : Int)) = true := decide_eq_true c12;clear c12;obtain ⟨y305, Ny305⟩ := toY (x3_1.take ((ji10) : Int).toNat);(first | with_reducible replace H := bindZ Ny305 H | rw [← Ny305.out] at H | skip)
             have H' := Aside0.mk H;clear H;obtain ⟨Ao13, co13, eo13⟩ := Kd.R_slice HO_3.out;subst eo13;have q14 : ((ji10) : Int) ≤ ((x3_1.length : Int) : Int) := ofD;obtain ⟨i014, hi014, _, hsz14, _⟩ := info_parts info9;have hcut14 := cut_to (P := Tryd.prog) 45 9 .i64 Tryd.underlying45 hi014 Ao13 x3_1.length co13 (ji10) ofD q14 (Kd.R_reads' HO_3.out).2.1;have hr14 := Kd.R_take (m := ((ji10) : Int).toNat) HO_3.out (by omega);have hy14 : y305.length = ((ji10) : Int).toNat := (by rw [Ny305.out, List.length_take]; omega);rw [← Ny305.out] at hr14;rw [← hy14] at hr14 hcut14;clear hy14 hi014 hsz14 HO_3;have HO307 := Aside0.mk hr14;clear hr14;replace q14 := eq_true q14;go_wp2
             go_roundg kj4
             case measure => have := HK1.out; have := HJ4.out; omega
             case rel => exact ⟨(y305), (wrap64 (x8_1 + 1)), zz3, H', ⟨(zz30 HK1 HJ4)⟩, ⟨(zz10 HO307)⟩, ⟨(zz0 HB)⟩⟩
            ·rw [if_neg c12] at H
             exact absurd H (by simp)
           ·rw [if_neg c11] at H
            exact absurd H (by simp)
          ·rw [if_neg c9] at H
           have c9b0 : decide (0 < (x3_1.length : Int)) = false := decide_eq_false c9;have c9b1 : decide (0 < x3_1.length) = false := decide_eq_false (by omega);clear c9;have H' := Aside0.mk H;clear H;obtain ⟨Ao15, co15, eo15⟩ := Kd.R_slice HO_3.out;subst eo15;go_wp2
           go_roundg kj4
           case measure => have := HK1.out; have := HJ4.out; omega
           case rel => exact ⟨(x3_1), (wrap64 (x8_1 + 1)), zz3, H', ⟨(zz30 HK1 HJ4)⟩, ⟨(zz10 HO_3)⟩, ⟨(zz0 HB)⟩⟩
         ·rw [if_neg c8] at H
          have c8b0 : ((rdOf ByteArray.empty l0 x8_1).toList == ([46, 46] : List UInt8)) = false := beq_eq_false_iff_ne.mpr c8;have c8b1 : ((rdOf ByteArray.empty l0 x8_1).toList != ([46, 46] : List UInt8)) = true := bne_iff_ne.mpr c8;by_cases c16 : x3_1.length < 8796093022208
          ·rw [if_pos c16] at H
           have LMc16 := Aside0.mk c16;clear c16;obtain ⟨y308, Ny308⟩ := toY (x3_1 ++ [(rdOf ByteArray.empty l0 x8_1)]);(first | with_reducible replace H := bindZ Ny308 H | rw [← Ny308.out] at H | skip)
           have H' := Aside0.mk H;clear H;go_wp2_with (first | ((with_reducible refine gate_builtin (b := .append) (xs := #[.tmp 26, .tmp 28]) rfl ?_); at_builtin; refine Kd.R_append Kd.string (w0 := w) w.heap.size rfl (.tmp 26) (.tmp 28) 45 9 (.string ⟨#[]⟩) 16 rfl Tryd.underlying45 info9 rfl (by decide) (by omega) u3 x3_1 (rdOf ByteArray.empty l0 x8_1) [.string (rdOf ByteArray.empty l0 x8_1)] (fun _ => True) (fun _ => False) rfl rfl ?aP (fun _ hk => hk.elim) ?aF ?aO ?aB ?aS ?aL ?_; (case aP => exact rfl); (case aB => exact (zz0 HB)); (case aF => exact (fun _ _ => trivial)); (case aO => exact (zz10 HO_3)); (case aS => exact (below_size (zz0 HB))); (case aL => exact (zz5 LMc16)); intro v309 w17 ho hb hg hat; rw [← Ny308.out] at ho; have n0_ := Aside0.mk (hb); have n1_ := Aside0.mk (ho); clear HB; clear HO_3; have HB := n0_; have HO310 := n1_; clear n0_ n1_; clear ho hb hg hat))
           go_roundg kj4
           case measure => have := HK1.out; have := HJ4.out; omega
           case rel => exact ⟨(y308), (wrap64 (x8_1 + 1)), zz3, H', ⟨(zz30 HK1 HJ4)⟩, ⟨(zz10 HO310)⟩, ⟨(zz0 HB)⟩⟩
          ·rw [if_neg c16] at H
           exact absurd H (by simp)
     ·rw [if_neg c4] at H
      exact absurd H (by simp)
    ·rw [if_neg c3] at H
     exact absurd H (by simp)
   ·rw [if_neg c2] at H
    have c2b0 : decide (x8_1 < (l0.length : Int)) = false := decide_eq_false c2;clear c2;obtain rfl := Option.some.inj H;go_wp2
    go_ret
    exact ⟨_, zz1, (zz10 HO_3), (zz0 HB)⟩
def impl_allSmallLetters.l0 : Nat → ByteArray → Int → Option (Bool)
 | 0, _, _ => none
 | k + 1, x0, x3 => if x3 < (x0.size : Int) then (if 0 ≤ x3 then (if (bt x0 x3) < 97 then (some false) else (if (bt x0 x3) > 122 then (some false) else (impl_allSmallLetters.l0 k x0 (wrap64 (x3 + 1))))) else (none)) else (some true)
def impl_allSmallLetters.f (k : Nat) (a0 : ByteArray) : Option (Bool) := impl_allSmallLetters.l0 k a0 0
theorem impl_allSmallLetters.mono_l : ∀ k, (∀ y0 y1, LeO (impl_allSmallLetters.l0 k y0 y1) (impl_allSmallLetters.l0 (k + 1) y0 y1))
 | 0 => fun _ _ r h => by simp [impl_allSmallLetters.l0] at h
 | k + 1 => by
  have ih0 := impl_allSmallLetters.mono_l k
  ·intro y0 y1
   unfold impl_allSmallLetters.l0
   repeat' first | (with_reducible first | exact ih0 _ _ | exact LeO.refl _ | exact LeO.none _ | refine LeO.ite ?_ ?_ | refine LeO.bind ?_ (fun _ => ?_)) | exact LeO.none _ | refine LeO.ite ?_ ?_ | refine LeO.bind ?_ (fun _ => ?_)
theorem impl_allSmallLetters.mono : ∀ a0 k, LeO (impl_allSmallLetters.f k a0) (impl_allSmallLetters.f (k + 1) a0) := by
 intro a0 k;have ih0 := impl_allSmallLetters.mono_l k;unfold impl_allSmallLetters.f
 repeat' first | (with_reducible first | exact ih0 _ _ | exact LeO.refl _ | exact LeO.none _ | refine LeO.ite ?_ ?_ | refine LeO.bind ?_ (fun _ => ?_)) | exact LeO.none _ | refine LeO.ite ?_ ?_ | refine LeO.bind ?_ (fun _ => ?_)
set_option maxHeartbeats 8000000 in
set_option maxRecDepth 100000 in
theorem impl_allSmallLetters.calls (k : Nat) (a0 : ByteArray) (r : Bool) (w : World) (h : impl_allSmallLetters.f k a0 = some r) :
  Calls Tryd.prog 86 #[.string a0] w fun e w' => e = .returned (.bool r) ∧ Drawn0 w w' := by
 have H : (impl_allSmallLetters.l0 k a0 0) = some r := h;clear h;have H' := Aside0.mk H;clear H;go_enter Tryd.func86, Tryd.ntmps86;go_wp2
 go_loopg [3] k (fun kq v3 w' => ∃ (x3_1 : Int), v3 = .int .i64 x3_1 ∧ Aside0 (impl_allSmallLetters.l0 kq a0 x3_1 = some r) ∧ Aside0 (kq ≤ k) ∧ Drawn0 w w')
 case atStart => exact ⟨(0), zz3, H', ⟨Nat.le_refl _⟩, zz17⟩
 case round =>
  clear H';obtain ⟨x3_1, rfl, HA, HK1, ⟨m1, rfl⟩⟩ := hrel;cases gk with
  | zero => exact absurd HA.out (by simp [impl_allSmallLetters.l0])
  | succ k1 =>
   have H := HA.out;clear HA;simp only [impl_allSmallLetters.l0] at H
   by_cases c2 : x3_1 < (a0.size : Int)
   ·rw [if_pos c2] at H
    have c2b0 : decide (x3_1 < (a0.size : Int)) = true := decide_eq_true c2;clear c2;by_cases c3 : 0 ≤ x3_1
    ·rw [if_pos c3] at H
     have c3b0 : decide (0 ≤ x3_1) = true := decide_eq_true c3;clear c3;by_cases c5 : (bt a0 x3_1) < 97
     ·rw [if_pos c5] at H
      have c5b0 : decide ((bt a0 x3_1) < 97) = true := decide_eq_true c5;clear c5;obtain rfl := Option.some.inj H;have p4 : 0 ≤ (x3_1 : Int) := ofD;have q4 : x3_1 < (a0.size : Int) := ofD;have hx4 := bt_at a0 x3_1;replace p4 := eq_true p4;replace q4 := eq_true q4;go_wp2
      go_ret
      exact ⟨zz3, zz17⟩
     ·rw [if_neg c5] at H
      have c5b0 : decide ((bt a0 x3_1) < 97) = false := decide_eq_false c5;clear c5;by_cases c7 : (bt a0 x3_1) > 122
      ·rw [if_pos c7] at H
       have c7b0 : decide (122 < (bt a0 x3_1)) = true := decide_eq_true c7;clear c7;obtain rfl := Option.some.inj H;have p4 : 0 ≤ (x3_1 : Int) := ofD;have q4 : x3_1 < (a0.size : Int) := ofD;have hx4 := bt_at a0 x3_1;replace p4 := eq_true p4;replace q4 := eq_true q4;have p6 : 0 ≤ (x3_1 : Int) := ofD;have q6 : x3_1 < (a0.size : Int) := ofD;have hx6 := bt_at a0 x3_1;replace p6 := eq_true p6;replace q6 := eq_true q6;go_wp2
       go_ret
       exact ⟨zz3, zz17⟩
      ·rw [if_neg c7] at H
       have c7b0 : decide (122 < (bt a0 x3_1)) = false := decide_eq_false c7;clear c7;have H' := Aside0.mk H;clear H;have p4 : 0 ≤ (x3_1 : Int) := ofD;have q4 : x3_1 < (a0.size : Int) := ofD;have hx4 := bt_at a0 x3_1;replace p4 := eq_true p4;replace q4 := eq_true q4;have p6 : 0 ≤ (x3_1 : Int) := ofD;have q6 : x3_1 < (a0.size : Int) := ofD;have hx6 := bt_at a0 x3_1;replace p6 := eq_true p6;replace q6 := eq_true q6;go_wp2
       go_roundg k1
       case measure => have := HK1.out; omega
       case rel => exact ⟨(wrap64 (x3_1 + 1)), zz3, H', ⟨(zz5 HK1)⟩, zz17⟩
    ·rw [if_neg c3] at H
     exact absurd H (by simp)
   ·rw [if_neg c2] at H
    have c2b0 : decide (x3_1 < (a0.size : Int)) = false := decide_eq_false c2;clear c2;obtain rfl := Option.some.inj H;go_wp2
    go_ret
    exact ⟨zz3, zz17⟩
def impl_isHouse.f (k : Nat) (a0 : ByteArray) : Option (Bool) := if (a0.size : Int) ≥ 1 then (if (a0.size : Int) ≤ 5 then ((impl_allSmallLetters.f k a0).bind fun t315 => (some t315)) else (some false)) else (some false)
theorem impl_isHouse.mono : ∀ a0 k, LeO (impl_isHouse.f k a0) (impl_isHouse.f (k + 1) a0) := by
 intro a0 k;unfold impl_isHouse.f
 repeat' first | (with_reducible first | exact impl_allSmallLetters.mono _ _ | exact LeO.refl _ | exact LeO.none _ | refine LeO.ite ?_ ?_ | refine LeO.bind ?_ (fun _ => ?_)) | exact LeO.none _ | refine LeO.ite ?_ ?_ | refine LeO.bind ?_ (fun _ => ?_)
set_option maxHeartbeats 8000000 in
set_option maxRecDepth 100000 in
theorem impl_isHouse.calls (k : Nat) (a0 : ByteArray) (r : Bool) (w : World) (h : impl_isHouse.f k a0 = some r) :
  Calls Tryd.prog 76 #[.string a0] w fun e w' => e = .returned (.bool r) ∧ Drawn0 w w' := by
 have H : (if (a0.size : Int) ≥ 1 then (if (a0.size : Int) ≤ 5 then ((impl_allSmallLetters.f k a0).bind fun t315 => (some t315)) else (some false)) else (some false)) = some r := h;clear h;by_cases c2 : (a0.size : Int) ≥ 1
 ·rw [if_pos c2] at H
  have c2b0 : decide (1 ≤ (a0.size : Int)) = true := decide_eq_true c2;have c2b1 : decide (1 ≤ a0.size) = true := decide_eq_true (by omega);clear c2;by_cases c3 : (a0.size : Int) ≤ 5
  ·rw [if_pos c3] at H
   have c3b0 : decide ((a0.size : Int) ≤ 5) = true := decide_eq_true c3;have c3b1 : decide (a0.size ≤ 5) = true := decide_eq_true (by omega);clear c3;replace H := bindA H;obtain ⟨t315, A4, H⟩ := H;obtain rfl := Option.some.inj H;go_enter Tryd.func76, Tryd.ntmps76;go_wp2_with (first | (go_at_call 86; (with_reducible refine (impl_allSmallLetters.calls k a0 t315 _ A4.out).mono ?_); rintro e w' ⟨rfl, ⟨nd, rfl⟩⟩))
   go_ret
   exact ⟨zz3, zz17⟩
  ·rw [if_neg c3] at H
   have c3b0 : decide ((a0.size : Int) ≤ 5) = false := decide_eq_false c3;have c3b1 : decide (a0.size ≤ 5) = false := decide_eq_false (by omega);clear c3;obtain rfl := Option.some.inj H;go_enter Tryd.func76, Tryd.ntmps76;go_wp2
   go_ret
   exact ⟨zz3, zz17⟩
 ·rw [if_neg c2] at H
  have c2b0 : decide (1 ≤ (a0.size : Int)) = false := decide_eq_false c2;have c2b1 : decide (1 ≤ a0.size) = false := decide_eq_false (by omega);clear c2;obtain rfl := Option.some.inj H;go_enter Tryd.func76, Tryd.ntmps76;go_wp2
  go_ret
  exact ⟨zz3, zz17⟩
def impl_isNormal.f (k : Nat) (a0 : ByteArray) : Option (Bool) := (impl_EscNorm.f k a0).bind fun bt316 => (if bt316.2 = true then (some (bt316.1.toList == a0.toList)) else (some false))
theorem impl_isNormal.mono : ∀ a0 k, LeO (impl_isNormal.f k a0) (impl_isNormal.f (k + 1) a0) := by
 intro a0 k;unfold impl_isNormal.f
 repeat' first | (with_reducible first | exact impl_EscNorm.mono _ _ | exact LeO.refl _ | exact LeO.none _ | refine LeO.ite ?_ ?_ | refine LeO.bind ?_ (fun _ => ?_)) | exact LeO.none _ | refine LeO.ite ?_ ?_ | refine LeO.bind ?_ (fun _ => ?_)
set_option maxHeartbeats 8000000 in
set_option maxRecDepth 100000 in
theorem impl_isNormal.calls (k : Nat) (a0 : ByteArray) (r : Bool) (w : World) (h : impl_isNormal.f k a0 = some r) :
  Calls Tryd.prog 77 #[.string a0] w fun e w' => e = .returned (.bool r) ∧ Below w.heap.size w w' := by
 have HB := Aside0.mk (Below.refl w.heap.size w);have H : ((impl_EscNorm.f k a0).bind fun bt316 => (if bt316.2 = true then (some (bt316.1.toList == a0.toList)) else (some false))) = some r := h;clear h;replace H := bindA H;obtain ⟨⟨t316, t317⟩, A2, H⟩ := H;try dsimp -simprocs only at H
 by_cases c3 : t317 = true
 ·subst c3
  rw [if_pos rfl] at H;obtain rfl := Option.some.inj H;go_enter Tryd.func77, Tryd.ntmps77;go_wp2_with (first | ((with_reducible refine gate_callee (f := 58) rfl ?_); refine gsL (some 7) Tryd.func58 #[.string a0] ?_; (with_reducible refine (impl_EscNorm.calls k a0 t316 true _ A2.out).mono ?_); rintro e w4 ⟨rfl, hb⟩; refine ⟨_, rfl, ?_⟩; have n0_ := Aside0.mk (below_step (zz0 HB) hb); clear HB; have HB := n0_; clear n0_; (try clear hb)))
  go_ret
  exact ⟨zz1, (zz0 HB)⟩
 ·replace c3 := Bool.eq_false_iff.mpr c3
  subst c3;rw [if_neg (show ¬ (false = true) by decide)] at H;obtain rfl := Option.some.inj H;go_enter Tryd.func77, Tryd.ntmps77;go_wp2_with (first | ((with_reducible refine gate_callee (f := 58) rfl ?_); refine gsL (some 7) Tryd.func58 #[.string a0] ?_; (with_reducible refine (impl_EscNorm.calls k a0 t316 false _ A2.out).mono ?_); rintro e w5 ⟨rfl, hb⟩; refine ⟨_, rfl, ?_⟩; have n0_ := Aside0.mk (below_step (zz0 HB) hb); clear HB; have HB := n0_; clear n0_; (try clear hb)))
  go_ret
  exact ⟨zz1, (zz0 HB)⟩
mutual
def impl_AddrOk.j0 : Nat → Bool → ByteArray → List ByteArray → Bool → ByteArray → Option (Bool)
 | 0, _, _, _, _, _ => none
 | k + 1, x14, x319000, x319001, x319002, x319003 => if x14 = true then (some false) else (impl_AddrOk.l0 k x319001 (x319001.length : Int) 0 x319000 x319001 x319002 x319003)
def impl_AddrOk.l0 : Nat → List ByteArray → Int → Int → ByteArray → List ByteArray → Bool → ByteArray → Option (Bool)
 | 0, _, _, _, _, _, _, _ => none
 | k + 1, x16, x17, x18, x319000, x319001, x319002, x319003 => if x18 < x17 then (if 0 ≤ x18 then (if x18 < (x16.length : Int) then (if (rdOf ByteArray.empty x16 x18).toList = ([] : List UInt8) then (some false) else (if (rdOf ByteArray.empty x16 x18).toList = ([46] : List UInt8) then (some false) else (if (rdOf ByteArray.empty x16 x18).toList = ([46, 46] : List UInt8) then (some false) else ((impl_isNormal.f k (rdOf ByteArray.empty x16 x18)).bind fun t321 => (if t321 = true then (impl_AddrOk.l0 k x16 x17 (wrap64 (x18 + 1)) x319000 x319001 x319002 x319003) else (some false)))))) else (none)) else (none)) else ((impl_isNormal.f k x319003).bind fun t322 => (if t322 = true then (if x319002 = true then ((impl_writeAddr.f x319000 x319001 x319002 x319003).bind fun t323 => (some (decide ((t323.size : Int) ≤ 60)))) else (if x319003.toList = ([] : List UInt8) then ((impl_writeAddr.f x319000 x319001 x319002 x319003).bind fun t324 => (some (decide ((t324.size : Int) ≤ 60)))) else (some false))) else (some false)))
end
def impl_AddrOk.f (k : Nat) (a0_0 : ByteArray) (l0_1 : List ByteArray) (a0_2 : Bool) (a0_3 : ByteArray) : Option (Bool) := (impl_isHouse.f k a0_0).bind fun t319 => (if t319 = true then (impl_AddrOk.j0 k (decide ((l0_1.length : Int) > 5)) a0_0 l0_1 a0_2 a0_3) else (impl_AddrOk.j0 k true a0_0 l0_1 a0_2 a0_3))
theorem impl_AddrOk.mono_l : ∀ k, (∀ y0 y1 y2 y3 y4, LeO (impl_AddrOk.j0 k y0 y1 y2 y3 y4) (impl_AddrOk.j0 (k + 1) y0 y1 y2 y3 y4)) ∧ (∀ y0 y1 y2 y3 y4 y5 y6, LeO (impl_AddrOk.l0 k y0 y1 y2 y3 y4 y5 y6) (impl_AddrOk.l0 (k + 1) y0 y1 y2 y3 y4 y5 y6))
 | 0 => ⟨fun _ _ _ _ _ r h => by simp [impl_AddrOk.j0] at h, fun _ _ _ _ _ _ _ r h => by simp [impl_AddrOk.l0] at h⟩
 | k + 1 => by
  obtain ⟨ih0, ih1⟩ := impl_AddrOk.mono_l k;refine ⟨?_, ?_⟩
  ·intro y0 y1 y2 y3 y4
   unfold impl_AddrOk.j0
   repeat' first | (with_reducible first | exact ih0 _ _ _ _ _ | exact ih1 _ _ _ _ _ _ _ | exact impl_isHouse.mono _ _ | exact impl_isNormal.mono _ _ | exact LeO.refl _ | exact LeO.none _ | refine LeO.ite ?_ ?_ | refine LeO.bind ?_ (fun _ => ?_)) | exact LeO.none _ | refine LeO.ite ?_ ?_ | refine LeO.bind ?_ (fun _ => ?_)
  ·intro y0 y1 y2 y3 y4 y5 y6
   unfold impl_AddrOk.l0
   repeat' first | (with_reducible first | exact ih0 _ _ _ _ _ | exact ih1 _ _ _ _ _ _ _ | exact impl_isHouse.mono _ _ | exact impl_isNormal.mono _ _ | exact LeO.refl _ | exact LeO.none _ | refine LeO.ite ?_ ?_ | refine LeO.bind ?_ (fun _ => ?_)) | exact LeO.none _ | refine LeO.ite ?_ ?_ | refine LeO.bind ?_ (fun _ => ?_)
theorem impl_AddrOk.mono : ∀ a0 a1 a2 a3 k, LeO (impl_AddrOk.f k a0 a1 a2 a3) (impl_AddrOk.f (k + 1) a0 a1 a2 a3) := by
 intro a0 a1 a2 a3 k;obtain ⟨ih0, ih1⟩ := impl_AddrOk.mono_l k;unfold impl_AddrOk.f
 repeat' first | (with_reducible first | exact ih0 _ _ _ _ _ | exact ih1 _ _ _ _ _ _ _ | exact impl_isHouse.mono _ _ | exact impl_isNormal.mono _ _ | exact LeO.refl _ | exact LeO.none _ | refine LeO.ite ?_ ?_ | refine LeO.bind ?_ (fun _ => ?_)) | exact LeO.none _ | refine LeO.ite ?_ ?_ | refine LeO.bind ?_ (fun _ => ?_)
set_option maxHeartbeats 8000000 in
set_option maxRecDepth 100000 in
theorem impl_AddrOk.calls (k : Nat) (a0_0 : ByteArray) (A0_1 : Option Addr) (c0_1 : Nat) (l0_1 : List ByteArray) (a0_2 : Bool) (a0_3 : ByteArray) (r : Bool) (w : World) (hr0_1 : Kd.C Kd.string w A0_1 l0_1.length l0_1) (hc0_1 : l0_1.length ≤ c0_1) (h : impl_AddrOk.f k a0_0 l0_1 a0_2 a0_3 = some r) :
  Calls Tryd.prog 62 #[.agg #[.string a0_0, .slice A0_1 l0_1.length c0_1, .bool a0_2, .string a0_3]] w fun e w' => e = .returned (.bool r) ∧ Below w.heap.size w w' := by
 have hu47 := Tryd.underlying47;have HR0_1 := Aside0.mk hr0_1;have HC0_1 := Aside0.mk hc0_1;clear hr0_1 hc0_1;have HB := Aside0.mk (Below.refl w.heap.size w);have H : ((impl_isHouse.f k a0_0).bind fun t319 => (if t319 = true then (impl_AddrOk.j0 k (decide ((l0_1.length : Int) > 5)) a0_0 l0_1 a0_2 a0_3) else (impl_AddrOk.j0 k true a0_0 l0_1 a0_2 a0_3))) = some r := h;clear h;have HC2 := Aside0.mk H;clear H;go_enter Tryd.func62, Tryd.ntmps62;go_upto_region 1 with (first | ((with_reducible refine gate_dst (N := 1) rfl ?_); (try (refine gate_guard (by rfl) ?_; dsimp only)); refine boxE 1 #[.string a0_0, .slice A0_1 l0_1.length c0_1, .bool a0_2, .string a0_3] 47 ?_; intro gb318 hg w3 hbox hb; have n0_ := Aside0.mk (below_step (zz0 HB) hb); have n1_ := Aside0.mk (hbox); have n2_ := Aside0.mk ((by rw [hg]; exact (below_size (zz0 HB)) : w.heap.size ≤ gb318)); have n3_ := Aside0.mk ((by rw [hg]; exact (below_size (zz0 HB)) : w.heap.size ≤ gb318)); clear HB; have HB := n0_; have BK318 := n1_; have GW318 := n2_; have GE318 := n3_; clear n0_ n1_ n2_ n3_; clear hb hbox hg))
 (try simp only [Act.put, List.setIfInBounds_toArray, List.set_cons_zero, List.set_cons_succ])
 go_cut [14] (fun v14 wc => ∃ (kq : Nat) (x14_1 : Bool), v14 = .bool x14_1 ∧ Aside0 (impl_AddrOk.j0 kq x14_1 a0_0 l0_1 a0_2 a0_3 = some r) ∧ Aside0 (kq ≤ k) ∧ Aside0 (wc.heap[gb318]? = some (.cells #[.string a0_0, (.slice A0_1 l0_1.length c0_1), .bool a0_2, .string a0_3] 47 (0, 0))) ∧ Aside0 (Below w.heap.size w wc))
 case first =>
  have H := HC2.out;clear HC2;replace H := bindA H;obtain ⟨t319, A4, H⟩ := H;by_cases c5 : t319 = true
  ·subst c5
   rw [if_pos rfl] at H;have H' := Aside0.mk H;clear H;obtain ⟨_, _, _, _, _, _, _, _⟩ := cf4 BK318;go_wp2_with (first | ((with_reducible refine gate_callee (f := 76) rfl ?_); refine gsL (some 7) Tryd.func76 #[.string a0_0] ?_; (with_reducible refine (impl_isHouse.calls k a0_0 true _ A4.out).mono ?_); rintro e w' ⟨rfl, ⟨nd, rfl⟩⟩; refine ⟨_, rfl, ?_⟩))
   go_meet
   case rel => exact ⟨_, (decide ((l0_1.length : Int) > 5)), zz3, H', ⟨zz20⟩, ⟨(zz6 BK318)⟩, ⟨(zz2 HB GE318)⟩⟩
  ·replace c5 := Bool.eq_false_iff.mpr c5
   subst c5;rw [if_neg (show ¬ (false = true) by decide)] at H;have H' := Aside0.mk H;clear H;obtain ⟨_, _, _, _, _, _, _, _⟩ := cf4 BK318;go_wp2_with (first | ((with_reducible refine gate_callee (f := 76) rfl ?_); refine gsL (some 7) Tryd.func76 #[.string a0_0] ?_; (with_reducible refine (impl_isHouse.calls k a0_0 false _ A4.out).mono ?_); rintro e w' ⟨rfl, ⟨nd, rfl⟩⟩; refine ⟨_, rfl, ?_⟩))
   go_meet
   case rel => exact ⟨_, (true), zz3, H', ⟨zz20⟩, ⟨(zz6 BK318)⟩, ⟨(zz2 HB GE318)⟩⟩
 case rest =>
  clear HC2;obtain ⟨kq, x14_1, rfl, HA, HJ1, BK318, HB⟩ := hcut;cases kq with
  | zero => exact absurd HA.out (by simp [impl_AddrOk.j0])
  | succ kj1 =>
   have H := HA.out;clear HA;simp only [impl_AddrOk.j0] at H
   by_cases c8 : x14_1 = true
   ·subst c8
    rw [if_pos rfl] at H;obtain rfl := Option.some.inj H;go_wp2
    go_ret
    exact ⟨zz1, (zz2 HB GE318)⟩
   ·replace c8 := Bool.eq_false_iff.mpr c8
    subst c8;rw [if_neg (show ¬ (false = true) by decide)] at H;have H' := Aside0.mk H;clear H;obtain ⟨_, _, _, _, _, _, _, _⟩ := cf4 BK318;go_wp2
    go_loopg [18] kj1 (fun kq v18 w' => ∃ (x18_2 : Int), v18 = .int .i64 x18_2 ∧ Aside0 (impl_AddrOk.l0 kq l0_1 (l0_1.length : Int) x18_2 a0_0 l0_1 a0_2 a0_3 = some r) ∧ Aside0 (kq ≤ kj1) ∧ Aside0 (w'.heap[gb318]? = some (.cells #[.string a0_0, (.slice A0_1 l0_1.length c0_1), .bool a0_2, .string a0_3] 47 (0, 0))) ∧ Aside0 (Below w.heap.size w w'))
    case atStart => exact ⟨(0), zz3, H', ⟨Nat.le_refl _⟩, ⟨(zz6 BK318)⟩, ⟨(zz2 HB GE318)⟩⟩
    case round =>
     clear H';obtain ⟨x18_2, rfl, HA, HK2, BK318, HB⟩ := hrel;cases gk with
     | zero => exact absurd HA.out (by simp [impl_AddrOk.l0])
     | succ k2 =>
      have H := HA.out;clear HA;simp only [impl_AddrOk.l0] at H
      by_cases c10 : x18_2 < (l0_1.length : Int)
      ·rw [if_pos c10] at H
       have c10b0 : decide (x18_2 < (l0_1.length : Int)) = true := decide_eq_true c10;clear c10;by_cases c11 : 0 ≤ x18_2
       ·rw [if_pos c11] at H
        have c11b0 : decide (0 ≤ x18_2) = true := decide_eq_true c11;clear c11;by_cases c12 : x18_2 < (l0_1.length : Int)
        ·rw [if_pos c12] at H
         have c12b0 : decide (x18_2 < (l0_1.length : Int)) = true := decide_eq_true c12;clear c12;by_cases c13 : (rdOf ByteArray.empty l0_1 x18_2).toList = ([] : List UInt8)
         ·rw [if_pos c13] at H
          have c13b0 : ((rdOf ByteArray.empty l0_1 x18_2).toList == ([] : List UInt8)) = true := beq_iff_eq.mpr c13;have c13b1 : ((rdOf ByteArray.empty l0_1 x18_2).toList != ([] : List UInt8)) = false := bne_eq_false_iff_eq.mpr c13;clear c13;obtain rfl := Option.some.inj H;have p320 : 0 ≤ (x18_2 : Int) := ofD;have q320 : x18_2 < (l0_1.length : Int) := ofD;obtain ⟨ad320, e320, hx320_0⟩ := Kd.at_string HR0_1.out x18_2 p320 q320;cases e320
          replace hx320_0 := (HB.out.cell (World.block_lt_of_cell? w _ hx320_0)).trans hx320_0;replace p320 := eq_true p320;replace q320 := eq_true q320;go_wp2
          go_ret
          exact ⟨zz1, (zz2 HB GE318)⟩
         ·rw [if_neg c13] at H
          have c13b0 : ((rdOf ByteArray.empty l0_1 x18_2).toList == ([] : List UInt8)) = false := beq_eq_false_iff_ne.mpr c13;have c13b1 : ((rdOf ByteArray.empty l0_1 x18_2).toList != ([] : List UInt8)) = true := bne_iff_ne.mpr c13;by_cases c14 : (rdOf ByteArray.empty l0_1 x18_2).toList = ([46] : List UInt8)
          ·rw [if_pos c14] at H
           have c14b0 : ((rdOf ByteArray.empty l0_1 x18_2).toList == ([46] : List UInt8)) = true := beq_iff_eq.mpr c14;have c14b1 : ((rdOf ByteArray.empty l0_1 x18_2).toList != ([46] : List UInt8)) = false := bne_eq_false_iff_eq.mpr c14;clear c14;obtain rfl := Option.some.inj H;have p320 : 0 ≤ (x18_2 : Int) := ofD;have q320 : x18_2 < (l0_1.length : Int) := ofD;obtain ⟨ad320, e320, hx320_0⟩ := Kd.at_string HR0_1.out x18_2 p320 q320;cases e320
           replace hx320_0 := (HB.out.cell (World.block_lt_of_cell? w _ hx320_0)).trans hx320_0;replace p320 := eq_true p320;replace q320 := eq_true q320;go_wp2
           go_ret
           exact ⟨zz1, (zz2 HB GE318)⟩
          ·rw [if_neg c14] at H
           have c14b0 : ((rdOf ByteArray.empty l0_1 x18_2).toList == ([46] : List UInt8)) = false := beq_eq_false_iff_ne.mpr c14;have c14b1 : ((rdOf ByteArray.empty l0_1 x18_2).toList != ([46] : List UInt8)) = true := bne_iff_ne.mpr c14;by_cases c15 : (rdOf ByteArray.empty l0_1 x18_2).toList = ([46, 46] : List UInt8)
           ·rw [if_pos c15] at H
            have c15b0 : ((rdOf ByteArray.empty l0_1 x18_2).toList == ([46, 46] : List UInt8)) = true := beq_iff_eq.mpr c15;have c15b1 : ((rdOf ByteArray.empty l0_1 x18_2).toList != ([46, 46] : List UInt8)) = false := bne_eq_false_iff_eq.mpr c15;clear c15;obtain rfl := Option.some.inj H;have p320 : 0 ≤ (x18_2 : Int) := ofD;have q320 : x18_2 < (l0_1.length : Int) := ofD;obtain ⟨ad320, e320, hx320_0⟩ := Kd.at_string HR0_1.out x18_2 p320 q320;cases e320
            replace hx320_0 := (HB.out.cell (World.block_lt_of_cell? w _ hx320_0)).trans hx320_0;replace p320 := eq_true p320;replace q320 := eq_true q320;go_wp2
            go_ret
            exact ⟨zz1, (zz2 HB GE318)⟩
           ·rw [if_neg c15] at H
            have c15b0 : ((rdOf ByteArray.empty l0_1 x18_2).toList == ([46, 46] : List UInt8)) = false := beq_eq_false_iff_ne.mpr c15;have c15b1 : ((rdOf ByteArray.empty l0_1 x18_2).toList != ([46, 46] : List UInt8)) = true := bne_iff_ne.mpr c15;replace H := bindA H;obtain ⟨t321, A16, H⟩ := H;by_cases c17 : t321 = true
            ·subst c17
             rw [if_pos rfl] at H;have H' := Aside0.mk H;clear H;have p320 : 0 ≤ (x18_2 : Int) := ofD;have q320 : x18_2 < (l0_1.length : Int) := ofD;obtain ⟨ad320, e320, hx320_0⟩ := Kd.at_string HR0_1.out x18_2 p320 q320;cases e320
             replace hx320_0 := (HB.out.cell (World.block_lt_of_cell? w _ hx320_0)).trans hx320_0;replace p320 := eq_true p320;replace q320 := eq_true q320;go_wp2_with (first | (go_at_call 77; (with_reducible refine (impl_isNormal.calls k2 (rdOf ByteArray.empty l0_1 x18_2) true _ A16.out).mono ?_); rintro e w18 ⟨rfl, hb⟩; have n0_ := Aside0.mk (blk_below (zz6 BK318) hb); have n1_ := Aside0.mk (below_step (zz2 HB GE318) hb); clear BK318; clear HB; have BK318 := n0_; have HB := n1_; clear n0_ n1_; (try clear hb)))
             go_roundg k2
             case measure => have := HJ1.out; have := HK2.out; omega
             case rel => exact ⟨(wrap64 (x18_2 + 1)), zz3, H', ⟨(zz30 HJ1 HK2)⟩, ⟨(zz6 BK318)⟩, ⟨(zz2 HB GE318)⟩⟩
            ·replace c17 := Bool.eq_false_iff.mpr c17
             subst c17;rw [if_neg (show ¬ (false = true) by decide)] at H;obtain rfl := Option.some.inj H;have p320 : 0 ≤ (x18_2 : Int) := ofD;have q320 : x18_2 < (l0_1.length : Int) := ofD;obtain ⟨ad320, e320, hx320_0⟩ := Kd.at_string HR0_1.out x18_2 p320 q320;cases e320
             replace hx320_0 := (HB.out.cell (World.block_lt_of_cell? w _ hx320_0)).trans hx320_0;replace p320 := eq_true p320;replace q320 := eq_true q320;go_wp2_with (first | (go_at_call 77; (with_reducible refine (impl_isNormal.calls k2 (rdOf ByteArray.empty l0_1 x18_2) false _ A16.out).mono ?_); rintro e w19 ⟨rfl, hb⟩; have n0_ := Aside0.mk (blk_below (zz6 BK318) hb); have n1_ := Aside0.mk (below_step (zz2 HB GE318) hb); clear BK318; clear HB; have BK318 := n0_; have HB := n1_; clear n0_ n1_; (try clear hb)))
             go_ret
             exact ⟨zz1, (zz2 HB GE318)⟩
        ·rw [if_neg c12] at H
         exact absurd H (by simp)
       ·rw [if_neg c11] at H
        exact absurd H (by simp)
      ·rw [if_neg c10] at H
       have c10b0 : decide (x18_2 < (l0_1.length : Int)) = false := decide_eq_false c10;clear c10;replace H := bindA H;obtain ⟨t322, A20, H⟩ := H;by_cases c21 : t322 = true
       ·subst c21
        rw [if_pos rfl] at H;by_cases c22 : a0_2 = true
        ·subst c22
         rw [if_pos rfl] at H;replace H := bindA H;obtain ⟨t323, A23, H⟩ := H;obtain rfl := Option.some.inj H;obtain ⟨_, _, _, _, _, _, _, _⟩ := cf4 BK318;go_wp2_with (first | ((with_reducible refine gate_callee (f := 77) rfl ?_); refine gsL (some 40) Tryd.func77 #[.string a0_3] ?_; (with_reducible refine (impl_isNormal.calls k2 a0_3 true _ A20.out).mono ?_); rintro e w25 ⟨rfl, hb⟩; refine ⟨_, rfl, ?_⟩; have n0_ := Aside0.mk (blk_below (zz6 BK318) hb); have n1_ := Aside0.mk (below_step (zz2 HB GE318) hb); clear BK318; clear HB; have BK318 := n0_; have HB := n1_; clear n0_ n1_; (try clear hb); obtain ⟨_, _, _, _, _, _, _, _⟩ := cf4 BK318) | ((with_reducible refine gate_callee (f := 39) rfl ?_); refine gsL (some 53) Tryd.func39 #[.agg #[.string a0_0, .slice A0_1 l0_1.length c0_1, .bool true, .string a0_3]] ?_; (with_reducible refine (impl_writeAddr.calls a0_0 _ _ l0_1 true a0_3 t323 _ ?side1 ?side2 A23.out).mono ?_); (case side1 => exact (zz32 HR0_1 HB)); (case side2 => exact HC0_1.out); rintro e w27 ⟨rfl, hb⟩; refine ⟨_, rfl, ?_⟩; have n0_ := Aside0.mk (blk_below (zz6 BK318) hb); have n1_ := Aside0.mk (below_step (zz2 HB GE318) hb); clear BK318; clear HB; have BK318 := n0_; have HB := n1_; clear n0_ n1_; (try clear hb)))
         go_ret
         exact ⟨zz1, (zz2 HB GE318)⟩
        ·replace c22 := Bool.eq_false_iff.mpr c22
         subst c22;rw [if_neg (show ¬ (false = true) by decide)] at H;by_cases c28 : a0_3.toList = ([] : List UInt8)
         ·rw [if_pos c28] at H
          have c28b0 : (a0_3.toList == ([] : List UInt8)) = true := beq_iff_eq.mpr c28;have c28b1 : (a0_3.toList != ([] : List UInt8)) = false := bne_eq_false_iff_eq.mpr c28;clear c28;replace H := bindA H;obtain ⟨t324, A29, H⟩ := H;obtain rfl := Option.some.inj H;obtain ⟨_, _, _, _, _, _, _, _⟩ := cf4 BK318;go_wp2_with (first | ((with_reducible refine gate_callee (f := 77) rfl ?_); refine gsL (some 40) Tryd.func77 #[.string a0_3] ?_; (with_reducible refine (impl_isNormal.calls k2 a0_3 true _ A20.out).mono ?_); rintro e w31 ⟨rfl, hb⟩; refine ⟨_, rfl, ?_⟩; have n0_ := Aside0.mk (blk_below (zz6 BK318) hb); have n1_ := Aside0.mk (below_step (zz2 HB GE318) hb); clear BK318; clear HB; have BK318 := n0_; have HB := n1_; clear n0_ n1_; (try clear hb); obtain ⟨_, _, _, _, _, _, _, _⟩ := cf4 BK318) | ((with_reducible refine gate_callee (f := 39) rfl ?_); refine gsL (some 53) Tryd.func39 #[.agg #[.string a0_0, .slice A0_1 l0_1.length c0_1, .bool false, .string a0_3]] ?_; (with_reducible refine (impl_writeAddr.calls a0_0 _ _ l0_1 false a0_3 t324 _ ?side1 ?side2 A29.out).mono ?_); (case side1 => exact (zz32 HR0_1 HB)); (case side2 => exact HC0_1.out); rintro e w33 ⟨rfl, hb⟩; refine ⟨_, rfl, ?_⟩; have n0_ := Aside0.mk (blk_below (zz6 BK318) hb); have n1_ := Aside0.mk (below_step (zz2 HB GE318) hb); clear BK318; clear HB; have BK318 := n0_; have HB := n1_; clear n0_ n1_; (try clear hb)))
          go_ret
          exact ⟨zz1, (zz2 HB GE318)⟩
         ·rw [if_neg c28] at H
          have c28b0 : (a0_3.toList == ([] : List UInt8)) = false := beq_eq_false_iff_ne.mpr c28;have c28b1 : (a0_3.toList != ([] : List UInt8)) = true := bne_iff_ne.mpr c28;obtain rfl := Option.some.inj H;obtain ⟨_, _, _, _, _, _, _, _⟩ := cf4 BK318;go_wp2_with (first | ((with_reducible refine gate_callee (f := 77) rfl ?_); refine gsL (some 40) Tryd.func77 #[.string a0_3] ?_; (with_reducible refine (impl_isNormal.calls k2 a0_3 true _ A20.out).mono ?_); rintro e w35 ⟨rfl, hb⟩; refine ⟨_, rfl, ?_⟩; have n0_ := Aside0.mk (blk_below (zz6 BK318) hb); have n1_ := Aside0.mk (below_step (zz2 HB GE318) hb); clear BK318; clear HB; have BK318 := n0_; have HB := n1_; clear n0_ n1_; (try clear hb); obtain ⟨_, _, _, _, _, _, _, _⟩ := cf4 BK318))
          go_ret
          exact ⟨zz1, (zz2 HB GE318)⟩
       ·replace c21 := Bool.eq_false_iff.mpr c21
        subst c21;rw [if_neg (show ¬ (false = true) by decide)] at H;obtain rfl := Option.some.inj H;obtain ⟨_, _, _, _, _, _, _, _⟩ := cf4 BK318;go_wp2_with (first | ((with_reducible refine gate_callee (f := 77) rfl ?_); refine gsL (some 40) Tryd.func77 #[.string a0_3] ?_; (with_reducible refine (impl_isNormal.calls k2 a0_3 false _ A20.out).mono ?_); rintro e w38 ⟨rfl, hb⟩; refine ⟨_, rfl, ?_⟩; have n0_ := Aside0.mk (blk_below (zz6 BK318) hb); have n1_ := Aside0.mk (below_step (zz2 HB GE318) hb); clear BK318; clear HB; have BK318 := n0_; have HB := n1_; clear n0_ n1_; (try clear hb)))
        go_ret
        exact ⟨zz1, (zz2 HB GE318)⟩
end Go.Proofs.YtpnedbnpnekahaaDoor.P
end
section
namespace Go.Proofs.YtpnedbnpnekahaaDoor.P
open Go.RowKit Go.Proofs.YtpnedbnpnekahaaDoorW.PrintWords Go.Proofs.YtpnedbnpnekahaaDoorW.PrintLast Go.Proofs.YtpnedbnpnekahaaDoorW.PrintMore Go.Proofs.YtpnedbnpnekahaaDoor.B Go.Proofs.YtpnedbnpnekahaaDoor.Ad
set_option linter.unusedVariables false
set_option linter.unusedSimpArgs false
def slices_Clone_string_string.f (l0 : List ByteArray) : Option (List ByteArray) := if l0.length * 16 ≤ 140737488355328 then some l0 else none
theorem slices_Clone_string_string.calls (A0 : Option Addr) (c0 : Nat) (l0 : List ByteArray) (r : List ByteArray) (w : World) (hr0 : Kd.C Kd.string w A0 l0.length l0) (hc0 : l0.length ≤ c0) (h : slices_Clone_string_string.f l0 = some r) :
  Calls Tryd.prog 59 #[.slice A0 l0.length c0] w fun e w' => ∃ v0_ : Value, e = .returned (v0_) ∧ Kd.R Kd.string 9 w' w.heap.size (fun _ => True) v0_ r ∧ Below w.heap.size w w' := by
 unfold slices_Clone_string_string.f at h
 split at h
 ·rename_i hh
  obtain rfl := Option.some.inj h
  rcases Nat.eq_zero_or_pos l0.length with h0 | h0
  ·obtain rfl : l0 = [] := List.length_eq_zero_iff.1 h0
   cases A0 with
   | none => exact (Tryd.slices_Clone_string_nil 0 c0 w).mono fun e w' ⟨he, hw⟩ => ⟨_, he, Kd.R_nil _ _ _ _ _, hw ▸ Below.refl _ _⟩
   | some a => exact (Tryd.slices_Clone_string_zero a c0 w).mono fun e w' ⟨v, he, ho, _, hb⟩ => ⟨v, he, Kd.R_of_own ho (fun _ _ => trivial), hb⟩
  ·obtain ⟨bk, o, rfl, hb, hcells⟩ := row_at hr0 h0
   refine (Tryd.slices_Clone_string bk o l0.length c0 l0 w (Nat.le_refl _) hh (fun j hj => ?_)).mono fun e w' ⟨v, he, ho, _, hb'⟩ => ⟨v, he, Kd.R_of_own ?_ (fun _ _ => trivial), hb'⟩
   ·rw [List.getD_eq_getElem?_getD, List.getElem?_eq_getElem hj]
    exact hcells j _ (List.getElem?_eq_getElem hj)
   ·rw [List.take_length] at ho
    exact ho
 ·cases h
end Go.Proofs.YtpnedbnpnekahaaDoor.P
end
section
namespace Go.Proofs.YtpnedbnpnekahaaDoor.P
open Go.RowKit Go.Proofs.YtpnedbnpnekahaaDoorW.PrintWords Go.Proofs.YtpnedbnpnekahaaDoorW.PrintLast Go.Proofs.YtpnedbnpnekahaaDoorW.PrintMore
attribute [local go_sem] max2_int min2_int max_two min_two max_three min_three max_four min_four
set_option linter.unusedVariables false
set_option linter.unusedSimpArgs false
def impl_readWay.l0 : Nat → ByteArray → ByteArray → Bool → List ByteArray → List ByteArray → Int → Int → Option (ByteArray × List ByteArray × Bool × ByteArray × Bool)
 | 0, _, _, _, _, _, _, _ => none
 | k + 1, x0, x9, x10, x12, x35, x36, x37 => if x37 < x36 then (if 0 ≤ x37 then (if x37 < (x35.length : Int) then ((impl_EscNorm.f k (rdOf ByteArray.empty x35 x37)).bind fun bt338 => (if bt338.2 = true then (if x12.length < 8796093022208 then (impl_readWay.l0 k x0 x9 x10 (x12 ++ [bt338.1]) x35 x36 (wrap64 (x37 + 1))) else (none)) else (some ((⟨#[]⟩ : ByteArray), ([] : List ByteArray), false, (⟨#[]⟩ : ByteArray), false)))) else (none)) else (none)) else ((impl_PathClean.f k x12).bind fun t343 => ((impl_AddrOk.f k x0 t343 x10 x9).bind fun t347 => (if t347 = true then (some (x0, t343, x10, x9, true)) else (some ((⟨#[]⟩ : ByteArray), ([] : List ByteArray), false, (⟨#[]⟩ : ByteArray), false)))))
def impl_readWay.f (k : Nat) (a0 : ByteArray) (l1 : List ByteArray) (a2 : ByteArray) : Option (ByteArray × List ByteArray × Bool × ByteArray × Bool) := (strings_Cut.f a2 (⟨#[63]⟩ : ByteArray)).bind fun bt326 => ((impl_EscNorm.f k bt326.2.1).bind fun bt329 => (if bt329.2 = true then ((slices_Clone_string_string.f l1).bind fun t331 => ((strings_Split.f k bt326.1 (⟨#[47]⟩ : ByteArray)).bind fun t334 => (impl_readWay.l0 k a0 bt329.1 bt326.2.2 t331 t334 (t334.length : Int) 0))) else (some ((⟨#[]⟩ : ByteArray), ([] : List ByteArray), false, (⟨#[]⟩ : ByteArray), false))))
theorem impl_readWay.mono_l : ∀ k, (∀ y0 y1 y2 y3 y4 y5 y6, LeO (impl_readWay.l0 k y0 y1 y2 y3 y4 y5 y6) (impl_readWay.l0 (k + 1) y0 y1 y2 y3 y4 y5 y6))
 | 0 => fun _ _ _ _ _ _ _ r h => by simp [impl_readWay.l0] at h
 | k + 1 => by
  have ih0 := impl_readWay.mono_l k
  ·intro y0 y1 y2 y3 y4 y5 y6
   unfold impl_readWay.l0
   repeat' first | (with_reducible first | exact ih0 _ _ _ _ _ _ _ | exact impl_AddrOk.mono _ _ _ _ _ | exact impl_EscNorm.mono _ _ | exact impl_PathClean.mono _ _ | exact strings_Split.mono _ _ _ | exact LeO.refl _ | exact LeO.none _ | refine LeO.ite ?_ ?_ | refine LeO.bind ?_ (fun _ => ?_)) | exact LeO.none _ | refine LeO.ite ?_ ?_ | refine LeO.bind ?_ (fun _ => ?_)
theorem impl_readWay.mono : ∀ a0 a1 a2 k, LeO (impl_readWay.f k a0 a1 a2) (impl_readWay.f (k + 1) a0 a1 a2) := by
 intro a0 a1 a2 k;have ih0 := impl_readWay.mono_l k;unfold impl_readWay.f
 repeat' first | (with_reducible first | exact ih0 _ _ _ _ _ _ _ | exact impl_AddrOk.mono _ _ _ _ _ | exact impl_EscNorm.mono _ _ | exact impl_PathClean.mono _ _ | exact strings_Split.mono _ _ _ | exact LeO.refl _ | exact LeO.none _ | refine LeO.ite ?_ ?_ | refine LeO.bind ?_ (fun _ => ?_)) | exact LeO.none _ | refine LeO.ite ?_ ?_ | refine LeO.bind ?_ (fun _ => ?_)
set_option maxHeartbeats 8000000 in
set_option maxRecDepth 100000 in
theorem impl_readWay.calls (k : Nat) (a0 : ByteArray) (A1 : Option Addr) (c1 : Nat) (l1 : List ByteArray) (a2 : ByteArray) (r1 : ByteArray) (r2 : List ByteArray) (r3 : Bool) (r4 : ByteArray) (r5 : Bool) (w : World) (hr1 : Kd.C Kd.string w A1 l1.length l1) (hc1 : l1.length ≤ c1) (h : impl_readWay.f k a0 l1 a2 = some (r1, r2, r3, r4, r5)) :
  Calls Tryd.prog 49 #[.string a0, .slice A1 l1.length c1, .string a2] w fun e w' => ∃ v1_ : Value, e = .returned (.tuple #[.agg #[.string r1, v1_, .bool r3, .string r4], .bool r5]) ∧ Kd.R Kd.string 9 w' w.heap.size (fun _ => True) v1_ r2 ∧ Below w.heap.size w w' := by
 have hu47 := Tryd.underlying47;have HR1 := Aside0.mk hr1;have HC1 := Aside0.mk hc1;clear hr1 hc1;have HB := Aside0.mk (Below.refl w.heap.size w);have H : ((strings_Cut.f a2 (⟨#[63]⟩ : ByteArray)).bind fun bt326 => ((impl_EscNorm.f k bt326.2.1).bind fun bt329 => (if bt329.2 = true then ((slices_Clone_string_string.f l1).bind fun t331 => ((strings_Split.f k bt326.1 (⟨#[47]⟩ : ByteArray)).bind fun t334 => (impl_readWay.l0 k a0 bt329.1 bt326.2.2 t331 t334 (t334.length : Int) 0))) else (some ((⟨#[]⟩ : ByteArray), ([] : List ByteArray), false, (⟨#[]⟩ : ByteArray), false))))) = some (r1, r2, r3, r4, r5) := h;clear h;replace H := bindA H;obtain ⟨⟨t326, t327, t328⟩, A4, H⟩ := H;try dsimp -simprocs only at H
 replace H := bindA H;obtain ⟨⟨t329, t330⟩, A5, H⟩ := H;try dsimp -simprocs only at H
 by_cases c6 : t330 = true
 ·subst c6
  rw [if_pos rfl] at H;replace H := bindA H;obtain ⟨t331, A7, H⟩ := H;replace H := bindA H;obtain ⟨t334, A8, H⟩ := H;have H' := Aside0.mk H;clear H;go_enter Tryd.func49, Tryd.ntmps49;go_wp2_with (first | ((with_reducible refine gate_dst (N := 6) rfl ?_); refine boxE 6 #[.string (⟨#[]⟩ : ByteArray), .slice none 0 0, .bool false, .string (⟨#[]⟩ : ByteArray)] 47 ?_; intro gb325 hg w9 hbox hb; have n0_ := Aside0.mk (below_step (zz0 HB) hb); have n1_ := Aside0.mk (hbox); have n2_ := Aside0.mk ((by rw [hg]; exact (below_size (zz0 HB)) : w.heap.size ≤ gb325)); have n3_ := Aside0.mk ((by rw [hg]; exact (below_size (zz0 HB)) : w.heap.size ≤ gb325)); clear HB; have HB := n0_; have BK325 := n1_; have GW325 := n2_; have GE325 := n3_; clear n0_ n1_ n2_ n3_; clear hb hbox hg) | ((with_reducible refine gate_callee (f := 43) rfl ?_); refine gsL (some 20) Tryd.func43 #[.string a2, .string (⟨#[63]⟩ : ByteArray)] ?_; (with_reducible refine (strings_Cut.calls a2 (⟨#[63]⟩ : ByteArray) t326 t327 t328 _ A4.out).mono ?_); rintro e w10 ⟨rfl, hb⟩; refine ⟨_, rfl, ?_⟩; have n0_ := Aside0.mk (blk_below (zz6 BK325) hb); have n1_ := Aside0.mk (below_step (zz2 HB GE325) hb); clear BK325; clear HB; have BK325 := n0_; have HB := n1_; clear n0_ n1_; (try clear hb)) | ((with_reducible refine gate_callee (f := 58) rfl ?_); refine gsL (some 26) Tryd.func58 #[.string t327] ?_; (with_reducible refine (impl_EscNorm.calls k t327 t329 true _ A5.out).mono ?_); rintro e w11 ⟨rfl, hb⟩; refine ⟨_, rfl, ?_⟩; have n0_ := Aside0.mk (blk_below (zz6 BK325) hb); have n1_ := Aside0.mk (below_step (zz2 HB GE325) hb); clear BK325; clear HB; have BK325 := n0_; have HB := n1_; clear n0_ n1_; (try clear hb)) | ((with_reducible refine gate_callee (f := 59) rfl ?_); refine gsL (some 33) Tryd.func59 #[.slice A1 l1.length c1] ?_; (with_reducible refine (slices_Clone_string_string.calls _ _ l1 t331 _ ?side1 ?side2 A7.out).mono ?_); (case side1 => exact (zz32 HR1 HB)); (case side2 => exact HC1.out); rintro e w12 ⟨v332, rfl, ho0, hb⟩; refine ⟨_, rfl, ?_⟩; have n0_ := Aside0.mk (Kd.R_lower ho0 (below_size (zz2 HB GE325))); have n1_ := Aside0.mk (blk_below (zz6 BK325) hb); have n2_ := Aside0.mk (below_step (zz2 HB GE325) hb); clear BK325; clear HB; have HO333 := n0_; have BK325 := n1_; have HB := n2_; clear n0_ n1_ n2_; (try clear hb ho0)) | ((with_reducible refine gate_callee (f := 60) rfl ?_); refine gsL (some 35) Tryd.func60 #[.string t326, .string (⟨#[47]⟩ : ByteArray)] ?_; (with_reducible refine (strings_Split.calls k t326 (⟨#[47]⟩ : ByteArray) t334 _ A8.out).mono ?_); rintro e w13 ⟨v335, rfl, ho0, hb⟩; refine ⟨_, rfl, ?_⟩; have n0_ := Aside0.mk (Kd.R_elder' (zz10 HO333) (Kd.R_base ho0) hb); have n1_ := Aside0.mk (Kd.R_lower (Kd.R_new' ho0 (Kd.R_lt (zz10 HO333))) (below_size (zz2 HB GE325))); have n2_ := Aside0.mk (blk_below (zz6 BK325) hb); have n3_ := Aside0.mk (below_step (zz2 HB GE325) hb); clear HO333; clear BK325; clear HB; have HO333 := n0_; have HO336 := n1_; have BK325 := n2_; have HB := n3_; clear n0_ n1_ n2_ n3_; (try clear hb ho0); obtain ⟨Ao14, co14, eo14⟩ := Kd.R_slice HO336.out; subst eo14))
  go_loopg [12, 37] k (fun kq v12 v37 w' => ∃ (x12_1 : List ByteArray) (x37_1 : Int) (x326000_1 : ByteArray) (x326002_1 : Bool) (x326003_1 : ByteArray), v37 = .int .i64 x37_1 ∧ Aside0 (impl_readWay.l0 kq a0 t329 t328 x12_1 t334 (t334.length : Int) x37_1 = some (r1, r2, r3, r4, r5)) ∧ Aside0 (kq ≤ k) ∧ Aside0 (Kd.R Kd.string 9 w' w.heap.size (fun k_ => some k_ ≠ ((.slice Ao14 t334.length co14) : Value).ownBlock) v12 x12_1) ∧ Aside0 (Kd.R Kd.string 9 w' w.heap.size (fun k_ => some k_ ≠ (v12 : Value).ownBlock) (.slice Ao14 t334.length co14) t334) ∧ Aside0 (w'.heap[gb325]? = some (.cells #[.string x326000_1, (.slice none 0 0), .bool x326002_1, .string x326003_1] 47 (0, 0))) ∧ Aside0 (Below w.heap.size w w'))
  case atStart => exact ⟨(t331), (0), ((⟨#[]⟩ : ByteArray)), (false), ((⟨#[]⟩ : ByteArray)), zz3, H', ⟨Nat.le_refl _⟩, ⟨(zz40 HO333)⟩, ⟨(zz40 HO336)⟩, ⟨(zz6 BK325)⟩, ⟨(zz2 HB GE325)⟩⟩
  case round =>
   clear H';obtain ⟨x12_1, x37_1, x326000_1, x326002_1, x326003_1, rfl, HA, HK1, HO_12, HO_35, BK325, HB⟩ := hrel;cases gk with
   | zero => exact absurd HA.out (by simp [impl_readWay.l0])
   | succ k1 =>
    have H := HA.out;clear HA;simp only [impl_readWay.l0] at H
    by_cases c15 : x37_1 < (t334.length : Int)
    ·rw [if_pos c15] at H
     have c15b0 : decide (x37_1 < (t334.length : Int)) = true := decide_eq_true c15;clear c15;by_cases c16 : 0 ≤ x37_1
     ·rw [if_pos c16] at H
      have c16b0 : decide (0 ≤ x37_1) = true := decide_eq_true c16;clear c16;by_cases c17 : x37_1 < (t334.length : Int)
      ·rw [if_pos c17] at H
       have c17b0 : decide (x37_1 < (t334.length : Int)) = true := decide_eq_true c17;clear c17;replace H := bindA H;obtain ⟨⟨t338, t339⟩, A18, H⟩ := H;try dsimp -simprocs only at H
       by_cases c19 : t339 = true
       ·subst c19
        rw [if_pos rfl] at H;by_cases c20 : x12_1.length < 8796093022208
        ·rw [if_pos c20] at H
         have LMc20 := Aside0.mk c20;clear c20;obtain ⟨y340, Ny340⟩ := toY (x12_1 ++ [t338]);(first | with_reducible replace H := bindZ Ny340 H | rw [← Ny340.out] at H | skip)
         have H' := Aside0.mk H;clear H;have p337 : 0 ≤ (x37_1 : Int) := ofD;have q337 : x37_1 < (t334.length : Int) := ofD;obtain ⟨ad337, e337, hx337_0⟩ := Kd.at_string (Kd.R_reads' HO_35.out).2.2 x37_1 p337 q337;cases e337
         replace p337 := eq_true p337;replace q337 := eq_true q337;go_wp2_with (first | ((with_reducible refine gate_callee (f := 58) rfl ?_); refine gsL (some 43) Tryd.func58 #[.string (rdOf ByteArray.empty t334 x37_1)] ?_; (with_reducible refine (impl_EscNorm.calls k1 (rdOf ByteArray.empty t334 x37_1) t338 true _ A18.out).mono ?_); rintro e w21 ⟨rfl, hb⟩; refine ⟨_, rfl, ?_⟩; have n0_ := Aside0.mk (Kd.R_below (zz10 HO_12) hb); have n1_ := Aside0.mk (Kd.R_below (zz10 HO_35) hb); have n2_ := Aside0.mk (blk_below (zz6 BK325) hb); have n3_ := Aside0.mk (below_step (zz2 HB GE325) hb); clear HO_12; clear HO_35; clear BK325; clear HB; have HO_12 := n0_; have HO_35 := n1_; have BK325 := n2_; have HB := n3_; clear n0_ n1_ n2_ n3_; (try clear hb)) | ((with_reducible refine gate_builtin (b := .append) (xs := #[.tmp 49, .tmp 51]) rfl ?_); at_builtin; refine Kd.R_append Kd.string (w0 := w) w.heap.size rfl (.tmp 49) (.tmp 51) 45 9 (.string ⟨#[]⟩) 16 rfl Tryd.underlying45 info9 rfl (by decide) (by omega) u12 x12_1 t338 [.string t338] (fun k_ => some k_ ≠ (.slice (some ad337) t334.length co14 : Value).ownBlock) (fun _ => False) rfl rfl ?aP (fun _ hk => hk.elim) ?aF ?aO ?aB ?aS ?aL ?_; (case aP => exact rfl); (case aB => exact (zz2 HB GE325)); (case aF => exact (fun k_ hk => Kd.fresh' (Kd.R_lt (zz10 HO_35)) k_ hk)); (case aO => exact (zz10 HO_12)); (case aS => exact (below_size (zz2 HB GE325))); (case aL => exact (zz5 LMc20)); intro v341 w22 ho hb hg hat; rw [← Ny340.out] at ho; have n0_ := Aside0.mk (Kd.R_after (ok := (fun _ => True)) (zz42 HO_35) hg hat); have n1_ := Aside0.mk (blk_grown (zz6 BK325) hg (Kd.R_ne HO_12.out BK325.out (by decide))); have n2_ := Aside0.mk (hb); have n3_ := Aside0.mk (ho); clear HO_35; clear BK325; clear HB; clear HO_12; have HO_35 := n0_; have BK325 := n1_; have HB := n2_; have HO342 := n3_; clear n0_ n1_ n2_ n3_; clear ho hb hg hat))
         go_roundg k1
         case measure => have := HK1.out; omega
         case rel => exact ⟨(y340), (wrap64 (x37_1 + 1)), (x326000_1), (x326002_1), (x326003_1), zz3, H', ⟨(zz5 HK1)⟩, ⟨(zz10 HO342)⟩, ⟨(zz40 HO_35)⟩, ⟨(zz6 BK325)⟩, ⟨(zz2 HB GE325)⟩⟩
        ·rw [if_neg c20] at H
         exact absurd H (by simp)
       ·replace c19 := Bool.eq_false_iff.mpr c19
        subst c19;rw [if_neg (show ¬ (false = true) by decide)] at H;simp only [Option.some.injEq, Prod.mk.injEq] at H
        obtain ⟨rfl, rfl, rfl, rfl, rfl⟩ := H;have p337 : 0 ≤ (x37_1 : Int) := ofD;have q337 : x37_1 < (t334.length : Int) := ofD;obtain ⟨ad337, e337, hx337_0⟩ := Kd.at_string (Kd.R_reads' HO_35.out).2.2 x37_1 p337 q337;cases e337
        replace p337 := eq_true p337;replace q337 := eq_true q337;go_wp2_with (first | ((with_reducible refine gate_callee (f := 58) rfl ?_); refine gsL (some 43) Tryd.func58 #[.string (rdOf ByteArray.empty t334 x37_1)] ?_; (with_reducible refine (impl_EscNorm.calls k1 (rdOf ByteArray.empty t334 x37_1) t338 false _ A18.out).mono ?_); rintro e w23 ⟨rfl, hb⟩; refine ⟨_, rfl, ?_⟩; have n0_ := Aside0.mk (Kd.R_below (zz10 HO_12) hb); have n1_ := Aside0.mk (Kd.R_below (zz10 HO_35) hb); have n2_ := Aside0.mk (blk_below (zz6 BK325) hb); have n3_ := Aside0.mk (below_step (zz2 HB GE325) hb); clear HO_12; clear HO_35; clear BK325; clear HB; have HO_12 := n0_; have HO_35 := n1_; have BK325 := n2_; have HB := n3_; clear n0_ n1_ n2_ n3_; (try clear hb); obtain ⟨_, _, _, _, _, _, _, _⟩ := cf4 BK325))
        refine bodyPost_ret (results_ct rfl _ _ gb325 47 #[.string (⟨#[]⟩ : ByteArray), .slice none 0 0, .bool false, .string (⟨#[]⟩ : ByteArray)] (0, 0) _ rfl (zz43 BK325) Tryd.underlying47 rfl (by kernel_rfl)) rfl ?_;exact ⟨_, zz1, zz44, (zz2 HB GE325)⟩
      ·rw [if_neg c17] at H
       exact absurd H (by simp)
     ·rw [if_neg c16] at H
      exact absurd H (by simp)
    ·rw [if_neg c15] at H
     have c15b0 : decide (x37_1 < (t334.length : Int)) = false := decide_eq_false c15;clear c15;replace H := bindA H;obtain ⟨t343, A25, H⟩ := H;replace H := bindA H;obtain ⟨t347, A26, H⟩ := H;by_cases c27 : t347 = true
     ·subst c27
      rw [if_pos rfl] at H;simp only [Option.some.injEq, Prod.mk.injEq] at H
      obtain ⟨rfl, rfl, rfl, rfl, rfl⟩ := H;obtain ⟨Ao28, co28, eo28⟩ := Kd.R_slice HO_12.out;subst eo28;go_wp2_with (first | ((with_reducible refine gate_callee (f := 61) rfl ?_); refine gsL (some 56) Tryd.func61 #[.slice Ao28 x12_1.length co28] ?_; (with_reducible refine (impl_PathClean.calls k1 _ _ x12_1 t343 _ ?side1 ?side2 A25.out).mono ?_); (case side1 => exact (zz45 HO_12)); (case side2 => exact (Kd.R_reads' HO_12.out).2.1); rintro e w29 ⟨v344, rfl, ho0, hb⟩; refine ⟨_, rfl, ?_⟩; have n0_ := Aside0.mk (Kd.R_elder' (zz10 HO_12) (Kd.R_base ho0) hb); have n1_ := Aside0.mk (Kd.R_elder' (zz10 HO_35) (Kd.R_base ho0) hb); have n2_ := Aside0.mk (Kd.R_lower (Kd.R_new' (Kd.R_new' ho0 (Kd.R_lt (zz10 HO_12))) (Kd.R_lt (zz10 HO_35))) (below_size (zz2 HB GE325))); have n3_ := Aside0.mk (blk_below (zz6 BK325) hb); have n4_ := Aside0.mk (below_step (zz2 HB GE325) hb); clear HO_12; clear HO_35; clear BK325; clear HB; have HO_12 := n0_; have HO_35 := n1_; have HO345 := n2_; have BK325 := n3_; have HB := n4_; clear n0_ n1_ n2_ n3_ n4_; (try clear hb ho0); obtain ⟨Ao30, co30, eo30⟩ := Kd.R_slice HO345.out; subst eo30) | ((with_reducible refine gate_dst (N := 17) rfl ?_); refine boxE 17 #[.string (⟨#[]⟩ : ByteArray), .slice none 0 0, .bool false, .string (⟨#[]⟩ : ByteArray)] 47 ?_; intro gb346 hg w31 hbox hb; have n0_ := Aside0.mk (Kd.R_below (zz10 HO_12) hb); have n1_ := Aside0.mk (Kd.R_below (zz10 HO_35) hb); have n2_ := Aside0.mk (Kd.R_below (zz10 HO345) hb); have n3_ := Aside0.mk (blk_below (zz6 BK325) hb); have n4_ := Aside0.mk (below_step (zz2 HB GE325) hb); have n5_ := Aside0.mk (hbox); have n6_ := Aside0.mk ((by rw [hg]; exact (below_size (zz2 HB GE325)) : w.heap.size ≤ gb346)); have n7_ := Aside0.mk ((by rw [hg]; exact (below_size (zz2 HB GE325)) : w.heap.size ≤ gb346)); have n8_ := Aside0.mk ((by rw [hg]; exact Nat.ne_of_lt (blk_lt (zz6 BK325)) : gb325 ≠ gb346)); have n9_ := Aside0.mk ((by rw [hg]; exact Nat.ne_of_gt (blk_lt (zz6 BK325)) : gb346 ≠ gb325)); clear HO_12; clear HO_35; clear HO345; clear BK325; clear HB; have HO_12 := n0_; have HO_35 := n1_; have HO345 := n2_; have BK325 := n3_; have HB := n4_; have BK346 := n5_; have GW346 := n6_; have GE346 := n7_; have NB325_346 := n8_; have NB346_325 := n9_; clear n0_ n1_ n2_ n3_ n4_ n5_ n6_ n7_ n8_ n9_; clear hb hbox hg; have hnb32 := NB346_325.out; have hnc32 := NB325_346.out; obtain ⟨_, _, _, _, _, _, _, _⟩ := cf4 BK346) | ((with_reducible refine gate_callee (f := 62) rfl ?_); refine gsL (some 61) Tryd.func62 #[.agg #[.string a0, .slice Ao30 t343.length co30, .bool t328, .string t329]] ?_; (with_reducible refine (impl_AddrOk.calls k1 a0 _ _ t343 t328 t329 true _ ?side1 ?side2 A26.out).mono ?_); (case side1 => exact (by refine (Kd.R_reads' (e := 9) (base := w.heap.size) (ok := fun k_ => ((True ∧ some k_ ≠ (.slice Ao28 x12_1.length co28 : Value).ownBlock) ∧ some k_ ≠ (.slice Ao14 t334.length co14 : Value).ownBlock)) (n := t343.length) (c := co30) ?_).2.2; exact (zz89 HO345 BK346))); (case side2 => exact (Kd.R_reads' HO345.out).2.1); rintro e w34 ⟨rfl, hb⟩; refine ⟨_, rfl, ?_⟩; have n0_ := Aside0.mk (Kd.R_below (zz89 HO_12 BK346) hb); have n1_ := Aside0.mk (Kd.R_below (zz89 HO_35 BK346) hb); have n2_ := Aside0.mk (Kd.R_below (zz89 HO345 BK346) hb); have n3_ := Aside0.mk (blk_below (g := gb325) (o := .cells #[.string x326000_1, .slice none 0 0, .bool x326002_1, .string x326003_1] 47 (0, 0)) (zz8 BK325 NB325_346) hb); have n4_ := Aside0.mk (blk_below (g := gb346) (o := .cells #[.string a0, .slice Ao30 t343.length co30, .bool t328, .string t329] 47 (0, 0)) (zz43 BK346) hb); have n5_ := Aside0.mk (below_step (zz7 HB GE325 GE346) hb); clear HO_12; clear HO_35; clear HO345; clear BK325; clear BK346; clear HB; have HO_12 := n0_; have HO_35 := n1_; have HO345 := n2_; have BK325 := n3_; have BK346 := n4_; have HB := n5_; clear n0_ n1_ n2_ n3_ n4_ n5_; (try clear hb); obtain ⟨_, _, _, _, _, _, _, _⟩ := cf4 BK346; obtain ⟨_, _, _, _, _, _, _, _⟩ := cf4 BK325))
      refine bodyPost_ret (results_ct rfl _ _ gb325 47 #[.string a0, .slice Ao30 t343.length co30, .bool t328, .string t329] (0, 0) _ rfl (zz43 BK325) Tryd.underlying47 rfl (by kernel_rfl)) rfl ?_;exact ⟨_, zz1, (zz50 (rt HO345 BK325)), (zz7 HB GE325 GE346)⟩
     ·replace c27 := Bool.eq_false_iff.mpr c27
      subst c27;rw [if_neg (show ¬ (false = true) by decide)] at H;simp only [Option.some.injEq, Prod.mk.injEq] at H
      obtain ⟨rfl, rfl, rfl, rfl, rfl⟩ := H;obtain ⟨Ao37, co37, eo37⟩ := Kd.R_slice HO_12.out;subst eo37;go_wp2_with (first | ((with_reducible refine gate_callee (f := 61) rfl ?_); refine gsL (some 56) Tryd.func61 #[.slice Ao37 x12_1.length co37] ?_; (with_reducible refine (impl_PathClean.calls k1 _ _ x12_1 t343 _ ?side1 ?side2 A25.out).mono ?_); (case side1 => exact (zz45 HO_12)); (case side2 => exact (Kd.R_reads' HO_12.out).2.1); rintro e w38 ⟨v344, rfl, ho0, hb⟩; refine ⟨_, rfl, ?_⟩; have n0_ := Aside0.mk (Kd.R_elder' (zz10 HO_12) (Kd.R_base ho0) hb); have n1_ := Aside0.mk (Kd.R_elder' (zz10 HO_35) (Kd.R_base ho0) hb); have n2_ := Aside0.mk (Kd.R_lower (Kd.R_new' (Kd.R_new' ho0 (Kd.R_lt (zz10 HO_12))) (Kd.R_lt (zz10 HO_35))) (below_size (zz2 HB GE325))); have n3_ := Aside0.mk (blk_below (zz6 BK325) hb); have n4_ := Aside0.mk (below_step (zz2 HB GE325) hb); clear HO_12; clear HO_35; clear BK325; clear HB; have HO_12 := n0_; have HO_35 := n1_; have HO345 := n2_; have BK325 := n3_; have HB := n4_; clear n0_ n1_ n2_ n3_ n4_; (try clear hb ho0); obtain ⟨Ao39, co39, eo39⟩ := Kd.R_slice HO345.out; subst eo39) | ((with_reducible refine gate_dst (N := 17) rfl ?_); refine boxE 17 #[.string (⟨#[]⟩ : ByteArray), .slice none 0 0, .bool false, .string (⟨#[]⟩ : ByteArray)] 47 ?_; intro gb346 hg w40 hbox hb; have n0_ := Aside0.mk (Kd.R_below (zz10 HO_12) hb); have n1_ := Aside0.mk (Kd.R_below (zz10 HO_35) hb); have n2_ := Aside0.mk (Kd.R_below (zz10 HO345) hb); have n3_ := Aside0.mk (blk_below (zz6 BK325) hb); have n4_ := Aside0.mk (below_step (zz2 HB GE325) hb); have n5_ := Aside0.mk (hbox); have n6_ := Aside0.mk ((by rw [hg]; exact (below_size (zz2 HB GE325)) : w.heap.size ≤ gb346)); have n7_ := Aside0.mk ((by rw [hg]; exact (below_size (zz2 HB GE325)) : w.heap.size ≤ gb346)); have n8_ := Aside0.mk ((by rw [hg]; exact Nat.ne_of_lt (blk_lt (zz6 BK325)) : gb325 ≠ gb346)); have n9_ := Aside0.mk ((by rw [hg]; exact Nat.ne_of_gt (blk_lt (zz6 BK325)) : gb346 ≠ gb325)); clear HO_12; clear HO_35; clear HO345; clear BK325; clear HB; have HO_12 := n0_; have HO_35 := n1_; have HO345 := n2_; have BK325 := n3_; have HB := n4_; have BK346 := n5_; have GW346 := n6_; have GE346 := n7_; have NB325_346 := n8_; have NB346_325 := n9_; clear n0_ n1_ n2_ n3_ n4_ n5_ n6_ n7_ n8_ n9_; clear hb hbox hg; have hnb41 := NB346_325.out; have hnc41 := NB325_346.out; obtain ⟨_, _, _, _, _, _, _, _⟩ := cf4 BK346) | ((with_reducible refine gate_callee (f := 62) rfl ?_); refine gsL (some 61) Tryd.func62 #[.agg #[.string a0, .slice Ao39 t343.length co39, .bool t328, .string t329]] ?_; (with_reducible refine (impl_AddrOk.calls k1 a0 _ _ t343 t328 t329 false _ ?side1 ?side2 A26.out).mono ?_); (case side1 => exact (by refine (Kd.R_reads' (e := 9) (base := w.heap.size) (ok := fun k_ => ((True ∧ some k_ ≠ (.slice Ao37 x12_1.length co37 : Value).ownBlock) ∧ some k_ ≠ (.slice Ao14 t334.length co14 : Value).ownBlock)) (n := t343.length) (c := co39) ?_).2.2; exact (zz91 HO345 BK346))); (case side2 => exact (Kd.R_reads' HO345.out).2.1); rintro e w43 ⟨rfl, hb⟩; refine ⟨_, rfl, ?_⟩; have n0_ := Aside0.mk (Kd.R_below (zz91 HO_12 BK346) hb); have n1_ := Aside0.mk (Kd.R_below (zz91 HO_35 BK346) hb); have n2_ := Aside0.mk (Kd.R_below (zz91 HO345 BK346) hb); have n3_ := Aside0.mk (blk_below (g := gb325) (o := .cells #[.string x326000_1, .slice none 0 0, .bool x326002_1, .string x326003_1] 47 (0, 0)) (zz8 BK325 NB325_346) hb); have n4_ := Aside0.mk (blk_below (g := gb346) (o := .cells #[.string a0, .slice Ao39 t343.length co39, .bool t328, .string t329] 47 (0, 0)) (zz43 BK346) hb); have n5_ := Aside0.mk (below_step (zz7 HB GE325 GE346) hb); clear HO_12; clear HO_35; clear HO345; clear BK325; clear BK346; clear HB; have HO_12 := n0_; have HO_35 := n1_; have HO345 := n2_; have BK325 := n3_; have BK346 := n4_; have HB := n5_; clear n0_ n1_ n2_ n3_ n4_ n5_; (try clear hb); obtain ⟨_, _, _, _, _, _, _, _⟩ := cf4 BK325))
      refine bodyPost_ret (results_ct rfl _ _ gb325 47 #[.string (⟨#[]⟩ : ByteArray), .slice none 0 0, .bool false, .string (⟨#[]⟩ : ByteArray)] (0, 0) _ rfl (zz43 BK325) Tryd.underlying47 rfl (by kernel_rfl)) rfl ?_;exact ⟨_, zz1, zz44, (zz7 HB GE325 GE346)⟩
 ·replace c6 := Bool.eq_false_iff.mpr c6
  subst c6;rw [if_neg (show ¬ (false = true) by decide)] at H;simp only [Option.some.injEq, Prod.mk.injEq] at H
  obtain ⟨rfl, rfl, rfl, rfl, rfl⟩ := H;go_enter Tryd.func49, Tryd.ntmps49;go_wp2_with (first | ((with_reducible refine gate_dst (N := 6) rfl ?_); refine boxE 6 #[.string (⟨#[]⟩ : ByteArray), .slice none 0 0, .bool false, .string (⟨#[]⟩ : ByteArray)] 47 ?_; intro gb325 hg w45 hbox hb; have n0_ := Aside0.mk (below_step (zz0 HB) hb); have n1_ := Aside0.mk (hbox); have n2_ := Aside0.mk ((by rw [hg]; exact (below_size (zz0 HB)) : w.heap.size ≤ gb325)); have n3_ := Aside0.mk ((by rw [hg]; exact (below_size (zz0 HB)) : w.heap.size ≤ gb325)); clear HB; have HB := n0_; have BK325 := n1_; have GW325 := n2_; have GE325 := n3_; clear n0_ n1_ n2_ n3_; clear hb hbox hg) | ((with_reducible refine gate_callee (f := 43) rfl ?_); refine gsL (some 20) Tryd.func43 #[.string a2, .string (⟨#[63]⟩ : ByteArray)] ?_; (with_reducible refine (strings_Cut.calls a2 (⟨#[63]⟩ : ByteArray) t326 t327 t328 _ A4.out).mono ?_); rintro e w46 ⟨rfl, hb⟩; refine ⟨_, rfl, ?_⟩; have n0_ := Aside0.mk (blk_below (zz6 BK325) hb); have n1_ := Aside0.mk (below_step (zz2 HB GE325) hb); clear BK325; clear HB; have BK325 := n0_; have HB := n1_; clear n0_ n1_; (try clear hb)) | ((with_reducible refine gate_callee (f := 58) rfl ?_); refine gsL (some 26) Tryd.func58 #[.string t327] ?_; (with_reducible refine (impl_EscNorm.calls k t327 t329 false _ A5.out).mono ?_); rintro e w47 ⟨rfl, hb⟩; refine ⟨_, rfl, ?_⟩; have n0_ := Aside0.mk (blk_below (zz6 BK325) hb); have n1_ := Aside0.mk (below_step (zz2 HB GE325) hb); clear BK325; clear HB; have BK325 := n0_; have HB := n1_; clear n0_ n1_; (try clear hb); obtain ⟨_, _, _, _, _, _, _, _⟩ := cf4 BK325))
  refine bodyPost_ret (results_ct rfl _ _ gb325 47 #[.string (⟨#[]⟩ : ByteArray), .slice none 0 0, .bool false, .string (⟨#[]⟩ : ByteArray)] (0, 0) _ rfl (zz43 BK325) Tryd.underlying47 rfl (by kernel_rfl)) rfl ?_;exact ⟨_, zz1, zz44, (zz2 HB GE325)⟩
end Go.Proofs.YtpnedbnpnekahaaDoor.P
end
section
namespace Go.Proofs.YtpnedbnpnekahaaDoor.P
open Go.RowKit Go.Proofs.YtpnedbnpnekahaaDoorW.PrintWords Go.Proofs.YtpnedbnpnekahaaDoorW.PrintLast Go.Proofs.YtpnedbnpnekahaaDoorW.PrintMore Go.Proofs.YtpnedbnpnekahaaDoor.B Go.Proofs.YtpnedbnpnekahaaDoor.Ad
set_option linter.unusedVariables false
set_option linter.unusedSimpArgs false
def impl_smallLetters.f (a0 : ByteArray) : Option (ByteArray) := if a0.size ≤ 140737488351232 then some (smallB a0) else none
set_option maxHeartbeats 400000 in
set_option maxRecDepth 100000 in
theorem impl_smallLetters.calls (a0 r : ByteArray) (w : World) (h : impl_smallLetters.f a0 = some r) :
  Calls Tryd.prog 50 #[.string a0] w fun e w' => e = .returned (.string r) ∧ Below w.heap.size w w' := by
 unfold impl_smallLetters.f at h
 by_cases hs : a0.size ≤ 140737488351232
 ·rw [if_pos hs] at h
  obtain rfl := Option.some.inj h
  clear h
  have hcv := Lib.run_convert_string_bytes (P := Tryd.prog) w 9 63 5 a0 Tryd.underlying9 Tryd.underlying63 Tryd.underlying5
  go_enter Tryd.func50, Tryd.ntmps50
  go_wp2_with fail
  clear hcv
  go_loopw [10] (fun i wr => ∃ k : Nat, k ≤ a0.size ∧ i = .int .i64 k ∧ Aside0 (SmRow w.heap.size a0 k wr) ∧ Aside0 (Below w.heap.size w wr))
   (fun i _ => a0.size - (intOf i).toNat)
  case atStart =>
   refine ⟨0, Nat.zero_le _, rfl, ⟨sm_start w 5 a0⟩, ⟨?_⟩⟩
   exact sm_below w 5 a0
  case round =>
   obtain ⟨k, hk, rfl, hI, hB⟩ := hrel
   by_cases hlt : k < a0.size
   ·have hc := (hI.out.2 k hlt).1
    have hf := (hI.out.2 k hlt).2
    rw [if_neg (by omega)] at hc
    have hset := Aside0.mk (sm_set hI.out hlt)
    have hskip := Aside0.mk (sm_skip hI.out hlt)
    clear hI
    generalize (L a0).getD k 0 = b at hc hset hskip
    have hb := b.toNat_lt
    by_cases h1 : 65 ≤ b.toNat
    ·by_cases h2 : b.toNat ≤ 90
     ·have e1 : (sm b).toNat = b.toNat + 32 := by
       unfold sm
       rw [if_pos ⟨h1, h2⟩, UInt8.toNat_add]
       have : (32 : UInt8).toNat = 32 := rfl
       omega
      rw [e1, show ((b.toNat + 32 : Nat) : Int) = (b.toNat : Int) + 32 from by omega] at hset
      clear hskip e1
      go_wp2
      exact ⟨⟨k + 1, by omega, by go_num, hset, ⟨hB.out.setCell (Nat.le_refl _) _⟩⟩, by simp [intOf]; omega⟩
     ·have e1 : sm b = b := by unfold sm; rw [if_neg (by omega)]
      have hS : Aside0 (SmRow w.heap.size a0 (k + 1) wr) := ⟨hskip.out e1⟩
      clear e1 hset hskip
      go_wp2
      exact ⟨⟨k + 1, by omega, by go_num, hS, hB⟩, by simp [intOf]; omega⟩
    ·have e1 : sm b = b := by unfold sm; rw [if_neg (by omega)]
     have hS : Aside0 (SmRow w.heap.size a0 (k + 1) wr) := ⟨hskip.out e1⟩
     clear e1 hset hskip
     go_wp2
     exact ⟨⟨k + 1, by omega, by go_num, hS, hB⟩, by simp [intOf]; omega⟩
   ·have ek : k = a0.size := by omega
    have hcells : ∀ j (hj : j < (L (smallB a0)).length), wr.cell? ((⟨w.heap.size, 0, none⟩ : Addr).add j) = some (.int .u8 ((L (smallB a0))[j].toNat : Int)) := by
     intro j hj
     have hj' : j < a0.size := by rw [L_size, smallB, ofL_size, List.length_map, L_size] at hj; exact hj
     rw [add_plain, (hI.out.2 j hj').1, if_pos (by omega)]
     simp [smallB, L_of, List.getD_eq_getElem?_getD, List.getElem?_eq_getElem (show j < (L a0).length by rw [L_size]; exact hj')]
    have hcv := run_convert_bytes_back (P := Tryd.prog) wr 63 9 5 ⟨w.heap.size, 0, none⟩ (grownCap w a0.size 0 5) (L (smallB a0)) Tryd.underlying63 Tryd.underlying5 Tryd.underlying9 hcells
    have hl : (L (smallB a0)).length = a0.size := by rw [L_size, smallB, ofL_size, List.length_map, L_size]
    rw [hl, show (⟨(L (smallB a0)).toArray⟩ : ByteArray) = smallB a0 from of_L _] at hcv
    have Hk := Aside0.mk ek
    clear ek hcells hl
    go_wp2
    go_ret
    exact ⟨rfl, hB.out⟩
 ·rw [if_neg hs] at h; cases h
end Go.Proofs.YtpnedbnpnekahaaDoor.P
end
section
namespace Go.Proofs.YtpnedbnpnekahaaDoor.P
open Go.RowKit Go.Proofs.YtpnedbnpnekahaaDoorW.PrintWords Go.Proofs.YtpnedbnpnekahaaDoorW.PrintLast Go.Proofs.YtpnedbnpnekahaaDoorW.PrintMore Go.Proofs.YtpnedbnpnekahaaDoor.B Go.Proofs.YtpnedbnpnekahaaDoor.Ad
set_option linter.unusedVariables false
set_option linter.unusedSimpArgs false
def sq : ByteArray := ⟨#[47, 63]⟩
theorem sq_at : sq.size = 2 ∧ (∀ h : 0 < sq.size, (sq[0]'h).toNat = 47) ∧ (∀ h : 1 < sq.size, (sq[1]'h).toNat = 63) := by decide +kernel
theorem valid_same (r : Int) : Utf8.valid r = Lib.validRune r := by
 unfold Utf8.valid Lib.validRune
 rw [Bool.eq_iff_iff]
 simp only [Bool.or_eq_true, Bool.and_eq_true, decide_eq_true_eq]
 omega
theorem decode_skip (s : ByteArray) (pos : Nat) (h : pos < s.size) (ha : 128 ≤ (s[pos]'h).toNat) :
  pos + (Utf8.decode s pos).2 ≤ s.size ∧ ∀ j, pos ≤ j → j < pos + (Utf8.decode s pos).2 → ∀ hj : j < s.size, 128 ≤ (s[j]'hj).toNat := by
 have hn : ¬ (s[pos]'h).toNat < 128 := by omega
 have one : pos + 1 ≤ s.size ∧ ∀ j, pos ≤ j → j < pos + 1 → ∀ hj : j < s.size, 128 ≤ (s[j]'hj).toNat := by
  refine ⟨h, fun j h1 h2 hj => ?_⟩
  obtain rfl : j = pos := by omega
  exact ha
 have cont : ∀ k, (decide (pos + k < s.size) && ((s.get! (pos + k)).toNat / 64 == 2)) = true → pos + k < s.size ∧ ∀ hj : pos + k < s.size, 128 ≤ (s[pos + k]'hj).toNat := by
  intro k hk
  simp only [Bool.and_eq_true, decide_eq_true_eq, beq_iff_eq] at hk
  refine ⟨hk.1, fun hj => ?_⟩
  have e := get_at s (pos + k) hj
  rw [Nat.add_zero] at e
  rw [e] at hk
  omega
 simp only [Utf8.decode, get_at s pos h, hn, if_false]
 split
 ·rename_i h1
  simp only [Bool.and_eq_true] at h1
  obtain ⟨l1, b1⟩ := cont 1 (by simpa using h1.2)
  split
  ·refine ⟨by show pos + 2 ≤ _; omega, fun j h2 h3 hj => ?_⟩
   have h3' : j < pos + 2 := h3
   rcases (by omega : j = pos ∨ j = pos + 1) with e | e
   ·subst e; exact ha
   ·subst e; exact b1 hj
  ·exact one
 ·split
  ·rename_i _ h1
   simp only [Bool.and_eq_true] at h1
   obtain ⟨l1, b1⟩ := cont 1 (by simpa using h1.1.2)
   obtain ⟨l2, b2⟩ := cont 2 (by simpa using h1.2)
   split
   ·refine ⟨by show pos + 3 ≤ _; omega, fun j h2 h3 hj => ?_⟩
    have h3' : j < pos + 3 := h3
    rcases (by omega : j = pos ∨ j = pos + 1 ∨ j = pos + 2) with e | e | e
    ·subst e; exact ha
    ·subst e; exact b1 hj
    ·subst e; exact b2 hj
   ·exact one
  ·split
   ·rename_i _ _ h1
    simp only [Bool.and_eq_true] at h1
    obtain ⟨l1, b1⟩ := cont 1 (by simpa using h1.1.1.2)
    obtain ⟨l2, b2⟩ := cont 2 (by simpa using h1.1.2)
    obtain ⟨l3, b3⟩ := cont 3 (by simpa using h1.2)
    split
    ·refine ⟨by show pos + 4 ≤ _; omega, fun j h2 h3 hj => ?_⟩
     have h3' : j < pos + 4 := h3
     rcases (by omega : j = pos ∨ j = pos + 1 ∨ j = pos + 2 ∨ j = pos + 3) with e | e | e | e
     ·subst e; exact ha
     ·subst e; exact b1 hj
     ·subst e; exact b2 hj
     ·subst e; exact b3 hj
    ·exact one
   ·exact one
theorem noAny_skip {s : ByteArray} {pos n : Nat} (h : Lib.NoAny (L s) (L sq) pos) (hb : ∀ j, pos ≤ j → j < pos + n → ∀ hj : j < s.size, 128 ≤ (s[j]'hj).toNat) : Lib.NoAny (L s) (L sq) (pos + n) := by
 intro j b hj hx
 rcases Nat.lt_or_ge j pos with hlt | hge
 ·exact h j b hlt hx
 ·obtain ⟨hl, he⟩ := List.getElem?_eq_some_iff.1 hx
  have hjs : j < s.size := by rw [← L_size]; exact hl
  have h1 := hb j hge hj hjs
  have h2 : (s[j]'hjs) = b := by rw [← he]; rfl
  rw [h2] at h1
  have : L sq = [47, 63] := rfl
  rw [this]
  simp only [List.contains_cons, List.contains_nil, Bool.or_false, Bool.or_eq_false_iff, beq_eq_false_iff_ne]
  constructor
  ·rintro rfl; exact absurd h1 (by decide)
  ·rintro rfl; exact absurd h1 (by decide)
set_option maxHeartbeats 4000000 in
set_option maxRecDepth 1000000 in
theorem indexRune_far (r : Int) (w : World) (h0 : 128 ≤ r) (h1 : r ≤ 2147483647) :
  Calls Tryd.prog 54 #[.string sq, .int .i32 r] w fun e w' => e = .returned (.int .i64 (-1)) ∧ Below w.heap.size w w' := by
 have g0 : decide (0 ≤ r) = true := decide_eq_true (by omega)
 have g1 : decide (r < 128) = false := decide_eq_false (by omega)
 obtain ⟨hsz, hs0, hs1⟩ := sq_at
 by_cases hr : r = 65533
 ·subst hr
  have n0 := fun ty => run_next_ascii (P := Tryd.prog) w sq 0 ty (by rw [hsz]; decide) (by rw [hs0]; decide)
  have n1 := fun ty => run_next_ascii (P := Tryd.prog) w sq 1 ty (by rw [hsz]; decide) (by rw [hs1]; decide)
  rw [hs0] at n0
  rw [hs1] at n1
  have n2 := fun ty => run_next_end (P := Tryd.prog) w sq 2 ty (by rw [hsz]; decide)
  clear hsz hs0 hs1 h0 h1 g0 g1
  go_enter Tryd.func54, Tryd.ntmps54
  go_wp2
  go_loopg [5, 6] 2 (fun g _ _ wx => ∃ i : Nat, i + g = 2 ∧ wx = w.iter sq i)
  case atStart => exact ⟨0, by omega, rfl⟩
  case round =>
   obtain ⟨i, hig, rfl⟩ := hrel
   cases gk with
   | zero =>
    obtain rfl : i = 2 := by omega
    go_wp2
    go_ret
    exact ⟨rfl, (Below.refl _ _).alloc (Nat.le_refl _) _⟩
   | succ g =>
    rcases (by omega : i = 0 ∨ i = 1) with e | e
    ·subst e
     go_wp2
     go_roundg g
     case measure => omega
     case rel => exact ⟨1, by omega, rfl⟩
    ·subst e
     go_wp2
     go_roundg g
     case measure => omega
     case rel => exact ⟨2, by omega, rfl⟩
 ·have g2 : (r == 65533) = false := by simp [hr]
  cases hv : Lib.validRune r with
  | false =>
   go_enter Tryd.func54, Tryd.ntmps54
   go_wp2_with (go_at_call 72; refine (Tryd.utf8_ValidRune _ _).mono ?_; rintro e w' ⟨rfl, hw⟩; rw [hw, hv])
   go_ret
   exact ⟨rfl, Below.refl _ _⟩
  | true =>
   obtain ⟨e1, e2, e3⟩ := encode_facts r (by rw [valid_same]; exact hv) h0
   go_enter Tryd.func54, Tryd.ntmps54
   go_wp2_with (go_at_call 72; refine (Tryd.utf8_ValidRune _ _).mono ?_; rintro e w' ⟨rfl, hw⟩; rw [hw, hv])
   go_step3
   go_wp2
   generalize Utf8.encode r = nd at e1 e2 e3 ⊢
   refine wp_loop_rounds 1 ?_
   rw [rounds_succ]
   by_cases hn : nd.size = 2
   ·obtain ⟨x, hx⟩ : ∃ x : UInt8, ∀ h : 1 < nd.size, nd[1]'h = x := ⟨nd[1]'(by omega), fun _ => rfl⟩
    have hx1 : 128 ≤ x.toNat := by
     have := e3 (by omega)
     simp only [hn] at this
     rw [← hx (by omega)]; exact this
    clear e3
    have hne : ((63 : Int) != (x.toNat : Int)) = true := by simp; omega
    have hnz : ((nd.size : Nat) : Int) - 1 = 1 := by omega
    rw [hnz]
    have HN := Aside0.mk hn
    have hlt : (1 : Int) < (nd.size : Int) := by omega
    clear hn hnz e1 e2
    have hs1' := hs1 (by rw [hsz]; decide)
    have hi1 : (1 : Int) < (sq.size : Int) := by rw [hsz]; decide
    have hs2 : (2 : Int) ≤ (sq.size : Int) := by rw [hsz]; decide
    go_wp2
    go_step3
    go_wp2
    go_quiet (fail)
    have HB : Aside0 (Below w.heap.size w (w.drewN nq)) := ⟨pw_below_drewN (Below.refl _ _) nq⟩
    generalize w.drewN nq = w1 at HB ⊢
    have hib : Lib.indexByte (sq.extract 2 2).data.toList ((x.toNat : Int)).toNat.toUInt8 = -1 := rfl
    go_wp2
    go_quiet ((go_at_call 71; exact Calls.quiet_of_same (Tryd.strings_IndexByte _ _ _)))
    go_wp2
    rw [Exit.noGoto_ret]
    go_wp2
    rw [Exit.noGoto_ret]
    go_ret
    exact ⟨rfl, pw_below_drewN HB.out _⟩
   ·have hge : decide ((nd.size : Int) - 1 < 2) = false := decide_eq_false (by omega)
    go_wp2
    rw [Exit.noGoto_ret]
    go_ret
    exact ⟨rfl, Below.refl _ _⟩
def strings_IndexAny.f (a0 a1 : ByteArray) : Option Int := if L a1 = [47, 63] ∧ a0.size < 4294967281 then some (Lib.indexAny (L a0) (L a1)) else none
def iterTo (w : World) (b : Nat) (s : ByteArray) (p : Nat) : World := { w with heap := w.heap.setIfInBounds b (.stringIter s p) }
theorem iterTo_at {w : World} {b : Nat} {s : ByteArray} {p q : Nat} (h : w.heap[b]? = some (.stringIter s q)) : (iterTo w b s p).heap[b]? = some (.stringIter s p) := by
 obtain ⟨hl, _⟩ := Array.getElem?_eq_some_iff.1 h
 simp [iterTo, hl]
theorem iterTo_below {w0 w : World} {b : Nat} {s : ByteArray} {p : Nat} (h : Below w0.heap.size w0 w) (hb : w0.heap.size ≤ b) : Below w0.heap.size w0 (iterTo w b s p) :=
 ⟨h.os, h.tape, h.output, by simp [iterTo]; exact h.size, fun i hi => by
  rw [← h.block i hi]
  simp only [iterTo]
  exact Array.getElem?_setIfInBounds_ne (by omega)⟩
theorem run_next_in {P : Program} (w : World) (b : Nat) (s : ByteArray) (pos : Nat) (hb : w.heap[b]? = some (.stringIter s pos)) (h : pos < s.size) (ty : TypeId) :
  (Instr.next (.pointer (some ⟨b, 0, none⟩)) true ty).run P w = .ok (.tuple #[.bool true, .int .i64 pos, .int .i32 (Utf8.decode s pos).1]) (iterTo w b s (pos + (Utf8.decode s pos).2)) := by
 simp only [Instr.next, getObj, setObj, Sem.run_bind, Sem.run, hb, Result.andThen, h, if_true, iterTo]
 simp [goInt]
theorem run_next_out {P : Program} (w : World) (b : Nat) (s : ByteArray) (pos : Nat) (hb : w.heap[b]? = some (.stringIter s pos)) (h : ¬ pos < s.size) (ty : TypeId) :
  (Instr.next (.pointer (some ⟨b, 0, none⟩)) true ty).run P w = .ok (.tuple #[.bool false]) w := by
 simp [Instr.next, getObj, Sem.run, hb, h]
set_option maxHeartbeats 4000000 in
set_option maxRecDepth 1000000 in
theorem indexAny_few (s : ByteArray) (w : World) (h8 : s.size ≤ 8) :
  Calls Tryd.prog 48 #[.string s, .string sq] w fun e w' => e = .returned (.int .i64 (Lib.indexAny (L s) (L sq))) ∧ Below w.heap.size w w' := by
 have hemp : sq.toList.isEmpty = false := by decide +kernel
 have hn1 : ((sq.size : Int) == 1) = false := by decide +kernel
 have h8z : decide ((8 : Int) < (s.size : Int)) = false := decide_eq_false (by omega)
 go_enter Tryd.func48, Tryd.ntmps48
 go_wp2_with (go_at_call 55; refine (Tryd.strings_shouldUseASCIISet _ _).mono ?_; rintro e w' ⟨rfl, hw⟩; rw [hw, h8z])
 go_loopg [9, 10] s.size (fun g _ _ wx => ∃ i : Nat, i + g = s.size ∧ Aside0 (wx.heap[w.heap.size]? = some (.stringIter s i)) ∧ Aside0 (Lib.NoAny (L s) (L sq) i) ∧ Aside0 (Below w.heap.size w wx))
 case atStart => exact ⟨0, by omega, ⟨World.iter_heap w s 0⟩, ⟨Lib.NoAny.zero _ _⟩, ⟨(Below.refl _ _).alloc (Nat.le_refl _) _⟩⟩
 case round =>
  obtain ⟨i, hig, hI, HN, HB⟩ := hrel
  cases gk with
  | zero =>
   obtain rfl : i = s.size := by omega
   have hnx := run_next_out (P := Tryd.prog) wr w.heap.size s s.size hI.out (by omega)
   go_wp2
   go_ret
   exact ⟨by rw [Lib.indexAny_none (by rw [L_size]; exact HN.out)]; rfl, HB.out⟩
  | succ g =>
   have hi : i < s.size := by omega
   have hnx := run_next_in (P := Tryd.prog) wr w.heap.size s i hI.out hi
   obtain ⟨x, hx⟩ : ∃ x : UInt8, s[i]'hi = x := ⟨_, rfl⟩
   have Hx : Aside0 ((L s)[i]? = some x) := ⟨by rw [← hx]; exact Lib.data_getElem? s i hi⟩
   by_cases hlt : x.toNat < 128
   ·have hd := decode_ascii s i hi (by rw [hx]; exact hlt)
    rw [hx] at hd
    rw [hd] at hnx
    clear hd
    have HI2 : Aside0 ((iterTo wr w.heap.size s (i + 1)).heap[w.heap.size]? = some (.stringIter s (i + 1))) := ⟨iterTo_at hI.out⟩
    have HB2 : Aside0 (Below w.heap.size w (iterTo wr w.heap.size s (i + 1))) := ⟨iterTo_below HB.out (Nat.le_refl _)⟩
    simp only at hnx
    have hcon := Lib.contains_iff_indexByte (L sq) x
    have hback : ((x.toNat : Int)).toNat.toUInt8 = x := by simp
    obtain ⟨q, hq⟩ : ∃ q, Lib.indexByte sq.data.toList x = q := ⟨_, rfl⟩
    have hcon : (L sq).contains x = decide (0 ≤ q) := by rw [← hq]; exact hcon
    clear hx HB hI
    generalize iterTo wr w.heap.size s (i + 1) = w2 at hnx HI2 HB2
    cases hin : (L sq).contains x
    ·rw [hin] at hcon
     have hlt0 : ¬ ((0 : Int) ≤ q) := of_decide_eq_false hcon.symm
     clear hcon
     have HS : Aside0 (Lib.NoAny (L s) (L sq) (i + 1)) := ⟨HN.out.succ Hx.out hin⟩
     clear hin
     go_wp2_with (go_at_call 54; refine (Tryd.strings_IndexRune_ascii _ _ _ (by omega) (by omega)).mono ?_; rintro e w' ⟨rfl, hw⟩; rw [hw, hback, hq])
     go_roundg g
     case measure => omega
     case rel => exact ⟨i + 1, by omega, HI2, HS, HB2⟩
    ·rw [hin] at hcon
     have hge : (0 : Int) ≤ q := of_decide_eq_true hcon.symm
     clear hcon
     have HE : Aside0 (Lib.indexAny (L s) (L sq) = i) := ⟨Lib.indexAny_hit HN.out Hx.out hin⟩
     clear hin
     go_wp2_with (go_at_call 54; refine (Tryd.strings_IndexRune_ascii _ _ _ (by omega) (by omega)).mono ?_; rintro e w' ⟨rfl, hw⟩; rw [hw, hback, hq])
     go_ret
     exact ⟨by rw [HE.out]; rfl, HB2.out⟩
   ·obtain ⟨hd1, hd2⟩ := decode_high s i hi (by rw [hx]; omega)
    have hd3 := decode_le s i
    obtain ⟨hk1, hk2⟩ := decode_skip s i hi (by rw [hx]; omega)
    generalize (Utf8.decode s i).2 = n at hnx hd2 hk1 hk2
    generalize (Utf8.decode s i).1 = c at hnx hd1 hd3
    have HI2 : Aside0 ((iterTo wr w.heap.size s (i + n)).heap[w.heap.size]? = some (.stringIter s (i + n))) := ⟨iterTo_at hI.out⟩
    have HB2 : Aside0 (Below w.heap.size w (iterTo wr w.heap.size s (i + n))) := ⟨iterTo_below HB.out (Nat.le_refl _)⟩
    have HS : Aside0 (Lib.NoAny (L s) (L sq) (i + n)) := ⟨noAny_skip HN.out hk2⟩
    have hlo : (128 : Int) ≤ (c : Int) := by omega
    have hhi : (c : Int) ≤ 2147483647 := by omega
    have HK := Aside0.mk hk1
    have HD := Aside0.mk hd2
    clear hx HB hI HN Hx hk1 hk2 hd1 hd2 hd3 hlt
    generalize iterTo wr w.heap.size s (i + n) = w2 at hnx HI2 HB2
    go_wp2_with (go_at_call 54; refine (indexRune_far _ _ hlo hhi).mono ?_; rintro e w' ⟨rfl, hb⟩)
    have HC := Aside0.mk hb
    clear hb
    go_roundg (g + 1 - n)
    case measure => have := HK.out; have := HD.out; omega
    case rel => exact ⟨i + n, by have := HK.out; omega, ⟨(HC.out.block _ (by obtain ⟨hl, _⟩ := Array.getElem?_eq_some_iff.1 HI2.out; exact hl)).trans HI2.out⟩, HS, ⟨HB2.out.trans (HC.out.mono HB2.out.size)⟩⟩
theorem strings_IndexAny.calls (a0 a1 : ByteArray) (r : Int) (w : World) (h : strings_IndexAny.f a0 a1 = some r) :
  Calls Tryd.prog 48 #[.string a0, .string a1] w fun e w' => e = .returned (.int .i64 r) ∧ Below w.heap.size w w' := by
 unfold strings_IndexAny.f at h
 split at h
 ·rename_i hh
  obtain rfl := Option.some.inj h
  obtain rfl : a1 = sq := L_inj (by rw [hh.1]; rfl)
  rcases Nat.lt_or_ge 8 a0.size with h8 | h8
  ·refine (Tryd.strings_IndexAny_long (fun w => by kernel_rfl) a0 sq w (by decide +kernel) h8 hh.2 (by decide +kernel) (fun j b hb => ?_)).mono fun e w' ⟨he, hw⟩ => ⟨he, hw ▸ ((Below.refl _ _).alloc (Nat.le_refl _) _).alloc (by simp) _⟩
   have hb' : ([47, 63] : List UInt8)[j]? = some b := hb
   match j, hb' with
   | 0, hb' => injection hb' with hb'; subst hb'; decide
   | 1, hb' => injection hb' with hb'; subst hb'; decide
  ·exact indexAny_few a0 w h8
 ·cases h
end Go.Proofs.YtpnedbnpnekahaaDoor.P
end
section
namespace Go.Proofs.YtpnedbnpnekahaaDoor.P
open Go.RowKit Go.Proofs.YtpnedbnpnekahaaDoorW.PrintWords Go.Proofs.YtpnedbnpnekahaaDoorW.PrintLast Go.Proofs.YtpnedbnpnekahaaDoorW.PrintMore
attribute [local go_sem] max2_int min2_int max_two min_two max_three min_three max_four min_four
set_option linter.unusedVariables false
set_option linter.unusedSimpArgs false
def impl_readWhole.f (k : Nat) (a0 : ByteArray) : Option (ByteArray × List ByteArray × Bool × ByteArray × Bool) := (strings_CutPrefix.f a0 (⟨#[47, 47]⟩ : ByteArray)).bind fun bt349 => (if bt349.2 = true then ((strings_IndexAny.f bt349.1 (⟨#[47, 63]⟩ : ByteArray)).bind fun t351 => (if t351 < 0 then (if 0 ≤ (bt349.1.size : Int) then (if (bt349.1.size : Int) ≤ (bt349.1.size : Int) then ((impl_smallLetters.f (bt349.1.extract 0 ((bt349.1.size : Int) : Int).toNat)).bind fun t352 => ((impl_readWay.f k t352 ([] : List ByteArray) (bt349.1.extract ((bt349.1.size : Int) : Int).toNat bt349.1.size)).bind fun bt353 => (some (bt353.1, bt353.2.1, bt353.2.2.1, bt353.2.2.2.1, bt353.2.2.2.2)))) else (none)) else (none)) else (if 0 ≤ t351 then (if t351 ≤ (bt349.1.size : Int) then ((impl_smallLetters.f (bt349.1.extract 0 (t351 : Int).toNat)).bind fun t360 => ((impl_readWay.f k t360 ([] : List ByteArray) (bt349.1.extract (t351 : Int).toNat bt349.1.size)).bind fun bt361 => (some (bt361.1, bt361.2.1, bt361.2.2.1, bt361.2.2.2.1, bt361.2.2.2.2)))) else (none)) else (none)))) else (some ((⟨#[]⟩ : ByteArray), ([] : List ByteArray), false, (⟨#[]⟩ : ByteArray), false)))
theorem impl_readWhole.mono : ∀ a0 k, LeO (impl_readWhole.f k a0) (impl_readWhole.f (k + 1) a0) := by
 intro a0 k;unfold impl_readWhole.f
 repeat' first | (with_reducible first | exact impl_readWay.mono _ _ _ _ | exact LeO.refl _ | exact LeO.none _ | refine LeO.ite ?_ ?_ | refine LeO.bind ?_ (fun _ => ?_)) | exact LeO.none _ | refine LeO.ite ?_ ?_ | refine LeO.bind ?_ (fun _ => ?_)
def impl_readWhole.T7 : Bool × List (List Nat × List Nat) := (true, [([], []), ([], []), ([0, 1], [0, 1]), ([2], [2]), ([], []), ([], []), ([4, 5], [4, 5]), ([3, 6, 3], [3, 6]), ([7], [7]), ([7], [7]), ([8, 7, 0, 1, 2, 3, 4, 5, 6, 7, 8, 9], [8]), ([9, 10, 0, 1, 2, 3, 4, 5, 6, 7, 8, 9, 10], [9])])
def impl_readWhole.B7 : List Nat := [0, 0, 3, 7, 0, 0, 48, 127, 255, 255, 1023, 2047]
theorem impl_readWhole.tab7 : rtab .any (opsOf Tryd.f44 7) = impl_readWhole.T7 := by kernel_rfl
theorem impl_readWhole.bits7 : waitsOk impl_readWhole.T7.2 impl_readWhole.B7 = true := by kernel_rfl
set_option maxHeartbeats 8000000 in
set_option maxRecDepth 100000 in
theorem impl_readWhole.calls (k : Nat) (a0 : ByteArray) (r1 : ByteArray) (r2 : List ByteArray) (r3 : Bool) (r4 : ByteArray) (r5 : Bool) (w : World) (h : impl_readWhole.f k a0 = some (r1, r2, r3, r4, r5)) :
  Calls Tryd.prog 44 #[.string a0] w fun e w' => ∃ v1_ : Value, e = .returned (.tuple #[.agg #[.string r1, v1_, .bool r3, .string r4], .bool r5]) ∧ Kd.R Kd.string 9 w' w.heap.size (fun _ => True) v1_ r2 ∧ Below w.heap.size w w' := by
 have hu47 := Tryd.underlying47;have HB := Aside0.mk (Below.refl w.heap.size w);have H : ((strings_CutPrefix.f a0 (⟨#[47, 47]⟩ : ByteArray)).bind fun bt349 => (if bt349.2 = true then ((strings_IndexAny.f bt349.1 (⟨#[47, 63]⟩ : ByteArray)).bind fun t351 => (if t351 < 0 then (if 0 ≤ (bt349.1.size : Int) then (if (bt349.1.size : Int) ≤ (bt349.1.size : Int) then ((impl_smallLetters.f (bt349.1.extract 0 ((bt349.1.size : Int) : Int).toNat)).bind fun t352 => ((impl_readWay.f k t352 ([] : List ByteArray) (bt349.1.extract ((bt349.1.size : Int) : Int).toNat bt349.1.size)).bind fun bt353 => (some (bt353.1, bt353.2.1, bt353.2.2.1, bt353.2.2.2.1, bt353.2.2.2.2)))) else (none)) else (none)) else (if 0 ≤ t351 then (if t351 ≤ (bt349.1.size : Int) then ((impl_smallLetters.f (bt349.1.extract 0 (t351 : Int).toNat)).bind fun t360 => ((impl_readWay.f k t360 ([] : List ByteArray) (bt349.1.extract (t351 : Int).toNat bt349.1.size)).bind fun bt361 => (some (bt361.1, bt361.2.1, bt361.2.2.1, bt361.2.2.2.1, bt361.2.2.2.2)))) else (none)) else (none)))) else (some ((⟨#[]⟩ : ByteArray), ([] : List ByteArray), false, (⟨#[]⟩ : ByteArray), false)))) = some (r1, r2, r3, r4, r5) := h;clear h;replace H := bindA H;obtain ⟨⟨t349, t350⟩, A2, H⟩ := H;try dsimp -simprocs only at H
 by_cases c3 : t350 = true
 ·subst c3
  rw [if_pos rfl] at H;replace H := bindA H;obtain ⟨t351, A4, H⟩ := H;by_cases c5 : t351 < 0
  ·rw [if_pos c5] at H
   have c5b0 : decide (t351 < 0) = true := decide_eq_true c5;clear c5;by_cases c6 : 0 ≤ (t349.size : Int)
   ·rw [if_pos c6] at H
    have c6b0 := eq_true c6;have c6b1 : decide (0 ≤ (t349.size : Int)) = true := decide_eq_true c6;clear c6;by_cases c7 : (t349.size : Int) ≤ (t349.size : Int)
    ·rw [if_pos c7] at H
     have c7b0 := eq_true c7;have c7b1 : decide ((t349.size : Int) ≤ (t349.size : Int)) = true := decide_eq_true c7;clear c7;replace H := bindA H;obtain ⟨t352, A8, H⟩ := H;have c9b0 := eq_true (ofD : 0 ≤ (t349.size : Int));have c10b0 := eq_true (ofD : (t349.size : Int) ≤ (t349.size : Int));replace H := bindA H;obtain ⟨⟨t353, t354, t357, t358, t359⟩, A11, H⟩ := H;try dsimp -simprocs only at H
     simp only [Option.some.injEq, Prod.mk.injEq] at H
     obtain ⟨rfl, rfl, rfl, rfl, rfl⟩ := H;go_enter Tryd.func44, Tryd.ntmps44;try go_wp2_with (first | ((with_reducible refine gate_dst (N := 2) rfl ?_); refine boxE 2 #[.string (⟨#[]⟩ : ByteArray), .slice none 0 0, .bool false, .string (⟨#[]⟩ : ByteArray)] 47 ?_; intro gb348 hg w12 hbox hb; have n0_ := Aside0.mk (below_step (zz0 HB) hb); have n1_ := Aside0.mk (hbox); have n2_ := Aside0.mk ((by rw [hg]; exact (below_size (zz0 HB)) : w.heap.size ≤ gb348)); have n3_ := Aside0.mk ((by rw [hg]; exact (below_size (zz0 HB)) : w.heap.size ≤ gb348)); clear HB; have HB := n0_; have BK348 := n1_; have GW348 := n2_; have GE348 := n3_; clear n0_ n1_ n2_ n3_; clear hb hbox hg) | ((with_reducible refine gate_callee (f := 47) rfl ?_); refine goesL_ (some 9) rfl rfl Tryd.func47 (by kernel_rfl) rfl #[.string a0, .string (⟨#[47, 47]⟩ : ByteArray)] rfl zz93 ?_; (with_reducible refine (strings_CutPrefix.calls a0 (⟨#[47, 47]⟩ : ByteArray) t349 true _ A2.out).mono ?_); rintro e w' ⟨rfl, ⟨nd, rfl⟩⟩; refine ⟨_, rfl, ?_⟩; (try (rw [drewN_self w12]; generalize hq_ : World.drewN w12 _ = w12; have n0_ : Aside0 (w12.heap[gb348]? = some (.cells #[.string (⟨#[]⟩ : ByteArray), .slice none 0 0, .bool false, .string (⟨#[]⟩ : ByteArray)] 47 (0, 0))) := ⟨(by rw [← hq_]; exact (zz6 BK348))⟩; have n1_ : Aside0 (Below w.heap.size w w12) := ⟨zz95⟩; clear BK348 HB hq_; have BK348 := n0_; have HB := n1_; clear n0_ n1_))) | ((with_reducible refine gate_callee (f := 48) rfl ?_); refine goesL_ (some 16) rfl rfl Tryd.func48 (by kernel_rfl) rfl #[.string t349, .string (⟨#[47, 63]⟩ : ByteArray)] rfl zz93 ?_; (with_reducible refine (strings_IndexAny.calls t349 (⟨#[47, 63]⟩ : ByteArray) t351 _ A4.out).mono ?_); rintro e w13 ⟨rfl, hb⟩; refine ⟨_, rfl, ?_⟩; have n0_ := Aside0.mk (blk_below (zz6 BK348) hb); have n1_ := Aside0.mk (below_step (zz2 HB GE348) hb); clear BK348; clear HB; have BK348 := n0_; have HB := n1_; clear n0_ n1_; (try clear hb)))
     have n0_ := Aside0.mk (blk_drew BK348.out);have n1_ := Aside0.mk (below_drew1 HB.out);clear BK348;clear HB;have BK348 := n0_;have HB := n1_;clear n0_ n1_;refine start_ (n := 12) (S := fun w' => True) (ds := []) #[false, false, false, false, false, false, false, false, false, false, false, false] (by kernel_rfl) rfl rfl trivial (fun hHeld => ?_); refine with_tabW impl_readWhole.tab7 impl_readWhole.bits7 (fun HT_ HW_ => ?_);generalize w13.drew = w14 at BK348 HB hHeld ⊢;refine pureZ 0 (some 21) #[true, false, false, false, false, false, false, false, false, false, false, false] ?_;refine pureZ 1 (some 22) #[true, true, false, false, false, false, false, false, false, false, false, false] ?_;refine pureZ 2 (some 23) #[true, true, true, false, false, false, false, false, false, false, false, false] ?_;refine pureZ 4 (some 25) #[true, true, true, false, true, false, false, false, false, false, false, false] ?_;refine pureZ 5 (some 26) #[true, true, true, false, true, true, false, false, false, false, false, false] ?_;refine pureZ 6 (some 27) #[true, true, true, false, true, true, true, false, false, false, false, false] ?_;refine one_ (i := 3) (N := some 24) #[true, true, true, true, true, true, true, false, false, false, false, false] rfl rfl (one_of HT_.out (by kernel_rfl)) (by decide) (fun K hK => ?_);refine goes_ Tryd.func50 (by kernel_rfl) rfl #[.string (t349.extract 0 ((t349.size : Int) : Int).toNat)] (by rfl) rfl rfl zz93 ?_;with_reducible refine (impl_smallLetters.calls (t349.extract 0 ((t349.size : Int) : Int).toNat) t352 _ A8.out).mono ?_
     rintro e w15 ⟨rfl, hb⟩;refine ⟨_, rfl, ?_⟩;have n0_ := Aside0.mk (blk_below (zz6 BK348) hb);have n1_ := Aside0.mk (below_step (zz2 HB GE348) hb);clear BK348;clear HB;have BK348 := n0_;have HB := n1_;clear n0_ n1_;(try clear hb)
     (try clear hb2)
     (try clear hk)
     (try clear hi)
     refine hK.out _ _ trivial (fun hHeld => ?_);clear hK K;refine norm_ (a' := ?_) ?_ ?_;rotate_left
     ·show Act.put _ (some 24) _ = _
      simp only [Act.put, List.setIfInBounds_toArray, List.set_cons_zero, List.set_cons_succ, i64_w, i32_w]
      rfl
     refine one_ (i := 7) (N := some 28) #[true, true, true, true, true, true, true, true, false, false, false, false] rfl rfl (one_of HT_.out (by kernel_rfl)) (by decide) (fun K hK => ?_);refine goes_ Tryd.func49 (by kernel_rfl) rfl #[.string t352, .slice none 0 0, .string (t349.extract ((t349.size : Int) : Int).toNat t349.size)] (by rfl) rfl rfl zz93 ?_;refine (impl_readWay.calls k t352 _ _ ([] : List ByteArray) (t349.extract ((t349.size : Int) : Int).toNat t349.size) t353 t354 t357 t358 t359 _ ?side1 ?side2 A11.out).mono ?_;(case side1 => exact Kd.C_nil _ _)
     (case side2 => exact Nat.le_refl _)
     rintro e w16 ⟨v355, rfl, ho0, hb⟩;refine ⟨_, rfl, ?_⟩;have n0_ := Aside0.mk (Kd.R_lower ho0 (below_size (zz2 HB GE348)));have n1_ := Aside0.mk (blk_below (zz6 BK348) hb);have n2_ := Aside0.mk (below_step (zz2 HB GE348) hb);clear BK348;clear HB;have HO356 := n0_;have BK348 := n1_;have HB := n2_;clear n0_ n1_ n2_;(try clear hb)
     (try clear hb2)
     (try clear hk)
     (try clear hi)
     (try clear ho0)
     obtain ⟨Ao18, co18, eo18⟩ := Kd.R_slice HO356.out;(first | subst eo18 | (injection eo18 with f1_ f2_ f3_; have f4_ := f1_.symm; have f5_ := f3_.symm; clear f1_ f2_ f3_; subst f4_; subst f5_))
     refine hK.out _ _ trivial (fun hHeld => ?_);clear hK K;refine norm_ (a' := ?_) ?_ ?_;rotate_left
     ·show Act.put _ (some 28) _ = _
      simp only [Act.put, List.setIfInBounds_toArray, List.set_cons_zero, List.set_cons_succ, i64_w, i32_w]
      rfl
     refine pureZ 8 (some 29) #[true, true, true, true, true, true, true, true, true, false, false, false] ?_;refine pureZ 9 (some 30) #[true, true, true, true, true, true, true, true, true, true, false, false] ?_;refine one_ (i := 10) (N := none) #[true, true, true, true, true, true, true, true, true, true, true, false] rfl rfl (one_of HT_.out (by kernel_rfl)) (by decide) (fun K hK => ?_);have hs17 : w16.cell? ⟨gb348, 0, none⟩ = some (.string (⟨#[]⟩ : ByteArray)) := (blk_cell BK348.out 0).trans rfl;have hfs17 := blk_frozen BK348.out 0;have hs19 : w16.cell? ⟨gb348, 1, none⟩ = some (.slice none 0 0) := (blk_cell BK348.out 1).trans rfl;have hfs19 := blk_frozen BK348.out 1;have hs20 : w16.cell? ⟨gb348, 2, none⟩ = some (.bool false) := (blk_cell BK348.out 2).trans rfl;have hfs20 := blk_frozen BK348.out 2;have hs21 : w16.cell? ⟨gb348, 3, none⟩ = some (.string (⟨#[]⟩ : ByteArray)) := (blk_cell BK348.out 3).trans rfl;have hfs21 := blk_frozen BK348.out 3;refine skip_ (w1 := ?_) (by rfl) rfl ?_ ?_;rotate_left
     ·go_simp
      rfl
     refine hK.out _ _ trivial (fun hHeld => ?_);clear hK K;refine pureZ 11 (some 3) #[true, true, true, true, true, true, true, true, true, true, true, true] ?_;refine done_ (done_of HT_.out (by kernel_rfl)) ?_;try go_wp2
     refine bodyPost_ret (results_ct rfl _ _ gb348 47 #[.string t353, .slice Ao18 t354.length co18, .bool t357, .string t358] (0, 0) _ rfl (zz43 BK348) Tryd.underlying47 rfl (by kernel_rfl)) rfl ?_;exact ⟨_, zz1, (zz50 (rt HO356 BK348)), (zz2 HB GE348)⟩
    ·rw [if_neg c7] at H
     exact absurd H (by simp)
   ·rw [if_neg c6] at H
    exact absurd H (by simp)
  ·rw [if_neg c5] at H
   have c5b0 : decide (t351 < 0) = false := decide_eq_false c5;clear c5;by_cases c22 : 0 ≤ t351
   ·rw [if_pos c22] at H
    have c22b0 := eq_true c22;have c22b1 : decide (0 ≤ t351) = true := decide_eq_true c22;clear c22;by_cases c23 : t351 ≤ (t349.size : Int)
    ·rw [if_pos c23] at H
     have c23b0 := eq_true c23;have c23b1 : decide (t351 ≤ (t349.size : Int)) = true := decide_eq_true c23;clear c23;replace H := bindA H;obtain ⟨t360, A24, H⟩ := H;have c25b0 := eq_true (ofD : 0 ≤ t351);have c26b0 := eq_true (ofD : t351 ≤ (t349.size : Int));replace H := bindA H;obtain ⟨⟨t361, t362, t365, t366, t367⟩, A27, H⟩ := H;try dsimp -simprocs only at H
     simp only [Option.some.injEq, Prod.mk.injEq] at H
     obtain ⟨rfl, rfl, rfl, rfl, rfl⟩ := H;go_enter Tryd.func44, Tryd.ntmps44;try go_wp2_with (first | ((with_reducible refine gate_dst (N := 2) rfl ?_); refine boxE 2 #[.string (⟨#[]⟩ : ByteArray), .slice none 0 0, .bool false, .string (⟨#[]⟩ : ByteArray)] 47 ?_; intro gb348 hg w28 hbox hb; have n0_ := Aside0.mk (below_step (zz0 HB) hb); have n1_ := Aside0.mk (hbox); have n2_ := Aside0.mk ((by rw [hg]; exact (below_size (zz0 HB)) : w.heap.size ≤ gb348)); have n3_ := Aside0.mk ((by rw [hg]; exact (below_size (zz0 HB)) : w.heap.size ≤ gb348)); clear HB; have HB := n0_; have BK348 := n1_; have GW348 := n2_; have GE348 := n3_; clear n0_ n1_ n2_ n3_; clear hb hbox hg) | ((with_reducible refine gate_callee (f := 47) rfl ?_); refine goesL_ (some 9) rfl rfl Tryd.func47 (by kernel_rfl) rfl #[.string a0, .string (⟨#[47, 47]⟩ : ByteArray)] rfl zz93 ?_; (with_reducible refine (strings_CutPrefix.calls a0 (⟨#[47, 47]⟩ : ByteArray) t349 true _ A2.out).mono ?_); rintro e w' ⟨rfl, ⟨nd, rfl⟩⟩; refine ⟨_, rfl, ?_⟩; (try (rw [drewN_self w28]; generalize hq_ : World.drewN w28 _ = w28; have n0_ : Aside0 (w28.heap[gb348]? = some (.cells #[.string (⟨#[]⟩ : ByteArray), .slice none 0 0, .bool false, .string (⟨#[]⟩ : ByteArray)] 47 (0, 0))) := ⟨(by rw [← hq_]; exact (zz6 BK348))⟩; have n1_ : Aside0 (Below w.heap.size w w28) := ⟨zz95⟩; clear BK348 HB hq_; have BK348 := n0_; have HB := n1_; clear n0_ n1_))) | ((with_reducible refine gate_callee (f := 48) rfl ?_); refine goesL_ (some 16) rfl rfl Tryd.func48 (by kernel_rfl) rfl #[.string t349, .string (⟨#[47, 63]⟩ : ByteArray)] rfl zz93 ?_; (with_reducible refine (strings_IndexAny.calls t349 (⟨#[47, 63]⟩ : ByteArray) t351 _ A4.out).mono ?_); rintro e w29 ⟨rfl, hb⟩; refine ⟨_, rfl, ?_⟩; have n0_ := Aside0.mk (blk_below (zz6 BK348) hb); have n1_ := Aside0.mk (below_step (zz2 HB GE348) hb); clear BK348; clear HB; have BK348 := n0_; have HB := n1_; clear n0_ n1_; (try clear hb)))
     have n0_ := Aside0.mk (blk_drew BK348.out);have n1_ := Aside0.mk (below_drew1 HB.out);clear BK348;clear HB;have BK348 := n0_;have HB := n1_;clear n0_ n1_;refine start_ (n := 12) (S := fun w' => True) (ds := []) #[false, false, false, false, false, false, false, false, false, false, false, false] (by kernel_rfl) rfl rfl trivial (fun hHeld => ?_); refine with_tabW impl_readWhole.tab7 impl_readWhole.bits7 (fun HT_ HW_ => ?_);generalize w29.drew = w30 at BK348 HB hHeld ⊢;refine pureZ 0 (some 21) #[true, false, false, false, false, false, false, false, false, false, false, false] ?_;refine pureZ 1 (some 22) #[true, true, false, false, false, false, false, false, false, false, false, false] ?_;refine pureZ 2 (some 23) #[true, true, true, false, false, false, false, false, false, false, false, false] ?_;refine pureZ 4 (some 25) #[true, true, true, false, true, false, false, false, false, false, false, false] ?_;refine pureZ 5 (some 26) #[true, true, true, false, true, true, false, false, false, false, false, false] ?_;refine pureZ 6 (some 27) #[true, true, true, false, true, true, true, false, false, false, false, false] ?_;refine one_ (i := 3) (N := some 24) #[true, true, true, true, true, true, true, false, false, false, false, false] rfl rfl (one_of HT_.out (by kernel_rfl)) (by decide) (fun K hK => ?_);refine goes_ Tryd.func50 (by kernel_rfl) rfl #[.string (t349.extract 0 (t351 : Int).toNat)] (by rfl) rfl rfl zz93 ?_;with_reducible refine (impl_smallLetters.calls (t349.extract 0 (t351 : Int).toNat) t360 _ A24.out).mono ?_
     rintro e w31 ⟨rfl, hb⟩;refine ⟨_, rfl, ?_⟩;have n0_ := Aside0.mk (blk_below (zz6 BK348) hb);have n1_ := Aside0.mk (below_step (zz2 HB GE348) hb);clear BK348;clear HB;have BK348 := n0_;have HB := n1_;clear n0_ n1_;(try clear hb)
     (try clear hb2)
     (try clear hk)
     (try clear hi)
     refine hK.out _ _ trivial (fun hHeld => ?_);clear hK K;refine norm_ (a' := ?_) ?_ ?_;rotate_left
     ·show Act.put _ (some 24) _ = _
      simp only [Act.put, List.setIfInBounds_toArray, List.set_cons_zero, List.set_cons_succ, i64_w, i32_w]
      rfl
     refine one_ (i := 7) (N := some 28) #[true, true, true, true, true, true, true, true, false, false, false, false] rfl rfl (one_of HT_.out (by kernel_rfl)) (by decide) (fun K hK => ?_);refine goes_ Tryd.func49 (by kernel_rfl) rfl #[.string t360, .slice none 0 0, .string (t349.extract (t351 : Int).toNat t349.size)] (by rfl) rfl rfl zz93 ?_;refine (impl_readWay.calls k t360 _ _ ([] : List ByteArray) (t349.extract (t351 : Int).toNat t349.size) t361 t362 t365 t366 t367 _ ?side1 ?side2 A27.out).mono ?_;(case side1 => exact Kd.C_nil _ _)
     (case side2 => exact Nat.le_refl _)
     rintro e w32 ⟨v363, rfl, ho0, hb⟩;refine ⟨_, rfl, ?_⟩;have n0_ := Aside0.mk (Kd.R_lower ho0 (below_size (zz2 HB GE348)));have n1_ := Aside0.mk (blk_below (zz6 BK348) hb);have n2_ := Aside0.mk (below_step (zz2 HB GE348) hb);clear BK348;clear HB;have HO364 := n0_;have BK348 := n1_;have HB := n2_;clear n0_ n1_ n2_;(try clear hb)
     (try clear hb2)
     (try clear hk)
     (try clear hi)
     (try clear ho0)
     obtain ⟨Ao34, co34, eo34⟩ := Kd.R_slice HO364.out;(first | subst eo34 | (injection eo34 with f1_ f2_ f3_; have f4_ := f1_.symm; have f5_ := f3_.symm; clear f1_ f2_ f3_; subst f4_; subst f5_))
     refine hK.out _ _ trivial (fun hHeld => ?_);clear hK K;refine norm_ (a' := ?_) ?_ ?_;rotate_left
     ·show Act.put _ (some 28) _ = _
      simp only [Act.put, List.setIfInBounds_toArray, List.set_cons_zero, List.set_cons_succ, i64_w, i32_w]
      rfl
     refine pureZ 8 (some 29) #[true, true, true, true, true, true, true, true, true, false, false, false] ?_;refine pureZ 9 (some 30) #[true, true, true, true, true, true, true, true, true, true, false, false] ?_;refine one_ (i := 10) (N := none) #[true, true, true, true, true, true, true, true, true, true, true, false] rfl rfl (one_of HT_.out (by kernel_rfl)) (by decide) (fun K hK => ?_);have hs33 : w32.cell? ⟨gb348, 0, none⟩ = some (.string (⟨#[]⟩ : ByteArray)) := (blk_cell BK348.out 0).trans rfl;have hfs33 := blk_frozen BK348.out 0;have hs35 : w32.cell? ⟨gb348, 1, none⟩ = some (.slice none 0 0) := (blk_cell BK348.out 1).trans rfl;have hfs35 := blk_frozen BK348.out 1;have hs36 : w32.cell? ⟨gb348, 2, none⟩ = some (.bool false) := (blk_cell BK348.out 2).trans rfl;have hfs36 := blk_frozen BK348.out 2;have hs37 : w32.cell? ⟨gb348, 3, none⟩ = some (.string (⟨#[]⟩ : ByteArray)) := (blk_cell BK348.out 3).trans rfl;have hfs37 := blk_frozen BK348.out 3;refine skip_ (w1 := ?_) (by rfl) rfl ?_ ?_;rotate_left
     ·go_simp
      rfl
     refine hK.out _ _ trivial (fun hHeld => ?_);clear hK K;refine pureZ 11 (some 3) #[true, true, true, true, true, true, true, true, true, true, true, true] ?_;refine done_ (done_of HT_.out (by kernel_rfl)) ?_;try go_wp2
     refine bodyPost_ret (results_ct rfl _ _ gb348 47 #[.string t361, .slice Ao34 t362.length co34, .bool t365, .string t366] (0, 0) _ rfl (zz43 BK348) Tryd.underlying47 rfl (by kernel_rfl)) rfl ?_;exact ⟨_, zz1, (zz50 (rt HO364 BK348)), (zz2 HB GE348)⟩
    ·rw [if_neg c23] at H
     exact absurd H (by simp)
   ·rw [if_neg c22] at H
    exact absurd H (by simp)
 ·replace c3 := Bool.eq_false_iff.mpr c3
  subst c3;rw [if_neg (show ¬ (false = true) by decide)] at H;simp only [Option.some.injEq, Prod.mk.injEq] at H
  obtain ⟨rfl, rfl, rfl, rfl, rfl⟩ := H;go_enter Tryd.func44, Tryd.ntmps44;go_wp2_with (first | ((with_reducible refine gate_dst (N := 2) rfl ?_); refine boxE 2 #[.string (⟨#[]⟩ : ByteArray), .slice none 0 0, .bool false, .string (⟨#[]⟩ : ByteArray)] 47 ?_; intro gb348 hg w38 hbox hb; have n0_ := Aside0.mk (below_step (zz0 HB) hb); have n1_ := Aside0.mk (hbox); have n2_ := Aside0.mk ((by rw [hg]; exact (below_size (zz0 HB)) : w.heap.size ≤ gb348)); have n3_ := Aside0.mk ((by rw [hg]; exact (below_size (zz0 HB)) : w.heap.size ≤ gb348)); clear HB; have HB := n0_; have BK348 := n1_; have GW348 := n2_; have GE348 := n3_; clear n0_ n1_ n2_ n3_; clear hb hbox hg) | ((with_reducible refine gate_callee (f := 47) rfl ?_); refine goesL_ (some 9) rfl rfl Tryd.func47 (by kernel_rfl) rfl #[.string a0, .string (⟨#[47, 47]⟩ : ByteArray)] rfl zz93 ?_; (with_reducible refine (strings_CutPrefix.calls a0 (⟨#[47, 47]⟩ : ByteArray) t349 false _ A2.out).mono ?_); rintro e w' ⟨rfl, ⟨nd, rfl⟩⟩; refine ⟨_, rfl, ?_⟩; (try (rw [drewN_self w38]; generalize hq_ : World.drewN w38 _ = w38; have n0_ : Aside0 (w38.heap[gb348]? = some (.cells #[.string (⟨#[]⟩ : ByteArray), .slice none 0 0, .bool false, .string (⟨#[]⟩ : ByteArray)] 47 (0, 0))) := ⟨(by rw [← hq_]; exact (zz6 BK348))⟩; have n1_ : Aside0 (Below w.heap.size w w38) := ⟨zz95⟩; clear BK348 HB hq_; have BK348 := n0_; have HB := n1_; clear n0_ n1_)); obtain ⟨_, _, _, _, _, _, _, _⟩ := cf4 BK348))
  refine bodyPost_ret (results_ct rfl _ _ gb348 47 #[.string (⟨#[]⟩ : ByteArray), .slice none 0 0, .bool false, .string (⟨#[]⟩ : ByteArray)] (0, 0) _ rfl (zz43 BK348) Tryd.underlying47 rfl (by kernel_rfl)) rfl ?_;exact ⟨_, zz1, zz44, (zz2 HB GE348)⟩
def impl_AddrRead.f (k : Nat) (a0 : ByteArray) : Option (ByteArray × List ByteArray × Bool × ByteArray × Bool) := if (a0.size : Int) > 60 then (some ((⟨#[]⟩ : ByteArray), ([] : List ByteArray), false, (⟨#[]⟩ : ByteArray), false)) else ((strings_Cut.f a0 (⟨#[35]⟩ : ByteArray)).bind fun bt369 => ((impl_readWhole.f k bt369.1).bind fun bt372 => (some (bt372.1, bt372.2.1, bt372.2.2.1, bt372.2.2.2.1, bt372.2.2.2.2))))
theorem impl_AddrRead.mono : ∀ a0 k, LeO (impl_AddrRead.f k a0) (impl_AddrRead.f (k + 1) a0) := by
 intro a0 k;unfold impl_AddrRead.f
 repeat' first | (with_reducible first | exact impl_readWhole.mono _ _ | exact LeO.refl _ | exact LeO.none _ | refine LeO.ite ?_ ?_ | refine LeO.bind ?_ (fun _ => ?_)) | exact LeO.none _ | refine LeO.ite ?_ ?_ | refine LeO.bind ?_ (fun _ => ?_)
set_option maxHeartbeats 8000000 in
set_option maxRecDepth 100000 in
theorem impl_AddrRead.calls (k : Nat) (a0 : ByteArray) (r1 : ByteArray) (r2 : List ByteArray) (r3 : Bool) (r4 : ByteArray) (r5 : Bool) (w : World) (h : impl_AddrRead.f k a0 = some (r1, r2, r3, r4, r5)) :
  Calls Tryd.prog 38 #[.string a0] w fun e w' => ∃ v1_ : Value, e = .returned (.tuple #[.agg #[.string r1, v1_, .bool r3, .string r4], .bool r5]) ∧ Kd.R Kd.string 9 w' w.heap.size (fun _ => True) v1_ r2 ∧ Below w.heap.size w w' := by
 have hu47 := Tryd.underlying47;have HB := Aside0.mk (Below.refl w.heap.size w);have H : (if (a0.size : Int) > 60 then (some ((⟨#[]⟩ : ByteArray), ([] : List ByteArray), false, (⟨#[]⟩ : ByteArray), false)) else ((strings_Cut.f a0 (⟨#[35]⟩ : ByteArray)).bind fun bt369 => ((impl_readWhole.f k bt369.1).bind fun bt372 => (some (bt372.1, bt372.2.1, bt372.2.2.1, bt372.2.2.2.1, bt372.2.2.2.2))))) = some (r1, r2, r3, r4, r5) := h;clear h;by_cases c2 : (a0.size : Int) > 60
 ·rw [if_pos c2] at H
  have c2b0 : decide (60 < (a0.size : Int)) = true := decide_eq_true c2;have c2b1 : decide (60 < a0.size) = true := decide_eq_true (by omega);clear c2;simp only [Option.some.injEq, Prod.mk.injEq] at H
  obtain ⟨rfl, rfl, rfl, rfl, rfl⟩ := H;go_enter Tryd.func38, Tryd.ntmps38;go_wp2_with (first | ((with_reducible refine gate_dst (N := 2) rfl ?_); refine boxE 2 #[.string (⟨#[]⟩ : ByteArray), .slice none 0 0, .bool false, .string (⟨#[]⟩ : ByteArray)] 47 ?_; intro gb368 hg w3 hbox hb; have n0_ := Aside0.mk (below_step (zz0 HB) hb); have n1_ := Aside0.mk (hbox); have n2_ := Aside0.mk ((by rw [hg]; exact (below_size (zz0 HB)) : w.heap.size ≤ gb368)); have n3_ := Aside0.mk ((by rw [hg]; exact (below_size (zz0 HB)) : w.heap.size ≤ gb368)); clear HB; have HB := n0_; have BK368 := n1_; have GW368 := n2_; have GE368 := n3_; clear n0_ n1_ n2_ n3_; clear hb hbox hg; obtain ⟨_, _, _, _, _, _, _, _⟩ := cf4 BK368))
  refine bodyPost_ret (results_ct rfl _ _ gb368 47 #[.string (⟨#[]⟩ : ByteArray), .slice none 0 0, .bool false, .string (⟨#[]⟩ : ByteArray)] (0, 0) _ rfl (zz43 BK368) Tryd.underlying47 rfl (by kernel_rfl)) rfl ?_;exact ⟨_, zz1, zz44, (zz2 HB GE368)⟩
 ·rw [if_neg c2] at H
  have c2b0 : decide (60 < (a0.size : Int)) = false := decide_eq_false c2;have c2b1 : decide (60 < a0.size) = false := decide_eq_false (by omega);clear c2;replace H := bindA H;obtain ⟨⟨t369, t370, t371⟩, A5, H⟩ := H;try dsimp -simprocs only at H
  replace H := bindA H;obtain ⟨⟨t372, t373, t376, t377, t378⟩, A6, H⟩ := H;try dsimp -simprocs only at H
  simp only [Option.some.injEq, Prod.mk.injEq] at H
  obtain ⟨rfl, rfl, rfl, rfl, rfl⟩ := H;go_enter Tryd.func38, Tryd.ntmps38;go_wp2_with (first | ((with_reducible refine gate_dst (N := 2) rfl ?_); refine boxE 2 #[.string (⟨#[]⟩ : ByteArray), .slice none 0 0, .bool false, .string (⟨#[]⟩ : ByteArray)] 47 ?_; intro gb368 hg w7 hbox hb; have n0_ := Aside0.mk (below_step (zz0 HB) hb); have n1_ := Aside0.mk (hbox); have n2_ := Aside0.mk ((by rw [hg]; exact (below_size (zz0 HB)) : w.heap.size ≤ gb368)); have n3_ := Aside0.mk ((by rw [hg]; exact (below_size (zz0 HB)) : w.heap.size ≤ gb368)); clear HB; have HB := n0_; have BK368 := n1_; have GW368 := n2_; have GE368 := n3_; clear n0_ n1_ n2_ n3_; clear hb hbox hg) | ((with_reducible refine gate_callee (f := 43) rfl ?_); refine gsL (some 13) Tryd.func43 #[.string a0, .string (⟨#[35]⟩ : ByteArray)] ?_; (with_reducible refine (strings_Cut.calls a0 (⟨#[35]⟩ : ByteArray) t369 t370 t371 _ A5.out).mono ?_); rintro e w8 ⟨rfl, hb⟩; refine ⟨_, rfl, ?_⟩; have n0_ := Aside0.mk (blk_below (zz6 BK368) hb); have n1_ := Aside0.mk (below_step (zz2 HB GE368) hb); clear BK368; clear HB; have BK368 := n0_; have HB := n1_; clear n0_ n1_; (try clear hb)) | ((with_reducible refine gate_callee (f := 44) rfl ?_); refine gsL (some 18) Tryd.func44 #[.string t369] ?_; (with_reducible refine (impl_readWhole.calls k t369 t372 t373 t376 t377 t378 _ A6.out).mono ?_); rintro e w9 ⟨v374, rfl, ho0, hb⟩; refine ⟨_, rfl, ?_⟩; have n0_ := Aside0.mk (Kd.R_lower ho0 (below_size (zz2 HB GE368))); have n1_ := Aside0.mk (blk_below (zz6 BK368) hb); have n2_ := Aside0.mk (below_step (zz2 HB GE368) hb); clear BK368; clear HB; have HO375 := n0_; have BK368 := n1_; have HB := n2_; clear n0_ n1_ n2_; (try clear hb ho0); obtain ⟨_, _, _, _, _, _, _, _⟩ := cf4 BK368; obtain ⟨Ao11, co11, eo11⟩ := Kd.R_slice HO375.out; subst eo11))
  refine bodyPost_ret (results_ct rfl _ _ gb368 47 #[.string t372, .slice Ao11 t373.length co11, .bool t376, .string t377] (0, 0) _ rfl (zz43 BK368) Tryd.underlying47 rfl (by kernel_rfl)) rfl ?_;exact ⟨_, zz1, (zz50 (rt HO375 BK368)), (zz2 HB GE368)⟩
def impl_readAddress.f (k : Nat) (a0 : ByteArray) : Option (ByteArray × List ByteArray × Bool × ByteArray × Bool) := (impl_AddrRead.f k a0).bind fun bt380 => (if bt380.2.2.2.2 = true then ((impl_writeAddr.f bt380.1 bt380.2.1 bt380.2.2.1 bt380.2.2.2.1).bind fun t388 => (if t388.toList = a0.toList then (some (bt380.1, bt380.2.1, bt380.2.2.1, bt380.2.2.2.1, true)) else (some ((⟨#[]⟩ : ByteArray), ([] : List ByteArray), false, (⟨#[]⟩ : ByteArray), false)))) else (some ((⟨#[]⟩ : ByteArray), ([] : List ByteArray), false, (⟨#[]⟩ : ByteArray), false)))
theorem impl_readAddress.mono : ∀ a0 k, LeO (impl_readAddress.f k a0) (impl_readAddress.f (k + 1) a0) := by
 intro a0 k;unfold impl_readAddress.f
 repeat' first | (with_reducible first | exact impl_AddrRead.mono _ _ | exact LeO.refl _ | exact LeO.none _ | refine LeO.ite ?_ ?_ | refine LeO.bind ?_ (fun _ => ?_)) | exact LeO.none _ | refine LeO.ite ?_ ?_ | refine LeO.bind ?_ (fun _ => ?_)
set_option maxHeartbeats 8000000 in
set_option maxRecDepth 100000 in
theorem impl_readAddress.calls (k : Nat) (a0 : ByteArray) (r1 : ByteArray) (r2 : List ByteArray) (r3 : Bool) (r4 : ByteArray) (r5 : Bool) (w : World) (h : impl_readAddress.f k a0 = some (r1, r2, r3, r4, r5)) :
  Calls Tryd.prog 34 #[.string a0] w fun e w' => ∃ v1_ : Value, e = .returned (.tuple #[.agg #[.string r1, v1_, .bool r3, .string r4], .bool r5]) ∧ Kd.R Kd.string 9 w' w.heap.size (fun _ => True) v1_ r2 ∧ Below w.heap.size w w' := by
 have hu47 := Tryd.underlying47;have HB := Aside0.mk (Below.refl w.heap.size w);have H : ((impl_AddrRead.f k a0).bind fun bt380 => (if bt380.2.2.2.2 = true then ((impl_writeAddr.f bt380.1 bt380.2.1 bt380.2.2.1 bt380.2.2.2.1).bind fun t388 => (if t388.toList = a0.toList then (some (bt380.1, bt380.2.1, bt380.2.2.1, bt380.2.2.2.1, true)) else (some ((⟨#[]⟩ : ByteArray), ([] : List ByteArray), false, (⟨#[]⟩ : ByteArray), false)))) else (some ((⟨#[]⟩ : ByteArray), ([] : List ByteArray), false, (⟨#[]⟩ : ByteArray), false)))) = some (r1, r2, r3, r4, r5) := h;clear h;replace H := bindA H;obtain ⟨⟨t380, t381, t384, t385, t386⟩, A2, H⟩ := H;try dsimp -simprocs only at H
 by_cases c3 : t386 = true
 ·subst c3
  rw [if_pos rfl] at H;replace H := bindA H;obtain ⟨t388, A4, H⟩ := H;by_cases c5 : t388.toList = a0.toList
  ·rw [if_pos c5] at H
   have c5b0 : (t388.toList == a0.toList) = true := beq_iff_eq.mpr c5;have c5b1 : (t388.toList != a0.toList) = false := bne_eq_false_iff_eq.mpr c5;clear c5;simp only [Option.some.injEq, Prod.mk.injEq] at H
   obtain ⟨rfl, rfl, rfl, rfl, rfl⟩ := H;go_enter Tryd.func34, Tryd.ntmps34;go_wp2_with (first | ((with_reducible refine gate_dst (N := 2) rfl ?_); refine boxE 2 #[.string (⟨#[]⟩ : ByteArray), .slice none 0 0, .bool false, .string (⟨#[]⟩ : ByteArray)] 47 ?_; intro gb379 hg w6 hbox hb; have n0_ := Aside0.mk (below_step (zz0 HB) hb); have n1_ := Aside0.mk (hbox); have n2_ := Aside0.mk ((by rw [hg]; exact (below_size (zz0 HB)) : w.heap.size ≤ gb379)); have n3_ := Aside0.mk ((by rw [hg]; exact (below_size (zz0 HB)) : w.heap.size ≤ gb379)); clear HB; have HB := n0_; have BK379 := n1_; have GW379 := n2_; have GE379 := n3_; clear n0_ n1_ n2_ n3_; clear hb hbox hg) | ((with_reducible refine gate_callee (f := 38) rfl ?_); refine gsL (some 8) Tryd.func38 #[.string a0] ?_; (with_reducible refine (impl_AddrRead.calls k a0 t380 t381 t384 t385 true _ A2.out).mono ?_); rintro e w7 ⟨v382, rfl, ho0, hb⟩; refine ⟨_, rfl, ?_⟩; have n0_ := Aside0.mk (Kd.R_lower ho0 (below_size (zz2 HB GE379))); have n1_ := Aside0.mk (blk_below (zz6 BK379) hb); have n2_ := Aside0.mk (below_step (zz2 HB GE379) hb); clear BK379; clear HB; have HO383 := n0_; have BK379 := n1_; have HB := n2_; clear n0_ n1_ n2_; (try clear hb ho0)) | ((with_reducible refine gate_dst (N := 4) rfl ?_); refine boxE 4 #[.string (⟨#[]⟩ : ByteArray), .slice none 0 0, .bool false, .string (⟨#[]⟩ : ByteArray)] 47 ?_; intro gb387 hg w8 hbox hb; have n0_ := Aside0.mk (Kd.R_below (zz10 HO383) hb); have n1_ := Aside0.mk (blk_below (zz6 BK379) hb); have n2_ := Aside0.mk (below_step (zz2 HB GE379) hb); have n3_ := Aside0.mk (hbox); have n4_ := Aside0.mk ((by rw [hg]; exact (below_size (zz2 HB GE379)) : w.heap.size ≤ gb387)); have n5_ := Aside0.mk ((by rw [hg]; exact (below_size (zz2 HB GE379)) : w.heap.size ≤ gb387)); have n6_ := Aside0.mk ((by rw [hg]; exact Nat.ne_of_lt (blk_lt (zz6 BK379)) : gb379 ≠ gb387)); have n7_ := Aside0.mk ((by rw [hg]; exact Nat.ne_of_gt (blk_lt (zz6 BK379)) : gb387 ≠ gb379)); clear HO383; clear BK379; clear HB; have HO383 := n0_; have BK379 := n1_; have HB := n2_; have BK387 := n3_; have GW387 := n4_; have GE387 := n5_; have NB379_387 := n6_; have NB387_379 := n7_; clear n0_ n1_ n2_ n3_ n4_ n5_ n6_ n7_; clear hb hbox hg; have hnb9 := NB387_379.out; have hnc9 := NB379_387.out; obtain ⟨_, _, _, _, _, _, _, _⟩ := cf4 BK387; obtain ⟨Ao11, co11, eo11⟩ := Kd.R_slice HO383.out; subst eo11) | (go_at_call 39; (with_reducible refine (impl_writeAddr.calls t380 _ _ t381 t384 t385 t388 _ ?side1 ?side2 A4.out).mono ?_); (case side1 => exact (by refine (Kd.R_reads' (e := 9) (base := w.heap.size) (ok := fun k_ => True) (n := t381.length) (c := co11) ?_).2.2; exact (zz96 HO383 BK387))); (case side2 => exact (Kd.R_reads' HO383.out).2.1); rintro e w12 ⟨rfl, hb⟩; have n0_ := Aside0.mk (Kd.R_below (zz96 HO383 BK387) hb); have n1_ := Aside0.mk (blk_below (g := gb379) (o := .cells #[.string (⟨#[]⟩ : ByteArray), .slice none 0 0, .bool false, .string (⟨#[]⟩ : ByteArray)] 47 (0, 0)) (zz8 BK379 NB379_387) hb); have n2_ := Aside0.mk (blk_below (g := gb387) (o := .cells #[.string t380, .slice Ao11 t381.length co11, .bool t384, .string t385] 47 (0, 0)) (zz43 BK387) hb); have n3_ := Aside0.mk (below_step (zz7 HB GE379 GE387) hb); clear HO383; clear BK379; clear BK387; clear HB; have HO383 := n0_; have BK379 := n1_; have BK387 := n2_; have HB := n3_; clear n0_ n1_ n2_ n3_; (try clear hb); obtain ⟨_, _, _, _, _, _, _, _⟩ := cf4 BK387; obtain ⟨_, _, _, _, _, _, _, _⟩ := cf4 BK379))
   refine bodyPost_ret (results_ct rfl _ _ gb379 47 #[.string t380, .slice Ao11 t381.length co11, .bool t384, .string t385] (0, 0) _ rfl (zz43 BK379) Tryd.underlying47 rfl (by kernel_rfl)) rfl ?_;exact ⟨_, zz1, (zz50 (rt HO383 BK379)), (zz7 HB GE379 GE387)⟩
  ·rw [if_neg c5] at H
   have c5b0 : (t388.toList == a0.toList) = false := beq_eq_false_iff_ne.mpr c5;have c5b1 : (t388.toList != a0.toList) = true := bne_iff_ne.mpr c5;simp only [Option.some.injEq, Prod.mk.injEq] at H
   obtain ⟨rfl, rfl, rfl, rfl, rfl⟩ := H;go_enter Tryd.func34, Tryd.ntmps34;go_wp2_with (first | ((with_reducible refine gate_dst (N := 2) rfl ?_); refine boxE 2 #[.string (⟨#[]⟩ : ByteArray), .slice none 0 0, .bool false, .string (⟨#[]⟩ : ByteArray)] 47 ?_; intro gb379 hg w15 hbox hb; have n0_ := Aside0.mk (below_step (zz0 HB) hb); have n1_ := Aside0.mk (hbox); have n2_ := Aside0.mk ((by rw [hg]; exact (below_size (zz0 HB)) : w.heap.size ≤ gb379)); have n3_ := Aside0.mk ((by rw [hg]; exact (below_size (zz0 HB)) : w.heap.size ≤ gb379)); clear HB; have HB := n0_; have BK379 := n1_; have GW379 := n2_; have GE379 := n3_; clear n0_ n1_ n2_ n3_; clear hb hbox hg) | ((with_reducible refine gate_callee (f := 38) rfl ?_); refine gsL (some 8) Tryd.func38 #[.string a0] ?_; (with_reducible refine (impl_AddrRead.calls k a0 t380 t381 t384 t385 true _ A2.out).mono ?_); rintro e w16 ⟨v382, rfl, ho0, hb⟩; refine ⟨_, rfl, ?_⟩; have n0_ := Aside0.mk (Kd.R_lower ho0 (below_size (zz2 HB GE379))); have n1_ := Aside0.mk (blk_below (zz6 BK379) hb); have n2_ := Aside0.mk (below_step (zz2 HB GE379) hb); clear BK379; clear HB; have HO383 := n0_; have BK379 := n1_; have HB := n2_; clear n0_ n1_ n2_; (try clear hb ho0)) | ((with_reducible refine gate_dst (N := 4) rfl ?_); refine boxE 4 #[.string (⟨#[]⟩ : ByteArray), .slice none 0 0, .bool false, .string (⟨#[]⟩ : ByteArray)] 47 ?_; intro gb387 hg w17 hbox hb; have n0_ := Aside0.mk (Kd.R_below (zz10 HO383) hb); have n1_ := Aside0.mk (blk_below (zz6 BK379) hb); have n2_ := Aside0.mk (below_step (zz2 HB GE379) hb); have n3_ := Aside0.mk (hbox); have n4_ := Aside0.mk ((by rw [hg]; exact (below_size (zz2 HB GE379)) : w.heap.size ≤ gb387)); have n5_ := Aside0.mk ((by rw [hg]; exact (below_size (zz2 HB GE379)) : w.heap.size ≤ gb387)); have n6_ := Aside0.mk ((by rw [hg]; exact Nat.ne_of_lt (blk_lt (zz6 BK379)) : gb379 ≠ gb387)); have n7_ := Aside0.mk ((by rw [hg]; exact Nat.ne_of_gt (blk_lt (zz6 BK379)) : gb387 ≠ gb379)); clear HO383; clear BK379; clear HB; have HO383 := n0_; have BK379 := n1_; have HB := n2_; have BK387 := n3_; have GW387 := n4_; have GE387 := n5_; have NB379_387 := n6_; have NB387_379 := n7_; clear n0_ n1_ n2_ n3_ n4_ n5_ n6_ n7_; clear hb hbox hg; have hnb18 := NB387_379.out; have hnc18 := NB379_387.out; obtain ⟨_, _, _, _, _, _, _, _⟩ := cf4 BK387; obtain ⟨Ao20, co20, eo20⟩ := Kd.R_slice HO383.out; subst eo20) | (go_at_call 39; (with_reducible refine (impl_writeAddr.calls t380 _ _ t381 t384 t385 t388 _ ?side1 ?side2 A4.out).mono ?_); (case side1 => exact (by refine (Kd.R_reads' (e := 9) (base := w.heap.size) (ok := fun k_ => True) (n := t381.length) (c := co20) ?_).2.2; exact (zz98 HO383 BK387))); (case side2 => exact (Kd.R_reads' HO383.out).2.1); rintro e w21 ⟨rfl, hb⟩; have n0_ := Aside0.mk (Kd.R_below (zz98 HO383 BK387) hb); have n1_ := Aside0.mk (blk_below (g := gb379) (o := .cells #[.string (⟨#[]⟩ : ByteArray), .slice none 0 0, .bool false, .string (⟨#[]⟩ : ByteArray)] 47 (0, 0)) (zz8 BK379 NB379_387) hb); have n2_ := Aside0.mk (blk_below (g := gb387) (o := .cells #[.string t380, .slice Ao20 t381.length co20, .bool t384, .string t385] 47 (0, 0)) (zz43 BK387) hb); have n3_ := Aside0.mk (below_step (zz7 HB GE379 GE387) hb); clear HO383; clear BK379; clear BK387; clear HB; have HO383 := n0_; have BK379 := n1_; have BK387 := n2_; have HB := n3_; clear n0_ n1_ n2_ n3_; (try clear hb); obtain ⟨_, _, _, _, _, _, _, _⟩ := cf4 BK379))
   refine bodyPost_ret (results_ct rfl _ _ gb379 47 #[.string (⟨#[]⟩ : ByteArray), .slice none 0 0, .bool false, .string (⟨#[]⟩ : ByteArray)] (0, 0) _ rfl (zz43 BK379) Tryd.underlying47 rfl (by kernel_rfl)) rfl ?_;exact ⟨_, zz1, zz44, (zz7 HB GE379 GE387)⟩
 ·replace c3 := Bool.eq_false_iff.mpr c3
  subst c3;rw [if_neg (show ¬ (false = true) by decide)] at H;simp only [Option.some.injEq, Prod.mk.injEq] at H
  obtain ⟨rfl, rfl, rfl, rfl, rfl⟩ := H;go_enter Tryd.func34, Tryd.ntmps34;go_wp2_with (first | ((with_reducible refine gate_dst (N := 2) rfl ?_); refine boxE 2 #[.string (⟨#[]⟩ : ByteArray), .slice none 0 0, .bool false, .string (⟨#[]⟩ : ByteArray)] 47 ?_; intro gb379 hg w23 hbox hb; have n0_ := Aside0.mk (below_step (zz0 HB) hb); have n1_ := Aside0.mk (hbox); have n2_ := Aside0.mk ((by rw [hg]; exact (below_size (zz0 HB)) : w.heap.size ≤ gb379)); have n3_ := Aside0.mk ((by rw [hg]; exact (below_size (zz0 HB)) : w.heap.size ≤ gb379)); clear HB; have HB := n0_; have BK379 := n1_; have GW379 := n2_; have GE379 := n3_; clear n0_ n1_ n2_ n3_; clear hb hbox hg) | ((with_reducible refine gate_callee (f := 38) rfl ?_); refine gsL (some 8) Tryd.func38 #[.string a0] ?_; (with_reducible refine (impl_AddrRead.calls k a0 t380 t381 t384 t385 false _ A2.out).mono ?_); rintro e w24 ⟨v382, rfl, ho0, hb⟩; refine ⟨_, rfl, ?_⟩; have n0_ := Aside0.mk (Kd.R_lower ho0 (below_size (zz2 HB GE379))); have n1_ := Aside0.mk (blk_below (zz6 BK379) hb); have n2_ := Aside0.mk (below_step (zz2 HB GE379) hb); clear BK379; clear HB; have HO383 := n0_; have BK379 := n1_; have HB := n2_; clear n0_ n1_ n2_; (try clear hb ho0)) | ((with_reducible refine gate_dst (N := 4) rfl ?_); refine boxE 4 #[.string (⟨#[]⟩ : ByteArray), .slice none 0 0, .bool false, .string (⟨#[]⟩ : ByteArray)] 47 ?_; intro gb387 hg w25 hbox hb; have n0_ := Aside0.mk (Kd.R_below (zz10 HO383) hb); have n1_ := Aside0.mk (blk_below (zz6 BK379) hb); have n2_ := Aside0.mk (below_step (zz2 HB GE379) hb); have n3_ := Aside0.mk (hbox); have n4_ := Aside0.mk ((by rw [hg]; exact (below_size (zz2 HB GE379)) : w.heap.size ≤ gb387)); have n5_ := Aside0.mk ((by rw [hg]; exact (below_size (zz2 HB GE379)) : w.heap.size ≤ gb387)); have n6_ := Aside0.mk ((by rw [hg]; exact Nat.ne_of_lt (blk_lt (zz6 BK379)) : gb379 ≠ gb387)); have n7_ := Aside0.mk ((by rw [hg]; exact Nat.ne_of_gt (blk_lt (zz6 BK379)) : gb387 ≠ gb379)); clear HO383; clear BK379; clear HB; have HO383 := n0_; have BK379 := n1_; have HB := n2_; have BK387 := n3_; have GW387 := n4_; have GE387 := n5_; have NB379_387 := n6_; have NB387_379 := n7_; clear n0_ n1_ n2_ n3_ n4_ n5_ n6_ n7_; clear hb hbox hg; have hnb26 := NB387_379.out; have hnc26 := NB379_387.out; obtain ⟨_, _, _, _, _, _, _, _⟩ := cf4 BK387; obtain ⟨Ao28, co28, eo28⟩ := Kd.R_slice HO383.out; subst eo28; obtain ⟨_, _, _, _, _, _, _, _⟩ := cf4 BK379))
  refine bodyPost_ret (results_ct rfl _ _ gb379 47 #[.string (⟨#[]⟩ : ByteArray), .slice none 0 0, .bool false, .string (⟨#[]⟩ : ByteArray)] (0, 0) _ rfl (zz8 BK379 NB379_387) Tryd.underlying47 rfl (by kernel_rfl)) rfl ?_;exact ⟨_, zz1, zz44, (zz7 HB GE379 GE387)⟩
def impl_isAddress.f (k : Nat) (a0 : ByteArray) : Option (Bool) := (impl_readAddress.f k a0).bind fun bt389 => (some bt389.2.2.2.2)
theorem impl_isAddress.mono : ∀ a0 k, LeO (impl_isAddress.f k a0) (impl_isAddress.f (k + 1) a0) := by
 intro a0 k;unfold impl_isAddress.f
 repeat' first | (with_reducible first | exact impl_readAddress.mono _ _ | exact LeO.refl _ | exact LeO.none _ | refine LeO.ite ?_ ?_ | refine LeO.bind ?_ (fun _ => ?_)) | exact LeO.none _ | refine LeO.ite ?_ ?_ | refine LeO.bind ?_ (fun _ => ?_)
set_option maxHeartbeats 8000000 in
set_option maxRecDepth 100000 in
theorem impl_isAddress.calls (k : Nat) (a0 : ByteArray) (r : Bool) (w : World) (h : impl_isAddress.f k a0 = some r) :
  Calls Tryd.prog 28 #[.string a0] w fun e w' => e = .returned (.bool r) ∧ Below w.heap.size w w' := by
 have hu47 := Tryd.underlying47;have HB := Aside0.mk (Below.refl w.heap.size w);have H : ((impl_readAddress.f k a0).bind fun bt389 => (some bt389.2.2.2.2)) = some r := h;clear h;replace H := bindA H;obtain ⟨⟨t389, t390, t393, t394, t395⟩, A2, H⟩ := H;try dsimp -simprocs only at H
 obtain rfl := Option.some.inj H;go_enter Tryd.func28, Tryd.ntmps28;go_wp2_with (first | ((with_reducible refine gate_callee (f := 34) rfl ?_); refine gsL (some 7) Tryd.func34 #[.string a0] ?_; (with_reducible refine (impl_readAddress.calls k a0 t389 t390 t393 t394 t395 _ A2.out).mono ?_); rintro e w3 ⟨v391, rfl, ho0, hb⟩; refine ⟨_, rfl, ?_⟩; have n0_ := Aside0.mk (Kd.R_lower ho0 (below_size (zz0 HB))); have n1_ := Aside0.mk (below_step (zz0 HB) hb); clear HB; have HO392 := n0_; have HB := n1_; clear n0_ n1_; (try clear hb ho0)) | ((with_reducible refine gate_dst (N := 3) rfl ?_); refine boxE 3 #[.string (⟨#[]⟩ : ByteArray), .slice none 0 0, .bool false, .string (⟨#[]⟩ : ByteArray)] 47 ?_; intro gb396 hg w4 hbox hb; have n0_ := Aside0.mk (Kd.R_below (zz10 HO392) hb); have n1_ := Aside0.mk (below_step (zz0 HB) hb); have n2_ := Aside0.mk (hbox); have n3_ := Aside0.mk ((by rw [hg]; exact (below_size (zz0 HB)) : w.heap.size ≤ gb396)); have n4_ := Aside0.mk ((by rw [hg]; exact (below_size (zz0 HB)) : w.heap.size ≤ gb396)); clear HO392; clear HB; have HO392 := n0_; have HB := n1_; have BK396 := n2_; have GW396 := n3_; have GE396 := n4_; clear n0_ n1_ n2_ n3_ n4_; clear hb hbox hg; obtain ⟨_, _, _, _, _, _, _, _⟩ := cf4 BK396; obtain ⟨Ao6, co6, eo6⟩ := Kd.R_slice HO392.out; subst eo6))
 go_ret
 exact ⟨zz1, (zz2 HB GE396)⟩
def impl_pageOk.f (k : Nat) (a0_0 : ByteArray) (a0_1 : ByteArray) (a0_2 : ByteArray) (a0_3 : Int) : Option (Bool) := (impl_isAddress.f k a0_0).bind fun t398 => (if t398 = true then (if (a0_1.size : Int) > 300 then (some false) else (if a0_3 < 0 then (some false) else (if a0_3 > 9 then (some false) else (if a0_2.toList = ([] : List UInt8) then (some true) else ((impl_isAddress.f k a0_2).bind fun t399 => (if t399 = true then (some (a0_1.toList == ([] : List UInt8))) else (some false))))))) else (some false))
theorem impl_pageOk.mono : ∀ a0 a1 a2 a3 k, LeO (impl_pageOk.f k a0 a1 a2 a3) (impl_pageOk.f (k + 1) a0 a1 a2 a3) := by
 intro a0 a1 a2 a3 k;unfold impl_pageOk.f
 repeat' first | (with_reducible first | exact impl_isAddress.mono _ _ | exact LeO.refl _ | exact LeO.none _ | refine LeO.ite ?_ ?_ | refine LeO.bind ?_ (fun _ => ?_)) | exact LeO.none _ | refine LeO.ite ?_ ?_ | refine LeO.bind ?_ (fun _ => ?_)
set_option maxHeartbeats 8000000 in
set_option maxRecDepth 100000 in
theorem impl_pageOk.calls (k : Nat) (a0_0 : ByteArray) (a0_1 : ByteArray) (a0_2 : ByteArray) (a0_3 : Int) (r : Bool) (w : World) (h : impl_pageOk.f k a0_0 a0_1 a0_2 a0_3 = some r) :
  Calls Tryd.prog 22 #[.agg #[.string a0_0, .string a0_1, .string a0_2, .int .i64 a0_3]] w fun e w' => e = .returned (.bool r) ∧ Below w.heap.size w w' := by
 have hu36 := Tryd.underlying36;have HB := Aside0.mk (Below.refl w.heap.size w);have H : ((impl_isAddress.f k a0_0).bind fun t398 => (if t398 = true then (if (a0_1.size : Int) > 300 then (some false) else (if a0_3 < 0 then (some false) else (if a0_3 > 9 then (some false) else (if a0_2.toList = ([] : List UInt8) then (some true) else ((impl_isAddress.f k a0_2).bind fun t399 => (if t399 = true then (some (a0_1.toList == ([] : List UInt8))) else (some false))))))) else (some false))) = some r := h;clear h;replace H := bindA H;obtain ⟨t398, A2, H⟩ := H;by_cases c3 : t398 = true
 ·subst c3
  rw [if_pos rfl] at H;by_cases c4 : (a0_1.size : Int) > 300
  ·rw [if_pos c4] at H
   have c4b0 : decide (300 < (a0_1.size : Int)) = true := decide_eq_true c4;have c4b1 : decide (300 < a0_1.size) = true := decide_eq_true (by omega);clear c4;obtain rfl := Option.some.inj H;go_enter Tryd.func22, Tryd.ntmps22;go_wp2_with (first | ((with_reducible refine gate_dst (N := 1) rfl ?_); (try (refine gate_guard (by rfl) ?_; dsimp only)); refine boxE 1 #[.string a0_0, .string a0_1, .string a0_2, .int .i64 a0_3] 36 ?_; intro gb397 hg w5 hbox hb; have n0_ := Aside0.mk (below_step (zz0 HB) hb); have n1_ := Aside0.mk (hbox); have n2_ := Aside0.mk ((by rw [hg]; exact (below_size (zz0 HB)) : w.heap.size ≤ gb397)); have n3_ := Aside0.mk ((by rw [hg]; exact (below_size (zz0 HB)) : w.heap.size ≤ gb397)); clear HB; have HB := n0_; have BK397 := n1_; have GW397 := n2_; have GE397 := n3_; clear n0_ n1_ n2_ n3_; clear hb hbox hg; obtain ⟨_, _, _, _, _, _, _, _⟩ := cf4 BK397) | ((with_reducible refine gate_callee (f := 28) rfl ?_); refine gsL (some 5) Tryd.func28 #[.string a0_0] ?_; (with_reducible refine (impl_isAddress.calls k a0_0 true _ A2.out).mono ?_); rintro e w7 ⟨rfl, hb⟩; refine ⟨_, rfl, ?_⟩; have n0_ := Aside0.mk (blk_below (zz6 BK397) hb); have n1_ := Aside0.mk (below_step (zz2 HB GE397) hb); clear BK397; clear HB; have BK397 := n0_; have HB := n1_; clear n0_ n1_; (try clear hb); obtain ⟨_, _, _, _, _, _, _, _⟩ := cf4 BK397))
   go_ret
   exact ⟨zz1, (zz2 HB GE397)⟩
  ·rw [if_neg c4] at H
   have c4b0 : decide (300 < (a0_1.size : Int)) = false := decide_eq_false c4;have c4b1 : decide (300 < a0_1.size) = false := decide_eq_false (by omega);clear c4;by_cases c9 : a0_3 < 0
   ·rw [if_pos c9] at H
    have c9b0 : decide (a0_3 < 0) = true := decide_eq_true c9;clear c9;obtain rfl := Option.some.inj H;go_enter Tryd.func22, Tryd.ntmps22;go_wp2_with (first | ((with_reducible refine gate_dst (N := 1) rfl ?_); (try (refine gate_guard (by rfl) ?_; dsimp only)); refine boxE 1 #[.string a0_0, .string a0_1, .string a0_2, .int .i64 a0_3] 36 ?_; intro gb397 hg w10 hbox hb; have n0_ := Aside0.mk (below_step (zz0 HB) hb); have n1_ := Aside0.mk (hbox); have n2_ := Aside0.mk ((by rw [hg]; exact (below_size (zz0 HB)) : w.heap.size ≤ gb397)); have n3_ := Aside0.mk ((by rw [hg]; exact (below_size (zz0 HB)) : w.heap.size ≤ gb397)); clear HB; have HB := n0_; have BK397 := n1_; have GW397 := n2_; have GE397 := n3_; clear n0_ n1_ n2_ n3_; clear hb hbox hg; obtain ⟨_, _, _, _, _, _, _, _⟩ := cf4 BK397) | ((with_reducible refine gate_callee (f := 28) rfl ?_); refine gsL (some 5) Tryd.func28 #[.string a0_0] ?_; (with_reducible refine (impl_isAddress.calls k a0_0 true _ A2.out).mono ?_); rintro e w12 ⟨rfl, hb⟩; refine ⟨_, rfl, ?_⟩; have n0_ := Aside0.mk (blk_below (zz6 BK397) hb); have n1_ := Aside0.mk (below_step (zz2 HB GE397) hb); clear BK397; clear HB; have BK397 := n0_; have HB := n1_; clear n0_ n1_; (try clear hb); obtain ⟨_, _, _, _, _, _, _, _⟩ := cf4 BK397))
    go_ret
    exact ⟨zz1, (zz2 HB GE397)⟩
   ·rw [if_neg c9] at H
    have c9b0 : decide (a0_3 < 0) = false := decide_eq_false c9;clear c9;by_cases c14 : a0_3 > 9
    ·rw [if_pos c14] at H
     have c14b0 : decide (9 < a0_3) = true := decide_eq_true c14;clear c14;obtain rfl := Option.some.inj H;go_enter Tryd.func22, Tryd.ntmps22;go_wp2_with (first | ((with_reducible refine gate_dst (N := 1) rfl ?_); (try (refine gate_guard (by rfl) ?_; dsimp only)); refine boxE 1 #[.string a0_0, .string a0_1, .string a0_2, .int .i64 a0_3] 36 ?_; intro gb397 hg w15 hbox hb; have n0_ := Aside0.mk (below_step (zz0 HB) hb); have n1_ := Aside0.mk (hbox); have n2_ := Aside0.mk ((by rw [hg]; exact (below_size (zz0 HB)) : w.heap.size ≤ gb397)); have n3_ := Aside0.mk ((by rw [hg]; exact (below_size (zz0 HB)) : w.heap.size ≤ gb397)); clear HB; have HB := n0_; have BK397 := n1_; have GW397 := n2_; have GE397 := n3_; clear n0_ n1_ n2_ n3_; clear hb hbox hg; obtain ⟨_, _, _, _, _, _, _, _⟩ := cf4 BK397) | ((with_reducible refine gate_callee (f := 28) rfl ?_); refine gsL (some 5) Tryd.func28 #[.string a0_0] ?_; (with_reducible refine (impl_isAddress.calls k a0_0 true _ A2.out).mono ?_); rintro e w17 ⟨rfl, hb⟩; refine ⟨_, rfl, ?_⟩; have n0_ := Aside0.mk (blk_below (zz6 BK397) hb); have n1_ := Aside0.mk (below_step (zz2 HB GE397) hb); clear BK397; clear HB; have BK397 := n0_; have HB := n1_; clear n0_ n1_; (try clear hb); obtain ⟨_, _, _, _, _, _, _, _⟩ := cf4 BK397))
     go_ret
     exact ⟨zz1, (zz2 HB GE397)⟩
    ·rw [if_neg c14] at H
     have c14b0 : decide (9 < a0_3) = false := decide_eq_false c14;clear c14;by_cases c19 : a0_2.toList = ([] : List UInt8)
     ·rw [if_pos c19] at H
      have c19b0 : (a0_2.toList == ([] : List UInt8)) = true := beq_iff_eq.mpr c19;have c19b1 : (a0_2.toList != ([] : List UInt8)) = false := bne_eq_false_iff_eq.mpr c19;clear c19;obtain rfl := Option.some.inj H;go_enter Tryd.func22, Tryd.ntmps22;go_wp2_with (first | ((with_reducible refine gate_dst (N := 1) rfl ?_); (try (refine gate_guard (by rfl) ?_; dsimp only)); refine boxE 1 #[.string a0_0, .string a0_1, .string a0_2, .int .i64 a0_3] 36 ?_; intro gb397 hg w20 hbox hb; have n0_ := Aside0.mk (below_step (zz0 HB) hb); have n1_ := Aside0.mk (hbox); have n2_ := Aside0.mk ((by rw [hg]; exact (below_size (zz0 HB)) : w.heap.size ≤ gb397)); have n3_ := Aside0.mk ((by rw [hg]; exact (below_size (zz0 HB)) : w.heap.size ≤ gb397)); clear HB; have HB := n0_; have BK397 := n1_; have GW397 := n2_; have GE397 := n3_; clear n0_ n1_ n2_ n3_; clear hb hbox hg; obtain ⟨_, _, _, _, _, _, _, _⟩ := cf4 BK397) | ((with_reducible refine gate_callee (f := 28) rfl ?_); refine gsL (some 5) Tryd.func28 #[.string a0_0] ?_; (with_reducible refine (impl_isAddress.calls k a0_0 true _ A2.out).mono ?_); rintro e w22 ⟨rfl, hb⟩; refine ⟨_, rfl, ?_⟩; have n0_ := Aside0.mk (blk_below (zz6 BK397) hb); have n1_ := Aside0.mk (below_step (zz2 HB GE397) hb); clear BK397; clear HB; have BK397 := n0_; have HB := n1_; clear n0_ n1_; (try clear hb); obtain ⟨_, _, _, _, _, _, _, _⟩ := cf4 BK397))
      go_ret
      exact ⟨zz1, (zz2 HB GE397)⟩
     ·rw [if_neg c19] at H
      have c19b0 : (a0_2.toList == ([] : List UInt8)) = false := beq_eq_false_iff_ne.mpr c19;have c19b1 : (a0_2.toList != ([] : List UInt8)) = true := bne_iff_ne.mpr c19;replace H := bindA H;obtain ⟨t399, A24, H⟩ := H;by_cases c25 : t399 = true
      ·subst c25
       rw [if_pos rfl] at H;obtain rfl := Option.some.inj H;go_enter Tryd.func22, Tryd.ntmps22;go_wp2_with (first | ((with_reducible refine gate_dst (N := 1) rfl ?_); (try (refine gate_guard (by rfl) ?_; dsimp only)); refine boxE 1 #[.string a0_0, .string a0_1, .string a0_2, .int .i64 a0_3] 36 ?_; intro gb397 hg w26 hbox hb; have n0_ := Aside0.mk (below_step (zz0 HB) hb); have n1_ := Aside0.mk (hbox); have n2_ := Aside0.mk ((by rw [hg]; exact (below_size (zz0 HB)) : w.heap.size ≤ gb397)); have n3_ := Aside0.mk ((by rw [hg]; exact (below_size (zz0 HB)) : w.heap.size ≤ gb397)); clear HB; have HB := n0_; have BK397 := n1_; have GW397 := n2_; have GE397 := n3_; clear n0_ n1_ n2_ n3_; clear hb hbox hg; obtain ⟨_, _, _, _, _, _, _, _⟩ := cf4 BK397) | ((with_reducible refine gate_callee (f := 28) rfl ?_); refine gsL (some 5) Tryd.func28 #[.string a0_0] ?_; (with_reducible refine (impl_isAddress.calls k a0_0 true _ A2.out).mono ?_); rintro e w28 ⟨rfl, hb⟩; refine ⟨_, rfl, ?_⟩; have n0_ := Aside0.mk (blk_below (zz6 BK397) hb); have n1_ := Aside0.mk (below_step (zz2 HB GE397) hb); clear BK397; clear HB; have BK397 := n0_; have HB := n1_; clear n0_ n1_; (try clear hb); obtain ⟨_, _, _, _, _, _, _, _⟩ := cf4 BK397) | (go_at_call 28; (with_reducible refine (impl_isAddress.calls k a0_2 true _ A24.out).mono ?_); rintro e w30 ⟨rfl, hb⟩; have n0_ := Aside0.mk (blk_below (zz6 BK397) hb); have n1_ := Aside0.mk (below_step (zz2 HB GE397) hb); clear BK397; clear HB; have BK397 := n0_; have HB := n1_; clear n0_ n1_; (try clear hb); obtain ⟨_, _, _, _, _, _, _, _⟩ := cf4 BK397))
       go_ret
       exact ⟨zz1, (zz2 HB GE397)⟩
      ·replace c25 := Bool.eq_false_iff.mpr c25
       subst c25;rw [if_neg (show ¬ (false = true) by decide)] at H;obtain rfl := Option.some.inj H;go_enter Tryd.func22, Tryd.ntmps22;go_wp2_with (first | ((with_reducible refine gate_dst (N := 1) rfl ?_); (try (refine gate_guard (by rfl) ?_; dsimp only)); refine boxE 1 #[.string a0_0, .string a0_1, .string a0_2, .int .i64 a0_3] 36 ?_; intro gb397 hg w32 hbox hb; have n0_ := Aside0.mk (below_step (zz0 HB) hb); have n1_ := Aside0.mk (hbox); have n2_ := Aside0.mk ((by rw [hg]; exact (below_size (zz0 HB)) : w.heap.size ≤ gb397)); have n3_ := Aside0.mk ((by rw [hg]; exact (below_size (zz0 HB)) : w.heap.size ≤ gb397)); clear HB; have HB := n0_; have BK397 := n1_; have GW397 := n2_; have GE397 := n3_; clear n0_ n1_ n2_ n3_; clear hb hbox hg; obtain ⟨_, _, _, _, _, _, _, _⟩ := cf4 BK397) | ((with_reducible refine gate_callee (f := 28) rfl ?_); refine gsL (some 5) Tryd.func28 #[.string a0_0] ?_; (with_reducible refine (impl_isAddress.calls k a0_0 true _ A2.out).mono ?_); rintro e w34 ⟨rfl, hb⟩; refine ⟨_, rfl, ?_⟩; have n0_ := Aside0.mk (blk_below (zz6 BK397) hb); have n1_ := Aside0.mk (below_step (zz2 HB GE397) hb); clear BK397; clear HB; have BK397 := n0_; have HB := n1_; clear n0_ n1_; (try clear hb); obtain ⟨_, _, _, _, _, _, _, _⟩ := cf4 BK397) | (go_at_call 28; (with_reducible refine (impl_isAddress.calls k a0_2 false _ A24.out).mono ?_); rintro e w36 ⟨rfl, hb⟩; have n0_ := Aside0.mk (blk_below (zz6 BK397) hb); have n1_ := Aside0.mk (below_step (zz2 HB GE397) hb); clear BK397; clear HB; have BK397 := n0_; have HB := n1_; clear n0_ n1_; (try clear hb)))
       go_ret
       exact ⟨zz1, (zz2 HB GE397)⟩
 ·replace c3 := Bool.eq_false_iff.mpr c3
  subst c3;rw [if_neg (show ¬ (false = true) by decide)] at H;obtain rfl := Option.some.inj H;go_enter Tryd.func22, Tryd.ntmps22;go_wp2_with (first | ((with_reducible refine gate_dst (N := 1) rfl ?_); (try (refine gate_guard (by rfl) ?_; dsimp only)); refine boxE 1 #[.string a0_0, .string a0_1, .string a0_2, .int .i64 a0_3] 36 ?_; intro gb397 hg w37 hbox hb; have n0_ := Aside0.mk (below_step (zz0 HB) hb); have n1_ := Aside0.mk (hbox); have n2_ := Aside0.mk ((by rw [hg]; exact (below_size (zz0 HB)) : w.heap.size ≤ gb397)); have n3_ := Aside0.mk ((by rw [hg]; exact (below_size (zz0 HB)) : w.heap.size ≤ gb397)); clear HB; have HB := n0_; have BK397 := n1_; have GW397 := n2_; have GE397 := n3_; clear n0_ n1_ n2_ n3_; clear hb hbox hg; obtain ⟨_, _, _, _, _, _, _, _⟩ := cf4 BK397) | ((with_reducible refine gate_callee (f := 28) rfl ?_); refine gsL (some 5) Tryd.func28 #[.string a0_0] ?_; (with_reducible refine (impl_isAddress.calls k a0_0 false _ A2.out).mono ?_); rintro e w39 ⟨rfl, hb⟩; refine ⟨_, rfl, ?_⟩; have n0_ := Aside0.mk (blk_below (zz6 BK397) hb); have n1_ := Aside0.mk (below_step (zz2 HB GE397) hb); clear BK397; clear HB; have BK397 := n0_; have HB := n1_; clear n0_ n1_; (try clear hb)))
  go_ret
  exact ⟨zz1, (zz2 HB GE397)⟩
end Go.Proofs.YtpnedbnpnekahaaDoor.P
end
section
namespace Go.Proofs.YtpnedbnpnekahaaDoor.P
open Go.RowKit Go.Proofs.YtpnedbnpnekahaaDoorW.PrintWords Go.Proofs.YtpnedbnpnekahaaDoorW.PrintLast Go.Proofs.YtpnedbnpnekahaaDoorW.PrintMore Go.Maps Go.ChangeMaps
set_option linter.unusedVariables false
set_option linter.unusedSimpArgs false
def pageD (p : S36) : DataW Unit := .agg [.lit (.string p.f0.data.toList), .lit (.string p.f1.data.toList), .lit (.string p.f2.data.toList), .lit (.int .i64 p.f3)]
def pageV (p : S36) : Value := .agg #[.string p.f0, .string p.f1, .string p.f2, .int .i64 p.f3]
def pageR (v : Value) : Option (DataW Unit × List MemPlace) :=
 match v with
 | .agg ⟨[.string a, .string b, .string c, .int .i64 d]⟩ => some (pageD ⟨a, b, c, d⟩, [])
 | _ => none
theorem pageR_mk (p : S36) : pageR (pageV p) = some (pageD p, []) := rfl
theorem pageR_inv {v : Value} {z : DataW Unit × List MemPlace} (h : pageR v = some z) : ∃ p, v = pageV p ∧ z = (pageD p, []) := by
 unfold pageR at h
 split at h
 ·exact ⟨⟨_, _, _, _⟩, rfl, (Option.some.inj h).symm⟩
 ·cases h
theorem pageD_inj {p q : S36} (h : pageD p = pageD q) : p = q := by
 obtain ⟨⟨⟨p0⟩⟩, ⟨⟨p1⟩⟩, ⟨⟨p2⟩⟩, p3⟩ := p
 obtain ⟨⟨⟨q0⟩⟩, ⟨⟨q1⟩⟩, ⟨⟨q2⟩⟩, q3⟩ := q
 simp [pageD] at h
 obtain ⟨rfl, rfl, rfl, rfl⟩ := h
 rfl
def keyL (s : ByteArray) : Lit := .string s.data.toList
def mapR : List S36 → DataW Unit
 | [] => .map []
 | p :: r => (mapR r).put (keyL p.f0) (pageD p)
def mapD (l : List S36) : DataW Unit := mapR l.reverse
theorem mapD_snoc (l : List S36) (p : S36) : mapD (l ++ [p]) = (mapD l).put (keyL p.f0) (pageD p) := by simp [mapD, mapR]
theorem keyL_lit (a : ByteArray) : WideAt.IsKeyLit (keyL a) := trivial
theorem keyL_inj {a b : ByteArray} (h : keyL a = keyL b) : a = b := by
 obtain ⟨⟨a⟩⟩ := a
 obtain ⟨⟨b⟩⟩ := b
 simp [keyL] at h
 rw [h]
theorem mapR_is : ∀ l, IsMap (mapR l)
 | [] => isMap_empty
 | p :: r => (mapR_is r).put _ _
theorem mapR_tidy : ∀ l, Tidy (mapR l)
 | [] => tidy_empty
 | p :: r => (mapR_tidy r).put (keyL_lit _) _
def pageAtR (a : ByteArray) : List S36 → Option S36
 | [] => none
 | p :: r => if p.f0 = a then some p else pageAtR a r
theorem mapR_at (a : ByteArray) : ∀ l, (mapR l).atKey (keyL a) (pageD z36) = pageD ((pageAtR a l).getD z36)
 | [] => rfl
 | p :: r => by
  unfold mapR pageAtR
  by_cases h : p.f0 = a
  ·rw [if_pos h, ← h, atKey_put_same (mapR_is r) (keyL_lit _)]; rfl
  ·rw [if_neg h, atKey_put_other (fun e => h (keyL_inj e).symm)]
   exact mapR_at a r
theorem mapR_has (a : ByteArray) : ∀ l, has (mapR l) (keyL a) = (pageAtR a l).isSome
 | [] => rfl
 | p :: r => by
  unfold mapR pageAtR
  by_cases h : p.f0 = a
  ·rw [if_pos h, ← h, has_put_same (mapR_is r) (keyL_lit _)]; rfl
  ·rw [if_neg h, has_put_other (fun e => h (keyL_inj e).symm)]
   exact mapR_has a r
theorem mapR_size (p : S36) (r : List S36) : size (mapR (p :: r)) = if (pageAtR p.f0 r).isSome then size (mapR r) else size (mapR r) + 1 := by
 show size ((mapR r).put _ _) = _
 rw [size_put (mapR_tidy r), mapR_has]
def getF (l : List S36) (a : ByteArray) (t : Int) : Int × ByteArray :=
 match pageAtR a l.reverse with
 | none => (0, ⟨#[]⟩)
 | some p => if t < 0 then (0, ⟨#[]⟩) else if t < p.f3 then (3, ⟨#[]⟩) else if p.f2.toList = ([] : List UInt8) then (1, p.f1) else (2, p.f2)
def pagesOk (k : Nat) : List S36 → Option Bool
 | [] => some true
 | p :: r => if p.f0.size ≤ 9223372036854775807 then (impl_pageOk.f k p.f0 p.f1 p.f2 p.f3).bind fun t => if t = true then pagesOk k r else some false else none
theorem map_below {w w' : World} {P : Program} {k : TypeId} {R : Value → Option (DataW Unit × List MemPlace)} {b n : Nat} {D : DataW Unit} (h : w.ownsMap P k R b n D) (hb : Below w.heap.size w w') : w'.ownsMap P k R b n D := by
 have hlt := h.lt
 obtain ⟨es, clock, h1, F, h2, h3⟩ := h
 exact ⟨es, clock, (hb.block b hlt).trans h1, F, h2, h3⟩
theorem grown_below {w W W' : World} (h : Below w.heap.size w W) (g : W.grownBy W' (some w.heap.size)) : Below w.heap.size w W' :=
 ⟨g.os.trans h.os, g.tape.trans h.tape, g.output.trans h.output, Nat.le_trans h.size g.size, fun i hi => (g.block i (Nat.lt_of_lt_of_le hi h.size) (by intro e; injection e with e; omega)).trans (h.block i hi)⟩
abbrev Pages (w : World) (b n : Nat) (D : DataW Unit) : Prop := w.ownsMap Tryd.prog 9 pageR b n D
set_option maxHeartbeats 8000000 in
set_option maxRecDepth 100000 in
theorem worldOf_walk (k : Nat) (A0 : Option Addr) (c0 : Nat) (l0 : List S36) (r : Bool) (w : World) (hr0 : Kd.C k36 w A0 l0.length l0) (hc0 : l0.length ≤ c0) (h12 : l0.length ≤ 12) (h : pagesOk k l0 = some r) :
  Calls Tryd.prog 16 #[.slice A0 l0.length c0] w fun e w' => Below w.heap.size w w' ∧
   (r = false → e = .returned (.tuple #[.map none, .bool false])) ∧ (r = true → ∃ b, w.heap.size ≤ b ∧ Pages w' b l0.length (mapD l0) ∧ e = .returned (.tuple #[.map (some b), .bool ((Maps.size (mapD l0) : Int) == (l0.length : Int))])) := by
 have hu := Tryd.underlying36
 have hle : decide ((12 : Int) < (l0.length : Int)) = false := decide_eq_false (by omega)
 have hmm := @run_makeMap Tryd.prog
 have H0 := Aside0.mk h
 clear h
 go_enter Tryd.func16, Tryd.ntmps16
 go_wp2
 go_loopg [13] l0.length (fun g v wx => ∃ i : Nat, v = .int .i64 i ∧ i + g = l0.length ∧ Aside0 (pagesOk k (l0.drop i) = some r) ∧ Aside0 (Pages wx w.heap.size i (mapD (l0.take i))) ∧ Aside0 (Below w.heap.size w wx))
 case atStart => exact ⟨0, rfl, by omega, ⟨by simpa using H0.out⟩, ⟨by simpa [mapD, mapR] using World.ownsMap_made w Tryd.prog 9 pageR⟩, ⟨(Below.refl _ _).alloc (Nat.le_refl _) _⟩⟩
 case round =>
  clear H0 hmm
  obtain ⟨i, rfl, hig, H, HM, HB⟩ := hrel
  cases gk with
  | zero =>
   obtain rfl : i = l0.length := by omega
   have hr : r = true := by
    have := H.out
    rw [List.drop_length] at this
    exact (Option.some.inj this).symm
   subst hr
   have hlt : decide ((l0.length : Int) < (l0.length : Int)) = false := decide_eq_false (by omega)
   have hlen := fun ty => HM.out.len Tryd.underlying40 ty
   go_wp2
   go_ret2
   refine ⟨HB.out, w.heap.size, Nat.le_refl _, ?_, ?_⟩
   ·have := HM.out
    rw [List.take_length] at this
    exact this
   ·rfl
  | succ g =>
   have hi : i < l0.length := by omega
   have hlt : decide ((i : Int) < (l0.length : Int)) = true := decide_eq_true (by omega)
   obtain ⟨ad, ea, hx0, hx1, hx2, hx3⟩ := at_T36 hr0 (i : Int) (by omega) (by omega)
   subst ea
   replace hx0 := (HB.out.cell (World.block_lt_of_cell? w _ hx0)).trans hx0
   replace hx1 := (HB.out.cell (World.block_lt_of_cell? w _ hx1)).trans hx1
   replace hx2 := (HB.out.cell (World.block_lt_of_cell? w _ hx2)).trans hx2
   replace hx3 := (HB.out.cell (World.block_lt_of_cell? w _ hx3)).trans hx3
   have p0 : (0 ≤ (i : Int)) = True := eq_true (by omega)
   have q0 : ((i : Int) < (l0.length : Int)) = True := eq_true (by omega)
   obtain ⟨p, hp⟩ : ∃ p, rd_T36 l0 (i : Int) = p := ⟨_, rfl⟩
   rw [hp] at hx0 hx1 hx2 hx3
   simp only [Int.toNat_natCast] at hx0 hx1 hx2 hx3
   have hd : l0.drop i = p :: l0.drop (i + 1) := by
    rw [List.drop_eq_getElem_cons hi]
    congr 1
    rw [← hp]
    simp [rd_T36, List.getD, List.getElem?_eq_getElem hi]
   have ht : l0.take (i + 1) = l0.take i ++ [p] := by
    rw [List.take_succ_eq_append_getElem hi]
    congr 2
    rw [← hp]
    simp [rd_T36, List.getD, List.getElem?_eq_getElem hi]
   have H1 := H.out
   rw [hd] at H1
   simp only [pagesOk] at H1
   by_cases hz : p.f0.size ≤ 9223372036854775807
   case neg => rw [if_neg hz] at H1; cases H1
   rw [if_pos hz] at H1
   have HK := Aside0.mk (Go.WideMaps.keyOf_string_mk (P := Tryd.prog) Tryd.underlying9 (s := p.f0) (by have : maxLen = 2 ^ 63 - 1 := rfl; omega))
   clear hz
   obtain ⟨t, A0', H2⟩ := Option.bind_eq_some_iff.mp H1
   have A := Aside0.mk A0'
   have HT := Aside0.mk ht
   clear H1 A0' H hd ht hp
   by_cases ct : t = true
   ·subst ct
    rw [if_pos rfl] at H2
    have H' := Aside0.mk H2
    clear H2
    go_wp2_with (first | ((with_reducible refine gate_dst (N := 6) rfl ?_); refine box_event ?hg (N := 6) ?hd (cs := #[.string (⟨#[]⟩ : ByteArray), .string (⟨#[]⟩ : ByteArray), .string (⟨#[]⟩ : ByteArray), .int .i64 0]) (t := 36) ?hr ?_; (case hd => rfl); (case hg => rfl); (case hr => first | (go_simp; done) | (go_simp; rfl)); intro gb hg w6 hbox hb; have BK := Aside0.mk hbox; have NB := Aside0.mk (show gb ≠ w.heap.size from by rw [hg]; exact Nat.ne_of_gt HM.out.lt); have GE := Aside0.mk (show w.heap.size ≤ gb from by rw [hg]; exact below_size HB.out); replace HM := Aside0.mk (map_below HM.out hb); replace HB := Aside0.mk (below_step HB.out hb); replace hx0 := (hb.cell (World.block_lt_of_cell? _ _ hx0)).trans hx0; replace hx1 := (hb.cell (World.block_lt_of_cell? _ _ hx1)).trans hx1; replace hx2 := (hb.cell (World.block_lt_of_cell? _ _ hx2)).trans hx2; replace hx3 := (hb.cell (World.block_lt_of_cell? _ _ hx3)).trans hx3; clear hb hg hbox; obtain ⟨hc0, hc1, hc2, hc3⟩ : w6.cell? ⟨gb, 0, none⟩ = some (.string (⟨#[]⟩ : ByteArray)) ∧ w6.cell? ⟨gb, 1, none⟩ = some (.string (⟨#[]⟩ : ByteArray)) ∧ w6.cell? ⟨gb, 2, none⟩ = some (.string (⟨#[]⟩ : ByteArray)) ∧ w6.cell? ⟨gb, 3, none⟩ = some (.int .i64 0) := ⟨(blk_cell BK.out 0).trans rfl, (blk_cell BK.out 1).trans rfl, (blk_cell BK.out 2).trans rfl, (blk_cell BK.out 3).trans rfl⟩; have hf0 := blk_frozen BK.out 0; have hf1 := blk_frozen BK.out 1; have hf2 := blk_frozen BK.out 2; have hf3 := blk_frozen BK.out 3) | (go_at_call 22; (with_reducible refine (impl_pageOk.calls k p.f0 p.f1 p.f2 p.f3 true _ A.out).mono ?_); rintro e w8 ⟨rfl, hb⟩; replace HM := Aside0.mk (map_below ((((HM.out.setCell (a := ⟨gb, 0, none⟩) NB.out.symm _).setCell (a := ⟨gb, 1, none⟩) NB.out.symm _).setCell (a := ⟨gb, 2, none⟩) NB.out.symm _).setCell (a := ⟨gb, 3, none⟩) NB.out.symm _) hb); replace BK := Aside0.mk (blk_below (g := gb) (o := .cells #[.string p.f0, .string p.f1, .string p.f2, .int .i64 p.f3] 36 (0, 0)) (by refine blk_put (cs := #[.string p.f0, .string p.f1, .string p.f2, .int .i64 0]) ?_ 3 _ rfl; refine blk_put (cs := #[.string p.f0, .string p.f1, .string (⟨#[]⟩ : ByteArray), .int .i64 0]) ?_ 2 _ rfl; refine blk_put (cs := #[.string p.f0, .string (⟨#[]⟩ : ByteArray), .string (⟨#[]⟩ : ByteArray), .int .i64 0]) ?_ 1 _ rfl; refine blk_put (cs := #[.string (⟨#[]⟩ : ByteArray), .string (⟨#[]⟩ : ByteArray), .string (⟨#[]⟩ : ByteArray), .int .i64 0]) ?_ 0 _ rfl; exact BK.out) hb); replace HB := Aside0.mk (below_step (below_set (below_set (below_set (below_set HB.out GE.out) GE.out) GE.out) GE.out) hb); clear hb hx0 hx1 hx2 hx3 hc0 hc1 hc2 hc3 hf0 hf1 hf2 hf3; obtain ⟨hc0, hc1, hc2, hc3⟩ : w8.cell? ⟨gb, 0, none⟩ = some (.string p.f0) ∧ w8.cell? ⟨gb, 1, none⟩ = some (.string p.f1) ∧ w8.cell? ⟨gb, 2, none⟩ = some (.string p.f2) ∧ w8.cell? ⟨gb, 3, none⟩ = some (.int .i64 p.f3) := ⟨(blk_cell BK.out 0).trans rfl, (blk_cell BK.out 1).trans rfl, (blk_cell BK.out 2).trans rfl, (blk_cell BK.out 3).trans rfl⟩) | (at_mapUpdate; refine wpList_mapUpdate_own _ rfl _ _ _ 40 rfl 9 36 (string_keyed Tryd.underlying9) Tryd.underlying40 pageR w.heap.size i (mapD (l0.take i)) rfl HM.out (by have : maxLen = 2 ^ 63 - 1 := rfl; omega) _ _ (keyL p.f0) rfl rfl HK.out (pageD p) [] (pageR_mk p) ?_; intro w9 hown hgrow))
    go_roundg g
    case measure => omega
    case rel => exact ⟨i + 1, by simp, by omega, H', ⟨by rw [HT.out, mapD_snoc]; exact hown⟩, ⟨grown_below HB.out hgrow⟩⟩
   ·obtain rfl : t = false := by simpa using ct
    rw [if_neg (by decide)] at H2
    obtain rfl := Option.some.inj H2
    go_wp2_with (first | ((with_reducible refine gate_dst (N := 6) rfl ?_); refine box_event ?hg (N := 6) ?hd (cs := #[.string (⟨#[]⟩ : ByteArray), .string (⟨#[]⟩ : ByteArray), .string (⟨#[]⟩ : ByteArray), .int .i64 0]) (t := 36) ?hr ?_; (case hd => rfl); (case hg => rfl); (case hr => first | (go_simp; done) | (go_simp; rfl)); intro gb hg w6 hbox hb; have BK := Aside0.mk hbox; have NB := Aside0.mk (show gb ≠ w.heap.size from by rw [hg]; exact Nat.ne_of_gt HM.out.lt); have GE := Aside0.mk (show w.heap.size ≤ gb from by rw [hg]; exact below_size HB.out); replace HM := Aside0.mk (map_below HM.out hb); replace HB := Aside0.mk (below_step HB.out hb); replace hx0 := (hb.cell (World.block_lt_of_cell? _ _ hx0)).trans hx0; replace hx1 := (hb.cell (World.block_lt_of_cell? _ _ hx1)).trans hx1; replace hx2 := (hb.cell (World.block_lt_of_cell? _ _ hx2)).trans hx2; replace hx3 := (hb.cell (World.block_lt_of_cell? _ _ hx3)).trans hx3; clear hb hg hbox; obtain ⟨hc0, hc1, hc2, hc3⟩ : w6.cell? ⟨gb, 0, none⟩ = some (.string (⟨#[]⟩ : ByteArray)) ∧ w6.cell? ⟨gb, 1, none⟩ = some (.string (⟨#[]⟩ : ByteArray)) ∧ w6.cell? ⟨gb, 2, none⟩ = some (.string (⟨#[]⟩ : ByteArray)) ∧ w6.cell? ⟨gb, 3, none⟩ = some (.int .i64 0) := ⟨(blk_cell BK.out 0).trans rfl, (blk_cell BK.out 1).trans rfl, (blk_cell BK.out 2).trans rfl, (blk_cell BK.out 3).trans rfl⟩; have hf0 := blk_frozen BK.out 0; have hf1 := blk_frozen BK.out 1; have hf2 := blk_frozen BK.out 2; have hf3 := blk_frozen BK.out 3) | (go_at_call 22; (with_reducible refine (impl_pageOk.calls k p.f0 p.f1 p.f2 p.f3 false _ A.out).mono ?_); rintro e w8 ⟨rfl, hb⟩; replace HM := Aside0.mk (map_below ((((HM.out.setCell (a := ⟨gb, 0, none⟩) NB.out.symm _).setCell (a := ⟨gb, 1, none⟩) NB.out.symm _).setCell (a := ⟨gb, 2, none⟩) NB.out.symm _).setCell (a := ⟨gb, 3, none⟩) NB.out.symm _) hb); replace BK := Aside0.mk (blk_below (g := gb) (o := .cells #[.string p.f0, .string p.f1, .string p.f2, .int .i64 p.f3] 36 (0, 0)) (by refine blk_put (cs := #[.string p.f0, .string p.f1, .string p.f2, .int .i64 0]) ?_ 3 _ rfl; refine blk_put (cs := #[.string p.f0, .string p.f1, .string (⟨#[]⟩ : ByteArray), .int .i64 0]) ?_ 2 _ rfl; refine blk_put (cs := #[.string p.f0, .string (⟨#[]⟩ : ByteArray), .string (⟨#[]⟩ : ByteArray), .int .i64 0]) ?_ 1 _ rfl; refine blk_put (cs := #[.string (⟨#[]⟩ : ByteArray), .string (⟨#[]⟩ : ByteArray), .string (⟨#[]⟩ : ByteArray), .int .i64 0]) ?_ 0 _ rfl; exact BK.out) hb); replace HB := Aside0.mk (below_step (below_set (below_set (below_set (below_set HB.out GE.out) GE.out) GE.out) GE.out) hb); clear hb hx0 hx1 hx2 hx3 hc0 hc1 hc2 hc3 hf0 hf1 hf2 hf3; obtain ⟨hc0, hc1, hc2, hc3⟩ : w8.cell? ⟨gb, 0, none⟩ = some (.string p.f0) ∧ w8.cell? ⟨gb, 1, none⟩ = some (.string p.f1) ∧ w8.cell? ⟨gb, 2, none⟩ = some (.string p.f2) ∧ w8.cell? ⟨gb, 3, none⟩ = some (.int .i64 p.f3) := ⟨(blk_cell BK.out 0).trans rfl, (blk_cell BK.out 1).trans rfl, (blk_cell BK.out 2).trans rfl, (blk_cell BK.out 3).trans rfl⟩))
    go_ret2
    exact ⟨HB.out, rfl⟩
def impl_worldOf.f (k : Nat) (l0 : List S36) : Option Bool := if 12 < l0.length then some false else pagesOk k l0
set_option maxRecDepth 100000 in
theorem impl_worldOf.calls (k : Nat) (A0 : Option Addr) (c0 : Nat) (l0 : List S36) (r : Bool) (w : World) (hr0 : Kd.C k36 w A0 l0.length l0) (hc0 : l0.length ≤ c0) (h : impl_worldOf.f k l0 = some r) :
  Calls Tryd.prog 16 #[.slice A0 l0.length c0] w fun e w' => Below w.heap.size w w' ∧
   (r = false → e = .returned (.tuple #[.map none, .bool false])) ∧ (r = true → ∃ b, w.heap.size ≤ b ∧ Pages w' b l0.length (mapD l0) ∧ e = .returned (.tuple #[.map (some b), .bool ((Maps.size (mapD l0) : Int) == (l0.length : Int))])) := by
 unfold impl_worldOf.f at h
 by_cases h12 : 12 < l0.length
 ·rw [if_pos h12] at h
  obtain rfl := Option.some.inj h
  have hle : decide ((12 : Int) < (l0.length : Int)) = true := decide_eq_true (by omega)
  clear h
  go_enter Tryd.func16, Tryd.ntmps16
  go_wp2
  go_ret2
  exact ⟨Below.refl _ _, fun _ => rfl, fun h => by cases h⟩
 ·rw [if_neg h12] at h
  exact worldOf_walk k A0 c0 l0 r w hr0 hc0 (by omega) h
set_option maxHeartbeats 4000000 in
set_option maxRecDepth 100000 in
theorem get_walk (b n : Nat) (l : List S36) (a : ByteArray) (t : Int) (w : World) (ha : a.size ≤ 9223372036854775807) (hm : Pages w b n (mapD l)) :
  Calls Tryd.prog 19 #[.map (some b), .string a, .int .i64 t] w fun e w' => e = .returned (.tuple #[.int .i64 (getF l a t).1, .string (getF l a t).2]) ∧ Below w.heap.size w w' := by
 have hu := Tryd.underlying36
 have HB := Aside0.mk (Below.refl w.heap.size w)
 have hz : (zeroValue 36).run Tryd.prog w = .ok (pageV z36) w := by kernel_rfl
 obtain ⟨v, ps, hrun, hv⟩ := hm.look_ok (string_keyed Tryd.underlying9) Tryd.underlying40 hz (pageR_mk z36) (Go.WideMaps.keyOf_string_mk (P := Tryd.prog) Tryd.underlying9 (s := a) (by have : maxLen = 2 ^ 63 - 1 := rfl; omega))
 have e1 := mapR_at a l.reverse
 have e2 := mapR_has a l.reverse
 rw [show (.string a.data.toList : Lit) = keyL a from rfl] at hv hrun
 unfold mapD at hv hrun
 rw [e1] at hv
 rw [e2] at hrun
 obtain ⟨q, rfl, hq⟩ := pageR_inv hv
 obtain rfl := pageD_inj (Prod.mk.inj hq).1
 unfold getF
 clear hv hq e1 e2 hm hz
 cases hp : pageAtR a l.reverse with
 | none =>
  rw [hp] at hrun
  simp only [Option.getD_none, Option.isSome_none, pageV] at hrun
  go_enter Tryd.func19, Tryd.ntmps19
  go_wp2
  go_ret2
  exact ⟨rfl, (Below.refl _ _).alloc (Nat.le_refl _) _⟩
 | some p =>
  rw [hp] at hrun
  simp only [Option.getD_some, Option.isSome_some, pageV] at hrun
  simp only
  by_cases c1 : t < 0
  ·rw [if_pos c1]
   have d1 : decide (t < 0) = true := decide_eq_true c1
   clear c1
   go_enter Tryd.func19, Tryd.ntmps19
   go_wp2
   go_ret2
   exact ⟨rfl, (Below.refl _ _).alloc (Nat.le_refl _) _⟩
  ·rw [if_neg c1]
   have d1 : decide (t < 0) = false := decide_eq_false c1
   clear c1
   by_cases c2 : t < p.f3
   ·rw [if_pos c2]
    have d2 : decide (t < p.f3) = true := decide_eq_true c2
    clear c2
    go_enter Tryd.func19, Tryd.ntmps19
    go_wp2
    go_ret2
    exact ⟨rfl, (Below.refl _ _).alloc (Nat.le_refl _) _⟩
   ·rw [if_neg c2]
    have d2 : decide (t < p.f3) = false := decide_eq_false c2
    clear c2
    by_cases c3 : p.f2.toList = ([] : List UInt8)
    ·rw [if_pos c3]
     have d3 : (p.f2.toList == ([] : List UInt8)) = true := beq_iff_eq.mpr c3
     have d4 : (p.f2.toList != ([] : List UInt8)) = false := bne_eq_false_iff_eq.mpr c3
     clear c3
     go_enter Tryd.func19, Tryd.ntmps19
     go_wp2
     go_quiet (fail)
     go_wp2
     go_ret2
     exact ⟨rfl, pw_below_drewN (below_alloc (Below.refl _ _) _) _⟩
    ·rw [if_neg c3]
     have d3 : (p.f2.toList == ([] : List UInt8)) = false := beq_eq_false_iff_ne.mpr c3
     have d4 : (p.f2.toList != ([] : List UInt8)) = true := bne_iff_ne.mpr c3
     clear c3
     go_enter Tryd.func19, Tryd.ntmps19
     go_wp2
     go_quiet (fail)
     go_wp2
     go_ret2
     exact ⟨rfl, pw_below_drewN (below_alloc (Below.refl _ _) _) _⟩
def impl_WorldOk.f (k : Nat) (l0 : List S36) : Option Bool := (impl_worldOf.f k l0).bind fun t => if t = true then some ((Maps.size (mapD l0) : Int) == (l0.length : Int)) else some false
def impl_WorldGet.f (k : Nat) (l0 : List S36) (a1 : ByteArray) (a2 : Int) : Option (Int × ByteArray) :=
 if a1.size ≤ 9223372036854775807 then (impl_worldOf.f k l0).bind fun t => if t = true then (if ((Maps.size (mapD l0) : Int) == (l0.length : Int)) = true then some (getF l0 a1 a2) else some (0, (⟨#[]⟩ : ByteArray))) else some (0, (⟨#[]⟩ : ByteArray)) else none
set_option maxRecDepth 100000 in
theorem impl_WorldGet.calls (k : Nat) (A0 : Option Addr) (c0 : Nat) (l0 : List (S36)) (a1 : ByteArray) (a2 : Int) (r1 : Int) (r2 : ByteArray) (w : World) (hr0 : Kd.C k36 w A0 l0.length l0) (hc0 : l0.length ≤ c0) (h : impl_WorldGet.f k l0 a1 a2 = some (r1, r2)) :
  Calls Tryd.prog 11 #[.slice A0 l0.length c0, .string a1, .int .i64 a2] w fun e w' => e = .returned (.tuple #[.int .i64 r1, .string r2]) ∧ Below w.heap.size w w' := by
 unfold impl_WorldGet.f at h
 by_cases hz : a1.size ≤ 9223372036854775807
 case neg => rw [if_neg hz] at h; cases h
 rw [if_pos hz] at h
 obtain ⟨t, A, H⟩ := Option.bind_eq_some_iff.mp h
 clear h
 cases t with
 | false =>
  rw [if_neg (by decide)] at H
  obtain ⟨rfl, rfl⟩ := Prod.mk.inj (Option.some.inj H)
  go_enter Tryd.func11, Tryd.ntmps11
  go_wp2_with (first | (go_at_call 16; refine (impl_worldOf.calls k A0 c0 l0 false _ hr0 hc0 A).mono ?_; rintro e w1 ⟨hb, h0, h1⟩; obtain rfl := h0 rfl; clear h0 h1; have HB := Aside0.mk hb; clear hb))
  go_ret2
  exact ⟨rfl, HB.out⟩
 | true =>
  rw [if_pos rfl] at H
  obtain ⟨q, hq⟩ : ∃ q, ((Maps.size (mapD l0) : Int) == (l0.length : Int)) = q := ⟨_, rfl⟩
  rw [hq] at H
  cases q with
  | false =>
   rw [if_neg (by decide)] at H
   obtain ⟨rfl, rfl⟩ := Prod.mk.inj (Option.some.inj H)
   go_enter Tryd.func11, Tryd.ntmps11
   go_wp2_with (first | (go_at_call 16; refine (impl_worldOf.calls k A0 c0 l0 true _ hr0 hc0 A).mono ?_; rintro e w1 ⟨hb, h0, h1⟩; obtain ⟨b, _, _, rfl⟩ := h1 rfl; rw [hq]; clear h0 h1; have HB := Aside0.mk hb; clear hb))
   go_ret2
   exact ⟨rfl, HB.out⟩
  | true =>
   rw [if_pos rfl] at H
   have H' := Option.some.inj H
   clear H
   go_enter Tryd.func11, Tryd.ntmps11
   go_wp2_with (first | (go_at_call 16; refine (impl_worldOf.calls k A0 c0 l0 true _ hr0 hc0 A).mono ?_; rintro e w1 ⟨hb, h0, h1⟩; obtain ⟨b, _, hM, rfl⟩ := h1 rfl; rw [hq]; clear h0 h1; have HM := Aside0.mk hM; have HB := Aside0.mk hb; clear hb hM) | (go_at_call 19; refine (get_walk b _ l0 a1 a2 _ hz HM.out).mono ?_; rintro e w2 ⟨rfl, hb⟩; rw [H']; replace HB := Aside0.mk (below_step HB.out hb); clear hb))
   go_ret2
   exact ⟨rfl, HB.out⟩
theorem pagesOk_mono (k : Nat) : ∀ l, LeO (pagesOk k l) (pagesOk (k + 1) l)
 | [] => LeO.refl _
 | p :: r => by
  unfold pagesOk
  exact LeO.ite (LeO.bind (impl_pageOk.mono _ _ _ _ _) (fun _ => LeO.ite (pagesOk_mono k r) (LeO.refl _))) (LeO.refl _)
theorem impl_worldOf.mono : ∀ a0 k, LeO (impl_worldOf.f k a0) (impl_worldOf.f (k + 1) a0) := fun a0 k => LeO.ite (LeO.refl _) (pagesOk_mono k a0)
end Go.Proofs.YtpnedbnpnekahaaDoor.P
end
section
namespace Go.Proofs.YtpnedbnpnekahaaDoor.P
open Go.RowKit Go.Proofs.YtpnedbnpnekahaaDoorW.PrintWords Go.Proofs.YtpnedbnpnekahaaDoorW.PrintLast Go.Proofs.YtpnedbnpnekahaaDoorW.PrintMore
attribute [local go_sem] max2_int min2_int max_two min_two max_three min_three max_four min_four
set_option linter.unusedVariables false
set_option linter.unusedSimpArgs false
def laws_FnExactWorldGet.j0 : Nat → List (S34) → List (S36) → Bool → Option (Bool)
 | 0, _, _, _ => none
 | k + 1, x0, x10, x45 => if x45 = true then (some false) else ((laws_toPageS.f k x0).bind fun t441 => ((laws_eqPageS.f k x10 t441).bind fun t444 => (if t444 = true then (some true) else (some false))))
def laws_FnExactWorldGet.f (k : Nat) (l0 : List (S34)) (a1 : ByteArray) (a2 : Int) : Option (Bool) := if (a1.size : Int) > 1048576 then (some true) else ((laws_szPageS.f k l0 1048576).bind fun t430 => (if t430 < 0 then (some true) else ((laws_toPageS.f k l0).bind fun t431 => ((spec_WorldGet.f k t431 a1 a2).bind fun bt434 => ((laws_toPageS.f k l0).bind fun t436 => ((impl_WorldGet.f k t436 a1 a2).bind fun bt439 => (if bt439.1 = bt434.1 then (laws_FnExactWorldGet.j0 k l0 t436 (bt439.2.toList != bt434.2.toList)) else (laws_FnExactWorldGet.j0 k l0 t436 true))))))))
set_option maxHeartbeats 8000000 in
set_option maxRecDepth 100000 in
theorem laws_FnExactWorldGet.calls (k : Nat) (A0 : Option Addr) (c0 : Nat) (l0 : List (S34)) (a1 : ByteArray) (a2 : Int) (r : Bool) (w : World) (hr0 : Kd.C k34 w A0 l0.length l0) (hc0 : l0.length ≤ c0) (h : laws_FnExactWorldGet.f k l0 a1 a2 = some r) :
  Calls Tryd.prog 4 #[.slice A0 l0.length c0, .string a1, .int .i64 a2] w fun e w' => e = .returned (.bool r) ∧ Below w.heap.size w w' := by
 have HR0 := Aside0.mk hr0;have HC0 := Aside0.mk hc0;clear hr0 hc0;have HB := Aside0.mk (Below.refl w.heap.size w);have H : (if (a1.size : Int) > 1048576 then (some true) else ((laws_szPageS.f k l0 1048576).bind fun t430 => (if t430 < 0 then (some true) else ((laws_toPageS.f k l0).bind fun t431 => ((spec_WorldGet.f k t431 a1 a2).bind fun bt434 => ((laws_toPageS.f k l0).bind fun t436 => ((impl_WorldGet.f k t436 a1 a2).bind fun bt439 => (if bt439.1 = bt434.1 then (laws_FnExactWorldGet.j0 k l0 t436 (bt439.2.toList != bt434.2.toList)) else (laws_FnExactWorldGet.j0 k l0 t436 true))))))))) = some r := h;clear h;by_cases c4 : (a1.size : Int) > 1048576
 ·rw [if_pos c4] at H
  have c4b0 : decide (1048576 < (a1.size : Int)) = true := decide_eq_true c4;have c4b1 : decide (1048576 < a1.size) = true := decide_eq_true (by omega);clear c4;obtain rfl := Option.some.inj H;go_enter Tryd.func4, Tryd.ntmps4;go_wp2
  go_ret
  exact ⟨zz1, (zz0 HB)⟩
 ·rw [if_neg c4] at H
  have c4b0 : decide (1048576 < (a1.size : Int)) = false := decide_eq_false c4;have c4b1 : decide (1048576 < a1.size) = false := decide_eq_false (by omega);clear c4;replace H := bindA H;obtain ⟨t430, A5, H⟩ := H;by_cases c6 : t430 < 0
  ·rw [if_pos c6] at H
   have c6b0 : decide (t430 < 0) = true := decide_eq_true c6;clear c6;obtain rfl := Option.some.inj H;go_enter Tryd.func4, Tryd.ntmps4;go_wp2_with (first | ((with_reducible refine gate_callee (f := 5) rfl ?_); refine gsL (some 18) Tryd.func5 #[.slice A0 l0.length c0, .int .i64 1048576] ?_; (with_reducible refine (laws_szPageS.calls k _ _ l0 1048576 t430 _ ?side1 ?side2 A5.out).mono ?_); (case side1 => exact (zz63 HR0)); (case side2 => exact HC0.out); rintro e w7 ⟨rfl, hb⟩; refine ⟨_, rfl, ?_⟩; have n0_ := Aside0.mk (below_step (zz0 HB) hb); clear HB; have HB := n0_; clear n0_; (try clear hb)))
   go_ret
   exact ⟨zz1, (zz0 HB)⟩
  ·rw [if_neg c6] at H
   have c6b0 : decide (t430 < 0) = false := decide_eq_false c6;clear c6;replace H := bindA H;obtain ⟨t431, A8, H⟩ := H;replace H := bindA H;obtain ⟨⟨t434, t435⟩, A9, H⟩ := H;try dsimp -simprocs only at H
   replace H := bindA H;obtain ⟨t436, A10, H⟩ := H;replace H := bindA H;obtain ⟨⟨t439, t440⟩, A11, H⟩ := H;try dsimp -simprocs only at H
   have HC12 := Aside0.mk H;clear H;go_enter Tryd.func4, Tryd.ntmps4;go_upto_region 10 with (first | ((with_reducible refine gate_callee (f := 5) rfl ?_); refine gsL (some 18) Tryd.func5 #[.slice A0 l0.length c0, .int .i64 1048576] ?_; (with_reducible refine (laws_szPageS.calls k _ _ l0 1048576 t430 _ ?side1 ?side2 A5.out).mono ?_); (case side1 => exact (zz63 HR0)); (case side2 => exact HC0.out); rintro e w13 ⟨rfl, hb⟩; refine ⟨_, rfl, ?_⟩; have n0_ := Aside0.mk (below_step (zz0 HB) hb); clear HB; have HB := n0_; clear n0_; (try clear hb)) | ((with_reducible refine gate_callee (f := 7) rfl ?_); refine gsL (some 23) Tryd.func7 #[.slice A0 l0.length c0] ?_; (with_reducible refine (laws_toPageS.calls k _ _ l0 t431 _ ?side1 ?side2 A8.out).mono ?_); (case side1 => exact (zz32 HR0 HB)); (case side2 => exact HC0.out); rintro e w14 ⟨v432, rfl, ho0, hb⟩; refine ⟨_, rfl, ?_⟩; have n0_ := Aside0.mk (Kd.R_lower ho0 (below_size (zz0 HB))); have n1_ := Aside0.mk (below_step (zz0 HB) hb); clear HB; have HO433 := n0_; have HB := n1_; clear n0_ n1_; (try clear hb ho0); obtain ⟨Ao15, co15, eo15⟩ := Kd.R_slice HO433.out; subst eo15) | ((with_reducible refine gate_callee (f := 10) rfl ?_); refine gsL (some 26) Tryd.func10 #[.slice Ao15 t431.length co15, .string a1, .int .i64 a2] ?_; (with_reducible refine (spec_WorldGet.calls k _ _ t431 a1 a2 t434 t435 _ ?side1 ?side2 A9.out).mono ?_); (case side1 => exact (zz45 HO433)); (case side2 => exact (Kd.R_reads' HO433.out).2.1); rintro e w16 ⟨rfl, hb⟩; refine ⟨_, rfl, ?_⟩; have n0_ := Aside0.mk (Kd.R_below (zz10 HO433) hb); have n1_ := Aside0.mk (below_step (zz0 HB) hb); clear HO433; clear HB; have HO433 := n0_; have HB := n1_; clear n0_ n1_; (try clear hb)) | ((with_reducible refine gate_callee (f := 7) rfl ?_); refine gsL (some 30) Tryd.func7 #[.slice A0 l0.length c0] ?_; (with_reducible refine (laws_toPageS.calls k _ _ l0 t436 _ ?side1 ?side2 A10.out).mono ?_); (case side1 => exact (zz32 HR0 HB)); (case side2 => exact HC0.out); rintro e w17 ⟨v437, rfl, ho0, hb⟩; refine ⟨_, rfl, ?_⟩; have n0_ := Aside0.mk (Kd.R_elder' (zz10 HO433) (Kd.R_base ho0) hb); have n1_ := Aside0.mk (Kd.R_lower (Kd.R_new' ho0 (Kd.R_lt (zz10 HO433))) (below_size (zz0 HB))); have n2_ := Aside0.mk (below_step (zz0 HB) hb); clear HO433; clear HB; have HO433 := n0_; have HO438 := n1_; have HB := n2_; clear n0_ n1_ n2_; (try clear hb ho0); obtain ⟨Ao18, co18, eo18⟩ := Kd.R_slice HO438.out; subst eo18) | ((with_reducible refine gate_callee (f := 11) rfl ?_); refine gsL (some 35) Tryd.func11 #[.slice Ao18 t436.length co18, .string a1, .int .i64 a2] ?_; (with_reducible refine (impl_WorldGet.calls k _ _ t436 a1 a2 t439 t440 _ ?side1 ?side2 A11.out).mono ?_); (case side1 => exact (zz45 HO438)); (case side2 => exact (Kd.R_reads' HO438.out).2.1); rintro e w19 ⟨rfl, hb⟩; refine ⟨_, rfl, ?_⟩; have n0_ := Aside0.mk (Kd.R_below (zz10 HO433) hb); have n1_ := Aside0.mk (Kd.R_below (zz10 HO438) hb); have n2_ := Aside0.mk (below_step (zz0 HB) hb); clear HO433; clear HO438; clear HB; have HO433 := n0_; have HO438 := n1_; have HB := n2_; clear n0_ n1_ n2_; (try clear hb)))
   (try simp only [Act.put, List.setIfInBounds_toArray, List.set_cons_zero, List.set_cons_succ])
   go_cut [45] (fun v45 wc => ∃ (kq : Nat) (x45_11 : Bool), v45 = .bool x45_11 ∧ Aside0 (laws_FnExactWorldGet.j0 kq l0 t436 x45_11 = some r) ∧ Aside0 (kq ≤ k) ∧ Aside0 (Kd.R k36 36 wc w.heap.size (fun _ => True) (.slice Ao18 t436.length co18) t436) ∧ Aside0 (Below w.heap.size w wc))
   case first =>
    have H := HC12.out;clear HC12;by_cases c20 : t439 = t434
    ·rw [if_pos c20] at H
     have c20b0 : (t439 == t434) = true := beq_iff_eq.mpr c20;have c20b1 : (t439 != t434) = false := bne_eq_false_iff_eq.mpr c20;clear c20;(first | rw [c20b0] | (simp only [i64_w, i32_w]; rw [c20b0]) | skip)
     have H' := Aside0.mk H;clear H;go_wp2
     go_meet
     case rel => exact ⟨_, ((t440.toList != t435.toList)), zz3, H', ⟨zz20⟩, ⟨(zz71 HO438)⟩, ⟨(zz0 HB)⟩⟩
    ·rw [if_neg c20] at H
     have c20b0 : (t439 == t434) = false := beq_eq_false_iff_ne.mpr c20;have c20b1 : (t439 != t434) = true := bne_iff_ne.mpr c20;(first | rw [c20b0] | (simp only [i64_w, i32_w]; rw [c20b0]) | skip)
     have H' := Aside0.mk H;clear H;go_wp2
     go_meet
     case rel => exact ⟨_, (true), zz3, H', ⟨zz20⟩, ⟨(zz71 HO438)⟩, ⟨(zz0 HB)⟩⟩
   case rest =>
    clear HC12;obtain ⟨kq, x45_11, rfl, HA, HJ11, HO_10, HB⟩ := hcut;cases kq with
    | zero => exact absurd HA.out (by simp [laws_FnExactWorldGet.j0])
    | succ kj11 =>
     have H := HA.out;clear HA;simp only [laws_FnExactWorldGet.j0] at H
     by_cases c21 : x45_11 = true
     ·subst c21
      rw [if_pos rfl] at H;obtain rfl := Option.some.inj H;go_wp2
      go_ret
      exact ⟨zz1, (zz0 HB)⟩
     ·replace c21 := Bool.eq_false_iff.mpr c21
      subst c21;rw [if_neg (show ¬ (false = true) by decide)] at H;replace H := bindA H;obtain ⟨t441, A22, H⟩ := H;replace H := bindA H;obtain ⟨t444, A23, H⟩ := H;by_cases c24 : t444 = true
      ·subst c24
       rw [if_pos rfl] at H;obtain rfl := Option.some.inj H;go_wp2_with (first | ((with_reducible refine gate_callee (f := 7) rfl ?_); refine gsL (some 48) Tryd.func7 #[.slice A0 l0.length c0] ?_; (with_reducible refine (laws_toPageS.calls kj11 _ _ l0 t441 _ ?side1 ?side2 A22.out).mono ?_); (case side1 => exact (zz32 HR0 HB)); (case side2 => exact HC0.out); rintro e w25 ⟨v442, rfl, ho0, hb⟩; refine ⟨_, rfl, ?_⟩; have n0_ := Aside0.mk (Kd.R_elder' (zz10 HO_10) (Kd.R_base ho0) hb); have n1_ := Aside0.mk (Kd.R_lower (Kd.R_new' ho0 (Kd.R_lt (zz10 HO_10))) (below_size (zz0 HB))); have n2_ := Aside0.mk (below_step (zz0 HB) hb); clear HO_10; clear HB; have HO_10 := n0_; have HO443 := n1_; have HB := n2_; clear n0_ n1_ n2_; (try clear hb ho0); obtain ⟨Ao26, co26, eo26⟩ := Kd.R_slice HO443.out; subst eo26) | ((with_reducible refine gate_callee (f := 9) rfl ?_); refine gsL (some 49) Tryd.func9 #[.slice Ao18 t436.length co18, .slice Ao26 t441.length co26] ?_; (with_reducible refine (laws_eqPageS.calls kj11 _ _ t436 _ _ t441 true _ ?side1 ?side2 ?side3 ?side4 A23.out).mono ?_); (case side1 => exact (zz45 HO_10)); (case side2 => exact (Kd.R_reads' HO_10.out).2.1); (case side3 => exact (zz45 HO443)); (case side4 => exact (Kd.R_reads' HO443.out).2.1); rintro e w27 ⟨rfl, hb⟩; refine ⟨_, rfl, ?_⟩; have n0_ := Aside0.mk (Kd.R_below (zz10 HO_10) hb); have n1_ := Aside0.mk (Kd.R_below (zz10 HO443) hb); have n2_ := Aside0.mk (below_step (zz0 HB) hb); clear HO_10; clear HO443; clear HB; have HO_10 := n0_; have HO443 := n1_; have HB := n2_; clear n0_ n1_ n2_; (try clear hb)))
       go_ret
       exact ⟨zz1, (zz0 HB)⟩
      ·replace c24 := Bool.eq_false_iff.mpr c24
       subst c24;rw [if_neg (show ¬ (false = true) by decide)] at H;obtain rfl := Option.some.inj H;go_wp2_with (first | ((with_reducible refine gate_callee (f := 7) rfl ?_); refine gsL (some 48) Tryd.func7 #[.slice A0 l0.length c0] ?_; (with_reducible refine (laws_toPageS.calls kj11 _ _ l0 t441 _ ?side1 ?side2 A22.out).mono ?_); (case side1 => exact (zz32 HR0 HB)); (case side2 => exact HC0.out); rintro e w28 ⟨v442, rfl, ho0, hb⟩; refine ⟨_, rfl, ?_⟩; have n0_ := Aside0.mk (Kd.R_elder' (zz10 HO_10) (Kd.R_base ho0) hb); have n1_ := Aside0.mk (Kd.R_lower (Kd.R_new' ho0 (Kd.R_lt (zz10 HO_10))) (below_size (zz0 HB))); have n2_ := Aside0.mk (below_step (zz0 HB) hb); clear HO_10; clear HB; have HO_10 := n0_; have HO443 := n1_; have HB := n2_; clear n0_ n1_ n2_; (try clear hb ho0); obtain ⟨Ao29, co29, eo29⟩ := Kd.R_slice HO443.out; subst eo29) | ((with_reducible refine gate_callee (f := 9) rfl ?_); refine gsL (some 49) Tryd.func9 #[.slice Ao18 t436.length co18, .slice Ao29 t441.length co29] ?_; (with_reducible refine (laws_eqPageS.calls kj11 _ _ t436 _ _ t441 false _ ?side1 ?side2 ?side3 ?side4 A23.out).mono ?_); (case side1 => exact (zz45 HO_10)); (case side2 => exact (Kd.R_reads' HO_10.out).2.1); (case side3 => exact (zz45 HO443)); (case side4 => exact (Kd.R_reads' HO443.out).2.1); rintro e w30 ⟨rfl, hb⟩; refine ⟨_, rfl, ?_⟩; have n0_ := Aside0.mk (Kd.R_below (zz10 HO_10) hb); have n1_ := Aside0.mk (Kd.R_below (zz10 HO443) hb); have n2_ := Aside0.mk (below_step (zz0 HB) hb); clear HO_10; clear HO443; clear HB; have HO_10 := n0_; have HO443 := n1_; have HB := n2_; clear n0_ n1_ n2_; (try clear hb)))
       go_ret
       exact ⟨zz1, (zz0 HB)⟩
end Go.Proofs.YtpnedbnpnekahaaDoor.P
end
section
namespace Go.Proofs.YtpnedbnpnekahaaDoor.Ad
open Go.RowKit Go.Proofs.YtpnedbnpnekahaaDoor.P Go.Proofs.YtpnedbnpnekahaaDoorW.PrintWords Go.Proofs.YtpnedbnpnekahaaDoorW.PrintLast Go.Proofs.YtpnedbnpnekahaaDoorW.PrintMore Go.Proofs.YtpnedbnpnekahaaDoor.B
set_option linter.unusedVariables false
set_option linter.unusedSimpArgs false
theorem hex_all : ∀ n : Nat, n < 256 → spec_l1Hex.f 2 (n : Int) = some (match hexN (UInt8.ofNat n) with | some x => (x : Int) | none => -1) := by decide +kernel
theorem plain_all : ∀ n : Nat, n < 256 → spec_l1Plain.f (n : Int) = some (plainB (UInt8.ofNat n)) := by decide +kernel
theorem sign_all : ∀ n : Nat, n < 256 → (spec_l1Sign.f (n : Int)).map L = some [37, fig (n / 16), fig (n % 16)] := by decide +kernel
theorem of_toNat (c : UInt8) : UInt8.ofNat c.toNat = c := UInt8.ofNat_toNat
theorem hex_ev (c : UInt8) : Ev (fun k => spec_l1Hex.f k (c.toNat : Int)) (match hexN c with | some x => (x : Int) | none => -1) := by
 refine Ev.of (fun k => spec_l1Hex.mono _ k) (k := 2) ?_
 have := hex_all c.toNat c.toNat_lt
 rwa [of_toNat] at this
theorem sign_f (n : Nat) (h : n < 256) : spec_l1Sign.f (n : Int) = some (ofL [37, fig (n / 16), fig (n % 16)]) := by
 have := sign_all n h
 obtain ⟨s, hs, e⟩ := Option.map_eq_some_iff.1 this
 rw [hs, ← e, of_L]
theorem nums_one (n : Nat) (h : n < 256) : strOfNums [(n : Int) % 256] = ofL [UInt8.ofNat n] := by
 unfold strOfNums ofL
 simp only [List.map_cons, List.map_nil, ByteArray.mk.injEq]
 congr 2
 rw [show ((n : Int) % 256) = (n : Int) from by omega]
 simp
theorem enc_ev (s acc : ByteArray) (i n : Nat) (h : n < 256) (hi : i < 1000000) (ha : acc.size ≤ 1000000) {r : ByteArray × Bool}
  (H : Ev (fun k => spec_EscNorm.l0 k s (acc ++ ofL (encN n)) (i + 1 : Nat)) r) : Ev (fun k => spec_EscNorm.j2 k s acc (i : Int) (n : Int)) r := by
 refine Ev.step (fun k => ?_) H
 have hw : wrap64 ((i : Int) + 1) = ((i + 1 : Nat) : Int) := by rw [w64 (by omega) (by omega)]; omega
 simp only [spec_EscNorm.j2]
 rw [show ((n : Int) % 256) = (n : Int) from by omega, plain_all n h]
 simp only [Option.bind_some]
 by_cases hp : plainB (UInt8.ofNat n) = true
 ·have e := nums_one n h
  rw [show ((n : Int) % 256) = (n : Int) from by omega] at e
  have he : encN n = [UInt8.ofNat n] := by unfold encN; rw [if_pos hp]
  have hz := ofL_size [UInt8.ofNat n]
  rw [if_pos hp, e, if_pos (by simp at hz; omega), hw, he]
 ·have he : encN n = [37, fig (n / 16), fig (n % 16)] := by unfold encN; rw [if_neg hp]
  rw [if_neg hp, sign_f n h]
  simp only [Option.bind_some]
  have hz := ofL_size [37, fig (n / 16), fig (n % 16)]
  rw [if_pos (by simp at hz; omega), hw, he]
theorem drop_at {l : List UInt8} {i : Nat} (h : i < l.length) : l.drop i = l[i] :: l.drop (i + 1) := List.drop_eq_getElem_cons h
theorem bt_get (s : ByteArray) (i : Nat) (h : i < (L s).length) : bt s i = (((L s)[i]).toNat : Int) := by
 rw [bt_L, List.getD_eq_getElem?_getD, List.getElem?_eq_getElem h]; rfl
theorem app_nil (a : ByteArray) : a ++ ofL [] = a := by apply L_inj; rw [L_app, L_of, List.append_nil]
def escR (acc : ByteArray) (o : Option (List UInt8)) : ByteArray × Bool := match o with
 | some r => (acc ++ ofL r, true)
 | none => (⟨#[]⟩, false)
theorem escR_map (acc : ByteArray) (x : List UInt8) (o : Option (List UInt8)) : escR acc (o.map (x ++ ·)) = escR (acc ++ ofL x) o := by
 cases o with
 | none => rfl
 | some r => simp only [escR, Option.map_some, ofL_app, ByteArray.append_assoc]
theorem esc_l (s : ByteArray) (hs : s.size ≤ 60) (n : Nat) : ∀ (i : Nat) (acc : ByteArray), i ≤ s.size → s.size - i ≤ n → acc.size ≤ 3 * i →
  Ev (fun k => spec_EscNorm.l0 k s acc (i : Int)) (escR acc (esc ((L s).drop i))) := by
 have hL := L_size s
 induction n with
 | zero =>
  intro i acc hi hn ha
  refine Ev.of (fun k => spec_EscNorm.mono_l k |>.1 _ _ _) (k := 1) ?_
  simp only [spec_EscNorm.l0]
  rw [if_neg (by omega), List.drop_eq_nil_of_le (by omega)]
  simp only [esc, escR]
  rw [app_nil]
 | succ n ih =>
  intro i acc hi hn ha
  by_cases hlt : i < s.size
  ·have hlt' : i < (L s).length := by omega
   rw [drop_at hlt']
   have hb := bt_get s i hlt'
   by_cases hc : (L s)[i] = 37
   ·have hb37 : bt s i = 37 := by rw [hb, hc]; rfl
    have w2 : wrap64 ((i : Int) + 2) = ((i + 2 : Nat) : Int) := by rw [w64 (by omega) (by omega)]; omega
    have w1 : wrap64 ((i : Int) + 1) = ((i + 1 : Nat) : Int) := by rw [w64 (by omega) (by omega)]; omega
    rw [hc]
    by_cases h2 : i + 2 < s.size
    ·have g1 : i + 1 < (L s).length := by omega
     have g2 : i + 2 < (L s).length := by omega
     rw [drop_at g1, drop_at g2]
     have b1 := bt_get s (i + 1) g1
     have b2 := bt_get s (i + 2) g2
     have q1 := hex_ev (L s)[i + 1]
     have q2 := hex_ev (L s)[i + 2]
     have l1 := @hexN_lt (L s)[i + 1]
     have l2 := @hexN_lt (L s)[i + 2]
     generalize (L s)[i + 1] = ca at b1 q1 l1 ⊢
     generalize (L s)[i + 2] = cb at b2 q2 l2 ⊢
     have e3 : i + 2 + 1 = i + 3 := rfl
     have bad : Ev (fun k => spec_EscNorm.j1 k s acc (i : Int) true) ((⟨#[]⟩ : ByteArray), false) :=
      Ev.of (fun k => spec_EscNorm.mono_l k |>.2.2 _ _ _ _) (k := 1) (by simp [spec_EscNorm.j1])
     refine Ev.step (f := fun k => (spec_l1Hex.f k (ca.toNat : Int)).bind fun t => if t < 0 then spec_EscNorm.j1 k s acc (i : Int) true else (spec_l1Hex.f k (cb.toNat : Int)).bind fun t2 => spec_EscNorm.j1 k s acc (i : Int) (decide (t2 < 0))) (fun k => ?_) ?_
     ·simp only [spec_EscNorm.l0]
      rw [if_pos (by omega), if_pos (by omega), if_pos hb37, w2, w1, if_neg (by omega), if_pos (by omega), if_pos (by omega), b1]
      congr 1
      funext t
      by_cases ht : t < 0
      ·rw [if_pos ht, if_pos ht]
      ·rw [if_neg ht, if_neg ht, if_pos (by omega), if_pos (by omega), b2]
     ·refine Ev.bind q1 ?_
      cases ha' : hexN ca with
      | none =>
       rw [esc_bad1 _ _ ha']
       simp only [show ((-1 : Int) < 0) from by omega, if_true]
       exact bad
      | some x =>
       have hx := l1 ha'
       simp only [show ¬ ((x : Int) < 0) from by omega, if_false]
       refine Ev.bind q2 ?_
       cases hb' : hexN cb with
       | none =>
        rw [esc_bad2 _ _ hb']
        simp only [show decide ((-1 : Int) < 0) = true from by decide]
        exact bad
       | some y =>
        have hy := l2 hb'
        simp only [show decide ((y : Int) < 0) = false from by simp]
        rw [ha'] at q1
        rw [hb'] at q2
        refine Ev.step (f := fun k => (spec_l1Hex.f k (ca.toNat : Int)).bind fun t => (spec_l1Hex.f k (cb.toNat : Int)).bind fun t2 => spec_EscNorm.j2 k s acc ((i + 2 : Nat) : Int) (wrap64 (wrap64 (t * 16) + t2))) (fun k => ?_) ?_
        ·simp only [spec_EscNorm.j1]
         rw [if_neg (by simp), w1, w2, if_pos (by omega), if_pos (by omega), b1]
         congr 1
         funext t
         rw [if_pos (by omega), if_pos (by omega), b2]
        ·refine Ev.bind q1 (Ev.bind q2 ?_)
         rw [esc_sign _ ha' hb']
         rw [show wrap64 (wrap64 ((x : Int) * 16) + (y : Int)) = ((x * 16 + y : Nat) : Int) from by rw [w64 (n := (x : Int) * 16) (by omega) (by omega), w64 (by omega) (by omega)]; omega]
         refine enc_ev s acc (i + 2) (x * 16 + y) (by omega) (by omega) (by omega) ?_
         rw [escR_map]
         exact ih (i + 2 + 1) _ (by omega) (by omega) (by have z := ofL_size (encN (x * 16 + y)); have := encN_len (x * 16 + y); rw [ByteArray.size_append]; omega)
    ·rw [esc_short (by rw [List.length_drop]; omega)]
     refine Ev.of (fun k => spec_EscNorm.mono_l k |>.1 _ _ _) (k := 2) ?_
     simp only [spec_EscNorm.l0, spec_EscNorm.j1]
     rw [if_pos (by omega), if_pos (by omega), if_pos hb37, w2, if_pos (by omega)]
     rfl
   ·have hb37 : ¬ bt s i = 37 := by
     rw [hb]
     intro e
     exact hc (UInt8.toNat_inj.1 (by have : (37 : UInt8).toNat = 37 := rfl; omega))
    rw [esc_plain _ hc]
    have hlt8 := (L s)[i].toNat_lt
    refine Ev.step (f := fun k => spec_EscNorm.j2 k s acc (i : Int) (((L s)[i].toNat : Nat) : Int)) (fun k => ?_) ?_
    ·simp only [spec_EscNorm.l0]
     rw [if_pos (by omega), if_pos (by omega), if_neg hb37, hb, w64 (by omega) (by omega)]
    ·refine enc_ev s acc i _ (by omega) (by omega) (by omega) ?_
     rw [escR_map]
     exact ih (i + 1) _ (by omega) (by omega) (by have z := ofL_size (encN (L s)[i].toNat); have := encN_len (L s)[i].toNat; rw [ByteArray.size_append]; omega)
  ·refine Ev.of (fun k => spec_EscNorm.mono_l k |>.1 _ _ _) (k := 1) ?_
   simp only [spec_EscNorm.l0]
   rw [if_neg (by omega), List.drop_eq_nil_of_le (by omega)]
   simp only [esc, escR]
   rw [app_nil]
theorem escNorm_ev (s : ByteArray) : Ev (fun k => spec_EscNorm.f k s) (escNorm s) := by
 unfold spec_EscNorm.f escNorm
 by_cases h : s.size > 60
 ·simp only [show ((s.size : Int) > 60) from by omega, if_true, h]
  exact Ev.now _
 ·simp only [show ¬ ((s.size : Int) > 60) from by omega, if_false, h]
  have := esc_l s (by omega) s.size 0 ⟨#[]⟩ (by omega) (by omega) (Nat.le_refl 0)
  simp only [List.drop_zero] at this
  have e : escR (⟨#[]⟩ : ByteArray) (esc (L s)) = escO (esc (L s)) := by
   unfold escR escO
   cases esc (L s) with
   | none => rfl
   | some r => simp only [Prod.mk.injEq, and_true]; apply L_inj; rw [L_app]; rfl
  rw [← e]
  exact this
theorem norm_ev (s : ByteArray) : Ev (fun k => spec_l1Norm.f k s) (isNorm s) := by
 unfold spec_l1Norm.f isNorm
 refine Ev.bind (escNorm_ev s) ?_
 by_cases h : (escNorm s).2 = true
 ·simp only [h, if_true, Bool.true_and]
  exact Ev.now _
 ·simp only [h, if_false, Bool.false_and]
  exact Ev.now _
end Go.Proofs.YtpnedbnpnekahaaDoor.Ad
end
