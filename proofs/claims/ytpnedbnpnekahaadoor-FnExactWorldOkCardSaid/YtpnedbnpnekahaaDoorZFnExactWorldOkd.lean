/- FnExactWorldOk holds of the given program at every input: the program's WorldOk returns what the reference's returns. No condition. -/
import Derived.Test.YtpnedbnpnekahaaDoorZFnExactWorldOkb
import Derived.Test.YtpnedbnpnekahaaDoorZFnExactWorldOkc
import Derived.Laws.RangeAny
import Derived.Laws.Runes
import Derived.Laws.RangeString
import Derived.Laws.Strings3
import Derived.Lib.IndexAny
import Derived.Lib.IndexBytes
import Derived.Deep.LoopGhost
import Derived.Maps.Own
import Derived.Maps.OwnSet
import Derived.Carry
import Derived.SizedLaws
import Derived.ChangeSlices
import Derived.Test.YtpnedbnpnekahaaDoorRows
import Derived.Test.YtpnedbnpnekahaaDoorCards
import Derived.Test.YtpnedbnpnekahaaDoorTie
import Derived.LaidMore
import Derived.Lay
import Derived.SevenTiedAt
import Derived.Stop.Joined
import Derived.Lib.SmallJoins
import Derived.WalkKit
import Derived.ProofKit
import Derived.OpenShut
import Derived.ShutString
import Derived.ChangeOld
import Derived.Below

section
namespace Go.Proofs.YtpnedbnpnekahaaDoor.P
open Go.RowKit Go.Proofs.YtpnedbnpnekahaaDoorW.PrintWords Go.Proofs.YtpnedbnpnekahaaDoorW.PrintLast Go.Proofs.YtpnedbnpnekahaaDoorW.PrintMore
attribute [local go_sem] max2_int min2_int max_two min_two max_three min_three max_four min_four
set_option linter.unusedVariables false
set_option linter.unusedSimpArgs false
def impl_isNormal.f (k : Nat) (a0 : ByteArray) : Option (Bool) := (impl_EscNorm.f k a0).bind fun bt316 => (if bt316.2 = true then (some (bt316.1.toList == a0.toList)) else (some false))
set_option maxHeartbeats 8000000 in
set_option maxRecDepth 100000 in
theorem impl_isNormal.calls (k : Nat) (a0 : ByteArray) (r : Bool) (w : World) (h : impl_isNormal.f k a0 = some r) :
  Calls Tryd.prog 77 #[.string a0] w fun e w' => e = .returned (.bool r) ∧ Below w.heap.size w w' := by
 have HB := Aside0.mk (Below.refl w.heap.size w);have H : ((impl_EscNorm.f k a0).bind fun bt316 => (if bt316.2 = true then (some (bt316.1.toList == a0.toList)) else (some false))) = some r := h;clear h;replace H := bindA H;obtain ⟨⟨t316, t317⟩, A2, H⟩ := H;try dsimp -simprocs only at H
 by_cases c3 : t317 = true
 ·subst c3
  rw [if_pos rfl] at H;obtain rfl := Option.some.inj H;go_enter Tryd.func77, Tryd.ntmps77;go_wp2_with (first | ((with_reducible refine gate_callee (f := 58) rfl ?_); refine gsL (some 7) Tryd.func58 #[.string a0] ?_; (with_reducible refine (impl_EscNorm.calls k a0 t316 true _ A2.out).mono ?_); rintro e w4 ⟨rfl, hb⟩; refine ⟨_, rfl, ?_⟩; have n0_ := Aside0.mk (below_step (zz0 HB) hb); clear HB; have HB := n0_; clear n0_; (try clear hb)))
  go_ret
  exact ⟨zz1, (zz0 HB)⟩
 ·replace c3 := Bool.eq_false_iff.mpr c3
  subst c3;rw [if_neg (show ¬ (false = true) by decide)] at H;obtain rfl := Option.some.inj H;go_enter Tryd.func77, Tryd.ntmps77;go_wp2_with (first | ((with_reducible refine gate_callee (f := 58) rfl ?_); refine gsL (some 7) Tryd.func58 #[.string a0] ?_; (with_reducible refine (impl_EscNorm.calls k a0 t316 false _ A2.out).mono ?_); rintro e w5 ⟨rfl, hb⟩; refine ⟨_, rfl, ?_⟩; have n0_ := Aside0.mk (below_step (zz0 HB) hb); clear HB; have HB := n0_; clear n0_; (try clear hb)))
  go_ret
  exact ⟨zz1, (zz0 HB)⟩
mutual
def impl_AddrOk.j0 : Nat → Bool → ByteArray → List ByteArray → Bool → ByteArray → Option (Bool)
 | 0, _, _, _, _, _ => none
 | k + 1, x14, x319000, x319001, x319002, x319003 => if x14 = true then (some false) else (impl_AddrOk.l0 k x319001 (x319001.length : Int) 0 x319000 x319001 x319002 x319003)
def impl_AddrOk.l0 : Nat → List ByteArray → Int → Int → ByteArray → List ByteArray → Bool → ByteArray → Option (Bool)
 | 0, _, _, _, _, _, _, _ => none
 | k + 1, x16, x17, x18, x319000, x319001, x319002, x319003 => if x18 < x17 then (if 0 ≤ x18 then (if x18 < (x16.length : Int) then (if (rdOf ByteArray.empty x16 x18).toList = ([] : List UInt8) then (some false) else (if (rdOf ByteArray.empty x16 x18).toList = ([46] : List UInt8) then (some false) else (if (rdOf ByteArray.empty x16 x18).toList = ([46, 46] : List UInt8) then (some false) else ((impl_isNormal.f k (rdOf ByteArray.empty x16 x18)).bind fun t321 => (if t321 = true then (impl_AddrOk.l0 k x16 x17 (wrap64 (x18 + 1)) x319000 x319001 x319002 x319003) else (some false)))))) else (none)) else (none)) else ((impl_isNormal.f k x319003).bind fun t322 => (if t322 = true then (if x319002 = true then ((impl_writeAddr.f x319000 x319001 x319002 x319003).bind fun t323 => (some (decide ((t323.size : Int) ≤ 60)))) else (if x319003.toList = ([] : List UInt8) then ((impl_writeAddr.f x319000 x319001 x319002 x319003).bind fun t324 => (some (decide ((t324.size : Int) ≤ 60)))) else (some false))) else (some false)))
end
def impl_AddrOk.f (k : Nat) (a0_0 : ByteArray) (l0_1 : List ByteArray) (a0_2 : Bool) (a0_3 : ByteArray) : Option (Bool) := (impl_isHouse.f k a0_0).bind fun t319 => (if t319 = true then (impl_AddrOk.j0 k (decide ((l0_1.length : Int) > 5)) a0_0 l0_1 a0_2 a0_3) else (impl_AddrOk.j0 k true a0_0 l0_1 a0_2 a0_3))
set_option maxHeartbeats 8000000 in
set_option maxRecDepth 100000 in
theorem impl_AddrOk.calls (k : Nat) (a0_0 : ByteArray) (A0_1 : Option Addr) (c0_1 : Nat) (l0_1 : List ByteArray) (a0_2 : Bool) (a0_3 : ByteArray) (r : Bool) (w : World) (hr0_1 : Kd.C Kd.string w A0_1 l0_1.length l0_1) (hc0_1 : l0_1.length ≤ c0_1) (h : impl_AddrOk.f k a0_0 l0_1 a0_2 a0_3 = some r) :
  Calls Tryd.prog 62 #[.agg #[.string a0_0, .slice A0_1 l0_1.length c0_1, .bool a0_2, .string a0_3]] w fun e w' => e = .returned (.bool r) ∧ Below w.heap.size w w' := by
 have hu47 := Tryd.underlying47;have HR0_1 := Aside0.mk hr0_1;have HC0_1 := Aside0.mk hc0_1;clear hr0_1 hc0_1;have HB := Aside0.mk (Below.refl w.heap.size w);have H : ((impl_isHouse.f k a0_0).bind fun t319 => (if t319 = true then (impl_AddrOk.j0 k (decide ((l0_1.length : Int) > 5)) a0_0 l0_1 a0_2 a0_3) else (impl_AddrOk.j0 k true a0_0 l0_1 a0_2 a0_3))) = some r := h;clear h;have HC2 := Aside0.mk H;clear H;go_enter Tryd.func62, Tryd.ntmps62;go_upto_region 1 with (first | ((with_reducible refine gate_dst (N := 1) rfl ?_); (try (refine gate_guard (by rfl) ?_; dsimp only)); refine boxE 1 #[.string a0_0, .slice A0_1 l0_1.length c0_1, .bool a0_2, .string a0_3] 47 ?_; intro gb318 hg w3 hbox hb; have n0_ := Aside0.mk (below_step (zz0 HB) hb); have n1_ := Aside0.mk (hbox); have n2_ := Aside0.mk ((by rw [hg]; exact (below_size (zz0 HB)) : w.heap.size ≤ gb318)); have n3_ := Aside0.mk ((by rw [hg]; exact (below_size (zz0 HB)) : w.heap.size ≤ gb318)); clear HB; have HB := n0_; have BK318 := n1_; have GW318 := n2_; have GE318 := n3_; clear n0_ n1_ n2_ n3_; clear hb hbox hg))
 (try simp only [Act.put, List.setIfInBounds_toArray, List.set_cons_zero, List.set_cons_succ])
 go_cut [14] (fun v14 wc => ∃ (kq : Nat) (x14_1 : Bool), v14 = .bool x14_1 ∧ Aside0 (impl_AddrOk.j0 kq x14_1 a0_0 l0_1 a0_2 a0_3 = some r) ∧ Aside0 (kq ≤ k) ∧ Aside0 (wc.heap[gb318]? = some (.cells #[.string a0_0, (.slice A0_1 l0_1.length c0_1), .bool a0_2, .string a0_3] 47 (0, 0))) ∧ Aside0 (Below w.heap.size w wc))
 case first =>
  have H := HC2.out;clear HC2;replace H := bindA H;obtain ⟨t319, A4, H⟩ := H;by_cases c5 : t319 = true
  ·subst c5
   rw [if_pos rfl] at H;have H' := Aside0.mk H;clear H;obtain ⟨_, _, _, _, _, _, _, _⟩ := cf4 BK318;go_wp2_with (first | ((with_reducible refine gate_callee (f := 76) rfl ?_); refine gsL (some 7) Tryd.func76 #[.string a0_0] ?_; (with_reducible refine (impl_isHouse.calls k a0_0 true _ A4.out).mono ?_); rintro e w' ⟨rfl, ⟨nd, rfl⟩⟩; refine ⟨_, rfl, ?_⟩))
   go_meet
   case rel => exact ⟨_, (decide ((l0_1.length : Int) > 5)), zz3, H', ⟨zz9⟩, ⟨(zz21 BK318)⟩, ⟨(zz2 HB GE318)⟩⟩
  ·replace c5 := Bool.eq_false_iff.mpr c5
   subst c5;rw [if_neg (show ¬ (false = true) by decide)] at H;have H' := Aside0.mk H;clear H;obtain ⟨_, _, _, _, _, _, _, _⟩ := cf4 BK318;go_wp2_with (first | ((with_reducible refine gate_callee (f := 76) rfl ?_); refine gsL (some 7) Tryd.func76 #[.string a0_0] ?_; (with_reducible refine (impl_isHouse.calls k a0_0 false _ A4.out).mono ?_); rintro e w' ⟨rfl, ⟨nd, rfl⟩⟩; refine ⟨_, rfl, ?_⟩))
   go_meet
   case rel => exact ⟨_, (true), zz3, H', ⟨zz9⟩, ⟨(zz21 BK318)⟩, ⟨(zz2 HB GE318)⟩⟩
 case rest =>
  clear HC2;obtain ⟨kq, x14_1, rfl, HA, HJ1, BK318, HB⟩ := hcut;cases kq with
  | zero => exact absurd HA.out (by simp [impl_AddrOk.j0])
  | succ kj1 =>
   have H := HA.out;clear HA;simp only [impl_AddrOk.j0] at H
   by_cases c8 : x14_1 = true
   ·subst c8
    rw [if_pos rfl] at H;obtain rfl := Option.some.inj H;go_wp2
    go_ret
    exact ⟨zz1, (zz2 HB GE318)⟩
   ·replace c8 := Bool.eq_false_iff.mpr c8
    subst c8;rw [if_neg (show ¬ (false = true) by decide)] at H;have H' := Aside0.mk H;clear H;obtain ⟨_, _, _, _, _, _, _, _⟩ := cf4 BK318;go_wp2
    go_loopg [18] kj1 (fun kq v18 w' => ∃ (x18_2 : Int), v18 = .int .i64 x18_2 ∧ Aside0 (impl_AddrOk.l0 kq l0_1 (l0_1.length : Int) x18_2 a0_0 l0_1 a0_2 a0_3 = some r) ∧ Aside0 (kq ≤ kj1) ∧ Aside0 (w'.heap[gb318]? = some (.cells #[.string a0_0, (.slice A0_1 l0_1.length c0_1), .bool a0_2, .string a0_3] 47 (0, 0))) ∧ Aside0 (Below w.heap.size w w'))
    case atStart => exact ⟨(0), zz3, H', ⟨Nat.le_refl _⟩, ⟨(zz21 BK318)⟩, ⟨(zz2 HB GE318)⟩⟩
    case round =>
     clear H';obtain ⟨x18_2, rfl, HA, HK2, BK318, HB⟩ := hrel;cases gk with
     | zero => exact absurd HA.out (by simp [impl_AddrOk.l0])
     | succ k2 =>
      have H := HA.out;clear HA;simp only [impl_AddrOk.l0] at H
      by_cases c10 : x18_2 < (l0_1.length : Int)
      ·rw [if_pos c10] at H
       have c10b0 : decide (x18_2 < (l0_1.length : Int)) = true := decide_eq_true c10;clear c10;by_cases c11 : 0 ≤ x18_2
       ·rw [if_pos c11] at H
        have c11b0 : decide (0 ≤ x18_2) = true := decide_eq_true c11;clear c11;by_cases c12 : x18_2 < (l0_1.length : Int)
        ·rw [if_pos c12] at H
         have c12b0 : decide (x18_2 < (l0_1.length : Int)) = true := decide_eq_true c12;clear c12;by_cases c13 : (rdOf ByteArray.empty l0_1 x18_2).toList = ([] : List UInt8)
         ·rw [if_pos c13] at H
          have c13b0 : ((rdOf ByteArray.empty l0_1 x18_2).toList == ([] : List UInt8)) = true := beq_iff_eq.mpr c13;have c13b1 : ((rdOf ByteArray.empty l0_1 x18_2).toList != ([] : List UInt8)) = false := bne_eq_false_iff_eq.mpr c13;clear c13;obtain rfl := Option.some.inj H;have p320 : 0 ≤ (x18_2 : Int) := ofD;have q320 : x18_2 < (l0_1.length : Int) := ofD;obtain ⟨ad320, e320, hx320_0⟩ := Kd.at_string HR0_1.out x18_2 p320 q320;cases e320
          replace hx320_0 := (HB.out.cell (World.block_lt_of_cell? w _ hx320_0)).trans hx320_0;replace p320 := eq_true p320;replace q320 := eq_true q320;go_wp2
          go_ret
          exact ⟨zz1, (zz2 HB GE318)⟩
         ·rw [if_neg c13] at H
          have c13b0 : ((rdOf ByteArray.empty l0_1 x18_2).toList == ([] : List UInt8)) = false := beq_eq_false_iff_ne.mpr c13;have c13b1 : ((rdOf ByteArray.empty l0_1 x18_2).toList != ([] : List UInt8)) = true := bne_iff_ne.mpr c13;by_cases c14 : (rdOf ByteArray.empty l0_1 x18_2).toList = ([46] : List UInt8)
          ·rw [if_pos c14] at H
           have c14b0 : ((rdOf ByteArray.empty l0_1 x18_2).toList == ([46] : List UInt8)) = true := beq_iff_eq.mpr c14;have c14b1 : ((rdOf ByteArray.empty l0_1 x18_2).toList != ([46] : List UInt8)) = false := bne_eq_false_iff_eq.mpr c14;clear c14;obtain rfl := Option.some.inj H;have p320 : 0 ≤ (x18_2 : Int) := ofD;have q320 : x18_2 < (l0_1.length : Int) := ofD;obtain ⟨ad320, e320, hx320_0⟩ := Kd.at_string HR0_1.out x18_2 p320 q320;cases e320
           replace hx320_0 := (HB.out.cell (World.block_lt_of_cell? w _ hx320_0)).trans hx320_0;replace p320 := eq_true p320;replace q320 := eq_true q320;go_wp2
           go_ret
           exact ⟨zz1, (zz2 HB GE318)⟩
          ·rw [if_neg c14] at H
           have c14b0 : ((rdOf ByteArray.empty l0_1 x18_2).toList == ([46] : List UInt8)) = false := beq_eq_false_iff_ne.mpr c14;have c14b1 : ((rdOf ByteArray.empty l0_1 x18_2).toList != ([46] : List UInt8)) = true := bne_iff_ne.mpr c14;by_cases c15 : (rdOf ByteArray.empty l0_1 x18_2).toList = ([46, 46] : List UInt8)
           ·rw [if_pos c15] at H
            have c15b0 : ((rdOf ByteArray.empty l0_1 x18_2).toList == ([46, 46] : List UInt8)) = true := beq_iff_eq.mpr c15;have c15b1 : ((rdOf ByteArray.empty l0_1 x18_2).toList != ([46, 46] : List UInt8)) = false := bne_eq_false_iff_eq.mpr c15;clear c15;obtain rfl := Option.some.inj H;have p320 : 0 ≤ (x18_2 : Int) := ofD;have q320 : x18_2 < (l0_1.length : Int) := ofD;obtain ⟨ad320, e320, hx320_0⟩ := Kd.at_string HR0_1.out x18_2 p320 q320;cases e320
            replace hx320_0 := (HB.out.cell (World.block_lt_of_cell? w _ hx320_0)).trans hx320_0;replace p320 := eq_true p320;replace q320 := eq_true q320;go_wp2
            go_ret
            exact ⟨zz1, (zz2 HB GE318)⟩
           ·rw [if_neg c15] at H
            have c15b0 : ((rdOf ByteArray.empty l0_1 x18_2).toList == ([46, 46] : List UInt8)) = false := beq_eq_false_iff_ne.mpr c15;have c15b1 : ((rdOf ByteArray.empty l0_1 x18_2).toList != ([46, 46] : List UInt8)) = true := bne_iff_ne.mpr c15;replace H := bindA H;obtain ⟨t321, A16, H⟩ := H;by_cases c17 : t321 = true
            ·subst c17
             rw [if_pos rfl] at H;have H' := Aside0.mk H;clear H;have p320 : 0 ≤ (x18_2 : Int) := ofD;have q320 : x18_2 < (l0_1.length : Int) := ofD;obtain ⟨ad320, e320, hx320_0⟩ := Kd.at_string HR0_1.out x18_2 p320 q320;cases e320
             replace hx320_0 := (HB.out.cell (World.block_lt_of_cell? w _ hx320_0)).trans hx320_0;replace p320 := eq_true p320;replace q320 := eq_true q320;go_wp2_with (first | (go_at_call 77; (with_reducible refine (impl_isNormal.calls k2 (rdOf ByteArray.empty l0_1 x18_2) true _ A16.out).mono ?_); rintro e w18 ⟨rfl, hb⟩; have n0_ := Aside0.mk (blk_below (zz21 BK318) hb); have n1_ := Aside0.mk (below_step (zz2 HB GE318) hb); clear BK318; clear HB; have BK318 := n0_; have HB := n1_; clear n0_ n1_; (try clear hb)))
             go_roundg k2
             case measure => have := HJ1.out; have := HK2.out; omega
             case rel => exact ⟨(wrap64 (x18_2 + 1)), zz3, H', ⟨(zz20 HJ1 HK2)⟩, ⟨(zz21 BK318)⟩, ⟨(zz2 HB GE318)⟩⟩
            ·replace c17 := Bool.eq_false_iff.mpr c17
             subst c17;rw [if_neg (show ¬ (false = true) by decide)] at H;obtain rfl := Option.some.inj H;have p320 : 0 ≤ (x18_2 : Int) := ofD;have q320 : x18_2 < (l0_1.length : Int) := ofD;obtain ⟨ad320, e320, hx320_0⟩ := Kd.at_string HR0_1.out x18_2 p320 q320;cases e320
             replace hx320_0 := (HB.out.cell (World.block_lt_of_cell? w _ hx320_0)).trans hx320_0;replace p320 := eq_true p320;replace q320 := eq_true q320;go_wp2_with (first | (go_at_call 77; (with_reducible refine (impl_isNormal.calls k2 (rdOf ByteArray.empty l0_1 x18_2) false _ A16.out).mono ?_); rintro e w19 ⟨rfl, hb⟩; have n0_ := Aside0.mk (blk_below (zz21 BK318) hb); have n1_ := Aside0.mk (below_step (zz2 HB GE318) hb); clear BK318; clear HB; have BK318 := n0_; have HB := n1_; clear n0_ n1_; (try clear hb)))
             go_ret
             exact ⟨zz1, (zz2 HB GE318)⟩
        ·rw [if_neg c12] at H
         exact absurd H (by simp)
       ·rw [if_neg c11] at H
        exact absurd H (by simp)
      ·rw [if_neg c10] at H
       have c10b0 : decide (x18_2 < (l0_1.length : Int)) = false := decide_eq_false c10;clear c10;replace H := bindA H;obtain ⟨t322, A20, H⟩ := H;by_cases c21 : t322 = true
       ·subst c21
        rw [if_pos rfl] at H;by_cases c22 : a0_2 = true
        ·subst c22
         rw [if_pos rfl] at H;replace H := bindA H;obtain ⟨t323, A23, H⟩ := H;obtain rfl := Option.some.inj H;obtain ⟨_, _, _, _, _, _, _, _⟩ := cf4 BK318;go_wp2_with (first | ((with_reducible refine gate_callee (f := 77) rfl ?_); refine gsL (some 40) Tryd.func77 #[.string a0_3] ?_; (with_reducible refine (impl_isNormal.calls k2 a0_3 true _ A20.out).mono ?_); rintro e w25 ⟨rfl, hb⟩; refine ⟨_, rfl, ?_⟩; have n0_ := Aside0.mk (blk_below (zz21 BK318) hb); have n1_ := Aside0.mk (below_step (zz2 HB GE318) hb); clear BK318; clear HB; have BK318 := n0_; have HB := n1_; clear n0_ n1_; (try clear hb); obtain ⟨_, _, _, _, _, _, _, _⟩ := cf4 BK318) | ((with_reducible refine gate_callee (f := 39) rfl ?_); refine gsL (some 53) Tryd.func39 #[.agg #[.string a0_0, .slice A0_1 l0_1.length c0_1, .bool true, .string a0_3]] ?_; (with_reducible refine (impl_writeAddr.calls a0_0 _ _ l0_1 true a0_3 t323 _ ?side1 ?side2 A23.out).mono ?_); (case side1 => exact (zz24 HR0_1 HB)); (case side2 => exact HC0_1.out); rintro e w27 ⟨rfl, hb⟩; refine ⟨_, rfl, ?_⟩; have n0_ := Aside0.mk (blk_below (zz21 BK318) hb); have n1_ := Aside0.mk (below_step (zz2 HB GE318) hb); clear BK318; clear HB; have BK318 := n0_; have HB := n1_; clear n0_ n1_; (try clear hb)))
         go_ret
         exact ⟨zz1, (zz2 HB GE318)⟩
        ·replace c22 := Bool.eq_false_iff.mpr c22
         subst c22;rw [if_neg (show ¬ (false = true) by decide)] at H;by_cases c28 : a0_3.toList = ([] : List UInt8)
         ·rw [if_pos c28] at H
          have c28b0 : (a0_3.toList == ([] : List UInt8)) = true := beq_iff_eq.mpr c28;have c28b1 : (a0_3.toList != ([] : List UInt8)) = false := bne_eq_false_iff_eq.mpr c28;clear c28;replace H := bindA H;obtain ⟨t324, A29, H⟩ := H;obtain rfl := Option.some.inj H;obtain ⟨_, _, _, _, _, _, _, _⟩ := cf4 BK318;go_wp2_with (first | ((with_reducible refine gate_callee (f := 77) rfl ?_); refine gsL (some 40) Tryd.func77 #[.string a0_3] ?_; (with_reducible refine (impl_isNormal.calls k2 a0_3 true _ A20.out).mono ?_); rintro e w31 ⟨rfl, hb⟩; refine ⟨_, rfl, ?_⟩; have n0_ := Aside0.mk (blk_below (zz21 BK318) hb); have n1_ := Aside0.mk (below_step (zz2 HB GE318) hb); clear BK318; clear HB; have BK318 := n0_; have HB := n1_; clear n0_ n1_; (try clear hb); obtain ⟨_, _, _, _, _, _, _, _⟩ := cf4 BK318) | ((with_reducible refine gate_callee (f := 39) rfl ?_); refine gsL (some 53) Tryd.func39 #[.agg #[.string a0_0, .slice A0_1 l0_1.length c0_1, .bool false, .string a0_3]] ?_; (with_reducible refine (impl_writeAddr.calls a0_0 _ _ l0_1 false a0_3 t324 _ ?side1 ?side2 A29.out).mono ?_); (case side1 => exact (zz24 HR0_1 HB)); (case side2 => exact HC0_1.out); rintro e w33 ⟨rfl, hb⟩; refine ⟨_, rfl, ?_⟩; have n0_ := Aside0.mk (blk_below (zz21 BK318) hb); have n1_ := Aside0.mk (below_step (zz2 HB GE318) hb); clear BK318; clear HB; have BK318 := n0_; have HB := n1_; clear n0_ n1_; (try clear hb)))
          go_ret
          exact ⟨zz1, (zz2 HB GE318)⟩
         ·rw [if_neg c28] at H
          have c28b0 : (a0_3.toList == ([] : List UInt8)) = false := beq_eq_false_iff_ne.mpr c28;have c28b1 : (a0_3.toList != ([] : List UInt8)) = true := bne_iff_ne.mpr c28;obtain rfl := Option.some.inj H;obtain ⟨_, _, _, _, _, _, _, _⟩ := cf4 BK318;go_wp2_with (first | ((with_reducible refine gate_callee (f := 77) rfl ?_); refine gsL (some 40) Tryd.func77 #[.string a0_3] ?_; (with_reducible refine (impl_isNormal.calls k2 a0_3 true _ A20.out).mono ?_); rintro e w35 ⟨rfl, hb⟩; refine ⟨_, rfl, ?_⟩; have n0_ := Aside0.mk (blk_below (zz21 BK318) hb); have n1_ := Aside0.mk (below_step (zz2 HB GE318) hb); clear BK318; clear HB; have BK318 := n0_; have HB := n1_; clear n0_ n1_; (try clear hb); obtain ⟨_, _, _, _, _, _, _, _⟩ := cf4 BK318))
          go_ret
          exact ⟨zz1, (zz2 HB GE318)⟩
       ·replace c21 := Bool.eq_false_iff.mpr c21
        subst c21;rw [if_neg (show ¬ (false = true) by decide)] at H;obtain rfl := Option.some.inj H;obtain ⟨_, _, _, _, _, _, _, _⟩ := cf4 BK318;go_wp2_with (first | ((with_reducible refine gate_callee (f := 77) rfl ?_); refine gsL (some 40) Tryd.func77 #[.string a0_3] ?_; (with_reducible refine (impl_isNormal.calls k2 a0_3 false _ A20.out).mono ?_); rintro e w38 ⟨rfl, hb⟩; refine ⟨_, rfl, ?_⟩; have n0_ := Aside0.mk (blk_below (zz21 BK318) hb); have n1_ := Aside0.mk (below_step (zz2 HB GE318) hb); clear BK318; clear HB; have BK318 := n0_; have HB := n1_; clear n0_ n1_; (try clear hb)))
        go_ret
        exact ⟨zz1, (zz2 HB GE318)⟩
end Go.Proofs.YtpnedbnpnekahaaDoor.P
end
section
namespace Go.Proofs.YtpnedbnpnekahaaDoor.P
open Go.RowKit Go.Proofs.YtpnedbnpnekahaaDoorW.PrintWords Go.Proofs.YtpnedbnpnekahaaDoorW.PrintLast Go.Proofs.YtpnedbnpnekahaaDoorW.PrintMore Go.Proofs.YtpnedbnpnekahaaDoor.B Go.Proofs.YtpnedbnpnekahaaDoor.Ad
set_option linter.unusedVariables false
set_option linter.unusedSimpArgs false
def slices_Clone_string_string.f (l0 : List ByteArray) : Option (List ByteArray) := if l0.length * 16 ≤ 140737488355328 then some l0 else none
theorem slices_Clone_string_string.calls (A0 : Option Addr) (c0 : Nat) (l0 : List ByteArray) (r : List ByteArray) (w : World) (hr0 : Kd.C Kd.string w A0 l0.length l0) (hc0 : l0.length ≤ c0) (h : slices_Clone_string_string.f l0 = some r) :
  Calls Tryd.prog 59 #[.slice A0 l0.length c0] w fun e w' => ∃ v0_ : Value, e = .returned (v0_) ∧ Kd.R Kd.string 9 w' w.heap.size (fun _ => True) v0_ r ∧ Below w.heap.size w w' := by
 unfold slices_Clone_string_string.f at h
 split at h
 ·rename_i hh
  obtain rfl := Option.some.inj h
  rcases Nat.eq_zero_or_pos l0.length with h0 | h0
  ·obtain rfl : l0 = [] := List.length_eq_zero_iff.1 h0
   cases A0 with
   | none => exact (Tryd.slices_Clone_string_nil 0 c0 w).mono fun e w' ⟨he, hw⟩ => ⟨_, he, Kd.R_nil _ _ _ _ _, hw ▸ Below.refl _ _⟩
   | some a => exact (Tryd.slices_Clone_string_zero a c0 w).mono fun e w' ⟨v, he, ho, _, hb⟩ => ⟨v, he, Kd.R_of_own ho (fun _ _ => trivial), hb⟩
  ·obtain ⟨bk, o, rfl, hb, hcells⟩ := row_at hr0 h0
   refine (Tryd.slices_Clone_string bk o l0.length c0 l0 w (Nat.le_refl _) hh (fun j hj => ?_)).mono fun e w' ⟨v, he, ho, _, hb'⟩ => ⟨v, he, Kd.R_of_own ?_ (fun _ _ => trivial), hb'⟩
   ·rw [List.getD_eq_getElem?_getD, List.getElem?_eq_getElem hj]
    exact hcells j _ (List.getElem?_eq_getElem hj)
   ·rw [List.take_length] at ho
    exact ho
 ·cases h
end Go.Proofs.YtpnedbnpnekahaaDoor.P
end
section
namespace Go.Proofs.YtpnedbnpnekahaaDoor.P
open Go.RowKit Go.Proofs.YtpnedbnpnekahaaDoorW.PrintWords Go.Proofs.YtpnedbnpnekahaaDoorW.PrintLast Go.Proofs.YtpnedbnpnekahaaDoorW.PrintMore
attribute [local go_sem] max2_int min2_int max_two min_two max_three min_three max_four min_four
set_option linter.unusedVariables false
set_option linter.unusedSimpArgs false
def impl_readWay.l0 : Nat → ByteArray → ByteArray → Bool → List ByteArray → List ByteArray → Int → Int → Option (ByteArray × List ByteArray × Bool × ByteArray × Bool)
 | 0, _, _, _, _, _, _, _ => none
 | k + 1, x0, x9, x10, x12, x35, x36, x37 => if x37 < x36 then (if 0 ≤ x37 then (if x37 < (x35.length : Int) then ((impl_EscNorm.f k (rdOf ByteArray.empty x35 x37)).bind fun bt338 => (if bt338.2 = true then (if x12.length < 8796093022208 then (impl_readWay.l0 k x0 x9 x10 (x12 ++ [bt338.1]) x35 x36 (wrap64 (x37 + 1))) else (none)) else (some ((⟨#[]⟩ : ByteArray), ([] : List ByteArray), false, (⟨#[]⟩ : ByteArray), false)))) else (none)) else (none)) else ((impl_PathClean.f k x12).bind fun t343 => ((impl_AddrOk.f k x0 t343 x10 x9).bind fun t347 => (if t347 = true then (some (x0, t343, x10, x9, true)) else (some ((⟨#[]⟩ : ByteArray), ([] : List ByteArray), false, (⟨#[]⟩ : ByteArray), false)))))
def impl_readWay.f (k : Nat) (a0 : ByteArray) (l1 : List ByteArray) (a2 : ByteArray) : Option (ByteArray × List ByteArray × Bool × ByteArray × Bool) := (strings_Cut.f a2 (⟨#[63]⟩ : ByteArray)).bind fun bt326 => ((impl_EscNorm.f k bt326.2.1).bind fun bt329 => (if bt329.2 = true then ((slices_Clone_string_string.f l1).bind fun t331 => ((strings_Split.f k bt326.1 (⟨#[47]⟩ : ByteArray)).bind fun t334 => (impl_readWay.l0 k a0 bt329.1 bt326.2.2 t331 t334 (t334.length : Int) 0))) else (some ((⟨#[]⟩ : ByteArray), ([] : List ByteArray), false, (⟨#[]⟩ : ByteArray), false))))
set_option maxHeartbeats 8000000 in
set_option maxRecDepth 100000 in
theorem impl_readWay.calls (k : Nat) (a0 : ByteArray) (A1 : Option Addr) (c1 : Nat) (l1 : List ByteArray) (a2 : ByteArray) (r1 : ByteArray) (r2 : List ByteArray) (r3 : Bool) (r4 : ByteArray) (r5 : Bool) (w : World) (hr1 : Kd.C Kd.string w A1 l1.length l1) (hc1 : l1.length ≤ c1) (h : impl_readWay.f k a0 l1 a2 = some (r1, r2, r3, r4, r5)) :
  Calls Tryd.prog 49 #[.string a0, .slice A1 l1.length c1, .string a2] w fun e w' => ∃ v1_ : Value, e = .returned (.tuple #[.agg #[.string r1, v1_, .bool r3, .string r4], .bool r5]) ∧ Kd.R Kd.string 9 w' w.heap.size (fun _ => True) v1_ r2 ∧ Below w.heap.size w w' := by
 have hu47 := Tryd.underlying47;have HR1 := Aside0.mk hr1;have HC1 := Aside0.mk hc1;clear hr1 hc1;have HB := Aside0.mk (Below.refl w.heap.size w);have H : ((strings_Cut.f a2 (⟨#[63]⟩ : ByteArray)).bind fun bt326 => ((impl_EscNorm.f k bt326.2.1).bind fun bt329 => (if bt329.2 = true then ((slices_Clone_string_string.f l1).bind fun t331 => ((strings_Split.f k bt326.1 (⟨#[47]⟩ : ByteArray)).bind fun t334 => (impl_readWay.l0 k a0 bt329.1 bt326.2.2 t331 t334 (t334.length : Int) 0))) else (some ((⟨#[]⟩ : ByteArray), ([] : List ByteArray), false, (⟨#[]⟩ : ByteArray), false))))) = some (r1, r2, r3, r4, r5) := h;clear h;replace H := bindA H;obtain ⟨⟨t326, t327, t328⟩, A4, H⟩ := H;try dsimp -simprocs only at H
 replace H := bindA H;obtain ⟨⟨t329, t330⟩, A5, H⟩ := H;try dsimp -simprocs only at H
 by_cases c6 : t330 = true
 ·subst c6
  rw [if_pos rfl] at H;replace H := bindA H;obtain ⟨t331, A7, H⟩ := H;replace H := bindA H;obtain ⟨t334, A8, H⟩ := H;have H' := Aside0.mk H;clear H;go_enter Tryd.func49, Tryd.ntmps49;go_wp2_with (first | ((with_reducible refine gate_dst (N := 6) rfl ?_); refine boxE 6 #[.string (⟨#[]⟩ : ByteArray), .slice none 0 0, .bool false, .string (⟨#[]⟩ : ByteArray)] 47 ?_; intro gb325 hg w9 hbox hb; have n0_ := Aside0.mk (below_step (zz0 HB) hb); have n1_ := Aside0.mk (hbox); have n2_ := Aside0.mk ((by rw [hg]; exact (below_size (zz0 HB)) : w.heap.size ≤ gb325)); have n3_ := Aside0.mk ((by rw [hg]; exact (below_size (zz0 HB)) : w.heap.size ≤ gb325)); clear HB; have HB := n0_; have BK325 := n1_; have GW325 := n2_; have GE325 := n3_; clear n0_ n1_ n2_ n3_; clear hb hbox hg) | ((with_reducible refine gate_callee (f := 43) rfl ?_); refine gsL (some 20) Tryd.func43 #[.string a2, .string (⟨#[63]⟩ : ByteArray)] ?_; (with_reducible refine (strings_Cut.calls a2 (⟨#[63]⟩ : ByteArray) t326 t327 t328 _ A4.out).mono ?_); rintro e w10 ⟨rfl, hb⟩; refine ⟨_, rfl, ?_⟩; have n0_ := Aside0.mk (blk_below (zz21 BK325) hb); have n1_ := Aside0.mk (below_step (zz2 HB GE325) hb); clear BK325; clear HB; have BK325 := n0_; have HB := n1_; clear n0_ n1_; (try clear hb)) | ((with_reducible refine gate_callee (f := 58) rfl ?_); refine gsL (some 26) Tryd.func58 #[.string t327] ?_; (with_reducible refine (impl_EscNorm.calls k t327 t329 true _ A5.out).mono ?_); rintro e w11 ⟨rfl, hb⟩; refine ⟨_, rfl, ?_⟩; have n0_ := Aside0.mk (blk_below (zz21 BK325) hb); have n1_ := Aside0.mk (below_step (zz2 HB GE325) hb); clear BK325; clear HB; have BK325 := n0_; have HB := n1_; clear n0_ n1_; (try clear hb)) | ((with_reducible refine gate_callee (f := 59) rfl ?_); refine gsL (some 33) Tryd.func59 #[.slice A1 l1.length c1] ?_; (with_reducible refine (slices_Clone_string_string.calls _ _ l1 t331 _ ?side1 ?side2 A7.out).mono ?_); (case side1 => exact (zz24 HR1 HB)); (case side2 => exact HC1.out); rintro e w12 ⟨v332, rfl, ho0, hb⟩; refine ⟨_, rfl, ?_⟩; have n0_ := Aside0.mk (Kd.R_lower ho0 (below_size (zz2 HB GE325))); have n1_ := Aside0.mk (blk_below (zz21 BK325) hb); have n2_ := Aside0.mk (below_step (zz2 HB GE325) hb); clear BK325; clear HB; have HO333 := n0_; have BK325 := n1_; have HB := n2_; clear n0_ n1_ n2_; (try clear hb ho0)) | ((with_reducible refine gate_callee (f := 60) rfl ?_); refine gsL (some 35) Tryd.func60 #[.string t326, .string (⟨#[47]⟩ : ByteArray)] ?_; (with_reducible refine (strings_Split.calls k t326 (⟨#[47]⟩ : ByteArray) t334 _ A8.out).mono ?_); rintro e w13 ⟨v335, rfl, ho0, hb⟩; refine ⟨_, rfl, ?_⟩; have n0_ := Aside0.mk (Kd.R_elder' (zz28 HO333) (Kd.R_base ho0) hb); have n1_ := Aside0.mk (Kd.R_lower (Kd.R_new' ho0 (Kd.R_lt (zz28 HO333))) (below_size (zz2 HB GE325))); have n2_ := Aside0.mk (blk_below (zz21 BK325) hb); have n3_ := Aside0.mk (below_step (zz2 HB GE325) hb); clear HO333; clear BK325; clear HB; have HO333 := n0_; have HO336 := n1_; have BK325 := n2_; have HB := n3_; clear n0_ n1_ n2_ n3_; (try clear hb ho0); obtain ⟨Ao14, co14, eo14⟩ := Kd.R_slice HO336.out; subst eo14))
  go_loopg [12, 37] k (fun kq v12 v37 w' => ∃ (x12_1 : List ByteArray) (x37_1 : Int) (x326000_1 : ByteArray) (x326002_1 : Bool) (x326003_1 : ByteArray), v37 = .int .i64 x37_1 ∧ Aside0 (impl_readWay.l0 kq a0 t329 t328 x12_1 t334 (t334.length : Int) x37_1 = some (r1, r2, r3, r4, r5)) ∧ Aside0 (kq ≤ k) ∧ Aside0 (Kd.R Kd.string 9 w' w.heap.size (fun k_ => some k_ ≠ ((.slice Ao14 t334.length co14) : Value).ownBlock) v12 x12_1) ∧ Aside0 (Kd.R Kd.string 9 w' w.heap.size (fun k_ => some k_ ≠ (v12 : Value).ownBlock) (.slice Ao14 t334.length co14) t334) ∧ Aside0 (w'.heap[gb325]? = some (.cells #[.string x326000_1, (.slice none 0 0), .bool x326002_1, .string x326003_1] 47 (0, 0))) ∧ Aside0 (Below w.heap.size w w'))
  case atStart => exact ⟨(t331), (0), ((⟨#[]⟩ : ByteArray)), (false), ((⟨#[]⟩ : ByteArray)), zz3, H', ⟨Nat.le_refl _⟩, ⟨(zz34 HO333)⟩, ⟨(zz34 HO336)⟩, ⟨(zz21 BK325)⟩, ⟨(zz2 HB GE325)⟩⟩
  case round =>
   clear H';obtain ⟨x12_1, x37_1, x326000_1, x326002_1, x326003_1, rfl, HA, HK1, HO_12, HO_35, BK325, HB⟩ := hrel;cases gk with
   | zero => exact absurd HA.out (by simp [impl_readWay.l0])
   | succ k1 =>
    have H := HA.out;clear HA;simp only [impl_readWay.l0] at H
    by_cases c15 : x37_1 < (t334.length : Int)
    ·rw [if_pos c15] at H
     have c15b0 : decide (x37_1 < (t334.length : Int)) = true := decide_eq_true c15;clear c15;by_cases c16 : 0 ≤ x37_1
     ·rw [if_pos c16] at H
      have c16b0 : decide (0 ≤ x37_1) = true := decide_eq_true c16;clear c16;by_cases c17 : x37_1 < (t334.length : Int)
      ·rw [if_pos c17] at H
       have c17b0 : decide (x37_1 < (t334.length : Int)) = true := decide_eq_true c17;clear c17;replace H := bindA H;obtain ⟨⟨t338, t339⟩, A18, H⟩ := H;try dsimp -simprocs only at H
       by_cases c19 : t339 = true
       ·subst c19
        rw [if_pos rfl] at H;by_cases c20 : x12_1.length < 8796093022208
        ·rw [if_pos c20] at H
         have LMc20 := Aside0.mk c20;clear c20;obtain ⟨y340, Ny340⟩ := toY (x12_1 ++ [t338]);(first | with_reducible replace H := bindZ Ny340 H | rw [← Ny340.out] at H | skip)
         have H' := Aside0.mk H;clear H;have p337 : 0 ≤ (x37_1 : Int) := ofD;have q337 : x37_1 < (t334.length : Int) := ofD;obtain ⟨ad337, e337, hx337_0⟩ := Kd.at_string (Kd.R_reads' HO_35.out).2.2 x37_1 p337 q337;cases e337
         replace p337 := eq_true p337;replace q337 := eq_true q337;go_wp2_with (first | ((with_reducible refine gate_callee (f := 58) rfl ?_); refine gsL (some 43) Tryd.func58 #[.string (rdOf ByteArray.empty t334 x37_1)] ?_; (with_reducible refine (impl_EscNorm.calls k1 (rdOf ByteArray.empty t334 x37_1) t338 true _ A18.out).mono ?_); rintro e w21 ⟨rfl, hb⟩; refine ⟨_, rfl, ?_⟩; have n0_ := Aside0.mk (Kd.R_below (zz28 HO_12) hb); have n1_ := Aside0.mk (Kd.R_below (zz28 HO_35) hb); have n2_ := Aside0.mk (blk_below (zz21 BK325) hb); have n3_ := Aside0.mk (below_step (zz2 HB GE325) hb); clear HO_12; clear HO_35; clear BK325; clear HB; have HO_12 := n0_; have HO_35 := n1_; have BK325 := n2_; have HB := n3_; clear n0_ n1_ n2_ n3_; (try clear hb)) | ((with_reducible refine gate_builtin (b := .append) (xs := #[.tmp 49, .tmp 51]) rfl ?_); at_builtin; refine Kd.R_append Kd.string (w0 := w) w.heap.size rfl (.tmp 49) (.tmp 51) 45 9 (.string ⟨#[]⟩) 16 rfl Tryd.underlying45 info9 rfl (by decide) (by omega) u12 x12_1 t338 [.string t338] (fun k_ => some k_ ≠ (.slice (some ad337) t334.length co14 : Value).ownBlock) (fun _ => False) rfl rfl ?aP (fun _ hk => hk.elim) ?aF ?aO ?aB ?aS ?aL ?_; (case aP => exact rfl); (case aB => exact (zz2 HB GE325)); (case aF => exact (fun k_ hk => Kd.fresh' (Kd.R_lt (zz28 HO_35)) k_ hk)); (case aO => exact (zz28 HO_12)); (case aS => exact (below_size (zz2 HB GE325))); (case aL => exact (zz5 LMc20)); intro v341 w22 ho hb hg hat; rw [← Ny340.out] at ho; have n0_ := Aside0.mk (Kd.R_after (ok := (fun _ => True)) (zz36 HO_35) hg hat); have n1_ := Aside0.mk (blk_grown (zz21 BK325) hg (Kd.R_ne HO_12.out BK325.out (by decide))); have n2_ := Aside0.mk (hb); have n3_ := Aside0.mk (ho); clear HO_35; clear BK325; clear HB; clear HO_12; have HO_35 := n0_; have BK325 := n1_; have HB := n2_; have HO342 := n3_; clear n0_ n1_ n2_ n3_; clear ho hb hg hat))
         go_roundg k1
         case measure => have := HK1.out; omega
         case rel => exact ⟨(y340), (wrap64 (x37_1 + 1)), (x326000_1), (x326002_1), (x326003_1), zz3, H', ⟨(zz5 HK1)⟩, ⟨(zz28 HO342)⟩, ⟨(zz34 HO_35)⟩, ⟨(zz21 BK325)⟩, ⟨(zz2 HB GE325)⟩⟩
        ·rw [if_neg c20] at H
         exact absurd H (by simp)
       ·replace c19 := Bool.eq_false_iff.mpr c19
        subst c19;rw [if_neg (show ¬ (false = true) by decide)] at H;simp only [Option.some.injEq, Prod.mk.injEq] at H
        obtain ⟨rfl, rfl, rfl, rfl, rfl⟩ := H;have p337 : 0 ≤ (x37_1 : Int) := ofD;have q337 : x37_1 < (t334.length : Int) := ofD;obtain ⟨ad337, e337, hx337_0⟩ := Kd.at_string (Kd.R_reads' HO_35.out).2.2 x37_1 p337 q337;cases e337
        replace p337 := eq_true p337;replace q337 := eq_true q337;go_wp2_with (first | ((with_reducible refine gate_callee (f := 58) rfl ?_); refine gsL (some 43) Tryd.func58 #[.string (rdOf ByteArray.empty t334 x37_1)] ?_; (with_reducible refine (impl_EscNorm.calls k1 (rdOf ByteArray.empty t334 x37_1) t338 false _ A18.out).mono ?_); rintro e w23 ⟨rfl, hb⟩; refine ⟨_, rfl, ?_⟩; have n0_ := Aside0.mk (Kd.R_below (zz28 HO_12) hb); have n1_ := Aside0.mk (Kd.R_below (zz28 HO_35) hb); have n2_ := Aside0.mk (blk_below (zz21 BK325) hb); have n3_ := Aside0.mk (below_step (zz2 HB GE325) hb); clear HO_12; clear HO_35; clear BK325; clear HB; have HO_12 := n0_; have HO_35 := n1_; have BK325 := n2_; have HB := n3_; clear n0_ n1_ n2_ n3_; (try clear hb); obtain ⟨_, _, _, _, _, _, _, _⟩ := cf4 BK325))
        refine bodyPost_ret (results_ct rfl _ _ gb325 47 #[.string (⟨#[]⟩ : ByteArray), .slice none 0 0, .bool false, .string (⟨#[]⟩ : ByteArray)] (0, 0) _ rfl (zz37 BK325) Tryd.underlying47 rfl (by kernel_rfl)) rfl ?_;exact ⟨_, zz1, zz38, (zz2 HB GE325)⟩
      ·rw [if_neg c17] at H
       exact absurd H (by simp)
     ·rw [if_neg c16] at H
      exact absurd H (by simp)
    ·rw [if_neg c15] at H
     have c15b0 : decide (x37_1 < (t334.length : Int)) = false := decide_eq_false c15;clear c15;replace H := bindA H;obtain ⟨t343, A25, H⟩ := H;replace H := bindA H;obtain ⟨t347, A26, H⟩ := H;by_cases c27 : t347 = true
     ·subst c27
      rw [if_pos rfl] at H;simp only [Option.some.injEq, Prod.mk.injEq] at H
      obtain ⟨rfl, rfl, rfl, rfl, rfl⟩ := H;obtain ⟨Ao28, co28, eo28⟩ := Kd.R_slice HO_12.out;subst eo28;go_wp2_with (first | ((with_reducible refine gate_callee (f := 61) rfl ?_); refine gsL (some 56) Tryd.func61 #[.slice Ao28 x12_1.length co28] ?_; (with_reducible refine (impl_PathClean.calls k1 _ _ x12_1 t343 _ ?side1 ?side2 A25.out).mono ?_); (case side1 => exact (zz39 HO_12)); (case side2 => exact (Kd.R_reads' HO_12.out).2.1); rintro e w29 ⟨v344, rfl, ho0, hb⟩; refine ⟨_, rfl, ?_⟩; have n0_ := Aside0.mk (Kd.R_elder' (zz28 HO_12) (Kd.R_base ho0) hb); have n1_ := Aside0.mk (Kd.R_elder' (zz28 HO_35) (Kd.R_base ho0) hb); have n2_ := Aside0.mk (Kd.R_lower (Kd.R_new' (Kd.R_new' ho0 (Kd.R_lt (zz28 HO_12))) (Kd.R_lt (zz28 HO_35))) (below_size (zz2 HB GE325))); have n3_ := Aside0.mk (blk_below (zz21 BK325) hb); have n4_ := Aside0.mk (below_step (zz2 HB GE325) hb); clear HO_12; clear HO_35; clear BK325; clear HB; have HO_12 := n0_; have HO_35 := n1_; have HO345 := n2_; have BK325 := n3_; have HB := n4_; clear n0_ n1_ n2_ n3_ n4_; (try clear hb ho0); obtain ⟨Ao30, co30, eo30⟩ := Kd.R_slice HO345.out; subst eo30) | ((with_reducible refine gate_dst (N := 17) rfl ?_); refine boxE 17 #[.string (⟨#[]⟩ : ByteArray), .slice none 0 0, .bool false, .string (⟨#[]⟩ : ByteArray)] 47 ?_; intro gb346 hg w31 hbox hb; have n0_ := Aside0.mk (Kd.R_below (zz28 HO_12) hb); have n1_ := Aside0.mk (Kd.R_below (zz28 HO_35) hb); have n2_ := Aside0.mk (Kd.R_below (zz28 HO345) hb); have n3_ := Aside0.mk (blk_below (zz21 BK325) hb); have n4_ := Aside0.mk (below_step (zz2 HB GE325) hb); have n5_ := Aside0.mk (hbox); have n6_ := Aside0.mk ((by rw [hg]; exact (below_size (zz2 HB GE325)) : w.heap.size ≤ gb346)); have n7_ := Aside0.mk ((by rw [hg]; exact (below_size (zz2 HB GE325)) : w.heap.size ≤ gb346)); have n8_ := Aside0.mk ((by rw [hg]; exact Nat.ne_of_lt (blk_lt (zz21 BK325)) : gb325 ≠ gb346)); have n9_ := Aside0.mk ((by rw [hg]; exact Nat.ne_of_gt (blk_lt (zz21 BK325)) : gb346 ≠ gb325)); clear HO_12; clear HO_35; clear HO345; clear BK325; clear HB; have HO_12 := n0_; have HO_35 := n1_; have HO345 := n2_; have BK325 := n3_; have HB := n4_; have BK346 := n5_; have GW346 := n6_; have GE346 := n7_; have NB325_346 := n8_; have NB346_325 := n9_; clear n0_ n1_ n2_ n3_ n4_ n5_ n6_ n7_ n8_ n9_; clear hb hbox hg; have hnb32 := NB346_325.out; have hnc32 := NB325_346.out; obtain ⟨_, _, _, _, _, _, _, _⟩ := cf4 BK346) | ((with_reducible refine gate_callee (f := 62) rfl ?_); refine gsL (some 61) Tryd.func62 #[.agg #[.string a0, .slice Ao30 t343.length co30, .bool t328, .string t329]] ?_; (with_reducible refine (impl_AddrOk.calls k1 a0 _ _ t343 t328 t329 true _ ?side1 ?side2 A26.out).mono ?_); (case side1 => exact (by refine (Kd.R_reads' (e := 9) (base := w.heap.size) (ok := fun k_ => ((True ∧ some k_ ≠ (.slice Ao28 x12_1.length co28 : Value).ownBlock) ∧ some k_ ≠ (.slice Ao14 t334.length co14 : Value).ownBlock)) (n := t343.length) (c := co30) ?_).2.2; exact (zz87 HO345 BK346))); (case side2 => exact (Kd.R_reads' HO345.out).2.1); rintro e w34 ⟨rfl, hb⟩; refine ⟨_, rfl, ?_⟩; have n0_ := Aside0.mk (Kd.R_below (zz87 HO_12 BK346) hb); have n1_ := Aside0.mk (Kd.R_below (zz87 HO_35 BK346) hb); have n2_ := Aside0.mk (Kd.R_below (zz87 HO345 BK346) hb); have n3_ := Aside0.mk (blk_below (g := gb325) (o := .cells #[.string x326000_1, .slice none 0 0, .bool x326002_1, .string x326003_1] 47 (0, 0)) (zz45 BK325 NB325_346) hb); have n4_ := Aside0.mk (blk_below (g := gb346) (o := .cells #[.string a0, .slice Ao30 t343.length co30, .bool t328, .string t329] 47 (0, 0)) (zz37 BK346) hb); have n5_ := Aside0.mk (below_step (zz33 HB GE325 GE346) hb); clear HO_12; clear HO_35; clear HO345; clear BK325; clear BK346; clear HB; have HO_12 := n0_; have HO_35 := n1_; have HO345 := n2_; have BK325 := n3_; have BK346 := n4_; have HB := n5_; clear n0_ n1_ n2_ n3_ n4_ n5_; (try clear hb); obtain ⟨_, _, _, _, _, _, _, _⟩ := cf4 BK346; obtain ⟨_, _, _, _, _, _, _, _⟩ := cf4 BK325))
      refine bodyPost_ret (results_ct rfl _ _ gb325 47 #[.string a0, .slice Ao30 t343.length co30, .bool t328, .string t329] (0, 0) _ rfl (zz37 BK325) Tryd.underlying47 rfl (by kernel_rfl)) rfl ?_;exact ⟨_, zz1, (zz46 (rt HO345 BK325)), (zz33 HB GE325 GE346)⟩
     ·replace c27 := Bool.eq_false_iff.mpr c27
      subst c27;rw [if_neg (show ¬ (false = true) by decide)] at H;simp only [Option.some.injEq, Prod.mk.injEq] at H
      obtain ⟨rfl, rfl, rfl, rfl, rfl⟩ := H;obtain ⟨Ao37, co37, eo37⟩ := Kd.R_slice HO_12.out;subst eo37;go_wp2_with (first | ((with_reducible refine gate_callee (f := 61) rfl ?_); refine gsL (some 56) Tryd.func61 #[.slice Ao37 x12_1.length co37] ?_; (with_reducible refine (impl_PathClean.calls k1 _ _ x12_1 t343 _ ?side1 ?side2 A25.out).mono ?_); (case side1 => exact (zz39 HO_12)); (case side2 => exact (Kd.R_reads' HO_12.out).2.1); rintro e w38 ⟨v344, rfl, ho0, hb⟩; refine ⟨_, rfl, ?_⟩; have n0_ := Aside0.mk (Kd.R_elder' (zz28 HO_12) (Kd.R_base ho0) hb); have n1_ := Aside0.mk (Kd.R_elder' (zz28 HO_35) (Kd.R_base ho0) hb); have n2_ := Aside0.mk (Kd.R_lower (Kd.R_new' (Kd.R_new' ho0 (Kd.R_lt (zz28 HO_12))) (Kd.R_lt (zz28 HO_35))) (below_size (zz2 HB GE325))); have n3_ := Aside0.mk (blk_below (zz21 BK325) hb); have n4_ := Aside0.mk (below_step (zz2 HB GE325) hb); clear HO_12; clear HO_35; clear BK325; clear HB; have HO_12 := n0_; have HO_35 := n1_; have HO345 := n2_; have BK325 := n3_; have HB := n4_; clear n0_ n1_ n2_ n3_ n4_; (try clear hb ho0); obtain ⟨Ao39, co39, eo39⟩ := Kd.R_slice HO345.out; subst eo39) | ((with_reducible refine gate_dst (N := 17) rfl ?_); refine boxE 17 #[.string (⟨#[]⟩ : ByteArray), .slice none 0 0, .bool false, .string (⟨#[]⟩ : ByteArray)] 47 ?_; intro gb346 hg w40 hbox hb; have n0_ := Aside0.mk (Kd.R_below (zz28 HO_12) hb); have n1_ := Aside0.mk (Kd.R_below (zz28 HO_35) hb); have n2_ := Aside0.mk (Kd.R_below (zz28 HO345) hb); have n3_ := Aside0.mk (blk_below (zz21 BK325) hb); have n4_ := Aside0.mk (below_step (zz2 HB GE325) hb); have n5_ := Aside0.mk (hbox); have n6_ := Aside0.mk ((by rw [hg]; exact (below_size (zz2 HB GE325)) : w.heap.size ≤ gb346)); have n7_ := Aside0.mk ((by rw [hg]; exact (below_size (zz2 HB GE325)) : w.heap.size ≤ gb346)); have n8_ := Aside0.mk ((by rw [hg]; exact Nat.ne_of_lt (blk_lt (zz21 BK325)) : gb325 ≠ gb346)); have n9_ := Aside0.mk ((by rw [hg]; exact Nat.ne_of_gt (blk_lt (zz21 BK325)) : gb346 ≠ gb325)); clear HO_12; clear HO_35; clear HO345; clear BK325; clear HB; have HO_12 := n0_; have HO_35 := n1_; have HO345 := n2_; have BK325 := n3_; have HB := n4_; have BK346 := n5_; have GW346 := n6_; have GE346 := n7_; have NB325_346 := n8_; have NB346_325 := n9_; clear n0_ n1_ n2_ n3_ n4_ n5_ n6_ n7_ n8_ n9_; clear hb hbox hg; have hnb41 := NB346_325.out; have hnc41 := NB325_346.out; obtain ⟨_, _, _, _, _, _, _, _⟩ := cf4 BK346) | ((with_reducible refine gate_callee (f := 62) rfl ?_); refine gsL (some 61) Tryd.func62 #[.agg #[.string a0, .slice Ao39 t343.length co39, .bool t328, .string t329]] ?_; (with_reducible refine (impl_AddrOk.calls k1 a0 _ _ t343 t328 t329 false _ ?side1 ?side2 A26.out).mono ?_); (case side1 => exact (by refine (Kd.R_reads' (e := 9) (base := w.heap.size) (ok := fun k_ => ((True ∧ some k_ ≠ (.slice Ao37 x12_1.length co37 : Value).ownBlock) ∧ some k_ ≠ (.slice Ao14 t334.length co14 : Value).ownBlock)) (n := t343.length) (c := co39) ?_).2.2; exact (zz89 HO345 BK346))); (case side2 => exact (Kd.R_reads' HO345.out).2.1); rintro e w43 ⟨rfl, hb⟩; refine ⟨_, rfl, ?_⟩; have n0_ := Aside0.mk (Kd.R_below (zz89 HO_12 BK346) hb); have n1_ := Aside0.mk (Kd.R_below (zz89 HO_35 BK346) hb); have n2_ := Aside0.mk (Kd.R_below (zz89 HO345 BK346) hb); have n3_ := Aside0.mk (blk_below (g := gb325) (o := .cells #[.string x326000_1, .slice none 0 0, .bool x326002_1, .string x326003_1] 47 (0, 0)) (zz45 BK325 NB325_346) hb); have n4_ := Aside0.mk (blk_below (g := gb346) (o := .cells #[.string a0, .slice Ao39 t343.length co39, .bool t328, .string t329] 47 (0, 0)) (zz37 BK346) hb); have n5_ := Aside0.mk (below_step (zz33 HB GE325 GE346) hb); clear HO_12; clear HO_35; clear HO345; clear BK325; clear BK346; clear HB; have HO_12 := n0_; have HO_35 := n1_; have HO345 := n2_; have BK325 := n3_; have BK346 := n4_; have HB := n5_; clear n0_ n1_ n2_ n3_ n4_ n5_; (try clear hb); obtain ⟨_, _, _, _, _, _, _, _⟩ := cf4 BK325))
      refine bodyPost_ret (results_ct rfl _ _ gb325 47 #[.string (⟨#[]⟩ : ByteArray), .slice none 0 0, .bool false, .string (⟨#[]⟩ : ByteArray)] (0, 0) _ rfl (zz37 BK325) Tryd.underlying47 rfl (by kernel_rfl)) rfl ?_;exact ⟨_, zz1, zz38, (zz33 HB GE325 GE346)⟩
 ·replace c6 := Bool.eq_false_iff.mpr c6
  subst c6;rw [if_neg (show ¬ (false = true) by decide)] at H;simp only [Option.some.injEq, Prod.mk.injEq] at H
  obtain ⟨rfl, rfl, rfl, rfl, rfl⟩ := H;go_enter Tryd.func49, Tryd.ntmps49;go_wp2_with (first | ((with_reducible refine gate_dst (N := 6) rfl ?_); refine boxE 6 #[.string (⟨#[]⟩ : ByteArray), .slice none 0 0, .bool false, .string (⟨#[]⟩ : ByteArray)] 47 ?_; intro gb325 hg w45 hbox hb; have n0_ := Aside0.mk (below_step (zz0 HB) hb); have n1_ := Aside0.mk (hbox); have n2_ := Aside0.mk ((by rw [hg]; exact (below_size (zz0 HB)) : w.heap.size ≤ gb325)); have n3_ := Aside0.mk ((by rw [hg]; exact (below_size (zz0 HB)) : w.heap.size ≤ gb325)); clear HB; have HB := n0_; have BK325 := n1_; have GW325 := n2_; have GE325 := n3_; clear n0_ n1_ n2_ n3_; clear hb hbox hg) | ((with_reducible refine gate_callee (f := 43) rfl ?_); refine gsL (some 20) Tryd.func43 #[.string a2, .string (⟨#[63]⟩ : ByteArray)] ?_; (with_reducible refine (strings_Cut.calls a2 (⟨#[63]⟩ : ByteArray) t326 t327 t328 _ A4.out).mono ?_); rintro e w46 ⟨rfl, hb⟩; refine ⟨_, rfl, ?_⟩; have n0_ := Aside0.mk (blk_below (zz21 BK325) hb); have n1_ := Aside0.mk (below_step (zz2 HB GE325) hb); clear BK325; clear HB; have BK325 := n0_; have HB := n1_; clear n0_ n1_; (try clear hb)) | ((with_reducible refine gate_callee (f := 58) rfl ?_); refine gsL (some 26) Tryd.func58 #[.string t327] ?_; (with_reducible refine (impl_EscNorm.calls k t327 t329 false _ A5.out).mono ?_); rintro e w47 ⟨rfl, hb⟩; refine ⟨_, rfl, ?_⟩; have n0_ := Aside0.mk (blk_below (zz21 BK325) hb); have n1_ := Aside0.mk (below_step (zz2 HB GE325) hb); clear BK325; clear HB; have BK325 := n0_; have HB := n1_; clear n0_ n1_; (try clear hb); obtain ⟨_, _, _, _, _, _, _, _⟩ := cf4 BK325))
  refine bodyPost_ret (results_ct rfl _ _ gb325 47 #[.string (⟨#[]⟩ : ByteArray), .slice none 0 0, .bool false, .string (⟨#[]⟩ : ByteArray)] (0, 0) _ rfl (zz37 BK325) Tryd.underlying47 rfl (by kernel_rfl)) rfl ?_;exact ⟨_, zz1, zz38, (zz2 HB GE325)⟩
end Go.Proofs.YtpnedbnpnekahaaDoor.P
end
section
namespace Go.Proofs.YtpnedbnpnekahaaDoor.P
open Go.RowKit Go.Proofs.YtpnedbnpnekahaaDoorW.PrintWords Go.Proofs.YtpnedbnpnekahaaDoorW.PrintLast Go.Proofs.YtpnedbnpnekahaaDoorW.PrintMore Go.Proofs.YtpnedbnpnekahaaDoor.B Go.Proofs.YtpnedbnpnekahaaDoor.Ad
set_option linter.unusedVariables false
set_option linter.unusedSimpArgs false
def impl_smallLetters.f (a0 : ByteArray) : Option (ByteArray) := if a0.size ≤ 140737488351232 then some (smallB a0) else none
set_option maxHeartbeats 400000 in
set_option maxRecDepth 100000 in
theorem impl_smallLetters.calls (a0 r : ByteArray) (w : World) (h : impl_smallLetters.f a0 = some r) :
  Calls Tryd.prog 50 #[.string a0] w fun e w' => e = .returned (.string r) ∧ Below w.heap.size w w' := by
 unfold impl_smallLetters.f at h
 by_cases hs : a0.size ≤ 140737488351232
 ·rw [if_pos hs] at h
  obtain rfl := Option.some.inj h
  clear h
  have hcv := Lib.run_convert_string_bytes (P := Tryd.prog) w 9 63 5 a0 Tryd.underlying9 Tryd.underlying63 Tryd.underlying5
  go_enter Tryd.func50, Tryd.ntmps50
  go_wp2_with fail
  clear hcv
  go_loopw [10] (fun i wr => ∃ k : Nat, k ≤ a0.size ∧ i = .int .i64 k ∧ Aside0 (SmRow w.heap.size a0 k wr) ∧ Aside0 (Below w.heap.size w wr))
   (fun i _ => a0.size - (intOf i).toNat)
  case atStart =>
   refine ⟨0, Nat.zero_le _, rfl, ⟨sm_start w 5 a0⟩, ⟨?_⟩⟩
   exact sm_below w 5 a0
  case round =>
   obtain ⟨k, hk, rfl, hI, hB⟩ := hrel
   by_cases hlt : k < a0.size
   ·have hc := (hI.out.2 k hlt).1
    have hf := (hI.out.2 k hlt).2
    rw [if_neg (by omega)] at hc
    have hset := Aside0.mk (sm_set hI.out hlt)
    have hskip := Aside0.mk (sm_skip hI.out hlt)
    clear hI
    generalize (L a0).getD k 0 = b at hc hset hskip
    have hb := b.toNat_lt
    by_cases h1 : 65 ≤ b.toNat
    ·by_cases h2 : b.toNat ≤ 90
     ·have e1 : (sm b).toNat = b.toNat + 32 := by
       unfold sm
       rw [if_pos ⟨h1, h2⟩, UInt8.toNat_add]
       have : (32 : UInt8).toNat = 32 := rfl
       omega
      rw [e1, show ((b.toNat + 32 : Nat) : Int) = (b.toNat : Int) + 32 from by omega] at hset
      clear hskip e1
      go_wp2
      exact ⟨⟨k + 1, by omega, by go_num, hset, ⟨hB.out.setCell (Nat.le_refl _) _⟩⟩, by simp [intOf]; omega⟩
     ·have e1 : sm b = b := by unfold sm; rw [if_neg (by omega)]
      have hS : Aside0 (SmRow w.heap.size a0 (k + 1) wr) := ⟨hskip.out e1⟩
      clear e1 hset hskip
      go_wp2
      exact ⟨⟨k + 1, by omega, by go_num, hS, hB⟩, by simp [intOf]; omega⟩
    ·have e1 : sm b = b := by unfold sm; rw [if_neg (by omega)]
     have hS : Aside0 (SmRow w.heap.size a0 (k + 1) wr) := ⟨hskip.out e1⟩
     clear e1 hset hskip
     go_wp2
     exact ⟨⟨k + 1, by omega, by go_num, hS, hB⟩, by simp [intOf]; omega⟩
   ·have ek : k = a0.size := by omega
    have hcells : ∀ j (hj : j < (L (smallB a0)).length), wr.cell? ((⟨w.heap.size, 0, none⟩ : Addr).add j) = some (.int .u8 ((L (smallB a0))[j].toNat : Int)) := by
     intro j hj
     have hj' : j < a0.size := by rw [L_size, smallB, ofL_size, List.length_map, L_size] at hj; exact hj
     rw [add_plain, (hI.out.2 j hj').1, if_pos (by omega)]
     simp [smallB, L_of, List.getD_eq_getElem?_getD, List.getElem?_eq_getElem (show j < (L a0).length by rw [L_size]; exact hj')]
    have hcv := run_convert_bytes_back (P := Tryd.prog) wr 63 9 5 ⟨w.heap.size, 0, none⟩ (grownCap w a0.size 0 5) (L (smallB a0)) Tryd.underlying63 Tryd.underlying5 Tryd.underlying9 hcells
    have hl : (L (smallB a0)).length = a0.size := by rw [L_size, smallB, ofL_size, List.length_map, L_size]
    rw [hl, show (⟨(L (smallB a0)).toArray⟩ : ByteArray) = smallB a0 from of_L _] at hcv
    have Hk := Aside0.mk ek
    clear ek hcells hl
    go_wp2
    go_ret
    exact ⟨rfl, hB.out⟩
 ·rw [if_neg hs] at h; cases h
end Go.Proofs.YtpnedbnpnekahaaDoor.P
end
section
namespace Go.Proofs.YtpnedbnpnekahaaDoor.P
open Go.RowKit Go.Proofs.YtpnedbnpnekahaaDoorW.PrintWords Go.Proofs.YtpnedbnpnekahaaDoorW.PrintLast Go.Proofs.YtpnedbnpnekahaaDoorW.PrintMore Go.Proofs.YtpnedbnpnekahaaDoor.B Go.Proofs.YtpnedbnpnekahaaDoor.Ad
set_option linter.unusedVariables false
set_option linter.unusedSimpArgs false
def sq : ByteArray := ⟨#[47, 63]⟩
theorem sq_at : sq.size = 2 ∧ (∀ h : 0 < sq.size, (sq[0]'h).toNat = 47) ∧ (∀ h : 1 < sq.size, (sq[1]'h).toNat = 63) := by decide +kernel
theorem valid_same (r : Int) : Utf8.valid r = Lib.validRune r := by
 unfold Utf8.valid Lib.validRune
 rw [Bool.eq_iff_iff]
 simp only [Bool.or_eq_true, Bool.and_eq_true, decide_eq_true_eq]
 omega
theorem decode_skip (s : ByteArray) (pos : Nat) (h : pos < s.size) (ha : 128 ≤ (s[pos]'h).toNat) :
  pos + (Utf8.decode s pos).2 ≤ s.size ∧ ∀ j, pos ≤ j → j < pos + (Utf8.decode s pos).2 → ∀ hj : j < s.size, 128 ≤ (s[j]'hj).toNat := by
 have hn : ¬ (s[pos]'h).toNat < 128 := by omega
 have one : pos + 1 ≤ s.size ∧ ∀ j, pos ≤ j → j < pos + 1 → ∀ hj : j < s.size, 128 ≤ (s[j]'hj).toNat := by
  refine ⟨h, fun j h1 h2 hj => ?_⟩
  obtain rfl : j = pos := by omega
  exact ha
 have cont : ∀ k, (decide (pos + k < s.size) && ((s.get! (pos + k)).toNat / 64 == 2)) = true → pos + k < s.size ∧ ∀ hj : pos + k < s.size, 128 ≤ (s[pos + k]'hj).toNat := by
  intro k hk
  simp only [Bool.and_eq_true, decide_eq_true_eq, beq_iff_eq] at hk
  refine ⟨hk.1, fun hj => ?_⟩
  have e := get_at s (pos + k) hj
  rw [Nat.add_zero] at e
  rw [e] at hk
  omega
 simp only [Utf8.decode, get_at s pos h, hn, if_false]
 split
 ·rename_i h1
  simp only [Bool.and_eq_true] at h1
  obtain ⟨l1, b1⟩ := cont 1 (by simpa using h1.2)
  split
  ·refine ⟨by show pos + 2 ≤ _; omega, fun j h2 h3 hj => ?_⟩
   have h3' : j < pos + 2 := h3
   rcases (by omega : j = pos ∨ j = pos + 1) with e | e
   ·subst e; exact ha
   ·subst e; exact b1 hj
  ·exact one
 ·split
  ·rename_i _ h1
   simp only [Bool.and_eq_true] at h1
   obtain ⟨l1, b1⟩ := cont 1 (by simpa using h1.1.2)
   obtain ⟨l2, b2⟩ := cont 2 (by simpa using h1.2)
   split
   ·refine ⟨by show pos + 3 ≤ _; omega, fun j h2 h3 hj => ?_⟩
    have h3' : j < pos + 3 := h3
    rcases (by omega : j = pos ∨ j = pos + 1 ∨ j = pos + 2) with e | e | e
    ·subst e; exact ha
    ·subst e; exact b1 hj
    ·subst e; exact b2 hj
   ·exact one
  ·split
   ·rename_i _ _ h1
    simp only [Bool.and_eq_true] at h1
    obtain ⟨l1, b1⟩ := cont 1 (by simpa using h1.1.1.2)
    obtain ⟨l2, b2⟩ := cont 2 (by simpa using h1.1.2)
    obtain ⟨l3, b3⟩ := cont 3 (by simpa using h1.2)
    split
    ·refine ⟨by show pos + 4 ≤ _; omega, fun j h2 h3 hj => ?_⟩
     have h3' : j < pos + 4 := h3
     rcases (by omega : j = pos ∨ j = pos + 1 ∨ j = pos + 2 ∨ j = pos + 3) with e | e | e | e
     ·subst e; exact ha
     ·subst e; exact b1 hj
     ·subst e; exact b2 hj
     ·subst e; exact b3 hj
    ·exact one
   ·exact one
theorem noAny_skip {s : ByteArray} {pos n : Nat} (h : Lib.NoAny (L s) (L sq) pos) (hb : ∀ j, pos ≤ j → j < pos + n → ∀ hj : j < s.size, 128 ≤ (s[j]'hj).toNat) : Lib.NoAny (L s) (L sq) (pos + n) := by
 intro j b hj hx
 rcases Nat.lt_or_ge j pos with hlt | hge
 ·exact h j b hlt hx
 ·obtain ⟨hl, he⟩ := List.getElem?_eq_some_iff.1 hx
  have hjs : j < s.size := by rw [← L_size]; exact hl
  have h1 := hb j hge hj hjs
  have h2 : (s[j]'hjs) = b := by rw [← he]; rfl
  rw [h2] at h1
  have : L sq = [47, 63] := rfl
  rw [this]
  simp only [List.contains_cons, List.contains_nil, Bool.or_false, Bool.or_eq_false_iff, beq_eq_false_iff_ne]
  constructor
  ·rintro rfl; exact absurd h1 (by decide)
  ·rintro rfl; exact absurd h1 (by decide)
set_option maxHeartbeats 4000000 in
set_option maxRecDepth 1000000 in
theorem indexRune_far (r : Int) (w : World) (h0 : 128 ≤ r) (h1 : r ≤ 2147483647) :
  Calls Tryd.prog 54 #[.string sq, .int .i32 r] w fun e w' => e = .returned (.int .i64 (-1)) ∧ Below w.heap.size w w' := by
 have g0 : decide (0 ≤ r) = true := decide_eq_true (by omega)
 have g1 : decide (r < 128) = false := decide_eq_false (by omega)
 obtain ⟨hsz, hs0, hs1⟩ := sq_at
 by_cases hr : r = 65533
 ·subst hr
  have n0 := fun ty => run_next_ascii (P := Tryd.prog) w sq 0 ty (by rw [hsz]; decide) (by rw [hs0]; decide)
  have n1 := fun ty => run_next_ascii (P := Tryd.prog) w sq 1 ty (by rw [hsz]; decide) (by rw [hs1]; decide)
  rw [hs0] at n0
  rw [hs1] at n1
  have n2 := fun ty => run_next_end (P := Tryd.prog) w sq 2 ty (by rw [hsz]; decide)
  clear hsz hs0 hs1 h0 h1 g0 g1
  go_enter Tryd.func54, Tryd.ntmps54
  go_wp2
  go_loopg [5, 6] 2 (fun g _ _ wx => ∃ i : Nat, i + g = 2 ∧ wx = w.iter sq i)
  case atStart => exact ⟨0, by omega, rfl⟩
  case round =>
   obtain ⟨i, hig, rfl⟩ := hrel
   cases gk with
   | zero =>
    obtain rfl : i = 2 := by omega
    go_wp2
    go_ret
    exact ⟨rfl, (Below.refl _ _).alloc (Nat.le_refl _) _⟩
   | succ g =>
    rcases (by omega : i = 0 ∨ i = 1) with e | e
    ·subst e
     go_wp2
     go_roundg g
     case measure => omega
     case rel => exact ⟨1, by omega, rfl⟩
    ·subst e
     go_wp2
     go_roundg g
     case measure => omega
     case rel => exact ⟨2, by omega, rfl⟩
 ·have g2 : (r == 65533) = false := by simp [hr]
  cases hv : Lib.validRune r with
  | false =>
   go_enter Tryd.func54, Tryd.ntmps54
   go_wp2_with (go_at_call 72; refine (Tryd.utf8_ValidRune _ _).mono ?_; rintro e w' ⟨rfl, hw⟩; rw [hw, hv])
   go_ret
   exact ⟨rfl, Below.refl _ _⟩
  | true =>
   obtain ⟨e1, e2, e3⟩ := encode_facts r (by rw [valid_same]; exact hv) h0
   go_enter Tryd.func54, Tryd.ntmps54
   go_wp2_with (go_at_call 72; refine (Tryd.utf8_ValidRune _ _).mono ?_; rintro e w' ⟨rfl, hw⟩; rw [hw, hv])
   go_step3
   go_wp2
   generalize Utf8.encode r = nd at e1 e2 e3 ⊢
   refine wp_loop_rounds 1 ?_
   rw [rounds_succ]
   by_cases hn : nd.size = 2
   ·obtain ⟨x, hx⟩ : ∃ x : UInt8, ∀ h : 1 < nd.size, nd[1]'h = x := ⟨nd[1]'(by omega), fun _ => rfl⟩
    have hx1 : 128 ≤ x.toNat := by
     have := e3 (by omega)
     simp only [hn] at this
     rw [← hx (by omega)]; exact this
    clear e3
    have hne : ((63 : Int) != (x.toNat : Int)) = true := by simp; omega
    have hnz : ((nd.size : Nat) : Int) - 1 = 1 := by omega
    rw [hnz]
    have HN := Aside0.mk hn
    have hlt : (1 : Int) < (nd.size : Int) := by omega
    clear hn hnz e1 e2
    have hs1' := hs1 (by rw [hsz]; decide)
    have hi1 : (1 : Int) < (sq.size : Int) := by rw [hsz]; decide
    have hs2 : (2 : Int) ≤ (sq.size : Int) := by rw [hsz]; decide
    go_wp2
    go_step3
    go_wp2
    go_quiet (fail)
    have HB : Aside0 (Below w.heap.size w (w.drewN nq)) := ⟨pw_below_drewN (Below.refl _ _) nq⟩
    generalize w.drewN nq = w1 at HB ⊢
    have hib : Lib.indexByte (sq.extract 2 2).data.toList ((x.toNat : Int)).toNat.toUInt8 = -1 := rfl
    go_wp2
    go_quiet ((go_at_call 71; exact Calls.quiet_of_same (Tryd.strings_IndexByte _ _ _)))
    go_wp2
    rw [Exit.noGoto_ret]
    go_wp2
    rw [Exit.noGoto_ret]
    go_ret
    exact ⟨rfl, pw_below_drewN HB.out _⟩
   ·have hge : decide ((nd.size : Int) - 1 < 2) = false := decide_eq_false (by omega)
    go_wp2
    rw [Exit.noGoto_ret]
    go_ret
    exact ⟨rfl, Below.refl _ _⟩
def strings_IndexAny.f (a0 a1 : ByteArray) : Option Int := if L a1 = [47, 63] ∧ a0.size < 4294967281 then some (Lib.indexAny (L a0) (L a1)) else none
def iterTo (w : World) (b : Nat) (s : ByteArray) (p : Nat) : World := { w with heap := w.heap.setIfInBounds b (.stringIter s p) }
theorem iterTo_at {w : World} {b : Nat} {s : ByteArray} {p q : Nat} (h : w.heap[b]? = some (.stringIter s q)) : (iterTo w b s p).heap[b]? = some (.stringIter s p) := by
 obtain ⟨hl, _⟩ := Array.getElem?_eq_some_iff.1 h
 simp [iterTo, hl]
theorem iterTo_below {w0 w : World} {b : Nat} {s : ByteArray} {p : Nat} (h : Below w0.heap.size w0 w) (hb : w0.heap.size ≤ b) : Below w0.heap.size w0 (iterTo w b s p) :=
 ⟨h.os, h.tape, h.output, by simp [iterTo]; exact h.size, fun i hi => by
  rw [← h.block i hi]
  simp only [iterTo]
  exact Array.getElem?_setIfInBounds_ne (by omega)⟩
theorem run_next_in {P : Program} (w : World) (b : Nat) (s : ByteArray) (pos : Nat) (hb : w.heap[b]? = some (.stringIter s pos)) (h : pos < s.size) (ty : TypeId) :
  (Instr.next (.pointer (some ⟨b, 0, none⟩)) true ty).run P w = .ok (.tuple #[.bool true, .int .i64 pos, .int .i32 (Utf8.decode s pos).1]) (iterTo w b s (pos + (Utf8.decode s pos).2)) := by
 simp only [Instr.next, getObj, setObj, Sem.run_bind, Sem.run, hb, Result.andThen, h, if_true, iterTo]
 simp [goInt]
theorem run_next_out {P : Program} (w : World) (b : Nat) (s : ByteArray) (pos : Nat) (hb : w.heap[b]? = some (.stringIter s pos)) (h : ¬ pos < s.size) (ty : TypeId) :
  (Instr.next (.pointer (some ⟨b, 0, none⟩)) true ty).run P w = .ok (.tuple #[.bool false]) w := by
 simp [Instr.next, getObj, Sem.run, hb, h]
set_option maxHeartbeats 4000000 in
set_option maxRecDepth 1000000 in
theorem indexAny_few (s : ByteArray) (w : World) (h8 : s.size ≤ 8) :
  Calls Tryd.prog 48 #[.string s, .string sq] w fun e w' => e = .returned (.int .i64 (Lib.indexAny (L s) (L sq))) ∧ Below w.heap.size w w' := by
 have hemp : sq.toList.isEmpty = false := by decide +kernel
 have hn1 : ((sq.size : Int) == 1) = false := by decide +kernel
 have h8z : decide ((8 : Int) < (s.size : Int)) = false := decide_eq_false (by omega)
 go_enter Tryd.func48, Tryd.ntmps48
 go_wp2_with (go_at_call 55; refine (Tryd.strings_shouldUseASCIISet _ _).mono ?_; rintro e w' ⟨rfl, hw⟩; rw [hw, h8z])
 go_loopg [9, 10] s.size (fun g _ _ wx => ∃ i : Nat, i + g = s.size ∧ Aside0 (wx.heap[w.heap.size]? = some (.stringIter s i)) ∧ Aside0 (Lib.NoAny (L s) (L sq) i) ∧ Aside0 (Below w.heap.size w wx))
 case atStart => exact ⟨0, by omega, ⟨World.iter_heap w s 0⟩, ⟨Lib.NoAny.zero _ _⟩, ⟨(Below.refl _ _).alloc (Nat.le_refl _) _⟩⟩
 case round =>
  obtain ⟨i, hig, hI, HN, HB⟩ := hrel
  cases gk with
  | zero =>
   obtain rfl : i = s.size := by omega
   have hnx := run_next_out (P := Tryd.prog) wr w.heap.size s s.size hI.out (by omega)
   go_wp2
   go_ret
   exact ⟨by rw [Lib.indexAny_none (by rw [L_size]; exact HN.out)]; rfl, HB.out⟩
  | succ g =>
   have hi : i < s.size := by omega
   have hnx := run_next_in (P := Tryd.prog) wr w.heap.size s i hI.out hi
   obtain ⟨x, hx⟩ : ∃ x : UInt8, s[i]'hi = x := ⟨_, rfl⟩
   have Hx : Aside0 ((L s)[i]? = some x) := ⟨by rw [← hx]; exact Lib.data_getElem? s i hi⟩
   by_cases hlt : x.toNat < 128
   ·have hd := decode_ascii s i hi (by rw [hx]; exact hlt)
    rw [hx] at hd
    rw [hd] at hnx
    clear hd
    have HI2 : Aside0 ((iterTo wr w.heap.size s (i + 1)).heap[w.heap.size]? = some (.stringIter s (i + 1))) := ⟨iterTo_at hI.out⟩
    have HB2 : Aside0 (Below w.heap.size w (iterTo wr w.heap.size s (i + 1))) := ⟨iterTo_below HB.out (Nat.le_refl _)⟩
    simp only at hnx
    have hcon := Lib.contains_iff_indexByte (L sq) x
    have hback : ((x.toNat : Int)).toNat.toUInt8 = x := by simp
    obtain ⟨q, hq⟩ : ∃ q, Lib.indexByte sq.data.toList x = q := ⟨_, rfl⟩
    have hcon : (L sq).contains x = decide (0 ≤ q) := by rw [← hq]; exact hcon
    clear hx HB hI
    generalize iterTo wr w.heap.size s (i + 1) = w2 at hnx HI2 HB2
    cases hin : (L sq).contains x
    ·rw [hin] at hcon
     have hlt0 : ¬ ((0 : Int) ≤ q) := of_decide_eq_false hcon.symm
     clear hcon
     have HS : Aside0 (Lib.NoAny (L s) (L sq) (i + 1)) := ⟨HN.out.succ Hx.out hin⟩
     clear hin
     go_wp2_with (go_at_call 54; refine (Tryd.strings_IndexRune_ascii _ _ _ (by omega) (by omega)).mono ?_; rintro e w' ⟨rfl, hw⟩; rw [hw, hback, hq])
     go_roundg g
     case measure => omega
     case rel => exact ⟨i + 1, by omega, HI2, HS, HB2⟩
    ·rw [hin] at hcon
     have hge : (0 : Int) ≤ q := of_decide_eq_true hcon.symm
     clear hcon
     have HE : Aside0 (Lib.indexAny (L s) (L sq) = i) := ⟨Lib.indexAny_hit HN.out Hx.out hin⟩
     clear hin
     go_wp2_with (go_at_call 54; refine (Tryd.strings_IndexRune_ascii _ _ _ (by omega) (by omega)).mono ?_; rintro e w' ⟨rfl, hw⟩; rw [hw, hback, hq])
     go_ret
     exact ⟨by rw [HE.out]; rfl, HB2.out⟩
   ·obtain ⟨hd1, hd2⟩ := decode_high s i hi (by rw [hx]; omega)
    have hd3 := decode_le s i
    obtain ⟨hk1, hk2⟩ := decode_skip s i hi (by rw [hx]; omega)
    generalize (Utf8.decode s i).2 = n at hnx hd2 hk1 hk2
    generalize (Utf8.decode s i).1 = c at hnx hd1 hd3
    have HI2 : Aside0 ((iterTo wr w.heap.size s (i + n)).heap[w.heap.size]? = some (.stringIter s (i + n))) := ⟨iterTo_at hI.out⟩
    have HB2 : Aside0 (Below w.heap.size w (iterTo wr w.heap.size s (i + n))) := ⟨iterTo_below HB.out (Nat.le_refl _)⟩
    have HS : Aside0 (Lib.NoAny (L s) (L sq) (i + n)) := ⟨noAny_skip HN.out hk2⟩
    have hlo : (128 : Int) ≤ (c : Int) := by omega
    have hhi : (c : Int) ≤ 2147483647 := by omega
    have HK := Aside0.mk hk1
    have HD := Aside0.mk hd2
    clear hx HB hI HN Hx hk1 hk2 hd1 hd2 hd3 hlt
    generalize iterTo wr w.heap.size s (i + n) = w2 at hnx HI2 HB2
    go_wp2_with (go_at_call 54; refine (indexRune_far _ _ hlo hhi).mono ?_; rintro e w' ⟨rfl, hb⟩)
    have HC := Aside0.mk hb
    clear hb
    go_roundg (g + 1 - n)
    case measure => have := HK.out; have := HD.out; omega
    case rel => exact ⟨i + n, by have := HK.out; omega, ⟨(HC.out.block _ (by obtain ⟨hl, _⟩ := Array.getElem?_eq_some_iff.1 HI2.out; exact hl)).trans HI2.out⟩, HS, ⟨HB2.out.trans (HC.out.mono HB2.out.size)⟩⟩
theorem strings_IndexAny.calls (a0 a1 : ByteArray) (r : Int) (w : World) (h : strings_IndexAny.f a0 a1 = some r) :
  Calls Tryd.prog 48 #[.string a0, .string a1] w fun e w' => e = .returned (.int .i64 r) ∧ Below w.heap.size w w' := by
 unfold strings_IndexAny.f at h
 split at h
 ·rename_i hh
  obtain rfl := Option.some.inj h
  obtain rfl : a1 = sq := L_inj (by rw [hh.1]; rfl)
  rcases Nat.lt_or_ge 8 a0.size with h8 | h8
  ·refine (Tryd.strings_IndexAny_long (fun w => by kernel_rfl) a0 sq w (by decide +kernel) h8 hh.2 (by decide +kernel) (fun j b hb => ?_)).mono fun e w' ⟨he, hw⟩ => ⟨he, hw ▸ ((Below.refl _ _).alloc (Nat.le_refl _) _).alloc (by simp) _⟩
   have hb' : ([47, 63] : List UInt8)[j]? = some b := hb
   match j, hb' with
   | 0, hb' => injection hb' with hb'; subst hb'; decide
   | 1, hb' => injection hb' with hb'; subst hb'; decide
  ·exact indexAny_few a0 w h8
 ·cases h
end Go.Proofs.YtpnedbnpnekahaaDoor.P
end
section
namespace Go.Proofs.YtpnedbnpnekahaaDoor.P
open Go.RowKit Go.Proofs.YtpnedbnpnekahaaDoorW.PrintWords Go.Proofs.YtpnedbnpnekahaaDoorW.PrintLast Go.Proofs.YtpnedbnpnekahaaDoorW.PrintMore
attribute [local go_sem] max2_int min2_int max_two min_two max_three min_three max_four min_four
set_option linter.unusedVariables false
set_option linter.unusedSimpArgs false
def impl_readWhole.f (k : Nat) (a0 : ByteArray) : Option (ByteArray × List ByteArray × Bool × ByteArray × Bool) := (strings_CutPrefix.f a0 (⟨#[47, 47]⟩ : ByteArray)).bind fun bt349 => (if bt349.2 = true then ((strings_IndexAny.f bt349.1 (⟨#[47, 63]⟩ : ByteArray)).bind fun t351 => (if t351 < 0 then (if 0 ≤ (bt349.1.size : Int) then (if (bt349.1.size : Int) ≤ (bt349.1.size : Int) then ((impl_smallLetters.f (bt349.1.extract 0 ((bt349.1.size : Int) : Int).toNat)).bind fun t352 => ((impl_readWay.f k t352 ([] : List ByteArray) (bt349.1.extract ((bt349.1.size : Int) : Int).toNat bt349.1.size)).bind fun bt353 => (some (bt353.1, bt353.2.1, bt353.2.2.1, bt353.2.2.2.1, bt353.2.2.2.2)))) else (none)) else (none)) else (if 0 ≤ t351 then (if t351 ≤ (bt349.1.size : Int) then ((impl_smallLetters.f (bt349.1.extract 0 (t351 : Int).toNat)).bind fun t360 => ((impl_readWay.f k t360 ([] : List ByteArray) (bt349.1.extract (t351 : Int).toNat bt349.1.size)).bind fun bt361 => (some (bt361.1, bt361.2.1, bt361.2.2.1, bt361.2.2.2.1, bt361.2.2.2.2)))) else (none)) else (none)))) else (some ((⟨#[]⟩ : ByteArray), ([] : List ByteArray), false, (⟨#[]⟩ : ByteArray), false)))
def impl_readWhole.T7 : Bool × List (List Nat × List Nat) := (true, [([], []), ([], []), ([0, 1], [0, 1]), ([2], [2]), ([], []), ([], []), ([4, 5], [4, 5]), ([3, 6, 3], [3, 6]), ([7], [7]), ([7], [7]), ([8, 7, 0, 1, 2, 3, 4, 5, 6, 7, 8, 9], [8]), ([9, 10, 0, 1, 2, 3, 4, 5, 6, 7, 8, 9, 10], [9])])
def impl_readWhole.B7 : List Nat := [0, 0, 3, 7, 0, 0, 48, 127, 255, 255, 1023, 2047]
theorem impl_readWhole.tab7 : rtab .any (opsOf Tryd.f44 7) = impl_readWhole.T7 := by kernel_rfl
theorem impl_readWhole.bits7 : waitsOk impl_readWhole.T7.2 impl_readWhole.B7 = true := by kernel_rfl
set_option maxHeartbeats 8000000 in
set_option maxRecDepth 100000 in
theorem impl_readWhole.calls (k : Nat) (a0 : ByteArray) (r1 : ByteArray) (r2 : List ByteArray) (r3 : Bool) (r4 : ByteArray) (r5 : Bool) (w : World) (h : impl_readWhole.f k a0 = some (r1, r2, r3, r4, r5)) :
  Calls Tryd.prog 44 #[.string a0] w fun e w' => ∃ v1_ : Value, e = .returned (.tuple #[.agg #[.string r1, v1_, .bool r3, .string r4], .bool r5]) ∧ Kd.R Kd.string 9 w' w.heap.size (fun _ => True) v1_ r2 ∧ Below w.heap.size w w' := by
 have hu47 := Tryd.underlying47;have HB := Aside0.mk (Below.refl w.heap.size w);have H : ((strings_CutPrefix.f a0 (⟨#[47, 47]⟩ : ByteArray)).bind fun bt349 => (if bt349.2 = true then ((strings_IndexAny.f bt349.1 (⟨#[47, 63]⟩ : ByteArray)).bind fun t351 => (if t351 < 0 then (if 0 ≤ (bt349.1.size : Int) then (if (bt349.1.size : Int) ≤ (bt349.1.size : Int) then ((impl_smallLetters.f (bt349.1.extract 0 ((bt349.1.size : Int) : Int).toNat)).bind fun t352 => ((impl_readWay.f k t352 ([] : List ByteArray) (bt349.1.extract ((bt349.1.size : Int) : Int).toNat bt349.1.size)).bind fun bt353 => (some (bt353.1, bt353.2.1, bt353.2.2.1, bt353.2.2.2.1, bt353.2.2.2.2)))) else (none)) else (none)) else (if 0 ≤ t351 then (if t351 ≤ (bt349.1.size : Int) then ((impl_smallLetters.f (bt349.1.extract 0 (t351 : Int).toNat)).bind fun t360 => ((impl_readWay.f k t360 ([] : List ByteArray) (bt349.1.extract (t351 : Int).toNat bt349.1.size)).bind fun bt361 => (some (bt361.1, bt361.2.1, bt361.2.2.1, bt361.2.2.2.1, bt361.2.2.2.2)))) else (none)) else (none)))) else (some ((⟨#[]⟩ : ByteArray), ([] : List ByteArray), false, (⟨#[]⟩ : ByteArray), false)))) = some (r1, r2, r3, r4, r5) := h;clear h;replace H := bindA H;obtain ⟨⟨t349, t350⟩, A2, H⟩ := H;try dsimp -simprocs only at H
 by_cases c3 : t350 = true
 ·subst c3
  rw [if_pos rfl] at H;replace H := bindA H;obtain ⟨t351, A4, H⟩ := H;by_cases c5 : t351 < 0
  ·rw [if_pos c5] at H
   have c5b0 : decide (t351 < 0) = true := decide_eq_true c5;clear c5;by_cases c6 : 0 ≤ (t349.size : Int)
   ·rw [if_pos c6] at H
    have c6b0 := eq_true c6;have c6b1 : decide (0 ≤ (t349.size : Int)) = true := decide_eq_true c6;clear c6;by_cases c7 : (t349.size : Int) ≤ (t349.size : Int)
    ·rw [if_pos c7] at H
     have c7b0 := eq_true c7;have c7b1 : decide ((t349.size : Int) ≤ (t349.size : Int)) = true := decide_eq_true c7;clear c7;replace H := bindA H;obtain ⟨t352, A8, H⟩ := H;have c9b0 := eq_true (ofD : 0 ≤ (t349.size : Int));have c10b0 := eq_true (ofD : (t349.size : Int) ≤ (t349.size : Int));replace H := bindA H;obtain ⟨⟨t353, t354, t357, t358, t359⟩, A11, H⟩ := H;try dsimp -simprocs only at H
     simp only [Option.some.injEq, Prod.mk.injEq] at H
     obtain ⟨rfl, rfl, rfl, rfl, rfl⟩ := H;go_enter Tryd.func44, Tryd.ntmps44;try go_wp2_with (first | ((with_reducible refine gate_dst (N := 2) rfl ?_); refine boxE 2 #[.string (⟨#[]⟩ : ByteArray), .slice none 0 0, .bool false, .string (⟨#[]⟩ : ByteArray)] 47 ?_; intro gb348 hg w12 hbox hb; have n0_ := Aside0.mk (below_step (zz0 HB) hb); have n1_ := Aside0.mk (hbox); have n2_ := Aside0.mk ((by rw [hg]; exact (below_size (zz0 HB)) : w.heap.size ≤ gb348)); have n3_ := Aside0.mk ((by rw [hg]; exact (below_size (zz0 HB)) : w.heap.size ≤ gb348)); clear HB; have HB := n0_; have BK348 := n1_; have GW348 := n2_; have GE348 := n3_; clear n0_ n1_ n2_ n3_; clear hb hbox hg) | ((with_reducible refine gate_callee (f := 47) rfl ?_); refine goesL_ (some 9) rfl rfl Tryd.func47 (by kernel_rfl) rfl #[.string a0, .string (⟨#[47, 47]⟩ : ByteArray)] rfl zz91 ?_; (with_reducible refine (strings_CutPrefix.calls a0 (⟨#[47, 47]⟩ : ByteArray) t349 true _ A2.out).mono ?_); rintro e w' ⟨rfl, ⟨nd, rfl⟩⟩; refine ⟨_, rfl, ?_⟩; (try (rw [drewN_self w12]; generalize hq_ : World.drewN w12 _ = w12; have n0_ : Aside0 (w12.heap[gb348]? = some (.cells #[.string (⟨#[]⟩ : ByteArray), .slice none 0 0, .bool false, .string (⟨#[]⟩ : ByteArray)] 47 (0, 0))) := ⟨(by rw [← hq_]; exact (zz21 BK348))⟩; have n1_ : Aside0 (Below w.heap.size w w12) := ⟨zz93⟩; clear BK348 HB hq_; have BK348 := n0_; have HB := n1_; clear n0_ n1_))) | ((with_reducible refine gate_callee (f := 48) rfl ?_); refine goesL_ (some 16) rfl rfl Tryd.func48 (by kernel_rfl) rfl #[.string t349, .string (⟨#[47, 63]⟩ : ByteArray)] rfl zz91 ?_; (with_reducible refine (strings_IndexAny.calls t349 (⟨#[47, 63]⟩ : ByteArray) t351 _ A4.out).mono ?_); rintro e w13 ⟨rfl, hb⟩; refine ⟨_, rfl, ?_⟩; have n0_ := Aside0.mk (blk_below (zz21 BK348) hb); have n1_ := Aside0.mk (below_step (zz2 HB GE348) hb); clear BK348; clear HB; have BK348 := n0_; have HB := n1_; clear n0_ n1_; (try clear hb)))
     have n0_ := Aside0.mk (blk_drew BK348.out);have n1_ := Aside0.mk (below_drew1 HB.out);clear BK348;clear HB;have BK348 := n0_;have HB := n1_;clear n0_ n1_;refine start_ (n := 12) (S := fun w' => True) (ds := []) #[false, false, false, false, false, false, false, false, false, false, false, false] (by kernel_rfl) rfl rfl trivial (fun hHeld => ?_); refine with_tabW impl_readWhole.tab7 impl_readWhole.bits7 (fun HT_ HW_ => ?_);generalize w13.drew = w14 at BK348 HB hHeld ⊢;refine pureZ 0 (some 21) #[true, false, false, false, false, false, false, false, false, false, false, false] ?_;refine pureZ 1 (some 22) #[true, true, false, false, false, false, false, false, false, false, false, false] ?_;refine pureZ 2 (some 23) #[true, true, true, false, false, false, false, false, false, false, false, false] ?_;refine pureZ 4 (some 25) #[true, true, true, false, true, false, false, false, false, false, false, false] ?_;refine pureZ 5 (some 26) #[true, true, true, false, true, true, false, false, false, false, false, false] ?_;refine pureZ 6 (some 27) #[true, true, true, false, true, true, true, false, false, false, false, false] ?_;refine one_ (i := 3) (N := some 24) #[true, true, true, true, true, true, true, false, false, false, false, false] rfl rfl (one_of HT_.out (by kernel_rfl)) (by decide) (fun K hK => ?_);refine goes_ Tryd.func50 (by kernel_rfl) rfl #[.string (t349.extract 0 ((t349.size : Int) : Int).toNat)] (by rfl) rfl rfl zz91 ?_;with_reducible refine (impl_smallLetters.calls (t349.extract 0 ((t349.size : Int) : Int).toNat) t352 _ A8.out).mono ?_
     rintro e w15 ⟨rfl, hb⟩;refine ⟨_, rfl, ?_⟩;have n0_ := Aside0.mk (blk_below (zz21 BK348) hb);have n1_ := Aside0.mk (below_step (zz2 HB GE348) hb);clear BK348;clear HB;have BK348 := n0_;have HB := n1_;clear n0_ n1_;(try clear hb)
     (try clear hb2)
     (try clear hk)
     (try clear hi)
     refine hK.out _ _ trivial (fun hHeld => ?_);clear hK K;refine norm_ (a' := ?_) ?_ ?_;rotate_left
     ·show Act.put _ (some 24) _ = _
      simp only [Act.put, List.setIfInBounds_toArray, List.set_cons_zero, List.set_cons_succ, i64_w, i32_w]
      rfl
     refine one_ (i := 7) (N := some 28) #[true, true, true, true, true, true, true, true, false, false, false, false] rfl rfl (one_of HT_.out (by kernel_rfl)) (by decide) (fun K hK => ?_);refine goes_ Tryd.func49 (by kernel_rfl) rfl #[.string t352, .slice none 0 0, .string (t349.extract ((t349.size : Int) : Int).toNat t349.size)] (by rfl) rfl rfl zz91 ?_;refine (impl_readWay.calls k t352 _ _ ([] : List ByteArray) (t349.extract ((t349.size : Int) : Int).toNat t349.size) t353 t354 t357 t358 t359 _ ?side1 ?side2 A11.out).mono ?_;(case side1 => exact Kd.C_nil _ _)
     (case side2 => exact Nat.le_refl _)
     rintro e w16 ⟨v355, rfl, ho0, hb⟩;refine ⟨_, rfl, ?_⟩;have n0_ := Aside0.mk (Kd.R_lower ho0 (below_size (zz2 HB GE348)));have n1_ := Aside0.mk (blk_below (zz21 BK348) hb);have n2_ := Aside0.mk (below_step (zz2 HB GE348) hb);clear BK348;clear HB;have HO356 := n0_;have BK348 := n1_;have HB := n2_;clear n0_ n1_ n2_;(try clear hb)
     (try clear hb2)
     (try clear hk)
     (try clear hi)
     (try clear ho0)
     obtain ⟨Ao18, co18, eo18⟩ := Kd.R_slice HO356.out;(first | subst eo18 | (injection eo18 with f1_ f2_ f3_; have f4_ := f1_.symm; have f5_ := f3_.symm; clear f1_ f2_ f3_; subst f4_; subst f5_))
     refine hK.out _ _ trivial (fun hHeld => ?_);clear hK K;refine norm_ (a' := ?_) ?_ ?_;rotate_left
     ·show Act.put _ (some 28) _ = _
      simp only [Act.put, List.setIfInBounds_toArray, List.set_cons_zero, List.set_cons_succ, i64_w, i32_w]
      rfl
     refine pureZ 8 (some 29) #[true, true, true, true, true, true, true, true, true, false, false, false] ?_;refine pureZ 9 (some 30) #[true, true, true, true, true, true, true, true, true, true, false, false] ?_;refine one_ (i := 10) (N := none) #[true, true, true, true, true, true, true, true, true, true, true, false] rfl rfl (one_of HT_.out (by kernel_rfl)) (by decide) (fun K hK => ?_);have hs17 : w16.cell? ⟨gb348, 0, none⟩ = some (.string (⟨#[]⟩ : ByteArray)) := (blk_cell BK348.out 0).trans rfl;have hfs17 := blk_frozen BK348.out 0;have hs19 : w16.cell? ⟨gb348, 1, none⟩ = some (.slice none 0 0) := (blk_cell BK348.out 1).trans rfl;have hfs19 := blk_frozen BK348.out 1;have hs20 : w16.cell? ⟨gb348, 2, none⟩ = some (.bool false) := (blk_cell BK348.out 2).trans rfl;have hfs20 := blk_frozen BK348.out 2;have hs21 : w16.cell? ⟨gb348, 3, none⟩ = some (.string (⟨#[]⟩ : ByteArray)) := (blk_cell BK348.out 3).trans rfl;have hfs21 := blk_frozen BK348.out 3;refine skip_ (w1 := ?_) (by rfl) rfl ?_ ?_;rotate_left
     ·go_simp
      rfl
     refine hK.out _ _ trivial (fun hHeld => ?_);clear hK K;refine pureZ 11 (some 3) #[true, true, true, true, true, true, true, true, true, true, true, true] ?_;refine done_ (done_of HT_.out (by kernel_rfl)) ?_;try go_wp2
     refine bodyPost_ret (results_ct rfl _ _ gb348 47 #[.string t353, .slice Ao18 t354.length co18, .bool t357, .string t358] (0, 0) _ rfl (zz37 BK348) Tryd.underlying47 rfl (by kernel_rfl)) rfl ?_;exact ⟨_, zz1, (zz46 (rt HO356 BK348)), (zz2 HB GE348)⟩
    ·rw [if_neg c7] at H
     exact absurd H (by simp)
   ·rw [if_neg c6] at H
    exact absurd H (by simp)
  ·rw [if_neg c5] at H
   have c5b0 : decide (t351 < 0) = false := decide_eq_false c5;clear c5;by_cases c22 : 0 ≤ t351
   ·rw [if_pos c22] at H
    have c22b0 := eq_true c22;have c22b1 : decide (0 ≤ t351) = true := decide_eq_true c22;clear c22;by_cases c23 : t351 ≤ (t349.size : Int)
    ·rw [if_pos c23] at H
     have c23b0 := eq_true c23;have c23b1 : decide (t351 ≤ (t349.size : Int)) = true := decide_eq_true c23;clear c23;replace H := bindA H;obtain ⟨t360, A24, H⟩ := H;have c25b0 := eq_true (ofD : 0 ≤ t351);have c26b0 := eq_true (ofD : t351 ≤ (t349.size : Int));replace H := bindA H;obtain ⟨⟨t361, t362, t365, t366, t367⟩, A27, H⟩ := H;try dsimp -simprocs only at H
     simp only [Option.some.injEq, Prod.mk.injEq] at H
     obtain ⟨rfl, rfl, rfl, rfl, rfl⟩ := H;go_enter Tryd.func44, Tryd.ntmps44;try go_wp2_with (first | ((with_reducible refine gate_dst (N := 2) rfl ?_); refine boxE 2 #[.string (⟨#[]⟩ : ByteArray), .slice none 0 0, .bool false, .string (⟨#[]⟩ : ByteArray)] 47 ?_; intro gb348 hg w28 hbox hb; have n0_ := Aside0.mk (below_step (zz0 HB) hb); have n1_ := Aside0.mk (hbox); have n2_ := Aside0.mk ((by rw [hg]; exact (below_size (zz0 HB)) : w.heap.size ≤ gb348)); have n3_ := Aside0.mk ((by rw [hg]; exact (below_size (zz0 HB)) : w.heap.size ≤ gb348)); clear HB; have HB := n0_; have BK348 := n1_; have GW348 := n2_; have GE348 := n3_; clear n0_ n1_ n2_ n3_; clear hb hbox hg) | ((with_reducible refine gate_callee (f := 47) rfl ?_); refine goesL_ (some 9) rfl rfl Tryd.func47 (by kernel_rfl) rfl #[.string a0, .string (⟨#[47, 47]⟩ : ByteArray)] rfl zz91 ?_; (with_reducible refine (strings_CutPrefix.calls a0 (⟨#[47, 47]⟩ : ByteArray) t349 true _ A2.out).mono ?_); rintro e w' ⟨rfl, ⟨nd, rfl⟩⟩; refine ⟨_, rfl, ?_⟩; (try (rw [drewN_self w28]; generalize hq_ : World.drewN w28 _ = w28; have n0_ : Aside0 (w28.heap[gb348]? = some (.cells #[.string (⟨#[]⟩ : ByteArray), .slice none 0 0, .bool false, .string (⟨#[]⟩ : ByteArray)] 47 (0, 0))) := ⟨(by rw [← hq_]; exact (zz21 BK348))⟩; have n1_ : Aside0 (Below w.heap.size w w28) := ⟨zz93⟩; clear BK348 HB hq_; have BK348 := n0_; have HB := n1_; clear n0_ n1_))) | ((with_reducible refine gate_callee (f := 48) rfl ?_); refine goesL_ (some 16) rfl rfl Tryd.func48 (by kernel_rfl) rfl #[.string t349, .string (⟨#[47, 63]⟩ : ByteArray)] rfl zz91 ?_; (with_reducible refine (strings_IndexAny.calls t349 (⟨#[47, 63]⟩ : ByteArray) t351 _ A4.out).mono ?_); rintro e w29 ⟨rfl, hb⟩; refine ⟨_, rfl, ?_⟩; have n0_ := Aside0.mk (blk_below (zz21 BK348) hb); have n1_ := Aside0.mk (below_step (zz2 HB GE348) hb); clear BK348; clear HB; have BK348 := n0_; have HB := n1_; clear n0_ n1_; (try clear hb)))
     have n0_ := Aside0.mk (blk_drew BK348.out);have n1_ := Aside0.mk (below_drew1 HB.out);clear BK348;clear HB;have BK348 := n0_;have HB := n1_;clear n0_ n1_;refine start_ (n := 12) (S := fun w' => True) (ds := []) #[false, false, false, false, false, false, false, false, false, false, false, false] (by kernel_rfl) rfl rfl trivial (fun hHeld => ?_); refine with_tabW impl_readWhole.tab7 impl_readWhole.bits7 (fun HT_ HW_ => ?_);generalize w29.drew = w30 at BK348 HB hHeld ⊢;refine pureZ 0 (some 21) #[true, false, false, false, false, false, false, false, false, false, false, false] ?_;refine pureZ 1 (some 22) #[true, true, false, false, false, false, false, false, false, false, false, false] ?_;refine pureZ 2 (some 23) #[true, true, true, false, false, false, false, false, false, false, false, false] ?_;refine pureZ 4 (some 25) #[true, true, true, false, true, false, false, false, false, false, false, false] ?_;refine pureZ 5 (some 26) #[true, true, true, false, true, true, false, false, false, false, false, false] ?_;refine pureZ 6 (some 27) #[true, true, true, false, true, true, true, false, false, false, false, false] ?_;refine one_ (i := 3) (N := some 24) #[true, true, true, true, true, true, true, false, false, false, false, false] rfl rfl (one_of HT_.out (by kernel_rfl)) (by decide) (fun K hK => ?_);refine goes_ Tryd.func50 (by kernel_rfl) rfl #[.string (t349.extract 0 (t351 : Int).toNat)] (by rfl) rfl rfl zz91 ?_;with_reducible refine (impl_smallLetters.calls (t349.extract 0 (t351 : Int).toNat) t360 _ A24.out).mono ?_
     rintro e w31 ⟨rfl, hb⟩;refine ⟨_, rfl, ?_⟩;have n0_ := Aside0.mk (blk_below (zz21 BK348) hb);have n1_ := Aside0.mk (below_step (zz2 HB GE348) hb);clear BK348;clear HB;have BK348 := n0_;have HB := n1_;clear n0_ n1_;(try clear hb)
     (try clear hb2)
     (try clear hk)
     (try clear hi)
     refine hK.out _ _ trivial (fun hHeld => ?_);clear hK K;refine norm_ (a' := ?_) ?_ ?_;rotate_left
     ·show Act.put _ (some 24) _ = _
      simp only [Act.put, List.setIfInBounds_toArray, List.set_cons_zero, List.set_cons_succ, i64_w, i32_w]
      rfl
     refine one_ (i := 7) (N := some 28) #[true, true, true, true, true, true, true, true, false, false, false, false] rfl rfl (one_of HT_.out (by kernel_rfl)) (by decide) (fun K hK => ?_);refine goes_ Tryd.func49 (by kernel_rfl) rfl #[.string t360, .slice none 0 0, .string (t349.extract (t351 : Int).toNat t349.size)] (by rfl) rfl rfl zz91 ?_;refine (impl_readWay.calls k t360 _ _ ([] : List ByteArray) (t349.extract (t351 : Int).toNat t349.size) t361 t362 t365 t366 t367 _ ?side1 ?side2 A27.out).mono ?_;(case side1 => exact Kd.C_nil _ _)
     (case side2 => exact Nat.le_refl _)
     rintro e w32 ⟨v363, rfl, ho0, hb⟩;refine ⟨_, rfl, ?_⟩;have n0_ := Aside0.mk (Kd.R_lower ho0 (below_size (zz2 HB GE348)));have n1_ := Aside0.mk (blk_below (zz21 BK348) hb);have n2_ := Aside0.mk (below_step (zz2 HB GE348) hb);clear BK348;clear HB;have HO364 := n0_;have BK348 := n1_;have HB := n2_;clear n0_ n1_ n2_;(try clear hb)
     (try clear hb2)
     (try clear hk)
     (try clear hi)
     (try clear ho0)
     obtain ⟨Ao34, co34, eo34⟩ := Kd.R_slice HO364.out;(first | subst eo34 | (injection eo34 with f1_ f2_ f3_; have f4_ := f1_.symm; have f5_ := f3_.symm; clear f1_ f2_ f3_; subst f4_; subst f5_))
     refine hK.out _ _ trivial (fun hHeld => ?_);clear hK K;refine norm_ (a' := ?_) ?_ ?_;rotate_left
     ·show Act.put _ (some 28) _ = _
      simp only [Act.put, List.setIfInBounds_toArray, List.set_cons_zero, List.set_cons_succ, i64_w, i32_w]
      rfl
     refine pureZ 8 (some 29) #[true, true, true, true, true, true, true, true, true, false, false, false] ?_;refine pureZ 9 (some 30) #[true, true, true, true, true, true, true, true, true, true, false, false] ?_;refine one_ (i := 10) (N := none) #[true, true, true, true, true, true, true, true, true, true, true, false] rfl rfl (one_of HT_.out (by kernel_rfl)) (by decide) (fun K hK => ?_);have hs33 : w32.cell? ⟨gb348, 0, none⟩ = some (.string (⟨#[]⟩ : ByteArray)) := (blk_cell BK348.out 0).trans rfl;have hfs33 := blk_frozen BK348.out 0;have hs35 : w32.cell? ⟨gb348, 1, none⟩ = some (.slice none 0 0) := (blk_cell BK348.out 1).trans rfl;have hfs35 := blk_frozen BK348.out 1;have hs36 : w32.cell? ⟨gb348, 2, none⟩ = some (.bool false) := (blk_cell BK348.out 2).trans rfl;have hfs36 := blk_frozen BK348.out 2;have hs37 : w32.cell? ⟨gb348, 3, none⟩ = some (.string (⟨#[]⟩ : ByteArray)) := (blk_cell BK348.out 3).trans rfl;have hfs37 := blk_frozen BK348.out 3;refine skip_ (w1 := ?_) (by rfl) rfl ?_ ?_;rotate_left
     ·go_simp
      rfl
     refine hK.out _ _ trivial (fun hHeld => ?_);clear hK K;refine pureZ 11 (some 3) #[true, true, true, true, true, true, true, true, true, true, true, true] ?_;refine done_ (done_of HT_.out (by kernel_rfl)) ?_;try go_wp2
     refine bodyPost_ret (results_ct rfl _ _ gb348 47 #[.string t361, .slice Ao34 t362.length co34, .bool t365, .string t366] (0, 0) _ rfl (zz37 BK348) Tryd.underlying47 rfl (by kernel_rfl)) rfl ?_;exact ⟨_, zz1, (zz46 (rt HO364 BK348)), (zz2 HB GE348)⟩
    ·rw [if_neg c23] at H
     exact absurd H (by simp)
   ·rw [if_neg c22] at H
    exact absurd H (by simp)
 ·replace c3 := Bool.eq_false_iff.mpr c3
  subst c3;rw [if_neg (show ¬ (false = true) by decide)] at H;simp only [Option.some.injEq, Prod.mk.injEq] at H
  obtain ⟨rfl, rfl, rfl, rfl, rfl⟩ := H;go_enter Tryd.func44, Tryd.ntmps44;go_wp2_with (first | ((with_reducible refine gate_dst (N := 2) rfl ?_); refine boxE 2 #[.string (⟨#[]⟩ : ByteArray), .slice none 0 0, .bool false, .string (⟨#[]⟩ : ByteArray)] 47 ?_; intro gb348 hg w38 hbox hb; have n0_ := Aside0.mk (below_step (zz0 HB) hb); have n1_ := Aside0.mk (hbox); have n2_ := Aside0.mk ((by rw [hg]; exact (below_size (zz0 HB)) : w.heap.size ≤ gb348)); have n3_ := Aside0.mk ((by rw [hg]; exact (below_size (zz0 HB)) : w.heap.size ≤ gb348)); clear HB; have HB := n0_; have BK348 := n1_; have GW348 := n2_; have GE348 := n3_; clear n0_ n1_ n2_ n3_; clear hb hbox hg) | ((with_reducible refine gate_callee (f := 47) rfl ?_); refine goesL_ (some 9) rfl rfl Tryd.func47 (by kernel_rfl) rfl #[.string a0, .string (⟨#[47, 47]⟩ : ByteArray)] rfl zz91 ?_; (with_reducible refine (strings_CutPrefix.calls a0 (⟨#[47, 47]⟩ : ByteArray) t349 false _ A2.out).mono ?_); rintro e w' ⟨rfl, ⟨nd, rfl⟩⟩; refine ⟨_, rfl, ?_⟩; (try (rw [drewN_self w38]; generalize hq_ : World.drewN w38 _ = w38; have n0_ : Aside0 (w38.heap[gb348]? = some (.cells #[.string (⟨#[]⟩ : ByteArray), .slice none 0 0, .bool false, .string (⟨#[]⟩ : ByteArray)] 47 (0, 0))) := ⟨(by rw [← hq_]; exact (zz21 BK348))⟩; have n1_ : Aside0 (Below w.heap.size w w38) := ⟨zz93⟩; clear BK348 HB hq_; have BK348 := n0_; have HB := n1_; clear n0_ n1_)); obtain ⟨_, _, _, _, _, _, _, _⟩ := cf4 BK348))
  refine bodyPost_ret (results_ct rfl _ _ gb348 47 #[.string (⟨#[]⟩ : ByteArray), .slice none 0 0, .bool false, .string (⟨#[]⟩ : ByteArray)] (0, 0) _ rfl (zz37 BK348) Tryd.underlying47 rfl (by kernel_rfl)) rfl ?_;exact ⟨_, zz1, zz38, (zz2 HB GE348)⟩
def impl_AddrRead.f (k : Nat) (a0 : ByteArray) : Option (ByteArray × List ByteArray × Bool × ByteArray × Bool) := if (a0.size : Int) > 60 then (some ((⟨#[]⟩ : ByteArray), ([] : List ByteArray), false, (⟨#[]⟩ : ByteArray), false)) else ((strings_Cut.f a0 (⟨#[35]⟩ : ByteArray)).bind fun bt369 => ((impl_readWhole.f k bt369.1).bind fun bt372 => (some (bt372.1, bt372.2.1, bt372.2.2.1, bt372.2.2.2.1, bt372.2.2.2.2))))
set_option maxHeartbeats 8000000 in
set_option maxRecDepth 100000 in
theorem impl_AddrRead.calls (k : Nat) (a0 : ByteArray) (r1 : ByteArray) (r2 : List ByteArray) (r3 : Bool) (r4 : ByteArray) (r5 : Bool) (w : World) (h : impl_AddrRead.f k a0 = some (r1, r2, r3, r4, r5)) :
  Calls Tryd.prog 38 #[.string a0] w fun e w' => ∃ v1_ : Value, e = .returned (.tuple #[.agg #[.string r1, v1_, .bool r3, .string r4], .bool r5]) ∧ Kd.R Kd.string 9 w' w.heap.size (fun _ => True) v1_ r2 ∧ Below w.heap.size w w' := by
 have hu47 := Tryd.underlying47;have HB := Aside0.mk (Below.refl w.heap.size w);have H : (if (a0.size : Int) > 60 then (some ((⟨#[]⟩ : ByteArray), ([] : List ByteArray), false, (⟨#[]⟩ : ByteArray), false)) else ((strings_Cut.f a0 (⟨#[35]⟩ : ByteArray)).bind fun bt369 => ((impl_readWhole.f k bt369.1).bind fun bt372 => (some (bt372.1, bt372.2.1, bt372.2.2.1, bt372.2.2.2.1, bt372.2.2.2.2))))) = some (r1, r2, r3, r4, r5) := h;clear h;by_cases c2 : (a0.size : Int) > 60
 ·rw [if_pos c2] at H
  have c2b0 : decide (60 < (a0.size : Int)) = true := decide_eq_true c2;have c2b1 : decide (60 < a0.size) = true := decide_eq_true (by omega);clear c2;simp only [Option.some.injEq, Prod.mk.injEq] at H
  obtain ⟨rfl, rfl, rfl, rfl, rfl⟩ := H;go_enter Tryd.func38, Tryd.ntmps38;go_wp2_with (first | ((with_reducible refine gate_dst (N := 2) rfl ?_); refine boxE 2 #[.string (⟨#[]⟩ : ByteArray), .slice none 0 0, .bool false, .string (⟨#[]⟩ : ByteArray)] 47 ?_; intro gb368 hg w3 hbox hb; have n0_ := Aside0.mk (below_step (zz0 HB) hb); have n1_ := Aside0.mk (hbox); have n2_ := Aside0.mk ((by rw [hg]; exact (below_size (zz0 HB)) : w.heap.size ≤ gb368)); have n3_ := Aside0.mk ((by rw [hg]; exact (below_size (zz0 HB)) : w.heap.size ≤ gb368)); clear HB; have HB := n0_; have BK368 := n1_; have GW368 := n2_; have GE368 := n3_; clear n0_ n1_ n2_ n3_; clear hb hbox hg; obtain ⟨_, _, _, _, _, _, _, _⟩ := cf4 BK368))
  refine bodyPost_ret (results_ct rfl _ _ gb368 47 #[.string (⟨#[]⟩ : ByteArray), .slice none 0 0, .bool false, .string (⟨#[]⟩ : ByteArray)] (0, 0) _ rfl (zz37 BK368) Tryd.underlying47 rfl (by kernel_rfl)) rfl ?_;exact ⟨_, zz1, zz38, (zz2 HB GE368)⟩
 ·rw [if_neg c2] at H
  have c2b0 : decide (60 < (a0.size : Int)) = false := decide_eq_false c2;have c2b1 : decide (60 < a0.size) = false := decide_eq_false (by omega);clear c2;replace H := bindA H;obtain ⟨⟨t369, t370, t371⟩, A5, H⟩ := H;try dsimp -simprocs only at H
  replace H := bindA H;obtain ⟨⟨t372, t373, t376, t377, t378⟩, A6, H⟩ := H;try dsimp -simprocs only at H
  simp only [Option.some.injEq, Prod.mk.injEq] at H
  obtain ⟨rfl, rfl, rfl, rfl, rfl⟩ := H;go_enter Tryd.func38, Tryd.ntmps38;go_wp2_with (first | ((with_reducible refine gate_dst (N := 2) rfl ?_); refine boxE 2 #[.string (⟨#[]⟩ : ByteArray), .slice none 0 0, .bool false, .string (⟨#[]⟩ : ByteArray)] 47 ?_; intro gb368 hg w7 hbox hb; have n0_ := Aside0.mk (below_step (zz0 HB) hb); have n1_ := Aside0.mk (hbox); have n2_ := Aside0.mk ((by rw [hg]; exact (below_size (zz0 HB)) : w.heap.size ≤ gb368)); have n3_ := Aside0.mk ((by rw [hg]; exact (below_size (zz0 HB)) : w.heap.size ≤ gb368)); clear HB; have HB := n0_; have BK368 := n1_; have GW368 := n2_; have GE368 := n3_; clear n0_ n1_ n2_ n3_; clear hb hbox hg) | ((with_reducible refine gate_callee (f := 43) rfl ?_); refine gsL (some 13) Tryd.func43 #[.string a0, .string (⟨#[35]⟩ : ByteArray)] ?_; (with_reducible refine (strings_Cut.calls a0 (⟨#[35]⟩ : ByteArray) t369 t370 t371 _ A5.out).mono ?_); rintro e w8 ⟨rfl, hb⟩; refine ⟨_, rfl, ?_⟩; have n0_ := Aside0.mk (blk_below (zz21 BK368) hb); have n1_ := Aside0.mk (below_step (zz2 HB GE368) hb); clear BK368; clear HB; have BK368 := n0_; have HB := n1_; clear n0_ n1_; (try clear hb)) | ((with_reducible refine gate_callee (f := 44) rfl ?_); refine gsL (some 18) Tryd.func44 #[.string t369] ?_; (with_reducible refine (impl_readWhole.calls k t369 t372 t373 t376 t377 t378 _ A6.out).mono ?_); rintro e w9 ⟨v374, rfl, ho0, hb⟩; refine ⟨_, rfl, ?_⟩; have n0_ := Aside0.mk (Kd.R_lower ho0 (below_size (zz2 HB GE368))); have n1_ := Aside0.mk (blk_below (zz21 BK368) hb); have n2_ := Aside0.mk (below_step (zz2 HB GE368) hb); clear BK368; clear HB; have HO375 := n0_; have BK368 := n1_; have HB := n2_; clear n0_ n1_ n2_; (try clear hb ho0); obtain ⟨_, _, _, _, _, _, _, _⟩ := cf4 BK368; obtain ⟨Ao11, co11, eo11⟩ := Kd.R_slice HO375.out; subst eo11))
  refine bodyPost_ret (results_ct rfl _ _ gb368 47 #[.string t372, .slice Ao11 t373.length co11, .bool t376, .string t377] (0, 0) _ rfl (zz37 BK368) Tryd.underlying47 rfl (by kernel_rfl)) rfl ?_;exact ⟨_, zz1, (zz46 (rt HO375 BK368)), (zz2 HB GE368)⟩
def impl_readAddress.f (k : Nat) (a0 : ByteArray) : Option (ByteArray × List ByteArray × Bool × ByteArray × Bool) := (impl_AddrRead.f k a0).bind fun bt380 => (if bt380.2.2.2.2 = true then ((impl_writeAddr.f bt380.1 bt380.2.1 bt380.2.2.1 bt380.2.2.2.1).bind fun t388 => (if t388.toList = a0.toList then (some (bt380.1, bt380.2.1, bt380.2.2.1, bt380.2.2.2.1, true)) else (some ((⟨#[]⟩ : ByteArray), ([] : List ByteArray), false, (⟨#[]⟩ : ByteArray), false)))) else (some ((⟨#[]⟩ : ByteArray), ([] : List ByteArray), false, (⟨#[]⟩ : ByteArray), false)))
set_option maxHeartbeats 8000000 in
set_option maxRecDepth 100000 in
theorem impl_readAddress.calls (k : Nat) (a0 : ByteArray) (r1 : ByteArray) (r2 : List ByteArray) (r3 : Bool) (r4 : ByteArray) (r5 : Bool) (w : World) (h : impl_readAddress.f k a0 = some (r1, r2, r3, r4, r5)) :
  Calls Tryd.prog 34 #[.string a0] w fun e w' => ∃ v1_ : Value, e = .returned (.tuple #[.agg #[.string r1, v1_, .bool r3, .string r4], .bool r5]) ∧ Kd.R Kd.string 9 w' w.heap.size (fun _ => True) v1_ r2 ∧ Below w.heap.size w w' := by
 have hu47 := Tryd.underlying47;have HB := Aside0.mk (Below.refl w.heap.size w);have H : ((impl_AddrRead.f k a0).bind fun bt380 => (if bt380.2.2.2.2 = true then ((impl_writeAddr.f bt380.1 bt380.2.1 bt380.2.2.1 bt380.2.2.2.1).bind fun t388 => (if t388.toList = a0.toList then (some (bt380.1, bt380.2.1, bt380.2.2.1, bt380.2.2.2.1, true)) else (some ((⟨#[]⟩ : ByteArray), ([] : List ByteArray), false, (⟨#[]⟩ : ByteArray), false)))) else (some ((⟨#[]⟩ : ByteArray), ([] : List ByteArray), false, (⟨#[]⟩ : ByteArray), false)))) = some (r1, r2, r3, r4, r5) := h;clear h;replace H := bindA H;obtain ⟨⟨t380, t381, t384, t385, t386⟩, A2, H⟩ := H;try dsimp -simprocs only at H
 by_cases c3 : t386 = true
 ·subst c3
  rw [if_pos rfl] at H;replace H := bindA H;obtain ⟨t388, A4, H⟩ := H;by_cases c5 : t388.toList = a0.toList
  ·rw [if_pos c5] at H
   have c5b0 : (t388.toList == a0.toList) = true := beq_iff_eq.mpr c5;have c5b1 : (t388.toList != a0.toList) = false := bne_eq_false_iff_eq.mpr c5;clear c5;simp only [Option.some.injEq, Prod.mk.injEq] at H
   obtain ⟨rfl, rfl, rfl, rfl, rfl⟩ := H;go_enter Tryd.func34, Tryd.ntmps34;go_wp2_with (first | ((with_reducible refine gate_dst (N := 2) rfl ?_); refine boxE 2 #[.string (⟨#[]⟩ : ByteArray), .slice none 0 0, .bool false, .string (⟨#[]⟩ : ByteArray)] 47 ?_; intro gb379 hg w6 hbox hb; have n0_ := Aside0.mk (below_step (zz0 HB) hb); have n1_ := Aside0.mk (hbox); have n2_ := Aside0.mk ((by rw [hg]; exact (below_size (zz0 HB)) : w.heap.size ≤ gb379)); have n3_ := Aside0.mk ((by rw [hg]; exact (below_size (zz0 HB)) : w.heap.size ≤ gb379)); clear HB; have HB := n0_; have BK379 := n1_; have GW379 := n2_; have GE379 := n3_; clear n0_ n1_ n2_ n3_; clear hb hbox hg) | ((with_reducible refine gate_callee (f := 38) rfl ?_); refine gsL (some 8) Tryd.func38 #[.string a0] ?_; (with_reducible refine (impl_AddrRead.calls k a0 t380 t381 t384 t385 true _ A2.out).mono ?_); rintro e w7 ⟨v382, rfl, ho0, hb⟩; refine ⟨_, rfl, ?_⟩; have n0_ := Aside0.mk (Kd.R_lower ho0 (below_size (zz2 HB GE379))); have n1_ := Aside0.mk (blk_below (zz21 BK379) hb); have n2_ := Aside0.mk (below_step (zz2 HB GE379) hb); clear BK379; clear HB; have HO383 := n0_; have BK379 := n1_; have HB := n2_; clear n0_ n1_ n2_; (try clear hb ho0)) | ((with_reducible refine gate_dst (N := 4) rfl ?_); refine boxE 4 #[.string (⟨#[]⟩ : ByteArray), .slice none 0 0, .bool false, .string (⟨#[]⟩ : ByteArray)] 47 ?_; intro gb387 hg w8 hbox hb; have n0_ := Aside0.mk (Kd.R_below (zz28 HO383) hb); have n1_ := Aside0.mk (blk_below (zz21 BK379) hb); have n2_ := Aside0.mk (below_step (zz2 HB GE379) hb); have n3_ := Aside0.mk (hbox); have n4_ := Aside0.mk ((by rw [hg]; exact (below_size (zz2 HB GE379)) : w.heap.size ≤ gb387)); have n5_ := Aside0.mk ((by rw [hg]; exact (below_size (zz2 HB GE379)) : w.heap.size ≤ gb387)); have n6_ := Aside0.mk ((by rw [hg]; exact Nat.ne_of_lt (blk_lt (zz21 BK379)) : gb379 ≠ gb387)); have n7_ := Aside0.mk ((by rw [hg]; exact Nat.ne_of_gt (blk_lt (zz21 BK379)) : gb387 ≠ gb379)); clear HO383; clear BK379; clear HB; have HO383 := n0_; have BK379 := n1_; have HB := n2_; have BK387 := n3_; have GW387 := n4_; have GE387 := n5_; have NB379_387 := n6_; have NB387_379 := n7_; clear n0_ n1_ n2_ n3_ n4_ n5_ n6_ n7_; clear hb hbox hg; have hnb9 := NB387_379.out; have hnc9 := NB379_387.out; obtain ⟨_, _, _, _, _, _, _, _⟩ := cf4 BK387; obtain ⟨Ao11, co11, eo11⟩ := Kd.R_slice HO383.out; subst eo11) | (go_at_call 39; (with_reducible refine (impl_writeAddr.calls t380 _ _ t381 t384 t385 t388 _ ?side1 ?side2 A4.out).mono ?_); (case side1 => exact (by refine (Kd.R_reads' (e := 9) (base := w.heap.size) (ok := fun k_ => True) (n := t381.length) (c := co11) ?_).2.2; exact (zz94 HO383 BK387))); (case side2 => exact (Kd.R_reads' HO383.out).2.1); rintro e w12 ⟨rfl, hb⟩; have n0_ := Aside0.mk (Kd.R_below (zz94 HO383 BK387) hb); have n1_ := Aside0.mk (blk_below (g := gb379) (o := .cells #[.string (⟨#[]⟩ : ByteArray), .slice none 0 0, .bool false, .string (⟨#[]⟩ : ByteArray)] 47 (0, 0)) (zz45 BK379 NB379_387) hb); have n2_ := Aside0.mk (blk_below (g := gb387) (o := .cells #[.string t380, .slice Ao11 t381.length co11, .bool t384, .string t385] 47 (0, 0)) (zz37 BK387) hb); have n3_ := Aside0.mk (below_step (zz33 HB GE379 GE387) hb); clear HO383; clear BK379; clear BK387; clear HB; have HO383 := n0_; have BK379 := n1_; have BK387 := n2_; have HB := n3_; clear n0_ n1_ n2_ n3_; (try clear hb); obtain ⟨_, _, _, _, _, _, _, _⟩ := cf4 BK387; obtain ⟨_, _, _, _, _, _, _, _⟩ := cf4 BK379))
   refine bodyPost_ret (results_ct rfl _ _ gb379 47 #[.string t380, .slice Ao11 t381.length co11, .bool t384, .string t385] (0, 0) _ rfl (zz37 BK379) Tryd.underlying47 rfl (by kernel_rfl)) rfl ?_;exact ⟨_, zz1, (zz46 (rt HO383 BK379)), (zz33 HB GE379 GE387)⟩
  ·rw [if_neg c5] at H
   have c5b0 : (t388.toList == a0.toList) = false := beq_eq_false_iff_ne.mpr c5;have c5b1 : (t388.toList != a0.toList) = true := bne_iff_ne.mpr c5;simp only [Option.some.injEq, Prod.mk.injEq] at H
   obtain ⟨rfl, rfl, rfl, rfl, rfl⟩ := H;go_enter Tryd.func34, Tryd.ntmps34;go_wp2_with (first | ((with_reducible refine gate_dst (N := 2) rfl ?_); refine boxE 2 #[.string (⟨#[]⟩ : ByteArray), .slice none 0 0, .bool false, .string (⟨#[]⟩ : ByteArray)] 47 ?_; intro gb379 hg w15 hbox hb; have n0_ := Aside0.mk (below_step (zz0 HB) hb); have n1_ := Aside0.mk (hbox); have n2_ := Aside0.mk ((by rw [hg]; exact (below_size (zz0 HB)) : w.heap.size ≤ gb379)); have n3_ := Aside0.mk ((by rw [hg]; exact (below_size (zz0 HB)) : w.heap.size ≤ gb379)); clear HB; have HB := n0_; have BK379 := n1_; have GW379 := n2_; have GE379 := n3_; clear n0_ n1_ n2_ n3_; clear hb hbox hg) | ((with_reducible refine gate_callee (f := 38) rfl ?_); refine gsL (some 8) Tryd.func38 #[.string a0] ?_; (with_reducible refine (impl_AddrRead.calls k a0 t380 t381 t384 t385 true _ A2.out).mono ?_); rintro e w16 ⟨v382, rfl, ho0, hb⟩; refine ⟨_, rfl, ?_⟩; have n0_ := Aside0.mk (Kd.R_lower ho0 (below_size (zz2 HB GE379))); have n1_ := Aside0.mk (blk_below (zz21 BK379) hb); have n2_ := Aside0.mk (below_step (zz2 HB GE379) hb); clear BK379; clear HB; have HO383 := n0_; have BK379 := n1_; have HB := n2_; clear n0_ n1_ n2_; (try clear hb ho0)) | ((with_reducible refine gate_dst (N := 4) rfl ?_); refine boxE 4 #[.string (⟨#[]⟩ : ByteArray), .slice none 0 0, .bool false, .string (⟨#[]⟩ : ByteArray)] 47 ?_; intro gb387 hg w17 hbox hb; have n0_ := Aside0.mk (Kd.R_below (zz28 HO383) hb); have n1_ := Aside0.mk (blk_below (zz21 BK379) hb); have n2_ := Aside0.mk (below_step (zz2 HB GE379) hb); have n3_ := Aside0.mk (hbox); have n4_ := Aside0.mk ((by rw [hg]; exact (below_size (zz2 HB GE379)) : w.heap.size ≤ gb387)); have n5_ := Aside0.mk ((by rw [hg]; exact (below_size (zz2 HB GE379)) : w.heap.size ≤ gb387)); have n6_ := Aside0.mk ((by rw [hg]; exact Nat.ne_of_lt (blk_lt (zz21 BK379)) : gb379 ≠ gb387)); have n7_ := Aside0.mk ((by rw [hg]; exact Nat.ne_of_gt (blk_lt (zz21 BK379)) : gb387 ≠ gb379)); clear HO383; clear BK379; clear HB; have HO383 := n0_; have BK379 := n1_; have HB := n2_; have BK387 := n3_; have GW387 := n4_; have GE387 := n5_; have NB379_387 := n6_; have NB387_379 := n7_; clear n0_ n1_ n2_ n3_ n4_ n5_ n6_ n7_; clear hb hbox hg; have hnb18 := NB387_379.out; have hnc18 := NB379_387.out; obtain ⟨_, _, _, _, _, _, _, _⟩ := cf4 BK387; obtain ⟨Ao20, co20, eo20⟩ := Kd.R_slice HO383.out; subst eo20) | (go_at_call 39; (with_reducible refine (impl_writeAddr.calls t380 _ _ t381 t384 t385 t388 _ ?side1 ?side2 A4.out).mono ?_); (case side1 => exact (by refine (Kd.R_reads' (e := 9) (base := w.heap.size) (ok := fun k_ => True) (n := t381.length) (c := co20) ?_).2.2; exact (zz96 HO383 BK387))); (case side2 => exact (Kd.R_reads' HO383.out).2.1); rintro e w21 ⟨rfl, hb⟩; have n0_ := Aside0.mk (Kd.R_below (zz96 HO383 BK387) hb); have n1_ := Aside0.mk (blk_below (g := gb379) (o := .cells #[.string (⟨#[]⟩ : ByteArray), .slice none 0 0, .bool false, .string (⟨#[]⟩ : ByteArray)] 47 (0, 0)) (zz45 BK379 NB379_387) hb); have n2_ := Aside0.mk (blk_below (g := gb387) (o := .cells #[.string t380, .slice Ao20 t381.length co20, .bool t384, .string t385] 47 (0, 0)) (zz37 BK387) hb); have n3_ := Aside0.mk (below_step (zz33 HB GE379 GE387) hb); clear HO383; clear BK379; clear BK387; clear HB; have HO383 := n0_; have BK379 := n1_; have BK387 := n2_; have HB := n3_; clear n0_ n1_ n2_ n3_; (try clear hb); obtain ⟨_, _, _, _, _, _, _, _⟩ := cf4 BK379))
   refine bodyPost_ret (results_ct rfl _ _ gb379 47 #[.string (⟨#[]⟩ : ByteArray), .slice none 0 0, .bool false, .string (⟨#[]⟩ : ByteArray)] (0, 0) _ rfl (zz37 BK379) Tryd.underlying47 rfl (by kernel_rfl)) rfl ?_;exact ⟨_, zz1, zz38, (zz33 HB GE379 GE387)⟩
 ·replace c3 := Bool.eq_false_iff.mpr c3
  subst c3;rw [if_neg (show ¬ (false = true) by decide)] at H;simp only [Option.some.injEq, Prod.mk.injEq] at H
  obtain ⟨rfl, rfl, rfl, rfl, rfl⟩ := H;go_enter Tryd.func34, Tryd.ntmps34;go_wp2_with (first | ((with_reducible refine gate_dst (N := 2) rfl ?_); refine boxE 2 #[.string (⟨#[]⟩ : ByteArray), .slice none 0 0, .bool false, .string (⟨#[]⟩ : ByteArray)] 47 ?_; intro gb379 hg w23 hbox hb; have n0_ := Aside0.mk (below_step (zz0 HB) hb); have n1_ := Aside0.mk (hbox); have n2_ := Aside0.mk ((by rw [hg]; exact (below_size (zz0 HB)) : w.heap.size ≤ gb379)); have n3_ := Aside0.mk ((by rw [hg]; exact (below_size (zz0 HB)) : w.heap.size ≤ gb379)); clear HB; have HB := n0_; have BK379 := n1_; have GW379 := n2_; have GE379 := n3_; clear n0_ n1_ n2_ n3_; clear hb hbox hg) | ((with_reducible refine gate_callee (f := 38) rfl ?_); refine gsL (some 8) Tryd.func38 #[.string a0] ?_; (with_reducible refine (impl_AddrRead.calls k a0 t380 t381 t384 t385 false _ A2.out).mono ?_); rintro e w24 ⟨v382, rfl, ho0, hb⟩; refine ⟨_, rfl, ?_⟩; have n0_ := Aside0.mk (Kd.R_lower ho0 (below_size (zz2 HB GE379))); have n1_ := Aside0.mk (blk_below (zz21 BK379) hb); have n2_ := Aside0.mk (below_step (zz2 HB GE379) hb); clear BK379; clear HB; have HO383 := n0_; have BK379 := n1_; have HB := n2_; clear n0_ n1_ n2_; (try clear hb ho0)) | ((with_reducible refine gate_dst (N := 4) rfl ?_); refine boxE 4 #[.string (⟨#[]⟩ : ByteArray), .slice none 0 0, .bool false, .string (⟨#[]⟩ : ByteArray)] 47 ?_; intro gb387 hg w25 hbox hb; have n0_ := Aside0.mk (Kd.R_below (zz28 HO383) hb); have n1_ := Aside0.mk (blk_below (zz21 BK379) hb); have n2_ := Aside0.mk (below_step (zz2 HB GE379) hb); have n3_ := Aside0.mk (hbox); have n4_ := Aside0.mk ((by rw [hg]; exact (below_size (zz2 HB GE379)) : w.heap.size ≤ gb387)); have n5_ := Aside0.mk ((by rw [hg]; exact (below_size (zz2 HB GE379)) : w.heap.size ≤ gb387)); have n6_ := Aside0.mk ((by rw [hg]; exact Nat.ne_of_lt (blk_lt (zz21 BK379)) : gb379 ≠ gb387)); have n7_ := Aside0.mk ((by rw [hg]; exact Nat.ne_of_gt (blk_lt (zz21 BK379)) : gb387 ≠ gb379)); clear HO383; clear BK379; clear HB; have HO383 := n0_; have BK379 := n1_; have HB := n2_; have BK387 := n3_; have GW387 := n4_; have GE387 := n5_; have NB379_387 := n6_; have NB387_379 := n7_; clear n0_ n1_ n2_ n3_ n4_ n5_ n6_ n7_; clear hb hbox hg; have hnb26 := NB387_379.out; have hnc26 := NB379_387.out; obtain ⟨_, _, _, _, _, _, _, _⟩ := cf4 BK387; obtain ⟨Ao28, co28, eo28⟩ := Kd.R_slice HO383.out; subst eo28; obtain ⟨_, _, _, _, _, _, _, _⟩ := cf4 BK379))
  refine bodyPost_ret (results_ct rfl _ _ gb379 47 #[.string (⟨#[]⟩ : ByteArray), .slice none 0 0, .bool false, .string (⟨#[]⟩ : ByteArray)] (0, 0) _ rfl (zz45 BK379 NB379_387) Tryd.underlying47 rfl (by kernel_rfl)) rfl ?_;exact ⟨_, zz1, zz38, (zz33 HB GE379 GE387)⟩
def impl_isAddress.f (k : Nat) (a0 : ByteArray) : Option (Bool) := (impl_readAddress.f k a0).bind fun bt389 => (some bt389.2.2.2.2)
set_option maxHeartbeats 8000000 in
set_option maxRecDepth 100000 in
theorem impl_isAddress.calls (k : Nat) (a0 : ByteArray) (r : Bool) (w : World) (h : impl_isAddress.f k a0 = some r) :
  Calls Tryd.prog 28 #[.string a0] w fun e w' => e = .returned (.bool r) ∧ Below w.heap.size w w' := by
 have hu47 := Tryd.underlying47;have HB := Aside0.mk (Below.refl w.heap.size w);have H : ((impl_readAddress.f k a0).bind fun bt389 => (some bt389.2.2.2.2)) = some r := h;clear h;replace H := bindA H;obtain ⟨⟨t389, t390, t393, t394, t395⟩, A2, H⟩ := H;try dsimp -simprocs only at H
 obtain rfl := Option.some.inj H;go_enter Tryd.func28, Tryd.ntmps28;go_wp2_with (first | ((with_reducible refine gate_callee (f := 34) rfl ?_); refine gsL (some 7) Tryd.func34 #[.string a0] ?_; (with_reducible refine (impl_readAddress.calls k a0 t389 t390 t393 t394 t395 _ A2.out).mono ?_); rintro e w3 ⟨v391, rfl, ho0, hb⟩; refine ⟨_, rfl, ?_⟩; have n0_ := Aside0.mk (Kd.R_lower ho0 (below_size (zz0 HB))); have n1_ := Aside0.mk (below_step (zz0 HB) hb); clear HB; have HO392 := n0_; have HB := n1_; clear n0_ n1_; (try clear hb ho0)) | ((with_reducible refine gate_dst (N := 3) rfl ?_); refine boxE 3 #[.string (⟨#[]⟩ : ByteArray), .slice none 0 0, .bool false, .string (⟨#[]⟩ : ByteArray)] 47 ?_; intro gb396 hg w4 hbox hb; have n0_ := Aside0.mk (Kd.R_below (zz28 HO392) hb); have n1_ := Aside0.mk (below_step (zz0 HB) hb); have n2_ := Aside0.mk (hbox); have n3_ := Aside0.mk ((by rw [hg]; exact (below_size (zz0 HB)) : w.heap.size ≤ gb396)); have n4_ := Aside0.mk ((by rw [hg]; exact (below_size (zz0 HB)) : w.heap.size ≤ gb396)); clear HO392; clear HB; have HO392 := n0_; have HB := n1_; have BK396 := n2_; have GW396 := n3_; have GE396 := n4_; clear n0_ n1_ n2_ n3_ n4_; clear hb hbox hg; obtain ⟨_, _, _, _, _, _, _, _⟩ := cf4 BK396; obtain ⟨Ao6, co6, eo6⟩ := Kd.R_slice HO392.out; subst eo6))
 go_ret
 exact ⟨zz1, (zz2 HB GE396)⟩
def impl_pageOk.f (k : Nat) (a0_0 : ByteArray) (a0_1 : ByteArray) (a0_2 : ByteArray) (a0_3 : Int) : Option (Bool) := (impl_isAddress.f k a0_0).bind fun t398 => (if t398 = true then (if (a0_1.size : Int) > 300 then (some false) else (if a0_3 < 0 then (some false) else (if a0_3 > 9 then (some false) else (if a0_2.toList = ([] : List UInt8) then (some true) else ((impl_isAddress.f k a0_2).bind fun t399 => (if t399 = true then (some (a0_1.toList == ([] : List UInt8))) else (some false))))))) else (some false))
set_option maxHeartbeats 8000000 in
set_option maxRecDepth 100000 in
theorem impl_pageOk.calls (k : Nat) (a0_0 : ByteArray) (a0_1 : ByteArray) (a0_2 : ByteArray) (a0_3 : Int) (r : Bool) (w : World) (h : impl_pageOk.f k a0_0 a0_1 a0_2 a0_3 = some r) :
  Calls Tryd.prog 22 #[.agg #[.string a0_0, .string a0_1, .string a0_2, .int .i64 a0_3]] w fun e w' => e = .returned (.bool r) ∧ Below w.heap.size w w' := by
 have hu36 := Tryd.underlying36;have HB := Aside0.mk (Below.refl w.heap.size w);have H : ((impl_isAddress.f k a0_0).bind fun t398 => (if t398 = true then (if (a0_1.size : Int) > 300 then (some false) else (if a0_3 < 0 then (some false) else (if a0_3 > 9 then (some false) else (if a0_2.toList = ([] : List UInt8) then (some true) else ((impl_isAddress.f k a0_2).bind fun t399 => (if t399 = true then (some (a0_1.toList == ([] : List UInt8))) else (some false))))))) else (some false))) = some r := h;clear h;replace H := bindA H;obtain ⟨t398, A2, H⟩ := H;by_cases c3 : t398 = true
 ·subst c3
  rw [if_pos rfl] at H;by_cases c4 : (a0_1.size : Int) > 300
  ·rw [if_pos c4] at H
   have c4b0 : decide (300 < (a0_1.size : Int)) = true := decide_eq_true c4;have c4b1 : decide (300 < a0_1.size) = true := decide_eq_true (by omega);clear c4;obtain rfl := Option.some.inj H;go_enter Tryd.func22, Tryd.ntmps22;go_wp2_with (first | ((with_reducible refine gate_dst (N := 1) rfl ?_); (try (refine gate_guard (by rfl) ?_; dsimp only)); refine boxE 1 #[.string a0_0, .string a0_1, .string a0_2, .int .i64 a0_3] 36 ?_; intro gb397 hg w5 hbox hb; have n0_ := Aside0.mk (below_step (zz0 HB) hb); have n1_ := Aside0.mk (hbox); have n2_ := Aside0.mk ((by rw [hg]; exact (below_size (zz0 HB)) : w.heap.size ≤ gb397)); have n3_ := Aside0.mk ((by rw [hg]; exact (below_size (zz0 HB)) : w.heap.size ≤ gb397)); clear HB; have HB := n0_; have BK397 := n1_; have GW397 := n2_; have GE397 := n3_; clear n0_ n1_ n2_ n3_; clear hb hbox hg; obtain ⟨_, _, _, _, _, _, _, _⟩ := cf4 BK397) | ((with_reducible refine gate_callee (f := 28) rfl ?_); refine gsL (some 5) Tryd.func28 #[.string a0_0] ?_; (with_reducible refine (impl_isAddress.calls k a0_0 true _ A2.out).mono ?_); rintro e w7 ⟨rfl, hb⟩; refine ⟨_, rfl, ?_⟩; have n0_ := Aside0.mk (blk_below (zz21 BK397) hb); have n1_ := Aside0.mk (below_step (zz2 HB GE397) hb); clear BK397; clear HB; have BK397 := n0_; have HB := n1_; clear n0_ n1_; (try clear hb); obtain ⟨_, _, _, _, _, _, _, _⟩ := cf4 BK397))
   go_ret
   exact ⟨zz1, (zz2 HB GE397)⟩
  ·rw [if_neg c4] at H
   have c4b0 : decide (300 < (a0_1.size : Int)) = false := decide_eq_false c4;have c4b1 : decide (300 < a0_1.size) = false := decide_eq_false (by omega);clear c4;by_cases c9 : a0_3 < 0
   ·rw [if_pos c9] at H
    have c9b0 : decide (a0_3 < 0) = true := decide_eq_true c9;clear c9;obtain rfl := Option.some.inj H;go_enter Tryd.func22, Tryd.ntmps22;go_wp2_with (first | ((with_reducible refine gate_dst (N := 1) rfl ?_); (try (refine gate_guard (by rfl) ?_; dsimp only)); refine boxE 1 #[.string a0_0, .string a0_1, .string a0_2, .int .i64 a0_3] 36 ?_; intro gb397 hg w10 hbox hb; have n0_ := Aside0.mk (below_step (zz0 HB) hb); have n1_ := Aside0.mk (hbox); have n2_ := Aside0.mk ((by rw [hg]; exact (below_size (zz0 HB)) : w.heap.size ≤ gb397)); have n3_ := Aside0.mk ((by rw [hg]; exact (below_size (zz0 HB)) : w.heap.size ≤ gb397)); clear HB; have HB := n0_; have BK397 := n1_; have GW397 := n2_; have GE397 := n3_; clear n0_ n1_ n2_ n3_; clear hb hbox hg; obtain ⟨_, _, _, _, _, _, _, _⟩ := cf4 BK397) | ((with_reducible refine gate_callee (f := 28) rfl ?_); refine gsL (some 5) Tryd.func28 #[.string a0_0] ?_; (with_reducible refine (impl_isAddress.calls k a0_0 true _ A2.out).mono ?_); rintro e w12 ⟨rfl, hb⟩; refine ⟨_, rfl, ?_⟩; have n0_ := Aside0.mk (blk_below (zz21 BK397) hb); have n1_ := Aside0.mk (below_step (zz2 HB GE397) hb); clear BK397; clear HB; have BK397 := n0_; have HB := n1_; clear n0_ n1_; (try clear hb); obtain ⟨_, _, _, _, _, _, _, _⟩ := cf4 BK397))
    go_ret
    exact ⟨zz1, (zz2 HB GE397)⟩
   ·rw [if_neg c9] at H
    have c9b0 : decide (a0_3 < 0) = false := decide_eq_false c9;clear c9;by_cases c14 : a0_3 > 9
    ·rw [if_pos c14] at H
     have c14b0 : decide (9 < a0_3) = true := decide_eq_true c14;clear c14;obtain rfl := Option.some.inj H;go_enter Tryd.func22, Tryd.ntmps22;go_wp2_with (first | ((with_reducible refine gate_dst (N := 1) rfl ?_); (try (refine gate_guard (by rfl) ?_; dsimp only)); refine boxE 1 #[.string a0_0, .string a0_1, .string a0_2, .int .i64 a0_3] 36 ?_; intro gb397 hg w15 hbox hb; have n0_ := Aside0.mk (below_step (zz0 HB) hb); have n1_ := Aside0.mk (hbox); have n2_ := Aside0.mk ((by rw [hg]; exact (below_size (zz0 HB)) : w.heap.size ≤ gb397)); have n3_ := Aside0.mk ((by rw [hg]; exact (below_size (zz0 HB)) : w.heap.size ≤ gb397)); clear HB; have HB := n0_; have BK397 := n1_; have GW397 := n2_; have GE397 := n3_; clear n0_ n1_ n2_ n3_; clear hb hbox hg; obtain ⟨_, _, _, _, _, _, _, _⟩ := cf4 BK397) | ((with_reducible refine gate_callee (f := 28) rfl ?_); refine gsL (some 5) Tryd.func28 #[.string a0_0] ?_; (with_reducible refine (impl_isAddress.calls k a0_0 true _ A2.out).mono ?_); rintro e w17 ⟨rfl, hb⟩; refine ⟨_, rfl, ?_⟩; have n0_ := Aside0.mk (blk_below (zz21 BK397) hb); have n1_ := Aside0.mk (below_step (zz2 HB GE397) hb); clear BK397; clear HB; have BK397 := n0_; have HB := n1_; clear n0_ n1_; (try clear hb); obtain ⟨_, _, _, _, _, _, _, _⟩ := cf4 BK397))
     go_ret
     exact ⟨zz1, (zz2 HB GE397)⟩
    ·rw [if_neg c14] at H
     have c14b0 : decide (9 < a0_3) = false := decide_eq_false c14;clear c14;by_cases c19 : a0_2.toList = ([] : List UInt8)
     ·rw [if_pos c19] at H
      have c19b0 : (a0_2.toList == ([] : List UInt8)) = true := beq_iff_eq.mpr c19;have c19b1 : (a0_2.toList != ([] : List UInt8)) = false := bne_eq_false_iff_eq.mpr c19;clear c19;obtain rfl := Option.some.inj H;go_enter Tryd.func22, Tryd.ntmps22;go_wp2_with (first | ((with_reducible refine gate_dst (N := 1) rfl ?_); (try (refine gate_guard (by rfl) ?_; dsimp only)); refine boxE 1 #[.string a0_0, .string a0_1, .string a0_2, .int .i64 a0_3] 36 ?_; intro gb397 hg w20 hbox hb; have n0_ := Aside0.mk (below_step (zz0 HB) hb); have n1_ := Aside0.mk (hbox); have n2_ := Aside0.mk ((by rw [hg]; exact (below_size (zz0 HB)) : w.heap.size ≤ gb397)); have n3_ := Aside0.mk ((by rw [hg]; exact (below_size (zz0 HB)) : w.heap.size ≤ gb397)); clear HB; have HB := n0_; have BK397 := n1_; have GW397 := n2_; have GE397 := n3_; clear n0_ n1_ n2_ n3_; clear hb hbox hg; obtain ⟨_, _, _, _, _, _, _, _⟩ := cf4 BK397) | ((with_reducible refine gate_callee (f := 28) rfl ?_); refine gsL (some 5) Tryd.func28 #[.string a0_0] ?_; (with_reducible refine (impl_isAddress.calls k a0_0 true _ A2.out).mono ?_); rintro e w22 ⟨rfl, hb⟩; refine ⟨_, rfl, ?_⟩; have n0_ := Aside0.mk (blk_below (zz21 BK397) hb); have n1_ := Aside0.mk (below_step (zz2 HB GE397) hb); clear BK397; clear HB; have BK397 := n0_; have HB := n1_; clear n0_ n1_; (try clear hb); obtain ⟨_, _, _, _, _, _, _, _⟩ := cf4 BK397))
      go_ret
      exact ⟨zz1, (zz2 HB GE397)⟩
     ·rw [if_neg c19] at H
      have c19b0 : (a0_2.toList == ([] : List UInt8)) = false := beq_eq_false_iff_ne.mpr c19;have c19b1 : (a0_2.toList != ([] : List UInt8)) = true := bne_iff_ne.mpr c19;replace H := bindA H;obtain ⟨t399, A24, H⟩ := H;by_cases c25 : t399 = true
      ·subst c25
       rw [if_pos rfl] at H;obtain rfl := Option.some.inj H;go_enter Tryd.func22, Tryd.ntmps22;go_wp2_with (first | ((with_reducible refine gate_dst (N := 1) rfl ?_); (try (refine gate_guard (by rfl) ?_; dsimp only)); refine boxE 1 #[.string a0_0, .string a0_1, .string a0_2, .int .i64 a0_3] 36 ?_; intro gb397 hg w26 hbox hb; have n0_ := Aside0.mk (below_step (zz0 HB) hb); have n1_ := Aside0.mk (hbox); have n2_ := Aside0.mk ((by rw [hg]; exact (below_size (zz0 HB)) : w.heap.size ≤ gb397)); have n3_ := Aside0.mk ((by rw [hg]; exact (below_size (zz0 HB)) : w.heap.size ≤ gb397)); clear HB; have HB := n0_; have BK397 := n1_; have GW397 := n2_; have GE397 := n3_; clear n0_ n1_ n2_ n3_; clear hb hbox hg; obtain ⟨_, _, _, _, _, _, _, _⟩ := cf4 BK397) | ((with_reducible refine gate_callee (f := 28) rfl ?_); refine gsL (some 5) Tryd.func28 #[.string a0_0] ?_; (with_reducible refine (impl_isAddress.calls k a0_0 true _ A2.out).mono ?_); rintro e w28 ⟨rfl, hb⟩; refine ⟨_, rfl, ?_⟩; have n0_ := Aside0.mk (blk_below (zz21 BK397) hb); have n1_ := Aside0.mk (below_step (zz2 HB GE397) hb); clear BK397; clear HB; have BK397 := n0_; have HB := n1_; clear n0_ n1_; (try clear hb); obtain ⟨_, _, _, _, _, _, _, _⟩ := cf4 BK397) | (go_at_call 28; (with_reducible refine (impl_isAddress.calls k a0_2 true _ A24.out).mono ?_); rintro e w30 ⟨rfl, hb⟩; have n0_ := Aside0.mk (blk_below (zz21 BK397) hb); have n1_ := Aside0.mk (below_step (zz2 HB GE397) hb); clear BK397; clear HB; have BK397 := n0_; have HB := n1_; clear n0_ n1_; (try clear hb); obtain ⟨_, _, _, _, _, _, _, _⟩ := cf4 BK397))
       go_ret
       exact ⟨zz1, (zz2 HB GE397)⟩
      ·replace c25 := Bool.eq_false_iff.mpr c25
       subst c25;rw [if_neg (show ¬ (false = true) by decide)] at H;obtain rfl := Option.some.inj H;go_enter Tryd.func22, Tryd.ntmps22;go_wp2_with (first | ((with_reducible refine gate_dst (N := 1) rfl ?_); (try (refine gate_guard (by rfl) ?_; dsimp only)); refine boxE 1 #[.string a0_0, .string a0_1, .string a0_2, .int .i64 a0_3] 36 ?_; intro gb397 hg w32 hbox hb; have n0_ := Aside0.mk (below_step (zz0 HB) hb); have n1_ := Aside0.mk (hbox); have n2_ := Aside0.mk ((by rw [hg]; exact (below_size (zz0 HB)) : w.heap.size ≤ gb397)); have n3_ := Aside0.mk ((by rw [hg]; exact (below_size (zz0 HB)) : w.heap.size ≤ gb397)); clear HB; have HB := n0_; have BK397 := n1_; have GW397 := n2_; have GE397 := n3_; clear n0_ n1_ n2_ n3_; clear hb hbox hg; obtain ⟨_, _, _, _, _, _, _, _⟩ := cf4 BK397) | ((with_reducible refine gate_callee (f := 28) rfl ?_); refine gsL (some 5) Tryd.func28 #[.string a0_0] ?_; (with_reducible refine (impl_isAddress.calls k a0_0 true _ A2.out).mono ?_); rintro e w34 ⟨rfl, hb⟩; refine ⟨_, rfl, ?_⟩; have n0_ := Aside0.mk (blk_below (zz21 BK397) hb); have n1_ := Aside0.mk (below_step (zz2 HB GE397) hb); clear BK397; clear HB; have BK397 := n0_; have HB := n1_; clear n0_ n1_; (try clear hb); obtain ⟨_, _, _, _, _, _, _, _⟩ := cf4 BK397) | (go_at_call 28; (with_reducible refine (impl_isAddress.calls k a0_2 false _ A24.out).mono ?_); rintro e w36 ⟨rfl, hb⟩; have n0_ := Aside0.mk (blk_below (zz21 BK397) hb); have n1_ := Aside0.mk (below_step (zz2 HB GE397) hb); clear BK397; clear HB; have BK397 := n0_; have HB := n1_; clear n0_ n1_; (try clear hb)))
       go_ret
       exact ⟨zz1, (zz2 HB GE397)⟩
 ·replace c3 := Bool.eq_false_iff.mpr c3
  subst c3;rw [if_neg (show ¬ (false = true) by decide)] at H;obtain rfl := Option.some.inj H;go_enter Tryd.func22, Tryd.ntmps22;go_wp2_with (first | ((with_reducible refine gate_dst (N := 1) rfl ?_); (try (refine gate_guard (by rfl) ?_; dsimp only)); refine boxE 1 #[.string a0_0, .string a0_1, .string a0_2, .int .i64 a0_3] 36 ?_; intro gb397 hg w37 hbox hb; have n0_ := Aside0.mk (below_step (zz0 HB) hb); have n1_ := Aside0.mk (hbox); have n2_ := Aside0.mk ((by rw [hg]; exact (below_size (zz0 HB)) : w.heap.size ≤ gb397)); have n3_ := Aside0.mk ((by rw [hg]; exact (below_size (zz0 HB)) : w.heap.size ≤ gb397)); clear HB; have HB := n0_; have BK397 := n1_; have GW397 := n2_; have GE397 := n3_; clear n0_ n1_ n2_ n3_; clear hb hbox hg; obtain ⟨_, _, _, _, _, _, _, _⟩ := cf4 BK397) | ((with_reducible refine gate_callee (f := 28) rfl ?_); refine gsL (some 5) Tryd.func28 #[.string a0_0] ?_; (with_reducible refine (impl_isAddress.calls k a0_0 false _ A2.out).mono ?_); rintro e w39 ⟨rfl, hb⟩; refine ⟨_, rfl, ?_⟩; have n0_ := Aside0.mk (blk_below (zz21 BK397) hb); have n1_ := Aside0.mk (below_step (zz2 HB GE397) hb); clear BK397; clear HB; have BK397 := n0_; have HB := n1_; clear n0_ n1_; (try clear hb)))
  go_ret
  exact ⟨zz1, (zz2 HB GE397)⟩
end Go.Proofs.YtpnedbnpnekahaaDoor.P
end
section
namespace Go.Proofs.YtpnedbnpnekahaaDoor.P
open Go.RowKit Go.Proofs.YtpnedbnpnekahaaDoorW.PrintWords Go.Proofs.YtpnedbnpnekahaaDoorW.PrintLast Go.Proofs.YtpnedbnpnekahaaDoorW.PrintMore Go.Maps Go.ChangeMaps
set_option linter.unusedVariables false
set_option linter.unusedSimpArgs false
def pageD (p : S36) : DataW Unit := .agg [.lit (.string p.f0.data.toList), .lit (.string p.f1.data.toList), .lit (.string p.f2.data.toList), .lit (.int .i64 p.f3)]
def pageV (p : S36) : Value := .agg #[.string p.f0, .string p.f1, .string p.f2, .int .i64 p.f3]
def pageR (v : Value) : Option (DataW Unit × List MemPlace) :=
 match v with
 | .agg ⟨[.string a, .string b, .string c, .int .i64 d]⟩ => some (pageD ⟨a, b, c, d⟩, [])
 | _ => none
theorem pageR_mk (p : S36) : pageR (pageV p) = some (pageD p, []) := rfl
def keyL (s : ByteArray) : Lit := .string s.data.toList
def mapR : List S36 → DataW Unit
 | [] => .map []
 | p :: r => (mapR r).put (keyL p.f0) (pageD p)
def mapD (l : List S36) : DataW Unit := mapR l.reverse
theorem mapD_snoc (l : List S36) (p : S36) : mapD (l ++ [p]) = (mapD l).put (keyL p.f0) (pageD p) := by simp [mapD, mapR]
theorem keyL_lit (a : ByteArray) : WideAt.IsKeyLit (keyL a) := trivial
theorem keyL_inj {a b : ByteArray} (h : keyL a = keyL b) : a = b := by
 obtain ⟨⟨a⟩⟩ := a
 obtain ⟨⟨b⟩⟩ := b
 simp [keyL] at h
 rw [h]
theorem mapR_is : ∀ l, IsMap (mapR l)
 | [] => isMap_empty
 | p :: r => (mapR_is r).put _ _
theorem mapR_tidy : ∀ l, Tidy (mapR l)
 | [] => tidy_empty
 | p :: r => (mapR_tidy r).put (keyL_lit _) _
def pageAtR (a : ByteArray) : List S36 → Option S36
 | [] => none
 | p :: r => if p.f0 = a then some p else pageAtR a r
theorem mapR_has (a : ByteArray) : ∀ l, has (mapR l) (keyL a) = (pageAtR a l).isSome
 | [] => rfl
 | p :: r => by
  unfold mapR pageAtR
  by_cases h : p.f0 = a
  ·rw [if_pos h, ← h, has_put_same (mapR_is r) (keyL_lit _)]; rfl
  ·rw [if_neg h, has_put_other (fun e => h (keyL_inj e).symm)]
   exact mapR_has a r
theorem mapR_size (p : S36) (r : List S36) : size (mapR (p :: r)) = if (pageAtR p.f0 r).isSome then size (mapR r) else size (mapR r) + 1 := by
 show size ((mapR r).put _ _) = _
 rw [size_put (mapR_tidy r), mapR_has]
def pagesOk (k : Nat) : List S36 → Option Bool
 | [] => some true
 | p :: r => if p.f0.size ≤ 9223372036854775807 then (impl_pageOk.f k p.f0 p.f1 p.f2 p.f3).bind fun t => if t = true then pagesOk k r else some false else none
theorem map_below {w w' : World} {P : Program} {k : TypeId} {R : Value → Option (DataW Unit × List MemPlace)} {b n : Nat} {D : DataW Unit} (h : w.ownsMap P k R b n D) (hb : Below w.heap.size w w') : w'.ownsMap P k R b n D := by
 have hlt := h.lt
 obtain ⟨es, clock, h1, F, h2, h3⟩ := h
 exact ⟨es, clock, (hb.block b hlt).trans h1, F, h2, h3⟩
theorem grown_below {w W W' : World} (h : Below w.heap.size w W) (g : W.grownBy W' (some w.heap.size)) : Below w.heap.size w W' :=
 ⟨g.os.trans h.os, g.tape.trans h.tape, g.output.trans h.output, Nat.le_trans h.size g.size, fun i hi => (g.block i (Nat.lt_of_lt_of_le hi h.size) (by intro e; injection e with e; omega)).trans (h.block i hi)⟩
abbrev Pages (w : World) (b n : Nat) (D : DataW Unit) : Prop := w.ownsMap Tryd.prog 9 pageR b n D
set_option maxHeartbeats 8000000 in
set_option maxRecDepth 100000 in
theorem worldOf_walk (k : Nat) (A0 : Option Addr) (c0 : Nat) (l0 : List S36) (r : Bool) (w : World) (hr0 : Kd.C k36 w A0 l0.length l0) (hc0 : l0.length ≤ c0) (h12 : l0.length ≤ 12) (h : pagesOk k l0 = some r) :
  Calls Tryd.prog 16 #[.slice A0 l0.length c0] w fun e w' => Below w.heap.size w w' ∧
   (r = false → e = .returned (.tuple #[.map none, .bool false])) ∧ (r = true → ∃ b, w.heap.size ≤ b ∧ Pages w' b l0.length (mapD l0) ∧ e = .returned (.tuple #[.map (some b), .bool ((Maps.size (mapD l0) : Int) == (l0.length : Int))])) := by
 have hu := Tryd.underlying36
 have hle : decide ((12 : Int) < (l0.length : Int)) = false := decide_eq_false (by omega)
 have hmm := @run_makeMap Tryd.prog
 have H0 := Aside0.mk h
 clear h
 go_enter Tryd.func16, Tryd.ntmps16
 go_wp2
 go_loopg [13] l0.length (fun g v wx => ∃ i : Nat, v = .int .i64 i ∧ i + g = l0.length ∧ Aside0 (pagesOk k (l0.drop i) = some r) ∧ Aside0 (Pages wx w.heap.size i (mapD (l0.take i))) ∧ Aside0 (Below w.heap.size w wx))
 case atStart => exact ⟨0, rfl, by omega, ⟨by simpa using H0.out⟩, ⟨by simpa [mapD, mapR] using World.ownsMap_made w Tryd.prog 9 pageR⟩, ⟨(Below.refl _ _).alloc (Nat.le_refl _) _⟩⟩
 case round =>
  clear H0 hmm
  obtain ⟨i, rfl, hig, H, HM, HB⟩ := hrel
  cases gk with
  | zero =>
   obtain rfl : i = l0.length := by omega
   have hr : r = true := by
    have := H.out
    rw [List.drop_length] at this
    exact (Option.some.inj this).symm
   subst hr
   have hlt : decide ((l0.length : Int) < (l0.length : Int)) = false := decide_eq_false (by omega)
   have hlen := fun ty => HM.out.len Tryd.underlying40 ty
   go_wp2
   go_ret2
   refine ⟨HB.out, w.heap.size, Nat.le_refl _, ?_, ?_⟩
   ·have := HM.out
    rw [List.take_length] at this
    exact this
   ·rfl
  | succ g =>
   have hi : i < l0.length := by omega
   have hlt : decide ((i : Int) < (l0.length : Int)) = true := decide_eq_true (by omega)
   obtain ⟨ad, ea, hx0, hx1, hx2, hx3⟩ := at_T36 hr0 (i : Int) (by omega) (by omega)
   subst ea
   replace hx0 := (HB.out.cell (World.block_lt_of_cell? w _ hx0)).trans hx0
   replace hx1 := (HB.out.cell (World.block_lt_of_cell? w _ hx1)).trans hx1
   replace hx2 := (HB.out.cell (World.block_lt_of_cell? w _ hx2)).trans hx2
   replace hx3 := (HB.out.cell (World.block_lt_of_cell? w _ hx3)).trans hx3
   have p0 : (0 ≤ (i : Int)) = True := eq_true (by omega)
   have q0 : ((i : Int) < (l0.length : Int)) = True := eq_true (by omega)
   obtain ⟨p, hp⟩ : ∃ p, rd_T36 l0 (i : Int) = p := ⟨_, rfl⟩
   rw [hp] at hx0 hx1 hx2 hx3
   simp only [Int.toNat_natCast] at hx0 hx1 hx2 hx3
   have hd : l0.drop i = p :: l0.drop (i + 1) := by
    rw [List.drop_eq_getElem_cons hi]
    congr 1
    rw [← hp]
    simp [rd_T36, List.getD, List.getElem?_eq_getElem hi]
   have ht : l0.take (i + 1) = l0.take i ++ [p] := by
    rw [List.take_succ_eq_append_getElem hi]
    congr 2
    rw [← hp]
    simp [rd_T36, List.getD, List.getElem?_eq_getElem hi]
   have H1 := H.out
   rw [hd] at H1
   simp only [pagesOk] at H1
   by_cases hz : p.f0.size ≤ 9223372036854775807
   case neg => rw [if_neg hz] at H1; cases H1
   rw [if_pos hz] at H1
   have HK := Aside0.mk (Go.WideMaps.keyOf_string_mk (P := Tryd.prog) Tryd.underlying9 (s := p.f0) (by have : maxLen = 2 ^ 63 - 1 := rfl; omega))
   clear hz
   obtain ⟨t, A0', H2⟩ := Option.bind_eq_some_iff.mp H1
   have A := Aside0.mk A0'
   have HT := Aside0.mk ht
   clear H1 A0' H hd ht hp
   by_cases ct : t = true
   ·subst ct
    rw [if_pos rfl] at H2
    have H' := Aside0.mk H2
    clear H2
    go_wp2_with (first | ((with_reducible refine gate_dst (N := 6) rfl ?_); refine box_event ?hg (N := 6) ?hd (cs := #[.string (⟨#[]⟩ : ByteArray), .string (⟨#[]⟩ : ByteArray), .string (⟨#[]⟩ : ByteArray), .int .i64 0]) (t := 36) ?hr ?_; (case hd => rfl); (case hg => rfl); (case hr => first | (go_simp; done) | (go_simp; rfl)); intro gb hg w6 hbox hb; have BK := Aside0.mk hbox; have NB := Aside0.mk (show gb ≠ w.heap.size from by rw [hg]; exact Nat.ne_of_gt HM.out.lt); have GE := Aside0.mk (show w.heap.size ≤ gb from by rw [hg]; exact below_size HB.out); replace HM := Aside0.mk (map_below HM.out hb); replace HB := Aside0.mk (below_step HB.out hb); replace hx0 := (hb.cell (World.block_lt_of_cell? _ _ hx0)).trans hx0; replace hx1 := (hb.cell (World.block_lt_of_cell? _ _ hx1)).trans hx1; replace hx2 := (hb.cell (World.block_lt_of_cell? _ _ hx2)).trans hx2; replace hx3 := (hb.cell (World.block_lt_of_cell? _ _ hx3)).trans hx3; clear hb hg hbox; obtain ⟨hc0, hc1, hc2, hc3⟩ : w6.cell? ⟨gb, 0, none⟩ = some (.string (⟨#[]⟩ : ByteArray)) ∧ w6.cell? ⟨gb, 1, none⟩ = some (.string (⟨#[]⟩ : ByteArray)) ∧ w6.cell? ⟨gb, 2, none⟩ = some (.string (⟨#[]⟩ : ByteArray)) ∧ w6.cell? ⟨gb, 3, none⟩ = some (.int .i64 0) := ⟨(blk_cell BK.out 0).trans rfl, (blk_cell BK.out 1).trans rfl, (blk_cell BK.out 2).trans rfl, (blk_cell BK.out 3).trans rfl⟩; have hf0 := blk_frozen BK.out 0; have hf1 := blk_frozen BK.out 1; have hf2 := blk_frozen BK.out 2; have hf3 := blk_frozen BK.out 3) | (go_at_call 22; (with_reducible refine (impl_pageOk.calls k p.f0 p.f1 p.f2 p.f3 true _ A.out).mono ?_); rintro e w8 ⟨rfl, hb⟩; replace HM := Aside0.mk (map_below ((((HM.out.setCell (a := ⟨gb, 0, none⟩) NB.out.symm _).setCell (a := ⟨gb, 1, none⟩) NB.out.symm _).setCell (a := ⟨gb, 2, none⟩) NB.out.symm _).setCell (a := ⟨gb, 3, none⟩) NB.out.symm _) hb); replace BK := Aside0.mk (blk_below (g := gb) (o := .cells #[.string p.f0, .string p.f1, .string p.f2, .int .i64 p.f3] 36 (0, 0)) (by refine blk_put (cs := #[.string p.f0, .string p.f1, .string p.f2, .int .i64 0]) ?_ 3 _ rfl; refine blk_put (cs := #[.string p.f0, .string p.f1, .string (⟨#[]⟩ : ByteArray), .int .i64 0]) ?_ 2 _ rfl; refine blk_put (cs := #[.string p.f0, .string (⟨#[]⟩ : ByteArray), .string (⟨#[]⟩ : ByteArray), .int .i64 0]) ?_ 1 _ rfl; refine blk_put (cs := #[.string (⟨#[]⟩ : ByteArray), .string (⟨#[]⟩ : ByteArray), .string (⟨#[]⟩ : ByteArray), .int .i64 0]) ?_ 0 _ rfl; exact BK.out) hb); replace HB := Aside0.mk (below_step (below_set (below_set (below_set (below_set HB.out GE.out) GE.out) GE.out) GE.out) hb); clear hb hx0 hx1 hx2 hx3 hc0 hc1 hc2 hc3 hf0 hf1 hf2 hf3; obtain ⟨hc0, hc1, hc2, hc3⟩ : w8.cell? ⟨gb, 0, none⟩ = some (.string p.f0) ∧ w8.cell? ⟨gb, 1, none⟩ = some (.string p.f1) ∧ w8.cell? ⟨gb, 2, none⟩ = some (.string p.f2) ∧ w8.cell? ⟨gb, 3, none⟩ = some (.int .i64 p.f3) := ⟨(blk_cell BK.out 0).trans rfl, (blk_cell BK.out 1).trans rfl, (blk_cell BK.out 2).trans rfl, (blk_cell BK.out 3).trans rfl⟩) | (at_mapUpdate; refine wpList_mapUpdate_own _ rfl _ _ _ 40 rfl 9 36 (string_keyed Tryd.underlying9) Tryd.underlying40 pageR w.heap.size i (mapD (l0.take i)) rfl HM.out (by have : maxLen = 2 ^ 63 - 1 := rfl; omega) _ _ (keyL p.f0) rfl rfl HK.out (pageD p) [] (pageR_mk p) ?_; intro w9 hown hgrow))
    go_roundg g
    case measure => omega
    case rel => exact ⟨i + 1, by simp, by omega, H', ⟨by rw [HT.out, mapD_snoc]; exact hown⟩, ⟨grown_below HB.out hgrow⟩⟩
   ·obtain rfl : t = false := by simpa using ct
    rw [if_neg (by decide)] at H2
    obtain rfl := Option.some.inj H2
    go_wp2_with (first | ((with_reducible refine gate_dst (N := 6) rfl ?_); refine box_event ?hg (N := 6) ?hd (cs := #[.string (⟨#[]⟩ : ByteArray), .string (⟨#[]⟩ : ByteArray), .string (⟨#[]⟩ : ByteArray), .int .i64 0]) (t := 36) ?hr ?_; (case hd => rfl); (case hg => rfl); (case hr => first | (go_simp; done) | (go_simp; rfl)); intro gb hg w6 hbox hb; have BK := Aside0.mk hbox; have NB := Aside0.mk (show gb ≠ w.heap.size from by rw [hg]; exact Nat.ne_of_gt HM.out.lt); have GE := Aside0.mk (show w.heap.size ≤ gb from by rw [hg]; exact below_size HB.out); replace HM := Aside0.mk (map_below HM.out hb); replace HB := Aside0.mk (below_step HB.out hb); replace hx0 := (hb.cell (World.block_lt_of_cell? _ _ hx0)).trans hx0; replace hx1 := (hb.cell (World.block_lt_of_cell? _ _ hx1)).trans hx1; replace hx2 := (hb.cell (World.block_lt_of_cell? _ _ hx2)).trans hx2; replace hx3 := (hb.cell (World.block_lt_of_cell? _ _ hx3)).trans hx3; clear hb hg hbox; obtain ⟨hc0, hc1, hc2, hc3⟩ : w6.cell? ⟨gb, 0, none⟩ = some (.string (⟨#[]⟩ : ByteArray)) ∧ w6.cell? ⟨gb, 1, none⟩ = some (.string (⟨#[]⟩ : ByteArray)) ∧ w6.cell? ⟨gb, 2, none⟩ = some (.string (⟨#[]⟩ : ByteArray)) ∧ w6.cell? ⟨gb, 3, none⟩ = some (.int .i64 0) := ⟨(blk_cell BK.out 0).trans rfl, (blk_cell BK.out 1).trans rfl, (blk_cell BK.out 2).trans rfl, (blk_cell BK.out 3).trans rfl⟩; have hf0 := blk_frozen BK.out 0; have hf1 := blk_frozen BK.out 1; have hf2 := blk_frozen BK.out 2; have hf3 := blk_frozen BK.out 3) | (go_at_call 22; (with_reducible refine (impl_pageOk.calls k p.f0 p.f1 p.f2 p.f3 false _ A.out).mono ?_); rintro e w8 ⟨rfl, hb⟩; replace HM := Aside0.mk (map_below ((((HM.out.setCell (a := ⟨gb, 0, none⟩) NB.out.symm _).setCell (a := ⟨gb, 1, none⟩) NB.out.symm _).setCell (a := ⟨gb, 2, none⟩) NB.out.symm _).setCell (a := ⟨gb, 3, none⟩) NB.out.symm _) hb); replace BK := Aside0.mk (blk_below (g := gb) (o := .cells #[.string p.f0, .string p.f1, .string p.f2, .int .i64 p.f3] 36 (0, 0)) (by refine blk_put (cs := #[.string p.f0, .string p.f1, .string p.f2, .int .i64 0]) ?_ 3 _ rfl; refine blk_put (cs := #[.string p.f0, .string p.f1, .string (⟨#[]⟩ : ByteArray), .int .i64 0]) ?_ 2 _ rfl; refine blk_put (cs := #[.string p.f0, .string (⟨#[]⟩ : ByteArray), .string (⟨#[]⟩ : ByteArray), .int .i64 0]) ?_ 1 _ rfl; refine blk_put (cs := #[.string (⟨#[]⟩ : ByteArray), .string (⟨#[]⟩ : ByteArray), .string (⟨#[]⟩ : ByteArray), .int .i64 0]) ?_ 0 _ rfl; exact BK.out) hb); replace HB := Aside0.mk (below_step (below_set (below_set (below_set (below_set HB.out GE.out) GE.out) GE.out) GE.out) hb); clear hb hx0 hx1 hx2 hx3 hc0 hc1 hc2 hc3 hf0 hf1 hf2 hf3; obtain ⟨hc0, hc1, hc2, hc3⟩ : w8.cell? ⟨gb, 0, none⟩ = some (.string p.f0) ∧ w8.cell? ⟨gb, 1, none⟩ = some (.string p.f1) ∧ w8.cell? ⟨gb, 2, none⟩ = some (.string p.f2) ∧ w8.cell? ⟨gb, 3, none⟩ = some (.int .i64 p.f3) := ⟨(blk_cell BK.out 0).trans rfl, (blk_cell BK.out 1).trans rfl, (blk_cell BK.out 2).trans rfl, (blk_cell BK.out 3).trans rfl⟩))
    go_ret2
    exact ⟨HB.out, rfl⟩
def impl_worldOf.f (k : Nat) (l0 : List S36) : Option Bool := if 12 < l0.length then some false else pagesOk k l0
set_option maxRecDepth 100000 in
theorem impl_worldOf.calls (k : Nat) (A0 : Option Addr) (c0 : Nat) (l0 : List S36) (r : Bool) (w : World) (hr0 : Kd.C k36 w A0 l0.length l0) (hc0 : l0.length ≤ c0) (h : impl_worldOf.f k l0 = some r) :
  Calls Tryd.prog 16 #[.slice A0 l0.length c0] w fun e w' => Below w.heap.size w w' ∧
   (r = false → e = .returned (.tuple #[.map none, .bool false])) ∧ (r = true → ∃ b, w.heap.size ≤ b ∧ Pages w' b l0.length (mapD l0) ∧ e = .returned (.tuple #[.map (some b), .bool ((Maps.size (mapD l0) : Int) == (l0.length : Int))])) := by
 unfold impl_worldOf.f at h
 by_cases h12 : 12 < l0.length
 ·rw [if_pos h12] at h
  obtain rfl := Option.some.inj h
  have hle : decide ((12 : Int) < (l0.length : Int)) = true := decide_eq_true (by omega)
  clear h
  go_enter Tryd.func16, Tryd.ntmps16
  go_wp2
  go_ret2
  exact ⟨Below.refl _ _, fun _ => rfl, fun h => by cases h⟩
 ·rw [if_neg h12] at h
  exact worldOf_walk k A0 c0 l0 r w hr0 hc0 (by omega) h
def impl_WorldOk.f (k : Nat) (l0 : List S36) : Option Bool := (impl_worldOf.f k l0).bind fun t => if t = true then some ((Maps.size (mapD l0) : Int) == (l0.length : Int)) else some false
set_option maxRecDepth 100000 in
theorem impl_WorldOk.calls (k : Nat) (A0 : Option Addr) (c0 : Nat) (l0 : List (S36)) (r : Bool) (w : World) (hr0 : Kd.C k36 w A0 l0.length l0) (hc0 : l0.length ≤ c0) (h : impl_WorldOk.f k l0 = some r) :
  Calls Tryd.prog 8 #[.slice A0 l0.length c0] w fun e w' => e = .returned (.bool r) ∧ Below w.heap.size w w' := by
 unfold impl_WorldOk.f at h
 obtain ⟨t, A, H⟩ := Option.bind_eq_some_iff.mp h
 clear h
 cases t with
 | false =>
  rw [if_neg (by decide)] at H
  obtain rfl := Option.some.inj H
  go_enter Tryd.func8, Tryd.ntmps8
  go_wp2_with (first | (go_at_call 16; refine (impl_worldOf.calls k A0 c0 l0 false _ hr0 hc0 A).mono ?_; rintro e w1 ⟨hb, h0, h1⟩; obtain rfl := h0 rfl; clear h0 h1; have HB := Aside0.mk hb; clear hb))
  go_ret
  exact ⟨rfl, HB.out⟩
 | true =>
  rw [if_pos rfl] at H
  obtain rfl := Option.some.inj H
  go_enter Tryd.func8, Tryd.ntmps8
  go_wp2_with (first | (go_at_call 16; refine (impl_worldOf.calls k A0 c0 l0 true _ hr0 hc0 A).mono ?_; rintro e w1 ⟨hb, h0, h1⟩; obtain ⟨b, _, _, rfl⟩ := h1 rfl; clear h0 h1; have HB := Aside0.mk hb; clear hb))
  go_ret
  exact ⟨rfl, HB.out⟩
end Go.Proofs.YtpnedbnpnekahaaDoor.P
end
section
namespace Go.Proofs.YtpnedbnpnekahaaDoor.P
open Go.RowKit Go.Proofs.YtpnedbnpnekahaaDoorW.PrintWords Go.Proofs.YtpnedbnpnekahaaDoorW.PrintLast Go.Proofs.YtpnedbnpnekahaaDoorW.PrintMore
attribute [local go_sem] max2_int min2_int max_two min_two max_three min_three max_four min_four
set_option linter.unusedVariables false
set_option linter.unusedSimpArgs false
def laws_FnExactWorldOk.f (k : Nat) (l0 : List (S34)) : Option (Bool) := (laws_szPageS.f k l0 1048576).bind fun t405 => (if t405 < 0 then (some true) else ((laws_toPageS.f k l0).bind fun t406 => ((spec_WorldOk.f k t406).bind fun t409 => ((laws_toPageS.f k l0).bind fun t410 => ((impl_WorldOk.f k t410).bind fun t413 => (if (t413 != t409) = true then (some false) else ((laws_toPageS.f k l0).bind fun t414 => ((laws_eqPageS.f k t410 t414).bind fun t417 => (if t417 = true then (some true) else (some false))))))))))
set_option maxHeartbeats 8000000 in
set_option maxRecDepth 100000 in
theorem laws_FnExactWorldOk.calls (k : Nat) (A0 : Option Addr) (c0 : Nat) (l0 : List (S34)) (r : Bool) (w : World) (hr0 : Kd.C k34 w A0 l0.length l0) (hc0 : l0.length ≤ c0) (h : laws_FnExactWorldOk.f k l0 = some r) :
  Calls Tryd.prog 3 #[.slice A0 l0.length c0] w fun e w' => e = .returned (.bool r) ∧ Below w.heap.size w w' := by
 have HR0 := Aside0.mk hr0;have HC0 := Aside0.mk hc0;clear hr0 hc0;have HB := Aside0.mk (Below.refl w.heap.size w);have H : ((laws_szPageS.f k l0 1048576).bind fun t405 => (if t405 < 0 then (some true) else ((laws_toPageS.f k l0).bind fun t406 => ((spec_WorldOk.f k t406).bind fun t409 => ((laws_toPageS.f k l0).bind fun t410 => ((impl_WorldOk.f k t410).bind fun t413 => (if (t413 != t409) = true then (some false) else ((laws_toPageS.f k l0).bind fun t414 => ((laws_eqPageS.f k t410 t414).bind fun t417 => (if t417 = true then (some true) else (some false))))))))))) = some r := h;clear h;replace H := bindA H;obtain ⟨t405, A2, H⟩ := H;by_cases c3 : t405 < 0
 ·rw [if_pos c3] at H
  have c3b0 : decide (t405 < 0) = true := decide_eq_true c3;clear c3;obtain rfl := Option.some.inj H;go_enter Tryd.func3, Tryd.ntmps3;go_wp2_with (first | ((with_reducible refine gate_callee (f := 5) rfl ?_); refine gsL (some 9) Tryd.func5 #[.slice A0 l0.length c0, .int .i64 1048576] ?_; (with_reducible refine (laws_szPageS.calls k _ _ l0 1048576 t405 _ ?side1 ?side2 A2.out).mono ?_); (case side1 => exact (zz98 HR0)); (case side2 => exact HC0.out); rintro e w4 ⟨rfl, hb⟩; refine ⟨_, rfl, ?_⟩; have n0_ := Aside0.mk (below_step (zz0 HB) hb); clear HB; have HB := n0_; clear n0_; (try clear hb)))
  go_ret
  exact ⟨zz1, (zz0 HB)⟩
 ·rw [if_neg c3] at H
  have c3b0 : decide (t405 < 0) = false := decide_eq_false c3;clear c3;replace H := bindA H;obtain ⟨t406, A5, H⟩ := H;replace H := bindA H;obtain ⟨t409, A6, H⟩ := H;replace H := bindA H;obtain ⟨t410, A7, H⟩ := H;replace H := bindA H;obtain ⟨t413, A8, H⟩ := H;by_cases c9 : (t413 != t409) = true
  ·rw [if_pos c9] at H
   have c9b0 : (t413 != t409) = true := c9;(try (have c9b1 : decide (t413 = t409) = false := by simpa using c9))
   (try (have c9b2 : (t413 == t409) = false := by simpa using c9))
   (try (have c9b3 : ¬ (t413 = t409) := by simpa using c9))
   clear c9;obtain rfl := Option.some.inj H;go_enter Tryd.func3, Tryd.ntmps3;go_wp2_with (first | ((with_reducible refine gate_callee (f := 5) rfl ?_); refine gsL (some 9) Tryd.func5 #[.slice A0 l0.length c0, .int .i64 1048576] ?_; (with_reducible refine (laws_szPageS.calls k _ _ l0 1048576 t405 _ ?side1 ?side2 A2.out).mono ?_); (case side1 => exact (zz98 HR0)); (case side2 => exact HC0.out); rintro e w10 ⟨rfl, hb⟩; refine ⟨_, rfl, ?_⟩; have n0_ := Aside0.mk (below_step (zz0 HB) hb); clear HB; have HB := n0_; clear n0_; (try clear hb)) | ((with_reducible refine gate_callee (f := 7) rfl ?_); refine gsL (some 13) Tryd.func7 #[.slice A0 l0.length c0] ?_; (with_reducible refine (laws_toPageS.calls k _ _ l0 t406 _ ?side1 ?side2 A5.out).mono ?_); (case side1 => exact (zz24 HR0 HB)); (case side2 => exact HC0.out); rintro e w11 ⟨v407, rfl, ho0, hb⟩; refine ⟨_, rfl, ?_⟩; have n0_ := Aside0.mk (Kd.R_lower ho0 (below_size (zz0 HB))); have n1_ := Aside0.mk (below_step (zz0 HB) hb); clear HB; have HO408 := n0_; have HB := n1_; clear n0_ n1_; (try clear hb ho0); obtain ⟨Ao12, co12, eo12⟩ := Kd.R_slice HO408.out; subst eo12) | ((with_reducible refine gate_callee (f := 6) rfl ?_); refine gsL (some 14) Tryd.func6 #[.slice Ao12 t406.length co12] ?_; (with_reducible refine (spec_WorldOk.calls k _ _ t406 t409 _ ?side1 ?side2 A6.out).mono ?_); (case side1 => exact (zz39 HO408)); (case side2 => exact (Kd.R_reads' HO408.out).2.1); rintro e w13 ⟨rfl, hb⟩; refine ⟨_, rfl, ?_⟩; have n0_ := Aside0.mk (Kd.R_below (zz28 HO408) hb); have n1_ := Aside0.mk (below_step (zz0 HB) hb); clear HO408; clear HB; have HO408 := n0_; have HB := n1_; clear n0_ n1_; (try clear hb)) | ((with_reducible refine gate_callee (f := 7) rfl ?_); refine gsL (some 16) Tryd.func7 #[.slice A0 l0.length c0] ?_; (with_reducible refine (laws_toPageS.calls k _ _ l0 t410 _ ?side1 ?side2 A7.out).mono ?_); (case side1 => exact (zz24 HR0 HB)); (case side2 => exact HC0.out); rintro e w14 ⟨v411, rfl, ho0, hb⟩; refine ⟨_, rfl, ?_⟩; have n0_ := Aside0.mk (Kd.R_elder' (zz28 HO408) (Kd.R_base ho0) hb); have n1_ := Aside0.mk (Kd.R_lower (Kd.R_new' ho0 (Kd.R_lt (zz28 HO408))) (below_size (zz0 HB))); have n2_ := Aside0.mk (below_step (zz0 HB) hb); clear HO408; clear HB; have HO408 := n0_; have HO412 := n1_; have HB := n2_; clear n0_ n1_ n2_; (try clear hb ho0); obtain ⟨Ao15, co15, eo15⟩ := Kd.R_slice HO412.out; subst eo15) | ((with_reducible refine gate_callee (f := 8) rfl ?_); refine gsL (some 18) Tryd.func8 #[.slice Ao15 t410.length co15] ?_; (with_reducible refine (impl_WorldOk.calls k _ _ t410 t413 _ ?side1 ?side2 A8.out).mono ?_); (case side1 => exact (zz39 HO412)); (case side2 => exact (Kd.R_reads' HO412.out).2.1); rintro e w16 ⟨rfl, hb⟩; refine ⟨_, rfl, ?_⟩; have n0_ := Aside0.mk (Kd.R_below (zz28 HO408) hb); have n1_ := Aside0.mk (Kd.R_below (zz28 HO412) hb); have n2_ := Aside0.mk (below_step (zz0 HB) hb); clear HO408; clear HO412; clear HB; have HO408 := n0_; have HO412 := n1_; have HB := n2_; clear n0_ n1_ n2_; (try clear hb)))
   go_ret
   exact ⟨zz1, (zz0 HB)⟩
  ·rw [if_neg c9] at H
   have c9b0 : (t413 != t409) = false := by simpa using c9
   (try (have c9b1 : decide (t413 = t409) = true := by simpa using c9))
   (try (have c9b2 : (t413 == t409) = true := by simpa using c9))
   clear c9;replace H := bindA H;obtain ⟨t414, A17, H⟩ := H;replace H := bindA H;obtain ⟨t417, A18, H⟩ := H;by_cases c19 : t417 = true
   ·subst c19
    rw [if_pos rfl] at H;obtain rfl := Option.some.inj H;go_enter Tryd.func3, Tryd.ntmps3;go_wp2_with (first | ((with_reducible refine gate_callee (f := 5) rfl ?_); refine gsL (some 9) Tryd.func5 #[.slice A0 l0.length c0, .int .i64 1048576] ?_; (with_reducible refine (laws_szPageS.calls k _ _ l0 1048576 t405 _ ?side1 ?side2 A2.out).mono ?_); (case side1 => exact (zz98 HR0)); (case side2 => exact HC0.out); rintro e w20 ⟨rfl, hb⟩; refine ⟨_, rfl, ?_⟩; have n0_ := Aside0.mk (below_step (zz0 HB) hb); clear HB; have HB := n0_; clear n0_; (try clear hb)) | ((with_reducible refine gate_callee (f := 7) rfl ?_); refine gsL (some 13) Tryd.func7 #[.slice A0 l0.length c0] ?_; (with_reducible refine (laws_toPageS.calls k _ _ l0 t406 _ ?side1 ?side2 A5.out).mono ?_); (case side1 => exact (zz24 HR0 HB)); (case side2 => exact HC0.out); rintro e w21 ⟨v407, rfl, ho0, hb⟩; refine ⟨_, rfl, ?_⟩; have n0_ := Aside0.mk (Kd.R_lower ho0 (below_size (zz0 HB))); have n1_ := Aside0.mk (below_step (zz0 HB) hb); clear HB; have HO408 := n0_; have HB := n1_; clear n0_ n1_; (try clear hb ho0); obtain ⟨Ao22, co22, eo22⟩ := Kd.R_slice HO408.out; subst eo22) | ((with_reducible refine gate_callee (f := 6) rfl ?_); refine gsL (some 14) Tryd.func6 #[.slice Ao22 t406.length co22] ?_; (with_reducible refine (spec_WorldOk.calls k _ _ t406 t409 _ ?side1 ?side2 A6.out).mono ?_); (case side1 => exact (zz39 HO408)); (case side2 => exact (Kd.R_reads' HO408.out).2.1); rintro e w23 ⟨rfl, hb⟩; refine ⟨_, rfl, ?_⟩; have n0_ := Aside0.mk (Kd.R_below (zz28 HO408) hb); have n1_ := Aside0.mk (below_step (zz0 HB) hb); clear HO408; clear HB; have HO408 := n0_; have HB := n1_; clear n0_ n1_; (try clear hb)) | ((with_reducible refine gate_callee (f := 7) rfl ?_); refine gsL (some 16) Tryd.func7 #[.slice A0 l0.length c0] ?_; (with_reducible refine (laws_toPageS.calls k _ _ l0 t410 _ ?side1 ?side2 A7.out).mono ?_); (case side1 => exact (zz24 HR0 HB)); (case side2 => exact HC0.out); rintro e w24 ⟨v411, rfl, ho0, hb⟩; refine ⟨_, rfl, ?_⟩; have n0_ := Aside0.mk (Kd.R_elder' (zz28 HO408) (Kd.R_base ho0) hb); have n1_ := Aside0.mk (Kd.R_lower (Kd.R_new' ho0 (Kd.R_lt (zz28 HO408))) (below_size (zz0 HB))); have n2_ := Aside0.mk (below_step (zz0 HB) hb); clear HO408; clear HB; have HO408 := n0_; have HO412 := n1_; have HB := n2_; clear n0_ n1_ n2_; (try clear hb ho0); obtain ⟨Ao25, co25, eo25⟩ := Kd.R_slice HO412.out; subst eo25) | ((with_reducible refine gate_callee (f := 8) rfl ?_); refine gsL (some 18) Tryd.func8 #[.slice Ao25 t410.length co25] ?_; (with_reducible refine (impl_WorldOk.calls k _ _ t410 t413 _ ?side1 ?side2 A8.out).mono ?_); (case side1 => exact (zz39 HO412)); (case side2 => exact (Kd.R_reads' HO412.out).2.1); rintro e w26 ⟨rfl, hb⟩; refine ⟨_, rfl, ?_⟩; have n0_ := Aside0.mk (Kd.R_below (zz28 HO408) hb); have n1_ := Aside0.mk (Kd.R_below (zz28 HO412) hb); have n2_ := Aside0.mk (below_step (zz0 HB) hb); clear HO408; clear HO412; clear HB; have HO408 := n0_; have HO412 := n1_; have HB := n2_; clear n0_ n1_ n2_; (try clear hb)) | ((with_reducible refine gate_callee (f := 7) rfl ?_); refine gsL (some 24) Tryd.func7 #[.slice A0 l0.length c0] ?_; (with_reducible refine (laws_toPageS.calls k _ _ l0 t414 _ ?side1 ?side2 A17.out).mono ?_); (case side1 => exact (zz24 HR0 HB)); (case side2 => exact HC0.out); rintro e w27 ⟨v415, rfl, ho0, hb⟩; refine ⟨_, rfl, ?_⟩; have n0_ := Aside0.mk (Kd.R_elder' (zz28 HO408) (Kd.R_base ho0) hb); have n1_ := Aside0.mk (Kd.R_elder' (zz28 HO412) (Kd.R_base ho0) hb); have n2_ := Aside0.mk (Kd.R_lower (Kd.R_new' (Kd.R_new' ho0 (Kd.R_lt (zz28 HO408))) (Kd.R_lt (zz28 HO412))) (below_size (zz0 HB))); have n3_ := Aside0.mk (below_step (zz0 HB) hb); clear HO408; clear HO412; clear HB; have HO408 := n0_; have HO412 := n1_; have HO416 := n2_; have HB := n3_; clear n0_ n1_ n2_ n3_; (try clear hb ho0); obtain ⟨Ao28, co28, eo28⟩ := Kd.R_slice HO416.out; subst eo28) | ((with_reducible refine gate_callee (f := 9) rfl ?_); refine gsL (some 25) Tryd.func9 #[.slice Ao25 t410.length co25, .slice Ao28 t414.length co28] ?_; (with_reducible refine (laws_eqPageS.calls k _ _ t410 _ _ t414 true _ ?side1 ?side2 ?side3 ?side4 A18.out).mono ?_); (case side1 => exact (zz39 HO412)); (case side2 => exact (Kd.R_reads' HO412.out).2.1); (case side3 => exact (zz39 HO416)); (case side4 => exact (Kd.R_reads' HO416.out).2.1); rintro e w29 ⟨rfl, hb⟩; refine ⟨_, rfl, ?_⟩; have n0_ := Aside0.mk (Kd.R_below (zz28 HO408) hb); have n1_ := Aside0.mk (Kd.R_below (zz28 HO412) hb); have n2_ := Aside0.mk (Kd.R_below (zz28 HO416) hb); have n3_ := Aside0.mk (below_step (zz0 HB) hb); clear HO408; clear HO412; clear HO416; clear HB; have HO408 := n0_; have HO412 := n1_; have HO416 := n2_; have HB := n3_; clear n0_ n1_ n2_ n3_; (try clear hb)))
    go_ret
    exact ⟨zz1, (zz0 HB)⟩
   ·replace c19 := Bool.eq_false_iff.mpr c19
    subst c19;rw [if_neg (show ¬ (false = true) by decide)] at H;obtain rfl := Option.some.inj H;go_enter Tryd.func3, Tryd.ntmps3;go_wp2_with (first | ((with_reducible refine gate_callee (f := 5) rfl ?_); refine gsL (some 9) Tryd.func5 #[.slice A0 l0.length c0, .int .i64 1048576] ?_; (with_reducible refine (laws_szPageS.calls k _ _ l0 1048576 t405 _ ?side1 ?side2 A2.out).mono ?_); (case side1 => exact (zz98 HR0)); (case side2 => exact HC0.out); rintro e w30 ⟨rfl, hb⟩; refine ⟨_, rfl, ?_⟩; have n0_ := Aside0.mk (below_step (zz0 HB) hb); clear HB; have HB := n0_; clear n0_; (try clear hb)) | ((with_reducible refine gate_callee (f := 7) rfl ?_); refine gsL (some 13) Tryd.func7 #[.slice A0 l0.length c0] ?_; (with_reducible refine (laws_toPageS.calls k _ _ l0 t406 _ ?side1 ?side2 A5.out).mono ?_); (case side1 => exact (zz24 HR0 HB)); (case side2 => exact HC0.out); rintro e w31 ⟨v407, rfl, ho0, hb⟩; refine ⟨_, rfl, ?_⟩; have n0_ := Aside0.mk (Kd.R_lower ho0 (below_size (zz0 HB))); have n1_ := Aside0.mk (below_step (zz0 HB) hb); clear HB; have HO408 := n0_; have HB := n1_; clear n0_ n1_; (try clear hb ho0); obtain ⟨Ao32, co32, eo32⟩ := Kd.R_slice HO408.out; subst eo32) | ((with_reducible refine gate_callee (f := 6) rfl ?_); refine gsL (some 14) Tryd.func6 #[.slice Ao32 t406.length co32] ?_; (with_reducible refine (spec_WorldOk.calls k _ _ t406 t409 _ ?side1 ?side2 A6.out).mono ?_); (case side1 => exact (zz39 HO408)); (case side2 => exact (Kd.R_reads' HO408.out).2.1); rintro e w33 ⟨rfl, hb⟩; refine ⟨_, rfl, ?_⟩; have n0_ := Aside0.mk (Kd.R_below (zz28 HO408) hb); have n1_ := Aside0.mk (below_step (zz0 HB) hb); clear HO408; clear HB; have HO408 := n0_; have HB := n1_; clear n0_ n1_; (try clear hb)) | ((with_reducible refine gate_callee (f := 7) rfl ?_); refine gsL (some 16) Tryd.func7 #[.slice A0 l0.length c0] ?_; (with_reducible refine (laws_toPageS.calls k _ _ l0 t410 _ ?side1 ?side2 A7.out).mono ?_); (case side1 => exact (zz24 HR0 HB)); (case side2 => exact HC0.out); rintro e w34 ⟨v411, rfl, ho0, hb⟩; refine ⟨_, rfl, ?_⟩; have n0_ := Aside0.mk (Kd.R_elder' (zz28 HO408) (Kd.R_base ho0) hb); have n1_ := Aside0.mk (Kd.R_lower (Kd.R_new' ho0 (Kd.R_lt (zz28 HO408))) (below_size (zz0 HB))); have n2_ := Aside0.mk (below_step (zz0 HB) hb); clear HO408; clear HB; have HO408 := n0_; have HO412 := n1_; have HB := n2_; clear n0_ n1_ n2_; (try clear hb ho0); obtain ⟨Ao35, co35, eo35⟩ := Kd.R_slice HO412.out; subst eo35) | ((with_reducible refine gate_callee (f := 8) rfl ?_); refine gsL (some 18) Tryd.func8 #[.slice Ao35 t410.length co35] ?_; (with_reducible refine (impl_WorldOk.calls k _ _ t410 t413 _ ?side1 ?side2 A8.out).mono ?_); (case side1 => exact (zz39 HO412)); (case side2 => exact (Kd.R_reads' HO412.out).2.1); rintro e w36 ⟨rfl, hb⟩; refine ⟨_, rfl, ?_⟩; have n0_ := Aside0.mk (Kd.R_below (zz28 HO408) hb); have n1_ := Aside0.mk (Kd.R_below (zz28 HO412) hb); have n2_ := Aside0.mk (below_step (zz0 HB) hb); clear HO408; clear HO412; clear HB; have HO408 := n0_; have HO412 := n1_; have HB := n2_; clear n0_ n1_ n2_; (try clear hb)) | ((with_reducible refine gate_callee (f := 7) rfl ?_); refine gsL (some 24) Tryd.func7 #[.slice A0 l0.length c0] ?_; (with_reducible refine (laws_toPageS.calls k _ _ l0 t414 _ ?side1 ?side2 A17.out).mono ?_); (case side1 => exact (zz24 HR0 HB)); (case side2 => exact HC0.out); rintro e w37 ⟨v415, rfl, ho0, hb⟩; refine ⟨_, rfl, ?_⟩; have n0_ := Aside0.mk (Kd.R_elder' (zz28 HO408) (Kd.R_base ho0) hb); have n1_ := Aside0.mk (Kd.R_elder' (zz28 HO412) (Kd.R_base ho0) hb); have n2_ := Aside0.mk (Kd.R_lower (Kd.R_new' (Kd.R_new' ho0 (Kd.R_lt (zz28 HO408))) (Kd.R_lt (zz28 HO412))) (below_size (zz0 HB))); have n3_ := Aside0.mk (below_step (zz0 HB) hb); clear HO408; clear HO412; clear HB; have HO408 := n0_; have HO412 := n1_; have HO416 := n2_; have HB := n3_; clear n0_ n1_ n2_ n3_; (try clear hb ho0); obtain ⟨Ao38, co38, eo38⟩ := Kd.R_slice HO416.out; subst eo38) | ((with_reducible refine gate_callee (f := 9) rfl ?_); refine gsL (some 25) Tryd.func9 #[.slice Ao35 t410.length co35, .slice Ao38 t414.length co38] ?_; (with_reducible refine (laws_eqPageS.calls k _ _ t410 _ _ t414 false _ ?side1 ?side2 ?side3 ?side4 A18.out).mono ?_); (case side1 => exact (zz39 HO412)); (case side2 => exact (Kd.R_reads' HO412.out).2.1); (case side3 => exact (zz39 HO416)); (case side4 => exact (Kd.R_reads' HO416.out).2.1); rintro e w39 ⟨rfl, hb⟩; refine ⟨_, rfl, ?_⟩; have n0_ := Aside0.mk (Kd.R_below (zz28 HO408) hb); have n1_ := Aside0.mk (Kd.R_below (zz28 HO412) hb); have n2_ := Aside0.mk (Kd.R_below (zz28 HO416) hb); have n3_ := Aside0.mk (below_step (zz0 HB) hb); clear HO408; clear HO412; clear HO416; clear HB; have HO408 := n0_; have HO412 := n1_; have HO416 := n2_; have HB := n3_; clear n0_ n1_ n2_ n3_; (try clear hb)))
    go_ret
    exact ⟨zz1, (zz0 HB)⟩
end Go.Proofs.YtpnedbnpnekahaaDoor.P
end
section
namespace Go.Proofs.YtpnedbnpnekahaaDoor.Ad
open Go.RowKit Go.Proofs.YtpnedbnpnekahaaDoor.P Go.Proofs.YtpnedbnpnekahaaDoorW.PrintWords Go.Proofs.YtpnedbnpnekahaaDoorW.PrintLast Go.Proofs.YtpnedbnpnekahaaDoorW.PrintMore Go.Proofs.YtpnedbnpnekahaaDoor.B
set_option linter.unusedVariables false
set_option linter.unusedSimpArgs false
theorem hex_all : ∀ n : Nat, n < 256 → spec_l1Hex.f 2 (n : Int) = some (match hexN (UInt8.ofNat n) with | some x => (x : Int) | none => -1) := by decide +kernel
theorem plain_all : ∀ n : Nat, n < 256 → spec_l1Plain.f (n : Int) = some (plainB (UInt8.ofNat n)) := by decide +kernel
theorem sign_all : ∀ n : Nat, n < 256 → (spec_l1Sign.f (n : Int)).map L = some [37, fig (n / 16), fig (n % 16)] := by decide +kernel
theorem of_toNat (c : UInt8) : UInt8.ofNat c.toNat = c := UInt8.ofNat_toNat
theorem hex_ev (c : UInt8) : Ev (fun k => spec_l1Hex.f k (c.toNat : Int)) (match hexN c with | some x => (x : Int) | none => -1) := by
 refine Ev.of (fun k => spec_l1Hex.mono _ k) (k := 2) ?_
 have := hex_all c.toNat c.toNat_lt
 rwa [of_toNat] at this
theorem sign_f (n : Nat) (h : n < 256) : spec_l1Sign.f (n : Int) = some (ofL [37, fig (n / 16), fig (n % 16)]) := by
 have := sign_all n h
 obtain ⟨s, hs, e⟩ := Option.map_eq_some_iff.1 this
 rw [hs, ← e, of_L]
theorem nums_one (n : Nat) (h : n < 256) : strOfNums [(n : Int) % 256] = ofL [UInt8.ofNat n] := by
 unfold strOfNums ofL
 simp only [List.map_cons, List.map_nil, ByteArray.mk.injEq]
 congr 2
 rw [show ((n : Int) % 256) = (n : Int) from by omega]
 simp
theorem enc_ev (s acc : ByteArray) (i n : Nat) (h : n < 256) (hi : i < 1000000) (ha : acc.size ≤ 1000000) {r : ByteArray × Bool}
  (H : Ev (fun k => spec_EscNorm.l0 k s (acc ++ ofL (encN n)) (i + 1 : Nat)) r) : Ev (fun k => spec_EscNorm.j2 k s acc (i : Int) (n : Int)) r := by
 refine Ev.step (fun k => ?_) H
 have hw : wrap64 ((i : Int) + 1) = ((i + 1 : Nat) : Int) := by rw [w64 (by omega) (by omega)]; omega
 simp only [spec_EscNorm.j2]
 rw [show ((n : Int) % 256) = (n : Int) from by omega, plain_all n h]
 simp only [Option.bind_some]
 by_cases hp : plainB (UInt8.ofNat n) = true
 ·have e := nums_one n h
  rw [show ((n : Int) % 256) = (n : Int) from by omega] at e
  have he : encN n = [UInt8.ofNat n] := by unfold encN; rw [if_pos hp]
  have hz := ofL_size [UInt8.ofNat n]
  rw [if_pos hp, e, if_pos (by simp at hz; omega), hw, he]
 ·have he : encN n = [37, fig (n / 16), fig (n % 16)] := by unfold encN; rw [if_neg hp]
  rw [if_neg hp, sign_f n h]
  simp only [Option.bind_some]
  have hz := ofL_size [37, fig (n / 16), fig (n % 16)]
  rw [if_pos (by simp at hz; omega), hw, he]
theorem drop_at {l : List UInt8} {i : Nat} (h : i < l.length) : l.drop i = l[i] :: l.drop (i + 1) := List.drop_eq_getElem_cons h
theorem bt_get (s : ByteArray) (i : Nat) (h : i < (L s).length) : bt s i = (((L s)[i]).toNat : Int) := by
 rw [bt_L, List.getD_eq_getElem?_getD, List.getElem?_eq_getElem h]; rfl
theorem app_nil (a : ByteArray) : a ++ ofL [] = a := by apply L_inj; rw [L_app, L_of, List.append_nil]
def escR (acc : ByteArray) (o : Option (List UInt8)) : ByteArray × Bool := match o with
 | some r => (acc ++ ofL r, true)
 | none => (⟨#[]⟩, false)
theorem escR_map (acc : ByteArray) (x : List UInt8) (o : Option (List UInt8)) : escR acc (o.map (x ++ ·)) = escR (acc ++ ofL x) o := by
 cases o with
 | none => rfl
 | some r => simp only [escR, Option.map_some, ofL_app, ByteArray.append_assoc]
theorem esc_l (s : ByteArray) (hs : s.size ≤ 60) (n : Nat) : ∀ (i : Nat) (acc : ByteArray), i ≤ s.size → s.size - i ≤ n → acc.size ≤ 3 * i →
  Ev (fun k => spec_EscNorm.l0 k s acc (i : Int)) (escR acc (esc ((L s).drop i))) := by
 have hL := L_size s
 induction n with
 | zero =>
  intro i acc hi hn ha
  refine Ev.of (fun k => spec_EscNorm.mono_l k |>.1 _ _ _) (k := 1) ?_
  simp only [spec_EscNorm.l0]
  rw [if_neg (by omega), List.drop_eq_nil_of_le (by omega)]
  simp only [esc, escR]
  rw [app_nil]
 | succ n ih =>
  intro i acc hi hn ha
  by_cases hlt : i < s.size
  ·have hlt' : i < (L s).length := by omega
   rw [drop_at hlt']
   have hb := bt_get s i hlt'
   by_cases hc : (L s)[i] = 37
   ·have hb37 : bt s i = 37 := by rw [hb, hc]; rfl
    have w2 : wrap64 ((i : Int) + 2) = ((i + 2 : Nat) : Int) := by rw [w64 (by omega) (by omega)]; omega
    have w1 : wrap64 ((i : Int) + 1) = ((i + 1 : Nat) : Int) := by rw [w64 (by omega) (by omega)]; omega
    rw [hc]
    by_cases h2 : i + 2 < s.size
    ·have g1 : i + 1 < (L s).length := by omega
     have g2 : i + 2 < (L s).length := by omega
     rw [drop_at g1, drop_at g2]
     have b1 := bt_get s (i + 1) g1
     have b2 := bt_get s (i + 2) g2
     have q1 := hex_ev (L s)[i + 1]
     have q2 := hex_ev (L s)[i + 2]
     have l1 := @hexN_lt (L s)[i + 1]
     have l2 := @hexN_lt (L s)[i + 2]
     generalize (L s)[i + 1] = ca at b1 q1 l1 ⊢
     generalize (L s)[i + 2] = cb at b2 q2 l2 ⊢
     have e3 : i + 2 + 1 = i + 3 := rfl
     have bad : Ev (fun k => spec_EscNorm.j1 k s acc (i : Int) true) ((⟨#[]⟩ : ByteArray), false) :=
      Ev.of (fun k => spec_EscNorm.mono_l k |>.2.2 _ _ _ _) (k := 1) (by simp [spec_EscNorm.j1])
     refine Ev.step (f := fun k => (spec_l1Hex.f k (ca.toNat : Int)).bind fun t => if t < 0 then spec_EscNorm.j1 k s acc (i : Int) true else (spec_l1Hex.f k (cb.toNat : Int)).bind fun t2 => spec_EscNorm.j1 k s acc (i : Int) (decide (t2 < 0))) (fun k => ?_) ?_
     ·simp only [spec_EscNorm.l0]
      rw [if_pos (by omega), if_pos (by omega), if_pos hb37, w2, w1, if_neg (by omega), if_pos (by omega), if_pos (by omega), b1]
      congr 1
      funext t
      by_cases ht : t < 0
      ·rw [if_pos ht, if_pos ht]
      ·rw [if_neg ht, if_neg ht, if_pos (by omega), if_pos (by omega), b2]
     ·refine Ev.bind q1 ?_
      cases ha' : hexN ca with
      | none =>
       rw [esc_bad1 _ _ ha']
       simp only [show ((-1 : Int) < 0) from by omega, if_true]
       exact bad
      | some x =>
       have hx := l1 ha'
       simp only [show ¬ ((x : Int) < 0) from by omega, if_false]
       refine Ev.bind q2 ?_
       cases hb' : hexN cb with
       | none =>
        rw [esc_bad2 _ _ hb']
        simp only [show decide ((-1 : Int) < 0) = true from by decide]
        exact bad
       | some y =>
        have hy := l2 hb'
        simp only [show decide ((y : Int) < 0) = false from by simp]
        rw [ha'] at q1
        rw [hb'] at q2
        refine Ev.step (f := fun k => (spec_l1Hex.f k (ca.toNat : Int)).bind fun t => (spec_l1Hex.f k (cb.toNat : Int)).bind fun t2 => spec_EscNorm.j2 k s acc ((i + 2 : Nat) : Int) (wrap64 (wrap64 (t * 16) + t2))) (fun k => ?_) ?_
        ·simp only [spec_EscNorm.j1]
         rw [if_neg (by simp), w1, w2, if_pos (by omega), if_pos (by omega), b1]
         congr 1
         funext t
         rw [if_pos (by omega), if_pos (by omega), b2]
        ·refine Ev.bind q1 (Ev.bind q2 ?_)
         rw [esc_sign _ ha' hb']
         rw [show wrap64 (wrap64 ((x : Int) * 16) + (y : Int)) = ((x * 16 + y : Nat) : Int) from by rw [w64 (n := (x : Int) * 16) (by omega) (by omega), w64 (by omega) (by omega)]; omega]
         refine enc_ev s acc (i + 2) (x * 16 + y) (by omega) (by omega) (by omega) ?_
         rw [escR_map]
         exact ih (i + 2 + 1) _ (by omega) (by omega) (by have z := ofL_size (encN (x * 16 + y)); have := encN_len (x * 16 + y); rw [ByteArray.size_append]; omega)
    ·rw [esc_short (by rw [List.length_drop]; omega)]
     refine Ev.of (fun k => spec_EscNorm.mono_l k |>.1 _ _ _) (k := 2) ?_
     simp only [spec_EscNorm.l0, spec_EscNorm.j1]
     rw [if_pos (by omega), if_pos (by omega), if_pos hb37, w2, if_pos (by omega)]
     rfl
   ·have hb37 : ¬ bt s i = 37 := by
     rw [hb]
     intro e
     exact hc (UInt8.toNat_inj.1 (by have : (37 : UInt8).toNat = 37 := rfl; omega))
    rw [esc_plain _ hc]
    have hlt8 := (L s)[i].toNat_lt
    refine Ev.step (f := fun k => spec_EscNorm.j2 k s acc (i : Int) (((L s)[i].toNat : Nat) : Int)) (fun k => ?_) ?_
    ·simp only [spec_EscNorm.l0]
     rw [if_pos (by omega), if_pos (by omega), if_neg hb37, hb, w64 (by omega) (by omega)]
    ·refine enc_ev s acc i _ (by omega) (by omega) (by omega) ?_
     rw [escR_map]
     exact ih (i + 1) _ (by omega) (by omega) (by have z := ofL_size (encN (L s)[i].toNat); have := encN_len (L s)[i].toNat; rw [ByteArray.size_append]; omega)
  ·refine Ev.of (fun k => spec_EscNorm.mono_l k |>.1 _ _ _) (k := 1) ?_
   simp only [spec_EscNorm.l0]
   rw [if_neg (by omega), List.drop_eq_nil_of_le (by omega)]
   simp only [esc, escR]
   rw [app_nil]
theorem escNorm_ev (s : ByteArray) : Ev (fun k => spec_EscNorm.f k s) (escNorm s) := by
 unfold spec_EscNorm.f escNorm
 by_cases h : s.size > 60
 ·simp only [show ((s.size : Int) > 60) from by omega, if_true, h]
  exact Ev.now _
 ·simp only [show ¬ ((s.size : Int) > 60) from by omega, if_false, h]
  have := esc_l s (by omega) s.size 0 ⟨#[]⟩ (by omega) (by omega) (Nat.le_refl 0)
  simp only [List.drop_zero] at this
  have e : escR (⟨#[]⟩ : ByteArray) (esc (L s)) = escO (esc (L s)) := by
   unfold escR escO
   cases esc (L s) with
   | none => rfl
   | some r => simp only [Prod.mk.injEq, and_true]; apply L_inj; rw [L_app]; rfl
  rw [← e]
  exact this
theorem norm_ev (s : ByteArray) : Ev (fun k => spec_l1Norm.f k s) (isNorm s) := by
 unfold spec_l1Norm.f isNorm
 refine Ev.bind (escNorm_ev s) ?_
 by_cases h : (escNorm s).2 = true
 ·simp only [h, if_true, Bool.true_and]
  exact Ev.now _
 ·simp only [h, if_false, Bool.false_and]
  exact Ev.now _
end Go.Proofs.YtpnedbnpnekahaaDoor.Ad
end
section
namespace Go.Proofs.YtpnedbnpnekahaaDoor.Ad
open Go.RowKit Go.Proofs.YtpnedbnpnekahaaDoor.P Go.Proofs.YtpnedbnpnekahaaDoorW.PrintWords Go.Proofs.YtpnedbnpnekahaaDoorW.PrintLast Go.Proofs.YtpnedbnpnekahaaDoorW.PrintMore Go.Proofs.YtpnedbnpnekahaaDoor.B
set_option linter.unusedVariables false
set_option linter.unusedSimpArgs false
theorem spec_house_l (s : ByteArray) (hs : s.size ≤ 140737488351232) (d : Nat) : ∀ (k : Nat) (i : Nat), i + d = s.size → d < k →
  spec_l1House.l0 k s (i : Int) = some (smallFrom s d i && (decide (1 ≤ s.size) && decide (s.size ≤ 5))) := by
 induction d with
 | zero =>
  intro k i h hk
  obtain ⟨k, rfl⟩ : ∃ m, k = m + 1 := ⟨k - 1, by omega⟩
  simp only [spec_l1House.l0, smallFrom, spec_l6In.f]
  rw [if_neg (by omega)]
  by_cases h1 : 1 ≤ s.size
  ·rw [if_pos (by omega)]; simp [h1]; omega
  ·rw [if_neg (by omega)]; simp [h1]
 | succ d ih =>
  intro k i h hk
  obtain ⟨k, rfl⟩ : ∃ m, k = m + 1 := ⟨k - 1, by omega⟩
  simp only [spec_l1House.l0, smallFrom]
  rw [if_pos (by omega), if_pos (by omega)]
  by_cases h1 : bt s i < 97
  ·rw [if_pos h1, if_pos h1]; rfl
  ·rw [if_neg h1, if_neg h1]
   by_cases h2 : bt s i > 122
   ·rw [if_pos h2, if_pos h2]; rfl
   ·rw [if_neg h2, if_neg h2, w64 (by omega) (by omega)]
    exact ih k (i + 1) (by omega) (by omega)
theorem house_ev (s : ByteArray) (hs : s.size ≤ 140737488351232) : Ev (fun k => spec_l1House.f k s) (isHouse s) := by
 refine Ev.of (fun k => spec_l1House.mono _ k) (k := s.size + 1) ?_
 unfold spec_l1House.f
 have := spec_house_l s hs s.size (s.size + 1) 0 (by omega) (by omega)
 rw [show ((0 : Nat) : Int) = 0 from rfl] at this
 rw [this]
 unfold isHouse isSmall
 cases smallFrom s s.size 0 <;> simp
theorem rd_at {l : List ByteArray} {i : Nat} (h : i < l.length) : rdOf ByteArray.empty l (i : Int) = l[i] := by
 unfold rdOf
 rw [List.getD_eq_getElem?_getD, Int.toNat_natCast, List.getElem?_eq_getElem h]
 rfl
structure Parts (ps : List ByteArray) : Prop where
 few : ps.length ≤ 1000
 short : ∀ p ∈ ps, p.size ≤ 1048576
def fin (asks : Bool) (ask b : ByteArray) : ByteArray := if asks = true then (b ++ ⟨#[63]⟩) ++ ask else b
theorem path_end (acc house : ByteArray) (parts : List ByteArray) (asks : Bool) (ask : ByteArray) (i : Nat) (hi : i = parts.length) (ha : acc.size ≤ 2000000000) (hq : ask.size ≤ 1048576) :
  Ev (fun k => spec_l1Path.l0 k acc (i : Int) house parts asks ask) (fin asks ask acc) := by
 refine Ev.of (fun k => spec_l1Path.mono_l k _ _ _ _ _ _) (k := 1) ?_
 simp only [spec_l1Path.l0, fin]
 rw [if_neg (by omega)]
 by_cases h : asks = true
 ·rw [if_pos h, if_pos h, if_pos (by omega), if_pos (by omega)]
 ·rw [if_neg h, if_neg h]
theorem path_l (house : ByteArray) (parts : List ByteArray) (asks : Bool) (ask : ByteArray) (hP : Parts parts) (hq : ask.size ≤ 1048576) (d : Nat) : ∀ (i : Nat) (acc : ByteArray), i + d = parts.length → 1 ≤ i → (acc.size : Int) ≤ 1 + (i : Int) * 1048577 →
  Ev (fun k => spec_l1Path.l0 k acc (i : Int) house parts asks ask) (fin asks ask ((parts.drop i).foldl (fun a q => (a ++ ⟨#[47]⟩) ++ q) acc)) := by
 have hf := hP.few
 induction d with
 | zero =>
  intro i acc hi _ ha
  rw [List.drop_eq_nil_of_le (by omega)]
  exact path_end acc house parts asks ask i (by omega) (by omega) hq
 | succ d ih =>
  intro i acc hi h1 ha
  have hlt : i < parts.length := by omega
  have hz := hP.short parts[i] (List.getElem_mem hlt)
  rw [List.drop_eq_getElem_cons hlt, List.foldl_cons]
  have h47 : (⟨#[47]⟩ : ByteArray).size = 1 := rfl
  have hsz : ((acc ++ (⟨#[47]⟩ : ByteArray)) ++ parts[i]).size = acc.size + 1 + parts[i].size := by rw [ByteArray.size_append, ByteArray.size_append, h47]
  have f1 : (i : Int) < (parts.length : Int) := by omega
  have f2 : (i : Int) > 0 := by omega
  have f3 : acc.size + 1 ≤ 9223372036854775807 := by omega
  have f4 : 0 ≤ (i : Int) := by omega
  have f5 : acc.size + 1 + parts[i].size ≤ 9223372036854775807 := by omega
  have hw : wrap64 ((i : Int) + 1) = ((i + 1 : Nat) : Int) := by rw [w64 (by omega) (by omega)]; omega
  have h := ih (i + 1) ((acc ++ (⟨#[47]⟩ : ByteArray)) ++ parts[i]) (by omega) (by omega) (by rw [hsz]; omega)
  refine Ev.step (fun k => ?_) h
  simp only [spec_l1Path.l0]
  rw [if_pos f1, if_pos f2, if_pos f3, if_pos f4, rd_at hlt, if_pos f5, hw]
theorem path_ev (house : ByteArray) (parts : List ByteArray) (asks : Bool) (ask : ByteArray) (hP : Parts parts) (hq : ask.size ≤ 1048576) :
  Ev (fun k => spec_l1Path.f k house parts asks ask) (pathB parts asks ask) := by
 unfold spec_l1Path.f
 match parts, hP with
 | [], hP =>
  have := path_end ⟨#[47]⟩ house [] asks ask 0 rfl (by decide) hq
  exact this
 | p :: r, hP =>
  have hz := hP.short p List.mem_cons_self
  have hs : ((⟨#[47]⟩ : ByteArray) ++ p).size = 1 + p.size := by rw [ByteArray.size_append]; rfl
  refine Ev.step (fun k => ?_) (path_l house (p :: r) asks ask hP hq r.length 1 ((⟨#[47]⟩ : ByteArray) ++ p) (by simp; omega) (by omega) (by omega))
  have h47 : (⟨#[47]⟩ : ByteArray).size = 1 := rfl
  have hr0 : rdOf ByteArray.empty (p :: r) 0 = p := rfl
  simp only [spec_l1Path.l0]
  have f1 : (0 : Int) < ((p :: r).length : Int) := by simp only [List.length_cons]; omega
  have f5 : (⟨#[47]⟩ : ByteArray).size + p.size ≤ 9223372036854775807 := by omega
  rw [if_pos f1, if_neg (by omega), if_pos (by omega), hr0, if_pos f5, w64 (by omega) (by omega)]
  rfl
theorem path_size (parts : List ByteArray) (asks : Bool) (ask : ByteArray) (hP : Parts parts) (hq : ask.size ≤ 1048576) : (pathB parts asks ask).size ≤ 2000000000 := by
 have hf := hP.few
 have hb : ((body parts).size : Int) ≤ 1 + (parts.length : Int) * 1048577 := by
  match parts, hP with
  | [], _ => simp [body]; decide
  | p :: r, hP =>
   have key : ∀ (r : List ByteArray) (acc : ByteArray), (∀ q ∈ r, q.size ≤ 1048576) → ((r.foldl (fun a q => (a ++ ⟨#[47]⟩) ++ q) acc).size : Int) ≤ (acc.size : Int) + (r.length : Int) * 1048577 := by
    intro r
    induction r with
    | nil => intro acc _; simp
    | cons q r ih =>
     intro acc h
     have := ih ((acc ++ ⟨#[47]⟩) ++ q) (fun x hx => h x (List.mem_cons_of_mem _ hx))
     have hq := h q List.mem_cons_self
     have h47 : (⟨#[47]⟩ : ByteArray).size = 1 := rfl
     rw [List.foldl_cons]
     rw [ByteArray.size_append, ByteArray.size_append] at this
     simp only [List.length_cons]
     omega
   have := key r ((⟨#[47]⟩ : ByteArray) ++ p) (fun x hx => hP.short x (List.mem_cons_of_mem _ hx))
   have hz := hP.short p List.mem_cons_self
   have hs : ((⟨#[47]⟩ : ByteArray) ++ p).size = 1 + p.size := by rw [ByteArray.size_append]; rfl
   simp only [body, List.length_cons]
   omega
 unfold pathB
 have h63 : (⟨#[63]⟩ : ByteArray).size = 1 := rfl
 split
 ·rw [ByteArray.size_append, ByteArray.size_append]; omega
 ·omega
theorem text_ev (house : ByteArray) (parts : List ByteArray) (asks : Bool) (ask : ByteArray) (hP : Parts parts) (hq : ask.size ≤ 1048576) (hh : house.size ≤ 1048576) :
  Ev (fun k => spec_l1Text.f k house parts asks ask) (textB house parts asks ask) := by
 unfold spec_l1Text.f
 have hz := path_size parts asks ask hP hq
 simp only [show 2 + house.size ≤ 9223372036854775807 from by omega, if_true]
 refine Ev.bind (path_ev house parts asks ask hP hq) ?_
 simp only [show 2 + house.size + (pathB parts asks ask).size ≤ 9223372036854775807 from by omega, if_true]
 exact Ev.now _
theorem ok_l (house : ByteArray) (parts : List ByteArray) (asks : Bool) (ask : ByteArray) (hP : Parts parts) (hq : ask.size ≤ 1048576) (hh : house.size ≤ 1048576) (d : Nat) : ∀ (i : Nat), i + d = parts.length →
  Ev (fun k => spec_AddrOk.l0 k (i : Int) house parts asks ask) ((parts.drop i).all partOk && decide ((textB house parts asks ask).size ≤ 60)) := by
 have hf := hP.few
 induction d with
 | zero =>
  intro i hi
  rw [List.drop_eq_nil_of_le (by omega)]
  simp only [List.all_nil, Bool.true_and]
  refine Ev.step (f := fun k => (spec_l1Text.f k house parts asks ask).bind fun t => some (decide ((t.size : Int) ≤ 60))) (fun k => ?_) (Ev.bind (text_ev house parts asks ask hP hq hh) ?_)
  ·simp only [spec_AddrOk.l0]
   rw [if_neg (by omega)]
  ·have e : decide (((textB house parts asks ask).size : Int) ≤ 60) = decide ((textB house parts asks ask).size ≤ 60) := by rw [Bool.eq_iff_iff]; simp; omega
   rw [e]
   exact Ev.now _
 | succ d ih =>
  intro i hi
  have hlt : i < parts.length := by omega
  rw [List.drop_eq_getElem_cons hlt, List.all_cons]
  refine Ev.step (f := fun k => (spec_l1Norm.f k parts[i]).bind fun t => if t = true then (if parts[i].toList = [] then some false else if parts[i].toList = [46] then some false else if parts[i].toList = [46, 46] then some false else spec_AddrOk.l0 k ((i + 1 : Nat) : Int) house parts asks ask) else some false) (fun k => ?_) (Ev.bind (norm_ev parts[i]) ?_)
  ·simp only [spec_AddrOk.l0]
   rw [if_pos (by omega), if_pos (by omega), rd_at hlt, w64 (by omega) (by omega)]
   rfl
  ·by_cases h1 : isNorm parts[i] = true
   ·by_cases h2 : parts[i].toList = []
    ·simp only [h1, h2, if_true]
     rw [show partOk parts[i] = false from by simp [partOk, h2]]
     exact Ev.now _
    ·by_cases h3 : parts[i].toList = [46]
     ·simp only [h1, h3, if_true]
      rw [show partOk parts[i] = false from by simp [partOk, h3]]
      exact Ev.now _
     ·by_cases h4 : parts[i].toList = [46, 46]
      ·simp only [h1, h4, if_true]
       rw [show partOk parts[i] = false from by simp [partOk, h4]]
       exact Ev.now _
      ·simp only [h1, h2, h3, h4, if_true, if_false]
       rw [show partOk parts[i] = true from by simp [partOk, h1, h2, h3, h4], Bool.true_and]
       exact ih (i + 1) (by omega)
   ·simp only [h1, if_false]
    rw [show partOk parts[i] = false from by simp [partOk, h1]]
    exact Ev.now _
theorem addrOk_ev (house : ByteArray) (parts : List ByteArray) (asks : Bool) (ask : ByteArray) (hP : Parts parts) (hq : ask.size ≤ 1048576) (hh : house.size ≤ 1048576) :
  Ev (fun k => spec_AddrOk.f k house parts asks ask) (addrOk house parts asks ask) := by
 have hf := hP.few
 have bad : ∀ r, r = false → Ev (fun k => spec_AddrOk.j0 k true house parts asks ask) r := fun r hr => by
  subst hr
  exact Ev.of (fun k => spec_AddrOk.mono_l k |>.1 _ _ _ _ _) (k := 1) (by simp [spec_AddrOk.j0])
 have good : Ev (fun k => spec_AddrOk.j0 k false house parts asks ask) (parts.all partOk && decide ((textB house parts asks ask).size ≤ 60)) := by
  refine Ev.step (fun k => ?_) (by simpa using ok_l house parts asks ask hP hq hh parts.length 0 (by omega))
  simp [spec_AddrOk.j0]
 unfold spec_AddrOk.f
 refine Ev.bind (house_ev house (by omega)) ?_
 by_cases h1 : isHouse house = true
 ·simp only [h1, if_true]
  by_cases h2 : parts.length ≤ 5
  ·simp only [show ¬ ((parts.length : Int) > 5) from by omega, if_false]
   refine Ev.bind (norm_ev ask) ?_
   by_cases h3 : isNorm ask = true
   ·simp only [h3, if_true]
    by_cases h4 : asks = true
    ·simp only [h4, if_true]
     rw [h4] at good
     rw [show addrOk house parts true ask = (parts.all partOk && decide ((textB house parts true ask).size ≤ 60)) from by simp [addrOk, h1, h2, h3]]
     exact good
    ·rw [show (fun k => if asks = true then spec_AddrOk.j0 k false house parts asks ask else spec_AddrOk.j0 k (ask.toList != []) house parts asks ask) = (fun k => spec_AddrOk.j0 k (ask.toList != []) house parts asks ask) from by funext k; rw [if_neg h4]]
     by_cases h5 : ask.toList = []
     ·obtain rfl : asks = false := by simpa using h4
      simp only [h5, bne_self_eq_false, Bool.false_eq_true, if_false]
      rw [show addrOk house parts false ask = (parts.all partOk && decide ((textB house parts false ask).size ≤ 60)) from by simp [addrOk, h1, h2, h3, h5]]
      exact good
     ·rw [show (ask.toList != ([] : List UInt8)) = true from by simp [h5]]
      exact bad _ (by simp [addrOk, h4, h5])
   ·simp only [h3, if_false]
    exact bad _ (by simp [addrOk, h3])
  ·simp only [show (parts.length : Int) > 5 from by omega, if_true]
   exact bad _ (by simp [addrOk, h2])
 ·simp only [h1, if_false]
  exact bad _ (by simp [addrOk, h1])
theorem addrText_ev (house : ByteArray) (parts : List ByteArray) (asks : Bool) (ask : ByteArray) (hP : Parts parts) (hq : ask.size ≤ 1048576) (hh : house.size ≤ 1048576) :
  Ev (fun k => spec_AddrText.f k house parts asks ask) (addrText house parts asks ask) := by
 unfold spec_AddrText.f addrText
 refine Ev.bind (addrOk_ev house parts asks ask hP hq hh) ?_
 by_cases h : addrOk house parts asks ask = true
 ·simp only [h, if_true]
  exact Ev.bind (text_ev house parts asks ask hP hq hh) (Ev.now _)
 ·simp only [h, if_false]
  exact Ev.now _
end Go.Proofs.YtpnedbnpnekahaaDoor.Ad
end
section
namespace Go.Proofs.YtpnedbnpnekahaaDoor.Ad
open Go.RowKit Go.Proofs.YtpnedbnpnekahaaDoor.P Go.Proofs.YtpnedbnpnekahaaDoorW.PrintWords Go.Proofs.YtpnedbnpnekahaaDoorW.PrintLast Go.Proofs.YtpnedbnpnekahaaDoorW.PrintMore Go.Proofs.YtpnedbnpnekahaaDoor.B
set_option linter.unusedVariables false
set_option linter.unusedSimpArgs false
def ints (l : List UInt8) : List Int := l.map fun c => (c.toNat : Int)
theorem ints_app (a b : List UInt8) : ints (a ++ b) = ints a ++ ints b := by simp [ints]
theorem ints_len (a : List UInt8) : (ints a).length = a.length := by simp [ints]
theorem nums_ints (l : List UInt8) : strOfNums (ints l) = ofL l := by
 unfold strOfNums ofL ints
 rw [List.map_map]
 congr 2
 have h : ((fun n : Int => UInt8.ofNat n.toNat) ∘ fun c : UInt8 => (c.toNat : Int)) = id := by funext c; simp
 exact (congrArg (fun f => List.map f l) h).trans (List.map_id l)
theorem figv_all : ∀ n : Nat, n < 256 → impl_figureValue.f (n : Int) = some (match hexN (UInt8.ofNat n) with | some x => ((x : Int), true) | none => (0, false)) := by decide +kernel
theorem figv (c : UInt8) : impl_figureValue.f (c.toNat : Int) = some (match hexN c with | some x => ((x : Int), true) | none => (0, false)) := by
 have := figv_all c.toNat c.toNat_lt
 rwa [of_toNat] at this
theorem stands_all : ∀ n : Nat, n < 256 → impl_standsForItself.f (n : Int) = some (plainB (UInt8.ofNat n)) := by decide +kernel
def hexT : ByteArray := ⟨#[48, 49, 50, 51, 52, 53, 54, 55, 56, 57, 65, 66, 67, 68, 69, 70]⟩
theorem put_all : ∀ n : Nat, n < 256 → (plainB (UInt8.ofNat n) = true → [(n : Int)] = ints (encN n)) ∧ (plainB (UInt8.ofNat n) = false → 0 ≤ (n : Int) / 16 ∧ (n : Int) / 16 < 16 ∧ 0 ≤ Go.bits .and .u8 (n : Int) 15 ∧ Go.bits .and .u8 (n : Int) 15 < 16 ∧
  ([37, bt hexT ((n : Int) / 16), bt hexT (Go.bits .and .u8 (n : Int) 15)] : List Int) = ints (encN n)) := by decide +kernel
theorem sign_i (s : ByteArray) (i : Nat) (hs : s.size ≤ 60) (hi : i < s.size) :
  impl_signByte.f s (i : Int) = some (if h : i + 2 < (L s).length then (match hexN ((L s)[i + 1]'(by omega)), hexN ((L s)[i + 2]'h) with | some x, some y => (((x * 16 + y : Nat) : Int), true) | _, _ => (0, false)) else (0, false)) := by
 have hL := L_size s
 unfold impl_signByte.f
 rw [w64 (n := (s.size : Int) - i) (by omega) (by omega)]
 by_cases h : i + 2 < (L s).length
 ·rw [dif_pos h, if_neg (by omega), w64 (n := (i : Int) + 1) (by omega) (by omega), w64 (n := (i : Int) + 2) (by omega) (by omega), if_pos (by omega), if_pos (by omega)]
  have b1 := bt_get s (i + 1) (by omega)
  have b2 := bt_get s (i + 2) h
  have l1 := @hexN_lt ((L s)[i + 1]'(by omega))
  have l2 := @hexN_lt ((L s)[i + 2]'h)
  rw [show ((i : Int) + 1) = ((i + 1 : Nat) : Int) from by omega, show ((i : Int) + 2) = ((i + 2 : Nat) : Int) from by omega, b1, b2]
  generalize (L s)[i + 1]'(by omega) = ca at l1 ⊢
  generalize (L s)[i + 2]'h = cb at l2 ⊢
  rw [figv ca, figv cb]
  simp only [Option.bind_some]
  rw [if_pos (by omega), if_pos (by omega)]
  cases ha : hexN ca with
  | none => simp
  | some x =>
   cases hb : hexN cb with
   | none => simp
   | some y =>
    have := l1 ha
    have := l2 hb
    simp only [if_true]
    rw [w64 (n := (x : Int) * 16) (by omega) (by omega), w64 (by omega) (by omega)]
    congr 2
    omega
 ·rw [dif_neg h, if_pos (by omega)]
theorem enc_i (s : ByteArray) (acc : List UInt8) (n : Nat) (j : Int) (h : n < 256) (ha : acc.length ≤ 1000000) (k : Nat) :
  ((impl_standsForItself.f (n : Int)).bind fun t => (if t = true then (if (ints acc).length < 140737488355328 then (impl_EscNorm.l0 k s (ints acc ++ [(n : Int)]) j) else (none)) else (if 0 ≤ ((n : Int) / 16) then (if ((n : Int) / 16) < 16 then (if 0 ≤ (Go.bits .and .u8 (n : Int) 15) then (if (Go.bits .and .u8 (n : Int) 15) < 16 then ((some (([37, bt (⟨#[48, 49, 50, 51, 52, 53, 54, 55, 56, 57, 65, 66, 67, 68, 69, 70]⟩ : ByteArray) ((n : Int) / 16), bt (⟨#[48, 49, 50, 51, 52, 53, 54, 55, 56, 57, 65, 66, 67, 68, 69, 70]⟩ : ByteArray) (Go.bits .and .u8 (n : Int) 15)] : List Int) : List Int)).bind fun y => (if (ints acc).length + y.length < 140737488355328 then (impl_EscNorm.l0 k s (ints acc ++ y) j) else (none))) else (none)) else (none)) else (none)) else (none)))) = impl_EscNorm.l0 k s (ints (acc ++ encN n)) j := by
 obtain ⟨p1, p2⟩ := put_all n h
 rw [stands_all n h]
 simp only [Option.bind_some]
 have hl := ints_len acc
 cases hp : plainB (UInt8.ofNat n) with
 | true => rw [if_pos rfl, if_pos (by omega), ints_app, p1 hp]
 | false =>
  obtain ⟨q1, q2, q3, q4, q5⟩ := p2 hp
  rw [if_neg (by simp), if_pos q1, if_pos q2, if_pos q3, if_pos q4]
  unfold hexT at q5
  rw [q5]
  have := encN_len n
  have := ints_len (encN n)
  rw [if_pos (by omega), ints_app]
theorem esc_i (s : ByteArray) (hs : s.size ≤ 60) (n : Nat) : ∀ (i : Nat) (acc : List UInt8), i ≤ s.size → s.size - i ≤ n → acc.length ≤ 3 * i →
  Ev (fun k => impl_EscNorm.l0 k s (ints acc) (i : Int)) (escR (ofL acc) (esc ((L s).drop i))) := by
 have hL := L_size s
 induction n with
 | zero =>
  intro i acc hi hn ha
  refine Ev.of (fun k => impl_EscNorm.mono_l k |> fun h => h _ _ _) (k := 1) ?_
  simp only [impl_EscNorm.l0]
  rw [if_neg (by omega), List.drop_eq_nil_of_le (by omega)]
  simp only [esc, escR]
  rw [app_nil, nums_ints]
 | succ n ih =>
  intro i acc hi hn ha
  by_cases hlt : i < s.size
  ·have hlt' : i < (L s).length := by omega
   rw [drop_at hlt']
   have hb := bt_get s i hlt'
   by_cases hc : (L s)[i] = 37
   ·have hb37 : bt s i = 37 := by rw [hb, hc]; rfl
    have w3 : wrap64 (wrap64 ((i : Int) + 2) + 1) = ((i + 2 + 1 : Nat) : Int) := by rw [w64 (n := (i : Int) + 2) (by omega) (by omega), w64 (by omega) (by omega)]; omega
    rw [hc]
    have sg := sign_i s i hs hlt
    refine Ev_succ ?_
    simp only [impl_EscNorm.l0]
    simp only [show ((i : Int) < (s.size : Int)) from by omega, show ((0 : Int) ≤ (i : Int)) from by omega, hb37, if_true, sg, Option.bind_some, w3]
    by_cases h2 : i + 2 < (L s).length
    ·have g1 : i + 1 < (L s).length := by omega
     rw [drop_at g1, drop_at h2]
     simp only [h2, dif_pos]
     generalize (L s)[i + 1]'g1 = ca
     generalize (L s)[i + 2]'h2 = cb
     cases ha' : hexN ca with
     | none =>
      rw [esc_bad1 _ _ ha']
      simp only [Bool.false_eq_true, if_false]
      exact Ev.now _
     | some x =>
      cases hb' : hexN cb with
      | none =>
       rw [esc_bad2 _ _ hb']
       simp only [Bool.false_eq_true, if_false]
       exact Ev.now _
      | some y =>
       have hx := hexN_lt ha'
       have hy := hexN_lt hb'
       rw [esc_sign _ ha' hb', escR_map]
       simp only [if_true]
       refine Ev.congr (fun k => enc_i s acc (x * 16 + y) _ (by omega) (by omega) k) ?_
       have := encN_len (x * 16 + y)
       rw [← ofL_app]
       exact ih (i + 2 + 1) _ (by omega) (by omega) (by rw [List.length_append]; omega)
    ·rw [esc_short (by rw [List.length_drop]; omega)]
     simp only [h2, dif_neg, not_false_eq_true, Bool.false_eq_true, if_false]
     exact Ev.now _
   ·have hb37 : ¬ bt s i = 37 := by
     rw [hb]
     intro e
     exact hc (UInt8.toNat_inj.1 (by have : (37 : UInt8).toNat = 37 := rfl; omega))
    rw [esc_plain _ hc]
    have hlt8 := (L s)[i].toNat_lt
    have w1 : wrap64 ((i : Int) + 1) = ((i + 1 : Nat) : Int) := by rw [w64 (by omega) (by omega)]; omega
    refine Ev_succ ?_
    simp only [impl_EscNorm.l0]
    simp only [show ((i : Int) < (s.size : Int)) from by omega, show ((0 : Int) ≤ (i : Int)) from by omega, hb37, if_true, if_false, w1]
    rw [escR_map]
    simp only [hb]
    refine Ev.congr (fun k => enc_i s acc (L s)[i].toNat _ (by omega) (by omega) k) ?_
    have hz := encN_len (L s)[i].toNat
    rw [← ofL_app]
    refine ih (i + 1) _ (by omega) (by omega) ?_
    rw [List.length_append]; omega
  ·refine Ev.of (fun k => impl_EscNorm.mono_l k |> fun h => h _ _ _) (k := 1) ?_
   simp only [impl_EscNorm.l0]
   rw [if_neg (by omega), List.drop_eq_nil_of_le (by omega)]
   simp only [esc, escR]
   rw [app_nil, nums_ints]
theorem escNorm_i (s : ByteArray) : Ev (fun k => impl_EscNorm.f k s) (escNorm s) := by
 unfold impl_EscNorm.f escNorm
 by_cases h : s.size > 60
 ·simp only [show ((s.size : Int) > 60) from by omega, if_true, h]
  exact Ev.now _
 ·simp only [show ¬ ((s.size : Int) > 60) from by omega, if_false, h]
  have := esc_i s (by omega) s.size 0 [] (by omega) (by omega) (Nat.le_refl 0)
  simp only [List.drop_zero] at this
  have e : escR (ofL []) (esc (L s)) = escO (esc (L s)) := by
   unfold escR escO
   cases esc (L s) with
   | none => rfl
   | some r => simp only [Prod.mk.injEq, and_true]; apply L_inj; rw [L_app]; rfl
  rw [← e]
  exact this
theorem norm_i (s : ByteArray) : Ev (fun k => impl_isNormal.f k s) (isNorm s) := by
 unfold impl_isNormal.f isNorm
 refine Ev.bind (escNorm_i s) ?_
 by_cases h : (escNorm s).2 = true
 ·simp only [h, if_true, Bool.true_and]
  exact Ev.now _
 ·simp only [h, if_false, Bool.false_and]
  exact Ev.now _
end Go.Proofs.YtpnedbnpnekahaaDoor.Ad
end
section
namespace Go.Proofs.YtpnedbnpnekahaaDoor.Ad
open Go.RowKit Go.Proofs.YtpnedbnpnekahaaDoor.P Go.Proofs.YtpnedbnpnekahaaDoorW.PrintWords Go.Proofs.YtpnedbnpnekahaaDoorW.PrintLast Go.Proofs.YtpnedbnpnekahaaDoorW.PrintMore Go.Proofs.YtpnedbnpnekahaaDoor.B
set_option linter.unusedVariables false
set_option linter.unusedSimpArgs false
theorem small_i (s : ByteArray) (hs : s.size ≤ 140737488351232) (d : Nat) : ∀ (k : Nat) (i : Nat), i + d = s.size → d < k →
  impl_allSmallLetters.l0 k s (i : Int) = some (smallFrom s d i) := by
 induction d with
 | zero =>
  intro k i h hk
  obtain ⟨k, rfl⟩ : ∃ m, k = m + 1 := ⟨k - 1, by omega⟩
  simp only [impl_allSmallLetters.l0, smallFrom]
  rw [if_neg (by omega)]
 | succ d ih =>
  intro k i h hk
  obtain ⟨k, rfl⟩ : ∃ m, k = m + 1 := ⟨k - 1, by omega⟩
  simp only [impl_allSmallLetters.l0, smallFrom]
  rw [if_pos (by omega), if_pos (by omega)]
  by_cases h1 : bt s i < 97
  ·rw [if_pos h1, if_pos h1]
  ·rw [if_neg h1, if_neg h1]
   by_cases h2 : bt s i > 122
   ·rw [if_pos h2, if_pos h2]
   ·rw [if_neg h2, if_neg h2, w64 (by omega) (by omega)]
    exact ih k (i + 1) (by omega) (by omega)
theorem smalls_i (s : ByteArray) (hs : s.size ≤ 140737488351232) : Ev (fun k => impl_allSmallLetters.f k s) (isSmall s) := by
 refine Ev.of (fun k => impl_allSmallLetters.mono _ k) (k := s.size + 1) ?_
 exact small_i s hs s.size (s.size + 1) 0 (by omega) (by omega)
theorem house_i (s : ByteArray) (hs : s.size ≤ 140737488351232) : Ev (fun k => impl_isHouse.f k s) (isHouse s) := by
 unfold impl_isHouse.f isHouse
 by_cases h1 : 1 ≤ s.size
 ·simp only [show ((s.size : Int) ≥ 1) from by omega, if_true, h1, decide_true, Bool.true_and]
  by_cases h2 : s.size ≤ 5
  ·simp only [show ((s.size : Int) ≤ 5) from by omega, if_true, h2, decide_true, Bool.true_and]
   exact Ev.bind (smalls_i s hs) (Ev.now _)
  ·simp only [show ¬ ((s.size : Int) ≤ 5) from by omega, if_false, h2, decide_false, Bool.false_and]
   exact Ev.now _
 ·simp only [show ¬ ((s.size : Int) ≥ 1) from by omega, if_false, h1, decide_false, Bool.false_and]
  exact Ev.now _
theorem L_fold : ∀ (r : List ByteArray) (acc : ByteArray), L (r.foldl (fun a q => (a ++ ⟨#[47]⟩) ++ q) acc) = L acc ++ Lib.joinTail [47] (r.map L)
 | [], acc => by simp [Lib.joinTail]
 | q :: r, acc => by
  rw [List.foldl_cons, L_fold r, L_app, L_app]
  simp [Lib.joinTail, L]
theorem L_body (ps : List ByteArray) : L (body ps) = 47 :: Lib.join (ps.map L) [47] := by
 cases ps with
 | nil => rfl
 | cons p r =>
  unfold body
  rw [L_fold, List.map_cons, Lib.join_cons, L_app]
  rfl
theorem body_join (ps : List ByteArray) : (⟨#[47]⟩ : ByteArray) ++ ofL (Lib.join (ps.map L) [47]) = body ps := by
 apply L_inj
 rw [L_app, L_of, L_body]
 rfl
theorem join_len (ps : List ByteArray) : (Lib.join (ps.map L) [47]).length + 1 = (body ps).size := by
 rw [← L_size, L_body]; simp
theorem path_i (parts : List ByteArray) (asks : Bool) (ask house : ByteArray) (hP : Parts parts) (hq : ask.size ≤ 1048576) : impl_writePath.f house parts asks ask = some (pathB parts asks ask) := by
 have hz := path_size parts false ask hP hq
 have hb : pathB parts false ask = body parts := rfl
 rw [hb] at hz
 have hj := join_len parts
 have hf := hP.few
 unfold impl_writePath.f strings_Join.f
 have e47 : L (⟨#[47]⟩ : ByteArray) = [47] := rfl
 rw [e47, if_pos ⟨by omega, by omega⟩]
 simp only [Option.bind_some]
 have hs := ofL_size (Lib.join (parts.map L) [47])
 rw [if_pos (by omega), body_join]
 by_cases h : asks = true
 ·rw [if_pos h, if_pos (by omega), if_pos (by omega)]
  unfold pathB
  rw [if_pos h, ByteArray.append_assoc]
 ·rw [if_neg h]
  unfold pathB
  rw [if_neg h]
theorem text_i (house : ByteArray) (parts : List ByteArray) (asks : Bool) (ask : ByteArray) (hP : Parts parts) (hq : ask.size ≤ 1048576) (hh : house.size ≤ 1048576) :
  impl_writeAddr.f house parts asks ask = some (textB house parts asks ask) := by
 have hz := path_size parts asks ask hP hq
 unfold impl_writeAddr.f
 rw [if_pos (by omega), path_i parts asks ask house hP hq]
 simp only [Option.bind_some]
 rw [if_pos (by omega)]
 rfl
def okEnd (house : ByteArray) (parts : List ByteArray) (asks : Bool) (ask : ByteArray) : Bool := isNorm ask && (asks || ask.toList == []) && decide ((textB house parts asks ask).size ≤ 60)
theorem ok_i (house : ByteArray) (parts : List ByteArray) (asks : Bool) (ask : ByteArray) (hP : Parts parts) (hq : ask.size ≤ 1048576) (hh : house.size ≤ 1048576) (d : Nat) : ∀ (i : Nat), i + d = parts.length →
  Ev (fun k => impl_AddrOk.l0 k parts (parts.length : Int) (i : Int) house parts asks ask) ((parts.drop i).all partOk && okEnd house parts asks ask) := by
 have hf := hP.few
 induction d with
 | zero =>
  intro i hi
  rw [List.drop_eq_nil_of_le (by omega)]
  simp only [List.all_nil, Bool.true_and]
  refine Ev_succ ?_
  simp only [impl_AddrOk.l0]
  simp only [show ¬ ((i : Int) < (parts.length : Int)) from by omega, if_false, text_i house parts asks ask hP hq hh, Option.bind_some]
  refine Ev.bind (norm_i ask) ?_
  unfold okEnd
  have e : decide (((textB house parts asks ask).size : Int) ≤ 60) = decide ((textB house parts asks ask).size ≤ 60) := by rw [Bool.eq_iff_iff]; simp; omega
  by_cases h3 : isNorm ask = true
  ·simp only [h3, if_true, Bool.true_and, e]
   by_cases h4 : asks = true
   ·simp only [h4, if_true, Bool.true_or, Bool.true_and]
    exact Ev.now _
   ·by_cases h5 : ask.toList = []
    ·simp only [h4, if_false, h5, if_true, beq_self_eq_true, Bool.or_true, Bool.true_and]
     exact Ev.now _
    ·simp only [h4, if_false, h5, show (ask.toList == ([] : List UInt8)) = false from by simp [h5], Bool.or_false, Bool.false_and]
     exact Ev.now _
  ·simp only [h3, if_false, Bool.false_and]
   exact Ev.now _
 | succ d ih =>
  intro i hi
  have hlt : i < parts.length := by omega
  rw [List.drop_eq_getElem_cons hlt, List.all_cons]
  refine Ev_succ ?_
  simp only [impl_AddrOk.l0]
  have w1 : wrap64 ((i : Int) + 1) = ((i + 1 : Nat) : Int) := by rw [w64 (by omega) (by omega)]; omega
  simp only [show ((i : Int) < (parts.length : Int)) from by omega, show ((0 : Int) ≤ (i : Int)) from by omega, if_true, rd_at hlt, w1]
  by_cases h2 : parts[i].toList = []
  ·simp only [h2, if_true]
   rw [show partOk parts[i] = false from by simp [partOk, h2]]
   exact Ev.now _
  ·by_cases h3 : parts[i].toList = [46]
   ·simp only [h2, h3, if_true, if_false]
    rw [show partOk parts[i] = false from by simp [partOk, h3]]
    first | exact Ev.now _ | simpa using Ev.now _
   ·by_cases h4 : parts[i].toList = [46, 46]
    ·simp only [h2, h3, h4, if_true, if_false]
     rw [show partOk parts[i] = false from by simp [partOk, h4]]
     first | exact Ev.now _ | simpa using Ev.now _
    ·simp only [h2, h3, h4, if_false]
     refine Ev.bind (norm_i parts[i]) ?_
     by_cases h1 : isNorm parts[i] = true
     ·simp only [h1, if_true]
      rw [show partOk parts[i] = true from by simp [partOk, h1, h2, h3, h4], Bool.true_and]
      exact ih (i + 1) (by omega)
     ·simp only [h1, if_false]
      rw [show partOk parts[i] = false from by simp [partOk, h1]]
      exact Ev.now _
theorem okEnd_is (house : ByteArray) (parts : List ByteArray) (asks : Bool) (ask : ByteArray) : addrOk house parts asks ask = (isHouse house && decide (parts.length ≤ 5) && (parts.all partOk && okEnd house parts asks ask)) := by
 unfold addrOk okEnd
 cases isHouse house <;> cases decide (parts.length ≤ 5) <;> cases isNorm ask <;> cases (asks || ask.toList == []) <;> cases parts.all partOk <;> rfl
theorem addrOk_i (house : ByteArray) (parts : List ByteArray) (asks : Bool) (ask : ByteArray) (hP : Parts parts) (hq : ask.size ≤ 1048576) (hh : house.size ≤ 1048576) :
  Ev (fun k => impl_AddrOk.f k house parts asks ask) (addrOk house parts asks ask) := by
 have hf := hP.few
 have bad : Ev (fun k => impl_AddrOk.j0 k true house parts asks ask) false := Ev_succ (by simp only [impl_AddrOk.j0, if_true]; exact Ev.now _)
 unfold impl_AddrOk.f
 rw [okEnd_is]
 refine Ev.bind (house_i house (by omega)) ?_
 by_cases h1 : isHouse house = true
 ·simp only [h1, if_true, Bool.true_and]
  by_cases h2 : parts.length ≤ 5
  ·rw [show decide ((parts.length : Int) > 5) = false from by simp; omega]
   simp only [h2, decide_true, Bool.true_and]
   refine Ev_succ ?_
   simp only [impl_AddrOk.j0, Bool.false_eq_true, if_false]
   have := ok_i house parts asks ask hP hq hh parts.length 0 (by omega)
   simpa using this
  ·rw [show decide ((parts.length : Int) > 5) = true from by simp; omega]
   simp only [h2, decide_false, Bool.false_and]
   exact bad
 ·simp only [h1, if_false, Bool.false_and]
  exact bad
end Go.Proofs.YtpnedbnpnekahaaDoor.Ad
end
section
namespace Go.Proofs.YtpnedbnpnekahaaDoor.Ad
open Go.RowKit Go.Proofs.YtpnedbnpnekahaaDoor.P Go.Proofs.YtpnedbnpnekahaaDoorW.PrintWords Go.Proofs.YtpnedbnpnekahaaDoorW.PrintLast Go.Proofs.YtpnedbnpnekahaaDoorW.PrintMore Go.Proofs.YtpnedbnpnekahaaDoor.B
set_option linter.unusedVariables false
set_option linter.unusedSimpArgs false
def cutL (c : UInt8) : List UInt8 → List UInt8 × List UInt8 × Bool
 | [] => ([], [], false)
 | x :: xs => if x = c then ([], xs, true) else (x :: (cutL c xs).1, (cutL c xs).2)
theorem cutL_false {c : UInt8} : ∀ {l : List UInt8}, (cutL c l).2.2 = false → (cutL c l).1 = l ∧ (cutL c l).2.1 = []
 | [], _ => by simp [cutL]
 | x :: xs, h => by
  unfold cutL at h ⊢
  by_cases e : x = c
  ·rw [if_pos e] at h; cases h
  ·rw [if_neg e] at h ⊢
   have := cutL_false (l := xs) h
   exact ⟨by rw [this.1], this.2⟩
theorem cutL_true {c : UInt8} : ∀ {l : List UInt8}, (cutL c l).2.2 = true → l = (cutL c l).1 ++ c :: (cutL c l).2.1
 | [], h => by simp [cutL] at h
 | x :: xs, h => by
  unfold cutL at h ⊢
  by_cases e : x = c
  ·rw [if_pos e, e]; rfl
  ·rw [if_neg e] at h ⊢
   have := cutL_true (l := xs) h
   show x :: xs = x :: ((cutL c xs).1 ++ c :: (cutL c xs).2.1)
   rw [← this]
theorem cutL_len {c : UInt8} : ∀ (l : List UInt8), (cutL c l).1.length + (cutL c l).2.1.length ≤ l.length ∧ ((cutL c l).2.2 = true → (cutL c l).1.length + (cutL c l).2.1.length + 1 = l.length)
 | [] => by simp [cutL]
 | x :: xs => by
  unfold cutL
  by_cases e : x = c
  ·rw [if_pos e]; simp
  ·rw [if_neg e]
   have := cutL_len (c := c) xs
   simp only [List.length_cons]
   exact ⟨by omega, fun h => by have := this.2 h; omega⟩
theorem bt_at {s : ByteArray} {i : Nat} {c : UInt8} {l : List UInt8} (h : (L s).drop i = c :: l) : i < s.size ∧ bt s i = (c.toNat : Int) ∧ (L s).drop (i + 1) = l := by
 have hl : i < (L s).length := by
  rcases Nat.lt_or_ge i (L s).length with h' | h'
  ·exact h'
  ·rw [List.drop_eq_nil_of_le h'] at h; cases h
 have hd : (L s).drop i = (L s)[i] :: (L s).drop (i + 1) := List.drop_eq_getElem_cons hl
 rw [h] at hd
 injection hd with h1 h2
 refine ⟨by rw [← L_size]; exact hl, ?_, h2.symm⟩
 rw [bt_L, List.getD_eq_getElem?_getD, List.getElem?_eq_getElem hl, ← h1]
 rfl
theorem bt_end {s : ByteArray} {i : Nat} (h : (L s).drop i = []) : s.size ≤ i := by
 rw [← L_size]; exact List.drop_eq_nil_iff.1 h
theorem u8_eq {a b : UInt8} : ((a.toNat : Int) = (b.toNat : Int)) ↔ a = b := by
 constructor
 ·intro h; exact UInt8.toNat_inj.1 (by omega)
 ·intro h; rw [h]
def cutB (c : UInt8) (s : ByteArray) : ByteArray × ByteArray × Bool := (ofL (cutL c (L s)).1, ofL (cutL c (L s)).2.1, (cutL c (L s)).2.2)
theorem cut_l (s : ByteArray) (c : UInt8) (hs : s.size ≤ 140737488351232) : ∀ (l : List UInt8) (i : Nat), (L s).drop i = l →
  Ev (fun k => spec_l1Cut.l0 k s (c.toNat : Int) (i : Int)) (ofL ((L s).take i ++ (cutL c l).1), ofL (cutL c l).2.1, (cutL c l).2.2)
 | [], i, h => by
  have := bt_end h
  have n1 : ¬ ((i : Int) < (s.size : Int)) := by omega
  refine Ev_succ ?_
  simp only [spec_l1Cut.l0, n1, if_false]
  have e : (L s).take i = L s := List.take_of_length_le (by rw [L_size]; omega)
  simp only [cutL, e, List.append_nil, of_L]
  exact Ev.now _
 | x :: xs, i, h => by
  obtain ⟨hi, hb, hd⟩ := bt_at h
  refine Ev_succ ?_
  have e1 : wrap64 ((i : Int) + 1) = ((i + 1 : Nat) : Int) := by rw [w64 (by omega) (by omega)]; rfl
  have f1 : (i : Int) < (s.size : Int) := by omega
  have f2 : (0 : Int) ≤ (i : Int) := by omega
  have f3 : (i : Int) ≤ (s.size : Int) := by omega
  have f4 : (0 : Int) ≤ ((i + 1 : Nat) : Int) := by omega
  have f5 : ((i + 1 : Nat) : Int) ≤ (s.size : Int) := by omega
  simp only [spec_l1Cut.l0, e1, f1, f2, f3, f4, f5, if_true, hb, u8_eq]
  unfold cutL
  by_cases e : x = c
  ·simp only [e, if_true]
   have a1 : s.extract 0 ((i : Int)).toNat = ofL ((L s).take i ++ []) := by
    apply L_inj; rw [L_ext, L_of]; simp
   have a2 : s.extract ((((i + 1 : Nat) : Int))).toNat s.size = ofL xs := by
    apply L_inj; rw [L_ext, L_of, Int.toNat_natCast, hd, List.take_of_length_le]
    rw [← hd, List.length_drop, L_size]; omega
   rw [a1, a2]
   exact Ev.now _
  ·simp only [e, if_false]
   have := cut_l s c hs xs (i + 1) hd
   have ht : (L s).take (i + 1) ++ (cutL c xs).1 = (L s).take i ++ (x :: (cutL c xs).1) := by
    have hl : i < (L s).length := by rw [L_size]; exact hi
    have : (L s)[i] = x := by
     have hd2 : (L s).drop i = (L s)[i] :: (L s).drop (i + 1) := List.drop_eq_getElem_cons hl
     rw [h] at hd2
     injection hd2 with h1 h2
     exact h1.symm
    rw [List.take_succ_eq_append_getElem hl, this]
    simp
   rw [ht] at this
   exact this
theorem cut_ev (s : ByteArray) (c : UInt8) (hs : s.size ≤ 140737488351232) : Ev (fun k => spec_l1Cut.f k s (c.toNat : Int)) (cutB c s) := by
 have := cut_l s c hs (L s) 0 rfl
 simp only [List.take_zero, List.nil_append] at this
 exact this
def splitN (c : UInt8) : Nat → List UInt8 → List (List UInt8)
 | 0, l => [l]
 | n + 1, l => (cutL c l).1 :: (if (cutL c l).2.2 = true then splitN c n (cutL c l).2.1 else [])
def splitL (c : UInt8) (l : List UInt8) : List (List UInt8) := splitN c (l.length + 1) l
theorem splitN_eq (c : UInt8) : ∀ (n m : Nat) (l : List UInt8), l.length < n → l.length < m → splitN c n l = splitN c m l
 | 0, _, l, h, _ => absurd h (by omega)
 | _ + 1, 0, l, _, h => absurd h (by omega)
 | n + 1, m + 1, l, h1, h2 => by
  simp only [splitN]
  by_cases e : (cutL c l).2.2 = true
  ·have := (cutL_len (c := c) l).2 e
   rw [if_pos e, if_pos e, splitN_eq c n m _ (by omega) (by omega)]
  ·rw [if_neg e, if_neg e]
theorem splitL_eq (c : UInt8) (l : List UInt8) : splitL c l = (cutL c l).1 :: (if (cutL c l).2.2 = true then splitL c (cutL c l).2.1 else []) := by
 unfold splitL
 rw [splitN]
 by_cases e : (cutL c l).2.2 = true
 ·have := (cutL_len (c := c) l).2 e
  rw [if_pos e, if_pos e, splitN_eq c _ ((cutL c l).2.1.length + 1) _ (by omega) (by omega)]
 ·rw [if_neg e, if_neg e]
theorem splitN_len (c : UInt8) : ∀ (n : Nat) (l : List UInt8), (splitN c n l).length ≤ l.length + 1
 | 0, l => by simp [splitN]
 | n + 1, l => by
  simp only [splitN]
  by_cases e : (cutL c l).2.2 = true
  ·have := (cutL_len (c := c) l).2 e
   have ih := splitN_len c n (cutL c l).2.1
   rw [if_pos e]; simp only [List.length_cons]; omega
  ·rw [if_neg e]; simp
theorem splitL_len (c : UInt8) (l : List UInt8) : (splitL c l).length ≤ l.length + 1 := splitN_len c _ l
theorem split_l (c : UInt8) (n : Nat) : ∀ (s : ByteArray) (acc : List ByteArray), s.size < n → s.size ≤ 1000000000 → acc.length + s.size ≤ 2000000000 →
  Ev (fun k => spec_l1Split.l0 k (c.toNat : Int) acc s true) (acc ++ (splitL c (L s)).map ofL) := by
 induction n with
 | zero => intro s acc h; exact absurd h (by omega)
 | succ n ih =>
  intro s acc h h1 h2
  refine Ev_succ ?_
  simp only [spec_l1Split.l0, if_true]
  refine Ev.bind (cut_ev s c (by omega)) ?_
  have g1 : acc.length < 8796093022208 := by omega
  simp only [g1, if_true]
  rw [splitL_eq]
  have hl := cutL_len (c := c) (L s)
  rw [L_size] at hl
  by_cases e : (cutL c (L s)).2.2 = true
  ·have e' : (cutB c s).2.2 = true := e
   have hz : (ofL (cutL c (L s)).2.1).size = (cutL c (L s)).2.1.length := ofL_size _
   have := hl.2 e
   have ih' := ih (ofL (cutL c (L s)).2.1) (acc ++ [ofL (cutL c (L s)).1]) (by omega) (by omega) (by simp only [List.length_append, List.length_singleton]; omega)
   rw [if_pos e]
   simp only [cutB, e]
   rw [L_of] at ih'
   simpa using ih'
  ·have e' : (cutL c (L s)).2.2 = false := by simpa using e
   rw [if_neg e]
   simp only [cutB, e']
   refine Ev_succ ?_
   simp only [spec_l1Split.l0]
   simp
   exact Ev.now _
theorem split_ev (s : ByteArray) (c : UInt8) (hs : s.size ≤ 1000000000) : Ev (fun k => spec_l1Split.f k s (c.toNat : Int)) ((splitL c (L s)).map ofL) := by
 have := split_l c (s.size + 1) s [] (by omega) hs (by simp; omega)
 rw [List.nil_append] at this
 exact this
end Go.Proofs.YtpnedbnpnekahaaDoor.Ad
end
section
namespace Go.Proofs.YtpnedbnpnekahaaDoor.Ad
open Go.RowKit Go.Proofs.YtpnedbnpnekahaaDoorW.PrintWords Go.Proofs.YtpnedbnpnekahaaDoor.B
set_option linter.unusedVariables false
set_option linter.unusedSimpArgs false
abbrev A5 := ByteArray × List ByteArray × Bool × ByteArray × Bool
def none5 : A5 := ((⟨#[]⟩ : ByteArray), ([] : List ByteArray), false, (⟨#[]⟩ : ByteArray), false)
def escAll : List ByteArray → Option (List ByteArray)
 | [] => some []
 | q :: qs => if (escNorm q).2 = true then (escAll qs).map ((escNorm q).1 :: ·) else none
def clean1 (acc : List ByteArray) (p : ByteArray) : List ByteArray :=
 if p.toList = [] then acc else if p.toList = [46] then acc else if p.toList = [46, 46] then acc.take (acc.length - 1) else acc ++ [p]
def pathClean (ps : List ByteArray) : List ByteArray := ps.foldl clean1 []
def wayO (house : ByteArray) (base : List ByteArray) (way : ByteArray) : A5 :=
 match escAll ((splitL 47 (L (cutB 63 way).1)).map ofL) with
 | none => none5
 | some ps => if (escNorm (cutB 63 way).2.1).2 = true then (if addrOk house (pathClean (base ++ ps)) (cutB 63 way).2.2 (escNorm (cutB 63 way).2.1).1 = true then (house, pathClean (base ++ ps), (cutB 63 way).2.2, (escNorm (cutB 63 way).2.1).1, true) else none5) else none5
def houseL : List UInt8 → List UInt8 × List UInt8
 | [] => ([], [])
 | x :: xs => if x = 47 ∨ x = 63 then ([], x :: xs) else (x :: (houseL xs).1, (houseL xs).2)
def wholeO (rest : ByteArray) : A5 := wayO (smallB (ofL (houseL (L rest)).1)) [] (ofL (houseL (L rest)).2)
def readO (raw : ByteArray) : A5 :=
 if raw.size > 60 then none5 else if (cutB 35 raw).1.size < 2 then none5 else if (L (cutB 35 raw).1).take 2 = [47, 47] then wholeO ((cutB 35 raw).1.extract 2 (cutB 35 raw).1.size) else none5
def Fine (a : A5) : Prop := a = none5 ∨ (a.2.2.2.2 = true ∧ addrOk a.1 a.2.1 a.2.2.1 a.2.2.2.1 = true)
theorem fine_none : Fine none5 := Or.inl rfl
theorem fine_way (h : ByteArray) (b : List ByteArray) (w : ByteArray) : Fine (wayO h b w) := by
 unfold wayO
 split
 ·exact fine_none
 ·split
  ·split
   ·rename_i hh
    exact Or.inr ⟨rfl, hh⟩
   ·exact fine_none
  ·exact fine_none
theorem fine_read (raw : ByteArray) : Fine (readO raw) := by
 unfold readO
 split
 ·exact fine_none
 ·split
  ·exact fine_none
  ·split
   ·exact fine_way _ _ _
   ·exact fine_none
theorem isHouse_size {s : ByteArray} (h : isHouse s = true) : s.size ≤ 5 := by
 unfold isHouse at h
 simp only [Bool.and_eq_true, decide_eq_true_eq] at h
 exact h.1.2
theorem clean1_mem {acc : List ByteArray} {p x : ByteArray} (h : x ∈ clean1 acc p) : x ∈ acc ∨ x = p := by
 unfold clean1 at h
 split at h
 ·exact Or.inl h
 ·split at h
  ·exact Or.inl h
  ·split at h
   ·exact Or.inl (List.mem_of_mem_take h)
   ·rcases List.mem_append.1 h with h | h
    ·exact Or.inl h
    ·exact Or.inr (List.mem_singleton.1 h)
theorem clean1_len (acc : List ByteArray) (p : ByteArray) : (clean1 acc p).length ≤ acc.length + 1 := by
 unfold clean1
 split
 ·omega
 ·split
  ·omega
  ·split
   ·rw [List.length_take]; omega
   ·simp
theorem cleanF_mem : ∀ {ps acc : List ByteArray} {x : ByteArray}, x ∈ ps.foldl clean1 acc → x ∈ acc ∨ x ∈ ps
 | [], acc, x, h => Or.inl h
 | p :: ps, acc, x, h => by
  rw [List.foldl_cons] at h
  rcases cleanF_mem h with h | h
  ·rcases clean1_mem h with h | h
   ·exact Or.inl h
   ·exact Or.inr (by rw [h]; exact List.mem_cons_self)
  ·exact Or.inr (List.mem_cons_of_mem _ h)
theorem cleanF_len : ∀ (ps acc : List ByteArray), (ps.foldl clean1 acc).length ≤ acc.length + ps.length
 | [], acc => by simp
 | p :: ps, acc => by
  rw [List.foldl_cons]
  have := cleanF_len ps (clean1 acc p)
  have := clean1_len acc p
  simp only [List.length_cons]; omega
end Go.Proofs.YtpnedbnpnekahaaDoor.Ad
end
section
namespace Go.Proofs.YtpnedbnpnekahaaDoor.Ad
open Go.RowKit Go.Proofs.YtpnedbnpnekahaaDoor.P Go.Proofs.YtpnedbnpnekahaaDoorW.PrintWords Go.Proofs.YtpnedbnpnekahaaDoorW.PrintLast Go.Proofs.YtpnedbnpnekahaaDoorW.PrintMore Go.Proofs.YtpnedbnpnekahaaDoor.B
set_option linter.unusedVariables false
set_option linter.unusedSimpArgs false
theorem index_cut (c : UInt8) : ∀ l : List UInt8, Lib.indexByte l c = if (cutL c l).2.2 = true then (((cutL c l).1.length : Nat) : Int) else -1
 | [] => rfl
 | x :: xs => by
  unfold Lib.indexByte cutL
  by_cases h : x = c
  ·subst h; simp
  ·have hb : (x == c) = false := by simp [h]
   simp only [hb, h, if_false, Bool.false_eq_true, index_cut c xs]
   by_cases h2 : (cutL c xs).2.2 = true
   ·simp only [h2, if_true]
    have : ((((cutL c xs).1.length : Nat) : Int) == -1) = false := by simp
    rw [this]
    simp
   ·simp only [h2, if_false, Bool.false_eq_true]
    rfl
theorem cut_parts {c : UInt8} {s : ByteArray} (h : (cutL c (L s)).2.2 = true) :
  s.extract 0 (cutL c (L s)).1.length = ofL (cutL c (L s)).1 ∧ s.extract ((cutL c (L s)).1.length + 1) s.size = ofL (cutL c (L s)).2.1 ∧ (cutL c (L s)).1.length + 1 ≤ s.size := by
 have e := cutL_true h
 have hn := (cutL_len (c := c) (L s)).2 h
 rw [L_size] at hn
 generalize (cutL c (L s)).1 = a at *
 generalize (cutL c (L s)).2.1 = b at *
 have e' : s.data.toList = a ++ c :: b := e
 refine ⟨?_, ?_, by omega⟩
 ·apply L_inj
  rw [L_ext, L_of, e']
  simp
 ·apply L_inj
  have : (a ++ c :: b).drop (a.length + 1) = b := by rw [List.drop_append]; simp
  rw [L_ext, L_of, e', this, List.take_of_length_le (by omega)]
theorem cut_i (s : ByteArray) (c : UInt8) (hs : s.size ≤ 140737488351232) : strings_Cut.f s ⟨#[c]⟩ = some (cutB c s) := by
 have e1 : L (⟨#[c]⟩ : ByteArray) = [c] := rfl
 have e2 : (⟨#[c]⟩ : ByteArray).size = 1 := rfl
 unfold strings_Cut.f stringslite_Cut.f stringslite_Index.f cutB
 rw [e1]
 simp only [Option.bind_some, index_cut, e2]
 by_cases h : (cutL c (L s)).2.2 = true
 ·obtain ⟨h1, h2, h3⟩ := cut_parts h
  simp only [h, if_true]
  rw [if_pos (by omega), if_pos (by omega), if_pos (by omega), w64 (by omega) (by omega), if_pos (by omega), if_pos (by omega)]
  simp only [Option.bind_some, Int.toNat_natCast]
  rw [h1, show (((cutL c (L s)).1.length : Int) + ((1 : Nat) : Int)).toNat = (cutL c (L s)).1.length + 1 from by omega, h2]
 ·simp only [h, if_false, Bool.false_eq_true]
  rw [if_neg (by decide)]
  obtain ⟨g1, g2⟩ := cutL_false (c := c) (l := L s) (by simpa using h)
  simp only [Option.bind_some, g1, g2, of_L]
  first | done | rfl
theorem count_cut_false {c : UInt8} : ∀ {l : List UInt8}, Lib.countByte l c = 0 → (cutL c l).2.2 = false
 | [], _ => rfl
 | x :: xs, h => by
  unfold Lib.countByte at h
  unfold cutL
  by_cases e : x = c
  ·subst e; simp at h
  ·rw [if_neg e]
   have h' : Lib.countByte xs c = 0 := by unfold Lib.countByte; rw [List.count_cons] at h; omega
   exact count_cut_false h'
theorem count_cut_true {c : UInt8} {m : Nat} : ∀ {l : List UInt8}, Lib.countByte l c = m + 1 → (cutL c l).2.2 = true ∧ Lib.countByte (cutL c l).2.1 c = m
 | [], h => by simp [Lib.countByte] at h
 | x :: xs, h => by
  unfold Lib.countByte at h
  unfold cutL
  by_cases e : x = c
  ·subst e
   rw [if_pos rfl]
   refine ⟨rfl, ?_⟩
   unfold Lib.countByte
   rw [List.count_cons_self] at h
   exact Nat.succ.inj h
  ·rw [if_neg e]
   have h' : Lib.countByte xs c = m + 1 := by
    unfold Lib.countByte
    rw [List.count_cons_of_ne e] at h
    exact h
   exact count_cut_true h'
theorem w64n0 (a : Nat) (h : a < 4611686018427387904) : wrap64 ((a : Int) + 0) = (a : Int) := by rw [w64 (by omega) (by omega)]; omega
theorem w64n1 (a : Nat) (h : a < 4611686018427387904) : wrap64 ((a : Int) + 1) = ((a + 1 : Nat) : Int) := by rw [w64 (by omega) (by omega)]; omega
theorem w64n2 (a : Nat) (h : a < 4611686018427387904) : wrap64 ((a : Int) + ((1 : Nat) : Int)) = ((a + 1 : Nat) : Int) := by rw [w64 (by omega) (by omega)]; omega
theorem w64b {n m : Nat} (h : n + 1 ≤ m) (hm : m ≤ 1000000000) : n < 4611686018427387904 := by omega
theorem w64d {n m : Nat} (h : n + m ≤ 2000000000) : n < 4611686018427387904 := by omega
theorem ci_lt (a m : Nat) : (a : Int) < ((a + (m + 1) : Nat) : Int) := by omega
theorem ci_neg (n : Nat) : ¬ ((n : Int) < 0) := by omega
theorem ci_nn (n : Nat) : (0 : Int) ≤ (n : Int) := by omega
theorem ci_le {n s : Nat} (h : n + 1 ≤ s) : (n : Int) ≤ (s : Int) := by omega
theorem ci_le1 {n s : Nat} (h : n + 1 ≤ s) : ((n + 1 : Nat) : Int) ≤ (s : Int) := by omega
theorem ci_l6 {a m l : Nat} (h : l = a + (m + 2)) : (a : Int) < (l : Int) := by omega
theorem set_mid (a : List ByteArray) (m : Nat) (p e : ByteArray) : (a ++ List.replicate (m + 1) e).set a.length p = (a ++ [p]) ++ List.replicate m e := by
 rw [List.set_append_right _ _ (Nat.le_refl _), Nat.sub_self, List.replicate_succ, List.set_cons_zero, List.append_assoc]
 rfl
theorem take_mid (a b : List ByteArray) (p : ByteArray) : ((a ++ [p]) ++ b).take (a.length + 1) = a ++ [p] := by
 rw [List.take_append_of_le_length (by simp)]
 exact List.take_of_length_le (by simp)
theorem split_li (c : UInt8) : ∀ (m : Nat) (s : ByteArray) (a : List ByteArray), Lib.countByte (L s) c = m → s.size ≤ 1000000000 → a.length + m ≤ 2000000000 →
  Ev (fun k => strings_genSplit.l0 k s ⟨#[c]⟩ 0 ((a.length + m : Nat) : Int) (a ++ List.replicate (m + 1) (⟨#[]⟩ : ByteArray)) (a.length : Int)) (a ++ (splitL c (L s)).map ofL) := by
 intro m
 have e1 : L (⟨#[c]⟩ : ByteArray) = [c] := rfl
 have e2 : (⟨#[c]⟩ : ByteArray).size = 1 := rfl
 induction m with
 | zero =>
  intro s a hc hs ha
  have hf := count_cut_false hc
  obtain ⟨g1, g2⟩ := cutL_false hf
  rw [splitL_eq, hf]
  refine Ev_succ ?_
  simp only [strings_genSplit.l0]
  have hl : (a ++ List.replicate (0 + 1) (⟨#[]⟩ : ByteArray)).length = a.length + 1 := by simp
  have hw : wrap64 ((a.length : Int) + 1) = ((a.length + 1 : Nat) : Int) := by rw [w64 (by omega) (by omega)]; omega
  simp only [show ¬ ((a.length : Int) < ((a.length + 0 : Nat) : Int)) from by omega, if_false, hl, show ((0 : Int) ≤ (a.length : Int)) from by omega, show ((a.length : Int) < ((a.length + 1 : Nat) : Int)) from by omega, if_true, hw,
   show ((0 : Int) ≤ ((a.length + 1 : Nat) : Int)) from by omega, Int.toNat_natCast, Int.le_refl]
  rw [set_mid, take_mid]
  simp only [Bool.false_eq_true, if_false, List.map_cons, List.map_nil, g1, of_L]
  exact Ev.now _
 | succ m ih =>
  intro s a hc hs ha
  obtain ⟨ht, hc'⟩ := count_cut_true hc
  obtain ⟨h1, h2, h3⟩ := cut_parts ht
  have hix : Lib.indexByte (L s) c = (((cutL c (L s)).1.length : Nat) : Int) := by rw [index_cut, if_pos ht]
  rw [splitL_eq, if_pos ht]
  have hz : (ofL (cutL c (L s)).2.1).size ≤ 1000000000 := by
   have := (cutL_len (c := c) (L s)).1
   rw [L_size] at this
   rw [ofL_size]; omega
  have key := ih (ofL (cutL c (L s)).2.1) (a ++ [ofL (cutL c (L s)).1]) (by rw [L_of]; exact hc') hz (by simp; omega)
  rw [L_of] at key
  rw [List.map_cons, show a ++ ofL (cutL c (L s)).1 :: List.map ofL (splitL c (cutL c (L s)).2.1) = a ++ [ofL (cutL c (L s)).1] ++ List.map ofL (splitL c (cutL c (L s)).2.1) from by simp]
  generalize (cutL c (L s)).1.length = n at h1 h2 h3 hix
  rw [show (cutL c (L s)).2.1 = L (s.extract (n + 1) s.size) from by rw [h2, L_of]]
  rw [← h1] at key ⊢
  rw [← h2] at key
  clear hz h1 h2 hc' ht hc
  have hl : (a ++ List.replicate (m + 1 + 1) (⟨#[]⟩ : ByteArray)).length = a.length + (m + 2) := by simp
  have hl2 : (a ++ [s.extract 0 n]).length = a.length + 1 := by simp
  rw [hl2] at key
  refine Ev.step (fun k => ?_) key
  have c1 := ci_lt a.length m
  have c2 := ci_neg n
  have c3 := ci_nn n
  have c4 := ci_le h3
  have c5 := ci_nn a.length
  have c6 := ci_l6 hl
  have c7 := ci_nn (n + 1)
  have c8 := ci_le1 h3
  have hw : wrap64 ((a.length : Int) + 1) = ((a.length + 1 : Nat) : Int) := w64n1 a.length (w64d ha)
  have hw0 : wrap64 ((n : Int) + 0) = (n : Int) := w64n0 n (w64b h3 hs)
  have hw1 : wrap64 ((n : Int) + ((1 : Nat) : Int)) = ((n + 1 : Nat) : Int) := w64n2 n (w64b h3 hs)
  simp only [strings_genSplit.l0, strings_Index.f, stringslite_Index.f]
  rw [if_pos c1, hix, Option.bind_some, Option.bind_some]
  rw [if_neg c2, hw0, if_pos c3, if_pos c4, if_pos c5, if_pos c6, e2, hw1, if_pos c7, if_pos c8, hw]
  simp only [Int.toNat_natCast]
  rw [set_mid, show a.length + 1 + m = a.length + (m + 1) from by rw [Nat.add_assoc, Nat.add_comm 1 m]]
theorem split_i (s : ByteArray) (c : UInt8) (hs : s.size ≤ 1000000000) : Ev (fun k => strings_Split.f k s ⟨#[c]⟩) ((splitL c (L s)).map ofL) := by
 have e1 : L (⟨#[c]⟩ : ByteArray) = [c] := rfl
 have hcnt : Lib.countByte (L s) c ≤ s.size := by rw [← L_size]; exact List.count_le_length
 unfold strings_Split.f strings_genSplit.f strings_Count.f
 have en : ¬ ((⟨#[c]⟩ : ByteArray).toList = ([] : List UInt8)) := by rw [toList_nil]; show ¬ (1 = 0); omega
 rw [e1]
 simp only [show ¬ ((-1 : Int) = 0) from by omega, if_false, en, show ((-1 : Int) < 0) from by omega, if_true, Option.bind_some]
 refine Ev.bind (a := (splitL c (L s)).map ofL) ?_ (Ev.now _)
 refine Ev_succ ?_
 have hw : wrap64 (((Lib.countByte (L s) c : Nat) : Int) + 1) = ((Lib.countByte (L s) c + 1 : Nat) : Int) := by rw [w64 (by omega) (by omega)]; omega
 have hw2 : wrap64 ((s.size : Int) + 1) = ((s.size + 1 : Nat) : Int) := by rw [w64 (by omega) (by omega)]; omega
 have hm : mn ((Lib.countByte (L s) c + 1 : Nat) : Int) ((s.size + 1 : Nat) : Int) = ((Lib.countByte (L s) c + 1 : Nat) : Int) := by unfold mn; split <;> omega
 have hw3 : wrap64 (((Lib.countByte (L s) c + 1 : Nat) : Int) - 1) = ((0 + Lib.countByte (L s) c : Nat) : Int) := by rw [w64 (by omega) (by omega)]; omega
 simp only [strings_genSplit.j0, hw, hw2, hm, show ((0 : Int) ≤ ((Lib.countByte (L s) c + 1 : Nat) : Int)) from by omega, if_true, Int.toNat_natCast, show Lib.countByte (L s) c + 1 ≤ 17592186044416 from by omega, hw3]
 have := split_li c (Lib.countByte (L s) c) s [] rfl hs (by simp; omega)
 simpa using this
end Go.Proofs.YtpnedbnpnekahaaDoor.Ad
end
section
namespace Go.Proofs.YtpnedbnpnekahaaDoor.Ad
open Go.RowKit Go.Proofs.YtpnedbnpnekahaaDoor.P Go.Proofs.YtpnedbnpnekahaaDoorW.PrintWords Go.Proofs.YtpnedbnpnekahaaDoorW.PrintLast Go.Proofs.YtpnedbnpnekahaaDoorW.PrintMore Go.Proofs.YtpnedbnpnekahaaDoor.B
set_option linter.unusedVariables false
set_option linter.unusedSimpArgs false
theorem fine_parts {a : A5} (h : Fine a) : Parts a.2.1 ∧ a.1.size ≤ 60 ∧ a.2.2.2.1.size ≤ 60 := by
 rcases h with rfl | ⟨_, h⟩
 ·exact ⟨⟨by simp [none5], by simp [none5]⟩, Nat.zero_le _, Nat.zero_le _⟩
 ·unfold addrOk at h
  simp only [Bool.and_eq_true, decide_eq_true_eq] at h
  obtain ⟨⟨⟨⟨⟨h1, h2⟩, h3⟩, h4⟩, h5⟩, h6⟩ := h
  refine ⟨⟨by omega, fun p hp => ?_⟩, ?_, ?_⟩
  ·have := List.all_eq_true.1 h5 p hp
   unfold partOk at this
   simp only [Bool.and_eq_true] at this
   have := isNorm_size this.1.1.1
   omega
  ·have := isHouse_size h1; omega
  ·exact isNorm_size h3
theorem clean_l (ps : List ByteArray) (hl : ps.length ≤ 1000000) (d : Nat) : ∀ (i : Nat) (acc : List ByteArray), i + d = ps.length → acc.length ≤ i →
  Ev (fun k => spec_PathClean.l0 k ps acc (i : Int)) ((ps.drop i).foldl clean1 acc) := by
 induction d with
 | zero =>
  intro i acc hi ha
  have n1 : ¬ ((i : Int) < (ps.length : Int)) := by omega
  rw [List.drop_eq_nil_of_le (by omega)]
  refine Ev_succ ?_
  simp only [spec_PathClean.l0, n1, if_false]
  exact Ev.now _
 | succ d ih =>
  intro i acc hi ha
  have hi' : i < ps.length := by omega
  have f1 : (i : Int) < (ps.length : Int) := by omega
  have f2 : (0 : Int) ≤ (i : Int) := by omega
  have e1 : wrap64 ((i : Int) + 1) = ((i + 1 : Nat) : Int) := by rw [w64 (by omega) (by omega)]; rfl
  have hr := rd_at hi'
  rw [List.drop_eq_getElem_cons hi', List.foldl_cons]
  generalize ps[i] = p at hr ⊢
  have hc := clean1_len acc p
  have ih' := ih (i + 1) (clean1 acc p) (by omega) (by omega)
  refine Ev_succ ?_
  simp only [spec_PathClean.l0, f1, f2, if_true, hr]
  unfold clean1 at ih' ⊢
  by_cases h1 : p.toList = []
  ·simp only [h1, if_true] at ih' ⊢
   refine Ev_succ ?_
   simp only [spec_PathClean.j1, if_true, e1]
   exact ih'
  ·simp only [h1, if_false] at ih' ⊢
   refine Ev_succ ?_
   by_cases h2 : p.toList = [46]
   ·simp only [h2, if_true] at ih' ⊢
    simp only [spec_PathClean.j1, beq_self_eq_true, if_true, e1]
    exact ih'
   ·have h2' : (p.toList == [46]) = false := by simpa using h2
    simp only [h2, if_false] at ih' ⊢
    simp only [spec_PathClean.j1, h2', Bool.false_eq_true, if_false, f1, f2, if_true, hr, e1]
    by_cases h3 : p.toList = [46, 46]
    ·have m : mx (wrap64 ((acc.length : Int) - 1)) 0 = ((acc.length - 1 : Nat) : Int) := by
      rw [w64 (by omega) (by omega)]; unfold mx; split <;> omega
     have g1 : (0 : Int) ≤ ((acc.length - 1 : Nat) : Int) := by omega
     have g2 : ((acc.length - 1 : Nat) : Int) ≤ (acc.length : Int) := by omega
     simp only [h3, if_true] at ih' ⊢
     simp only [m, g1, g2, if_true, Int.toNat_natCast]
     exact ih'
    ·have g3 : acc.length < 8796093022208 := by omega
     simp only [h3, if_false] at ih' ⊢
     simp only [g3, if_true]
     exact ih'
theorem clean_ev (ps : List ByteArray) (hl : ps.length ≤ 1000000) : Ev (fun k => spec_PathClean.f k ps) (pathClean ps) :=
 clean_l ps hl ps.length 0 [] (by omega) (by simp)
def wayE (house : ByteArray) (asks : Bool) (ask : ByteArray) (ps : List ByteArray) : A5 :=
 if (escNorm ask).2 = true then (if addrOk house (pathClean ps) asks (escNorm ask).1 = true then (house, pathClean ps, asks, (escNorm ask).1, true) else none5) else none5
theorem way_l (house ask : ByteArray) (asks : Bool) (base : List ByteArray) (b0 : Bool) (a0 : ByteArray) (hh : house.size ≤ 100000) (ls : List ByteArray) (hl : ls.length ≤ 900) (d : Nat) :
  ∀ (i : Nat) (acc : List ByteArray), i + d = ls.length → acc.length ≤ i + 50 → (∀ p ∈ acc, p.size ≤ 1048576) →
  Ev (fun k => spec_l1Way.l0 k ask asks acc ls (i : Int) house base b0 a0) (match escAll (ls.drop i) with | none => none5 | some ps => wayE house asks ask (acc ++ ps)) := by
 induction d with
 | zero =>
  intro i acc hi ha hp
  have n1 : ¬ ((i : Int) < (ls.length : Int)) := by omega
  rw [List.drop_eq_nil_of_le (by omega)]
  refine Ev_succ ?_
  simp only [spec_l1Way.l0, n1, if_false, escAll, List.append_nil]
  refine Ev.bind (escNorm_ev ask) (Ev.bind (clean_ev acc (by omega)) ?_)
  have hz := escNorm_size ask
  unfold wayE
  by_cases h1 : (escNorm ask).2 = true
  ·simp only [h1, if_true]
   have hP : Parts (pathClean acc) := ⟨by have := cleanF_len acc []; unfold pathClean; simp only [List.length_nil] at this; omega, fun p hq => by
    rcases cleanF_mem hq with h | h
    ·cases h
    ·exact hp p h⟩
   refine Ev.bind (addrOk_ev house (pathClean acc) asks (escNorm ask).1 hP (by omega) (by omega)) ?_
   by_cases h2 : addrOk house (pathClean acc) asks (escNorm ask).1 = true
   ·simp only [h2, if_true]; exact Ev.now _
   ·simp only [h2, if_false]; exact Ev.now _
  ·simp only [h1, if_false]; exact Ev.now _
 | succ d ih =>
  intro i acc hi ha hp
  have hi' : i < ls.length := by omega
  have f1 : (i : Int) < (ls.length : Int) := by omega
  have f2 : (0 : Int) ≤ (i : Int) := by omega
  have e1 : wrap64 ((i : Int) + 1) = ((i + 1 : Nat) : Int) := by rw [w64 (by omega) (by omega)]; rfl
  have hr := rd_at hi'
  rw [List.drop_eq_getElem_cons hi']
  generalize ls[i] = p at hr ⊢
  have hz := escNorm_size p
  refine Ev_succ ?_
  simp only [spec_l1Way.l0, f1, f2, if_true, hr, e1]
  refine Ev.bind (escNorm_ev p) ?_
  unfold escAll
  by_cases h1 : (escNorm p).2 = true
  ·have g3 : acc.length < 8796093022208 := by omega
   simp only [h1, if_true, g3]
   have ih' := ih (i + 1) (acc ++ [(escNorm p).1]) (by omega) (by simp; omega) (fun x hx => by
    rcases List.mem_append.1 hx with h | h
    ·exact hp x h
    ·rw [List.mem_singleton.1 h]; omega)
   cases he : escAll (ls.drop (i + 1)) with
   | none => rw [he] at ih'; exact ih'
   | some ps =>
    rw [he] at ih'
    simp only [Option.map_some]
    simpa using ih'
  ·simp only [h1, if_false]; exact Ev.now _
theorem cutB_size (c : UInt8) (s : ByteArray) : (cutB c s).1.size ≤ s.size ∧ (cutB c s).2.1.size ≤ s.size := by
 have := (cutL_len (c := c) (L s)).1
 rw [L_size] at this
 unfold cutB
 constructor
 ·show (ofL _).size ≤ _; rw [ofL_size]; omega
 ·show (ofL _).size ≤ _; rw [ofL_size]; omega
theorem way_ev (house : ByteArray) (base : List ByteArray) (b0 : Bool) (a0 way : ByteArray) (hh : house.size ≤ 100000) (hb : base.length ≤ 50) (hp : ∀ p ∈ base, p.size ≤ 1048576) (hw : way.size ≤ 800) :
  Ev (fun k => spec_l1Way.f k house base b0 a0 way) (wayO house base way) := by
 unfold spec_l1Way.f wayO
 refine Ev.bind (cut_ev way 63 (by omega)) ?_
 have hc := cutB_size 63 way
 have g : ([] : List ByteArray).length + base.length < 8796093022208 := by simp; omega
 simp only [Option.bind_some, g, if_true, List.nil_append]
 refine Ev.bind (split_ev (cutB 63 way).1 47 (by omega)) ?_
 have hl := splitL_len 47 (L (cutB 63 way).1)
 rw [L_size] at hl
 have := way_l house (cutB 63 way).2.1 (cutB 63 way).2.2 base b0 a0 hh ((splitL 47 (L (cutB 63 way).1)).map ofL) (by rw [List.length_map]; omega) _ 0 base (Nat.zero_add _) (by omega) hp
 rw [List.drop_zero] at this
 exact this
theorem house_l (s h : ByteArray) (hs : s.size ≤ 800) : ∀ (l : List UInt8) (i : Nat), (L s).drop i = l → h = s →
  Ev (fun k => spec_l1Whole.l0 k s h (⟨#[]⟩ : ByteArray) (i : Int)) (wayO (smallB (ofL ((L s).take i ++ (houseL l).1))) [] (ofL (houseL l).2))
 | [], i, h', e => by
  have := bt_end h'
  have n1 : ¬ ((i : Int) < (s.size : Int)) := by omega
  have eq : (L s).take i = L s := List.take_of_length_le (by rw [L_size]; omega)
  subst e
  refine Ev_succ ?_
  simp only [spec_l1Whole.l0, n1, if_false, houseL, eq, List.append_nil, of_L, spec_l1Small.f, show h.size ≤ 140737488351232 from by omega, if_true, Option.bind_some]
  refine Ev.bind (way_ev (smallB h) [] false _ _ (by unfold smallB; rw [ofL_size, List.length_map, L_size]; omega) (by simp) (by simp) (by decide)) ?_
  exact Ev.now _
 | x :: xs, i, h', e => by
  obtain ⟨hi, hb, hd⟩ := bt_at h'
  have e1 : wrap64 ((i : Int) + 1) = ((i + 1 : Nat) : Int) := by rw [w64 (by omega) (by omega)]; rfl
  have f1 : (i : Int) < (s.size : Int) := by omega
  have f2 : (0 : Int) ≤ (i : Int) := by omega
  have f3 : (i : Int) ≤ (s.size : Int) := by omega
  have c1 : ((x.toNat : Int) = 47) ↔ x = 47 := u8_eq (b := 47)
  have c2 : ((x.toNat : Int) = 63) ↔ x = 63 := u8_eq (b := 63)
  have x1 : s.extract 0 i = ofL ((L s).take i) := by apply L_inj; rw [L_ext, L_of]; simp
  have x2 : s.extract i s.size = ofL (x :: xs) := by
   apply L_inj; rw [L_ext, L_of, h', List.take_of_length_le]
   rw [← h', List.length_drop, L_size]; omega
  have z1 : (ofL ((L s).take i)).size ≤ 800 := by rw [ofL_size, List.length_take, L_size]; omega
  have z2 : (ofL (x :: xs)).size ≤ 800 := by rw [ofL_size, ← h', List.length_drop, L_size]; omega
  have fin : Ev (fun k => (spec_l1Way.f k (smallB (ofL ((L s).take i))) ([] : List ByteArray) false (⟨#[]⟩ : ByteArray) (ofL (x :: xs))).bind fun bt204 => (some (bt204.1, bt204.2.1, bt204.2.2.1, bt204.2.2.2.1, bt204.2.2.2.2))) (wayO (smallB (ofL ((L s).take i ++ []))) [] (ofL (x :: xs))) := by
   rw [List.append_nil]
   refine Ev.bind (way_ev _ [] false _ _ (by unfold smallB; rw [ofL_size, List.length_map, L_size]; omega) (by simp) (by simp) z2) ?_
   exact Ev.now _
  refine Ev_succ ?_
  simp only [spec_l1Whole.l0, f1, f2, f3, if_true, hb, c1, c2, e1, Int.toNat_natCast, x1, x2, spec_l1Small.f, show (ofL ((L s).take i)).size ≤ 140737488351232 from by omega, Option.bind_some]
  unfold houseL
  by_cases h1 : x = 47
  ·simp only [h1, if_true, true_or]
   rw [h1] at fin
   exact fin
  ·by_cases h2 : x = 63
   ·simp only [h1, h2, if_true, if_false, or_true, show ¬ ((63 : UInt8) = 47) from by decide]
    rw [h2] at fin
    exact fin
   ·simp only [h1, h2, if_false, or_self]
    have := house_l s h hs xs (i + 1) hd e
    have ht : (L s).take (i + 1) ++ (houseL xs).1 = (L s).take i ++ (x :: (houseL xs).1) := by
     have hl : i < (L s).length := by rw [L_size]; exact hi
     have : (L s)[i] = x := by
      have hd2 : (L s).drop i = (L s)[i] :: (L s).drop (i + 1) := List.drop_eq_getElem_cons hl
      rw [h'] at hd2
      injection hd2 with h1 h2
      exact h1.symm
     rw [List.take_succ_eq_append_getElem hl, this]
     simp
    rw [ht] at this
    exact this
theorem whole_ev (s : ByteArray) (hs : s.size ≤ 800) : Ev (fun k => spec_l1Whole.f k s) (wholeO s) := by
 have := house_l s s hs (L s) 0 rfl rfl
 simp only [List.take_zero, List.nil_append] at this
 exact this
theorem read_ev (raw : ByteArray) (hs : raw.size ≤ 140737488351232) : Ev (fun k => spec_AddrRead.f k raw) (readO raw) := by
 unfold spec_AddrRead.f readO
 refine Ev.bind (cut_ev raw 35 hs) ?_
 have hc := (cutB_size 35 raw).1
 generalize (cutB 35 raw).1 = c at hc ⊢
 by_cases h1 : raw.size > 60
 ·have n1 : (raw.size : Int) > 60 := by omega
  simp only [n1, h1, if_true]; exact Ev.now _
 ·have n1 : ¬ (raw.size : Int) > 60 := by omega
  simp only [n1, h1, if_false]
  by_cases h2 : c.size < 2
  ·have n2 : (c.size : Int) < 2 := by omega
   simp only [n2, h2, if_true]; exact Ev.now _
  ·have n2 : ¬ (c.size : Int) < 2 := by omega
   have n3 : (2 : Int) ≤ (c.size : Int) := by omega
   have hx : ((c.extract 0 2).toList = [47, 47]) ↔ ((L c).take 2 = [47, 47]) := by
    rw [Lib.toList_data]
    show L (c.extract 0 2) = _ ↔ _
    rw [L_ext]; simp
   simp only [n2, h2, n3, if_true, if_false, show (0 : Int) ≤ 2 from by omega, hx]
   by_cases h3 : (L c).take 2 = [47, 47]
   ·simp only [h3, if_true]
    have hz : (c.extract 2 c.size).size ≤ 800 := by rw [ByteArray.size_extract]; omega
    generalize c.extract 2 c.size = z at hz ⊢
    exact Ev.bind (whole_ev z hz) (Ev.now _)
   ·simp only [h3, if_false]; exact Ev.now _
end Go.Proofs.YtpnedbnpnekahaaDoor.Ad
end
section
namespace Go.Proofs.YtpnedbnpnekahaaDoor.Ad
open Go.RowKit Go.Proofs.YtpnedbnpnekahaaDoor.P Go.Proofs.YtpnedbnpnekahaaDoorW.PrintWords Go.Proofs.YtpnedbnpnekahaaDoorW.PrintLast Go.Proofs.YtpnedbnpnekahaaDoorW.PrintMore Go.Proofs.YtpnedbnpnekahaaDoor.B
set_option linter.unusedVariables false
set_option linter.unusedSimpArgs false
theorem clean_li (ps : List ByteArray) (hl : ps.length ≤ 1000000) (d : Nat) : ∀ (i : Nat) (acc : List ByteArray), i + d = ps.length → acc.length ≤ i →
  Ev (fun k => impl_PathClean.l0 k acc ps (ps.length : Int) (i : Int)) ((ps.drop i).foldl clean1 acc) := by
 induction d with
 | zero =>
  intro i acc hi ha
  rw [List.drop_eq_nil_of_le (by omega)]
  refine Ev_succ ?_
  simp only [impl_PathClean.l0, show ¬ ((i : Int) < (ps.length : Int)) from by omega, if_false]
  exact Ev.now _
 | succ d ih =>
  intro i acc hi ha
  have hlt : i < ps.length := by omega
  have hr := rd_at hlt
  have w1 := w64n1 i (by omega)
  have f1 : (i : Int) < (ps.length : Int) := by omega
  have f2 := ci_nn i
  rw [List.drop_eq_getElem_cons hlt, List.foldl_cons]
  generalize ps[i] = p at hr ⊢
  have next : ∀ acc', acc'.length ≤ i + 1 → acc' = clean1 acc p → Ev (fun k => impl_PathClean.l0 k acc' ps (ps.length : Int) ((i + 1 : Nat) : Int)) ((ps.drop (i + 1)).foldl clean1 (clean1 acc p)) := fun acc' h1 h2 => by
   rw [← h2]; exact ih (i + 1) acc' (by omega) h1
  refine Ev_succ ?_
  simp only [impl_PathClean.l0, f1, f2, if_true]
  rw [hr]
  by_cases h1 : p.toList = []
  ·simp only [h1, if_true]
   refine Ev_succ ?_
   simp only [impl_PathClean.j1]
   simp only [show (([] : List UInt8) == []) = true from rfl, if_true]
   rw [w1]
   exact next acc (by omega) (by unfold clean1; rw [if_pos h1])
  ·simp only [h1, if_false]
   by_cases h2 : p.toList = [46]
   ·refine Ev_succ ?_
    simp only [impl_PathClean.j1]
    simp only [h2, show (([46] : List UInt8) == [46]) = true from rfl, if_true]
    rw [w1]
    exact next acc (by omega) (by unfold clean1; rw [if_neg h1, if_pos h2])
   ·refine Ev_succ ?_
    simp only [impl_PathClean.j1]
    simp only [show (p.toList == ([46] : List UInt8)) = false from by simp [h2], Bool.false_eq_true, if_false]
    by_cases h3 : p.toList = [46, 46]
    ·simp only [h3, if_true]
     have hc : clean1 acc p = acc.take (acc.length - 1) := by unfold clean1; rw [if_neg h1, if_neg h2, if_pos h3]
     by_cases h4 : acc.length = 0
     ·simp only [show ¬ ((acc.length : Int) > 0) from by omega, if_false]
      rw [w1]
      exact next acc (by omega) (by rw [hc, List.length_eq_zero_iff.1 h4]; rfl)
     ·have w2 : wrap64 ((acc.length : Int) - 1) = ((acc.length - 1 : Nat) : Int) := by rw [w64 (by omega) (by omega)]; omega
      simp only [show ((acc.length : Int) > 0) from by omega, if_true]
      rw [w2]
      simp only [show ((0 : Int) ≤ ((acc.length - 1 : Nat) : Int)) from by omega, show (((acc.length - 1 : Nat) : Int) ≤ (acc.length : Int)) from by omega, if_true, Int.toNat_natCast]
      rw [w1]
      exact next _ (by rw [List.length_take]; omega) hc.symm
    ·simp only [h3, if_false, show acc.length < 8796093022208 from by omega, if_true]
     rw [w1]
     exact next _ (by simp; omega) (by unfold clean1; rw [if_neg h1, if_neg h2, if_neg h3])
theorem clean_i (ps : List ByteArray) (hl : ps.length ≤ 1000000) : Ev (fun k => impl_PathClean.f k ps) (pathClean ps) :=
 clean_li ps hl ps.length 0 [] (by omega) (by simp)
def wayI (house : ByteArray) (asks : Bool) (ask : ByteArray) (ps : List ByteArray) : A5 := if addrOk house (pathClean ps) asks ask = true then (house, pathClean ps, asks, ask, true) else none5
theorem way_li (house ask : ByteArray) (asks : Bool) (hh : house.size ≤ 100000) (hq : ask.size ≤ 1048576) (ls : List ByteArray) (hl : ls.length ≤ 900) (d : Nat) :
  ∀ (i : Nat) (acc : List ByteArray), i + d = ls.length → acc.length ≤ 50 + i → (∀ p ∈ acc, p.size ≤ 1048576) →
  Ev (fun k => impl_readWay.l0 k house ask asks acc ls (ls.length : Int) (i : Int)) (match escAll (ls.drop i) with | none => none5 | some ps => wayI house asks ask (acc ++ ps)) := by
 induction d with
 | zero =>
  intro i acc hi ha hp
  rw [List.drop_eq_nil_of_le (by omega)]
  refine Ev_succ ?_
  simp only [impl_readWay.l0, show ¬ ((i : Int) < (ls.length : Int)) from by omega, if_false, escAll, List.append_nil]
  refine Ev.bind (clean_i acc (by omega)) ?_
  unfold wayI
  have hP : Parts (pathClean acc) := ⟨by have := cleanF_len acc []; unfold pathClean; simp only [List.length_nil] at this; omega, fun p hq => by
   rcases cleanF_mem hq with h | h
   ·cases h
   ·exact hp p h⟩
  refine Ev.bind (addrOk_i house (pathClean acc) asks ask hP (by omega) (by omega)) ?_
  by_cases h2 : addrOk house (pathClean acc) asks ask = true
  ·simp only [h2, if_true]; exact Ev.now _
  ·simp only [h2, if_false]; exact Ev.now _
 | succ d ih =>
  intro i acc hi ha hp
  have hi' : i < ls.length := by omega
  have f1 : (i : Int) < (ls.length : Int) := by omega
  have f2 := ci_nn i
  have e1 := w64n1 i (by omega)
  have hr := rd_at hi'
  rw [List.drop_eq_getElem_cons hi']
  generalize ls[i] = p at hr ⊢
  have hz := escNorm_size p
  refine Ev_succ ?_
  simp only [impl_readWay.l0, f1, f2, if_true, hr, e1]
  refine Ev.bind (escNorm_i p) ?_
  unfold escAll
  by_cases h1 : (escNorm p).2 = true
  ·have g3 : acc.length < 8796093022208 := by omega
   simp only [h1, if_true, g3]
   have ih' := ih (i + 1) (acc ++ [(escNorm p).1]) (by omega) (by simp; omega) (fun x hx => by
    rcases List.mem_append.1 hx with h | h
    ·exact hp x h
    ·rw [List.mem_singleton.1 h]; omega)
   cases he : escAll (ls.drop (i + 1)) with
   | none => rw [he] at ih'; exact ih'
   | some ps =>
    rw [he] at ih'
    simp only [Option.map_some]
    simpa using ih'
  ·simp only [h1, if_false]; exact Ev.now _
theorem way_i (house : ByteArray) (base : List ByteArray) (way : ByteArray) (hh : house.size ≤ 100000) (hb : base.length ≤ 50) (hp : ∀ p ∈ base, p.size ≤ 1048576) (hw : way.size ≤ 800) :
  Ev (fun k => impl_readWay.f k house base way) (wayO house base way) := by
 unfold impl_readWay.f wayO
 have hc := cutB_size 63 way
 rw [cut_i way 63 (by omega)]
 simp only [Option.bind_some]
 have hz := escNorm_size (cutB 63 way).2.1
 refine Ev.bind (escNorm_i (cutB 63 way).2.1) ?_
 by_cases h1 : (escNorm (cutB 63 way).2.1).2 = true
 ·simp only [h1, if_true, slices_Clone_string_string.f, show base.length * 16 ≤ 140737488355328 from by omega, Option.bind_some]
  refine Ev.bind (split_i (cutB 63 way).1 47 (by omega)) ?_
  have hl := splitL_len 47 (L (cutB 63 way).1)
  rw [L_size] at hl
  have := way_li house (escNorm (cutB 63 way).2.1).1 (cutB 63 way).2.2 hh (by omega) ((splitL 47 (L (cutB 63 way).1)).map ofL) (by rw [List.length_map]; omega) _ 0 base (Nat.zero_add _) (by omega) hp
  rw [List.drop_zero] at this
  exact this
 ·simp only [h1, if_false]
  generalize escAll ((splitL 47 (L (cutB 63 way).1)).map ofL) = o
  cases o <;> exact Ev.now _
theorem any_house : ∀ l : List UInt8, (Lib.indexAny l [47, 63] = -1 → houseL l = (l, [])) ∧ (∀ n : Nat, Lib.indexAny l [47, 63] = (n : Int) → houseL l = (l.take n, l.drop n) ∧ n ≤ l.length)
 | [] => ⟨fun _ => rfl, fun n h => by unfold Lib.indexAny at h; omega⟩
 | x :: xs => by
  obtain ⟨i1, i2⟩ := any_house xs
  unfold Lib.indexAny houseL
  by_cases h : x = 47 ∨ x = 63
  ·have hc : ([47, 63] : List UInt8).contains x = true := by rcases h with h | h <;> subst h <;> decide
   rw [if_pos h, if_pos hc]
   refine ⟨fun e => by omega, fun n e => ?_⟩
   obtain rfl : n = 0 := by omega
   exact ⟨rfl, Nat.zero_le _⟩
  ·have hc : ¬ ([47, 63] : List UInt8).contains x = true := by
    simp only [List.contains_cons, List.contains_nil, Bool.or_false, Bool.or_eq_true, beq_iff_eq]
    exact h
   rw [if_neg h, if_neg hc]
   have hge := Lib.indexAny_ge [47, 63] xs
   by_cases h2 : Lib.indexAny xs [47, 63] = -1
   ·have hb : (Lib.indexAny xs [47, 63] == -1) = true := by simp [h2]
    rw [if_pos hb]
    refine ⟨fun _ => by rw [i1 h2], fun n e => by omega⟩
   ·have hb : ¬ (Lib.indexAny xs [47, 63] == -1) = true := by simp [h2]
    rw [if_neg hb]
    refine ⟨fun e => by omega, fun n e => ?_⟩
    obtain ⟨m, hm⟩ : ∃ m : Nat, Lib.indexAny xs [47, 63] = (m : Int) := ⟨(Lib.indexAny xs [47, 63]).toNat, by omega⟩
    obtain ⟨g1, g2⟩ := i2 m hm
    obtain rfl : n = m + 1 := by omega
    rw [g1]
    exact ⟨rfl, by simp only [List.length_cons]; omega⟩
def wholeI (s : ByteArray) : A5 := if s.size < 2 then none5 else if (L s).take 2 = [47, 47] then wholeO (s.extract 2 s.size) else none5
theorem prefix_i (s : ByteArray) (hs : s.size ≤ 800) : stringslite_HasPrefix.f s ⟨#[47, 47]⟩ = some (decide (2 ≤ s.size) && decide ((L s).take 2 = [47, 47])) := by
 unfold stringslite_HasPrefix.f
 have e2 : (⟨#[47, 47]⟩ : ByteArray).size = 2 := rfl
 rw [e2]
 by_cases h : 2 ≤ s.size
 ·rw [if_pos (by omega), if_pos (by omega), if_pos (by omega)]
  have hx : (s.extract 0 2).toList = (L s).take 2 := by rw [Lib.toList_data]; show L (s.extract 0 2) = _; rw [L_ext]; simp
  have hy : (⟨#[47, 47]⟩ : ByteArray).toList = [47, 47] := by rw [Lib.toList_data]
  simp only [Int.toNat_natCast, hx, hy, h, decide_true, Bool.true_and]
  congr 1
  rw [Bool.eq_iff_iff]; simp
 ·rw [if_neg (by omega)]
  simp [h]
theorem whole_i (s : ByteArray) (hs : s.size ≤ 800) : Ev (fun k => impl_readWhole.f k s) (wholeI s) := by
 unfold impl_readWhole.f strings_CutPrefix.f stringslite_CutPrefix.f wholeI
 have e2 : (⟨#[47, 47]⟩ : ByteArray).size = 2 := rfl
 rw [prefix_i s hs, e2]
 simp only [Option.bind_some]
 by_cases h : 2 ≤ s.size
 ·by_cases h3 : (L s).take 2 = [47, 47]
  ·simp only [h, h3, decide_true, Bool.true_and, if_true, show ¬ (s.size < 2) from by omega, if_false]
   rw [if_pos (by omega), if_pos (by omega)]
   simp only [Option.bind_some, if_true, Int.toNat_natCast]
   have hz : (s.extract 2 s.size).size ≤ 800 := by rw [ByteArray.size_extract]; omega
   generalize s.extract 2 s.size = z at hz
   unfold strings_IndexAny.f wholeO
   have ez : L (⟨#[47, 63]⟩ : ByteArray) = [47, 63] := rfl
   rw [ez, if_pos ⟨rfl, by omega⟩]
   obtain ⟨a1, a2⟩ := any_house (L z)
   have hge := Lib.indexAny_ge [47, 63] (L z)
   by_cases hi : Lib.indexAny (L z) [47, 63] = -1
   ·have hH := a1 hi
    rw [hH]
    have x1 : z.extract 0 ((z.size : Int)).toNat = z := by apply L_inj; rw [L_ext, Int.toNat_natCast, List.drop_zero]; exact List.take_of_length_le (by rw [Nat.sub_zero]; exact Nat.le_of_eq (L_size z))
    have x2 : z.extract ((z.size : Int)).toNat z.size = ofL [] := by apply L_inj; rw [L_ext, L_of, Int.toNat_natCast, Nat.sub_self]; exact List.take_zero
    rw [of_L]
    refine Ev.congr (f := fun k => (impl_readWay.f k (smallB z) [] (ofL [])).bind fun b => some (b.1, b.2.1, b.2.2.1, b.2.2.2.1, b.2.2.2.2)) (fun k => ?_) ?_
    ·rw [hi, Option.bind_some, if_pos (by omega), if_pos (by omega), if_pos (by omega)]
     first | rw [x1, x2] | (simp only [Int.toNat_natCast] at x1 x2; rw [x1, x2])
     unfold impl_smallLetters.f
     rw [if_pos (by omega), Option.bind_some]
    refine Ev.bind (way_i (smallB z) [] (ofL []) (by unfold smallB; rw [ofL_size, List.length_map, L_size]; omega) (by simp) (by simp) (by decide)) ?_
    exact Ev.now _
   ·obtain ⟨n, hn⟩ : ∃ n : Nat, Lib.indexAny (L z) [47, 63] = (n : Int) := ⟨(Lib.indexAny (L z) [47, 63]).toNat, by omega⟩
    obtain ⟨hH, hle⟩ := a2 n hn
    rw [L_size] at hle
    rw [hH]
    have x1 : z.extract 0 ((n : Int)).toNat = ofL ((L z).take n) := by apply L_inj; rw [L_ext, L_of]; simp
    have x2 : z.extract ((n : Int)).toNat z.size = ofL ((L z).drop n) := by
     apply L_inj; rw [L_ext, L_of, Int.toNat_natCast]
     exact List.take_of_length_le (by rw [List.length_drop, L_size]; exact Nat.le_refl _)
    have s1 : (ofL ((L z).take n)).size ≤ 800 := by rw [ofL_size, List.length_take, L_size]; omega
    have s2 : (ofL ((L z).drop n)).size ≤ 800 := by rw [ofL_size, List.length_drop, L_size]; omega
    generalize ofL ((L z).take n) = y at s1 x1 ⊢
    refine Ev.congr (f := fun k => (impl_readWay.f k (smallB y) [] (ofL ((L z).drop n))).bind fun b => some (b.1, b.2.1, b.2.2.1, b.2.2.2.1, b.2.2.2.2)) (fun k => ?_) ?_
    ·rw [hn, Option.bind_some, if_neg (by omega), if_pos (by omega), if_pos (by omega), x1, x2]
     unfold impl_smallLetters.f
     rw [if_pos (by omega), Option.bind_some]
    refine Ev.bind (way_i (smallB y) [] _ (by unfold smallB; rw [ofL_size, List.length_map, L_size]; omega) (by simp) (by simp) s2) ?_
    exact Ev.now _
  ·simp only [h, h3, decide_true, decide_false, Bool.and_false, Bool.false_eq_true, if_false, Option.bind_some, show ¬ (s.size < 2) from by omega]
   exact Ev.now _
 ·simp only [h, decide_false, Bool.false_and, Bool.false_eq_true, if_false, Option.bind_some, show s.size < 2 from by omega, if_true]
  exact Ev.now _
theorem read_i (raw : ByteArray) : Ev (fun k => impl_AddrRead.f k raw) (readO raw) := by
 unfold impl_AddrRead.f readO
 by_cases h : raw.size > 60
 ·simp only [show ((raw.size : Int) > 60) from by omega, if_true, h]
  exact Ev.now _
 ·simp only [show ¬ ((raw.size : Int) > 60) from by omega, if_false, h]
  have hc := cutB_size 35 raw
  rw [cut_i raw 35 (by omega)]
  simp only [Option.bind_some]
  refine Ev.bind (whole_i (cutB 35 raw).1 (by omega)) ?_
  exact Ev.now _
end Go.Proofs.YtpnedbnpnekahaaDoor.Ad
end
section
namespace Go.Proofs.YtpnedbnpnekahaaDoor.Wd
open Go.RowKit Go.Proofs.YtpnedbnpnekahaaDoor.P Go.Proofs.YtpnedbnpnekahaaDoorW.PrintWords Go.Proofs.YtpnedbnpnekahaaDoorW.PrintLast Go.Proofs.YtpnedbnpnekahaaDoorW.PrintMore Go.Proofs.YtpnedbnpnekahaaDoor.B Go.Proofs.YtpnedbnpnekahaaDoor.Ad
set_option linter.unusedVariables false
set_option linter.unusedSimpArgs false
abbrev Pg := S36
def norm (s : ByteArray) : Bool := (readO s).2.2.2.2 && (textB (readO s).1 (readO s).2.1 (readO s).2.2.1 (readO s).2.2.2.1).toList == s.toList
theorem readAddr_i (s : ByteArray) : Ev (fun k => impl_readAddress.f k s) (if norm s = true then ((readO s).1, (readO s).2.1, (readO s).2.2.1, (readO s).2.2.2.1, true) else none5) := by
 unfold impl_readAddress.f
 refine Ev.bind (read_i s) ?_
 have hF := fine_read s
 obtain ⟨q1, q2, q3⟩ := fine_parts hF
 unfold norm
 by_cases h : (readO s).2.2.2.2 = true
 ·have ht := text_i (readO s).1 (readO s).2.1 (readO s).2.2.1 (readO s).2.2.2.1 q1 (by omega) (by omega)
  simp only [h, if_true, ht, Option.bind_some, Bool.true_and]
  by_cases h2 : (textB (readO s).1 (readO s).2.1 (readO s).2.2.1 (readO s).2.2.2.1).toList = s.toList
  ·simp only [h2, if_true, beq_self_eq_true]
   exact Ev.now _
  ·simp only [h2, if_false, beq_eq_false_iff_ne.mpr h2, Bool.false_eq_true]
   exact Ev.now _
 ·have h' : (readO s).2.2.2.2 = false := by simpa using h
  simp only [h', Bool.false_and, Bool.false_eq_true, if_false]
  exact Ev.now _
theorem isAddr_i (s : ByteArray) : Ev (fun k => impl_isAddress.f k s) (norm s) := by
 unfold impl_isAddress.f
 refine Ev.bind (readAddr_i s) ?_
 by_cases h : norm s = true
 ·rw [if_pos h, h]; exact Ev.now _
 ·rw [if_neg h]
  have h' : norm s = false := by simpa using h
  rw [h']
  exact Ev.now _
theorem norm_s (s : ByteArray) (hs : s.size ≤ 140737488351232) : Ev (fun k => spec_l11Norm.f k s) (norm s) := by
 unfold spec_l11Norm.f
 refine Ev.bind (read_ev s hs) ?_
 have hF := fine_read s
 obtain ⟨q1, q2, q3⟩ := fine_parts hF
 unfold norm
 by_cases h : (readO s).2.2.2.2 = true
 ·simp only [h, if_true, Bool.true_and]
  have ho : addrOk (readO s).1 (readO s).2.1 (readO s).2.2.1 (readO s).2.2.2.1 = true := by
   rcases hF with e | e
   ·rw [e] at h; cases h
   ·exact e.2
  refine Ev.bind (addrText_ev _ _ _ _ q1 (by omega) (by omega)) ?_
  unfold addrText
  rw [if_pos ho]
  exact Ev.now _
 ·have h' : (readO s).2.2.2.2 = false := by simpa using h
  simp only [h', Bool.false_and, Bool.false_eq_true, if_false]
  exact Ev.now _
def pgOk (p : Pg) : Bool := norm p.f0 && decide (p.f1.size ≤ 300) && decide (0 ≤ p.f3) && decide (p.f3 ≤ 9) && (p.f2.toList == [] || norm p.f2 && p.f1.toList == [])
theorem pageOk_i (p : Pg) : Ev (fun k => impl_pageOk.f k p.f0 p.f1 p.f2 p.f3) (pgOk p) := by
 unfold impl_pageOk.f pgOk
 refine Ev.bind (isAddr_i p.f0) ?_
 cases norm p.f0 with
 | false => simp only [Bool.false_and, Bool.false_eq_true, if_false]; exact Ev.now _
 | true =>
  simp only [if_true, Bool.true_and]
  by_cases h1 : (p.f1.size : Int) > 300
  ·simp only [h1, if_true, show ¬ p.f1.size ≤ 300 from by omega, decide_false, Bool.false_and]; exact Ev.now _
  ·simp only [h1, if_false, show p.f1.size ≤ 300 from by omega, decide_true, Bool.true_and]
   by_cases h2 : p.f3 < 0
   ·simp only [h2, if_true, show ¬ 0 ≤ p.f3 from by omega, decide_false, Bool.false_and]; exact Ev.now _
   ·simp only [h2, if_false, show 0 ≤ p.f3 from by omega, decide_true, Bool.true_and]
    by_cases h3 : p.f3 > 9
    ·simp only [h3, if_true, show ¬ p.f3 ≤ 9 from by omega, decide_false, Bool.false_and]; exact Ev.now _
    ·simp only [h3, if_false, show p.f3 ≤ 9 from by omega, decide_true, Bool.true_and]
     by_cases h4 : p.f2.toList = ([] : List UInt8)
     ·simp only [h4, if_true, beq_self_eq_true, Bool.true_or]; exact Ev.now _
     ·simp only [h4, if_false, beq_eq_false_iff_ne.mpr h4, Bool.false_or]
      refine Ev.bind (isAddr_i p.f2) ?_
      cases norm p.f2 with
      | false => simp only [Bool.false_and, Bool.false_eq_true, if_false]; exact Ev.now _
      | true => simp only [if_true, Bool.true_and]; exact Ev.now _
theorem pagesOk_i : ∀ (l : List Pg), (∀ p ∈ l, p.f0.size ≤ 9223372036854775807) → Ev (fun k => pagesOk k l) (l.all pgOk)
 | [], _ => by simp only [pagesOk, List.all_nil]; exact Ev.now _
 | p :: r, h => by
  simp only [pagesOk, h p (List.mem_cons_self ..), if_true, List.all_cons]
  refine Ev.bind (pageOk_i p) ?_
  cases pgOk p with
  | false => simp only [Bool.false_and, Bool.false_eq_true, if_false]; exact Ev.now _
  | true => simp only [if_true, Bool.true_and]; exact pagesOk_i r (fun q hq => h q (List.mem_cons_of_mem _ hq))
def fresh : List Pg → Bool
 | [] => true
 | p :: r => !(r.any fun q => decide (q.f0 = p.f0)) && fresh r
theorem at_any (a : ByteArray) : ∀ (r : List Pg), (pageAtR a r).isSome = r.any fun q => decide (q.f0 = a)
 | [] => rfl
 | p :: r => by
  unfold pageAtR
  by_cases h : p.f0 = a
  ·simp [h]
  ·simp [h, at_any a r]
theorem size_fresh : ∀ (r : List Pg), Maps.size (mapR r) ≤ r.length ∧ (Maps.size (mapR r) = r.length ↔ fresh r = true)
 | [] => ⟨Nat.le_refl _, by simp [fresh, mapR, Maps.size]⟩
 | p :: r => by
  obtain ⟨h1, h2⟩ := size_fresh r
  rw [mapR_size, at_any]
  unfold fresh
  cases hb : (r.any fun q => decide (q.f0 = p.f0)) with
  | true => simp only [if_true, Bool.not_true, Bool.false_and, List.length_cons]; exact ⟨by omega, by constructor <;> intro h <;> first | omega | cases h⟩
  | false => simp only [Bool.false_eq_true, if_false, Bool.not_false, Bool.true_and, List.length_cons]; exact ⟨by omega, by rw [← h2]; omega⟩
def worldOk (l : List Pg) : Bool := decide (l.length ≤ 12) && l.all pgOk && fresh l.reverse
theorem worldOk_i (l : List Pg) (h : ∀ p ∈ l, p.f0.size ≤ 9223372036854775807) : Ev (fun k => impl_WorldOk.f k l) (worldOk l) := by
 unfold impl_WorldOk.f impl_worldOf.f worldOk
 by_cases h12 : 12 < l.length
 ·simp only [h12, if_true, Option.bind_some, Bool.false_eq_true, if_false, show ¬ l.length ≤ 12 from by omega, decide_false, Bool.false_and]
  exact Ev.now _
 ·simp only [h12, if_false, show l.length ≤ 12 from by omega, decide_true, Bool.true_and]
  refine Ev.bind (pagesOk_i l h) ?_
  cases l.all pgOk with
  | false => simp only [Bool.false_eq_true, if_false, Bool.false_and]; exact Ev.now _
  | true =>
   simp only [if_true, Bool.true_and]
   have := (size_fresh l.reverse).2
   rw [List.length_reverse] at this
   have e : ((Maps.size (mapD l) : Int) == (l.length : Int)) = fresh l.reverse := by
    unfold mapD
    rw [Bool.eq_iff_iff, ← this]
    simp
    omega
   rw [e]
   exact Ev.now _
theorem rd_pg {l : List Pg} {i : Nat} (h : i < l.length) : rd_T36 l (i : Int) = l[i] := by
 simp [rd_T36, List.getD, List.getElem?_eq_getElem h]
def restOk (l : List Pg) : Nat → Nat → Bool
 | 0, _ => decide (l.length ≤ 12)
 | d + 1, i => pgOk (rd_T36 l (i : Int)) && !((l.take i).any fun q => decide (q.f0 = (rd_T36 l (i : Int)).f0)) && restOk l d (i + 1)
theorem inner_s (l : List Pg) (i : Nat) (hi : i < l.length) (hl : l.length ≤ 1048576) (R : Bool) (hR : Ev (fun k => spec_WorldOk.l0 k l ((i + 1 : Nat) : Int)) R) (d : Nat) : ∀ (j : Nat), j + d = i →
  Ev (fun k => spec_WorldOk.l1 k l (i : Int) (j : Int)) (!(((l.take i).drop j).any fun q => decide (q.f0 = (rd_T36 l (i : Int)).f0)) && R) := by
 induction d with
 | zero =>
  intro j hj
  obtain rfl : j = i := by omega
  have w1 : wrap64 ((j : Int) + 1) = ((j + 1 : Nat) : Int) := by rw [w64 (by omega) (by omega)]; rfl
  refine Ev_succ ?_
  simp only [spec_WorldOk.l1, show ¬ ((j : Int) < (j : Int)) from by omega, if_false]
  rw [w1, List.drop_of_length_le (by rw [List.length_take]; omega)]
  simpa using hR
 | succ d ih =>
  intro j hj
  have hjl : j < l.length := by omega
  have w1 : wrap64 ((j : Int) + 1) = ((j + 1 : Nat) : Int) := by rw [w64 (by omega) (by omega)]; rfl
  have hd : (l.take i).drop j = l[j] :: (l.take i).drop (j + 1) := by
   rw [List.drop_eq_getElem_cons (by rw [List.length_take]; omega)]
   congr 1
   simp
  refine Ev_succ ?_
  simp only [spec_WorldOk.l1, show (j : Int) < (i : Int) from by omega, ci_nn j, ci_nn i, show (j : Int) < (l.length : Int) from by omega, show (i : Int) < (l.length : Int) from by omega, if_true]
  rw [w1, hd, rd_pg hjl, List.any_cons]
  by_cases he : l[j].f0.toList = (rd_T36 l (i : Int)).f0.toList
  ·simp only [he, if_true, decide_eq_true (toList_inj.1 he), Bool.true_or, Bool.not_true, Bool.false_and]
   exact Ev.now _
  ·simp only [he, if_false, decide_eq_false (fun e => he (toList_inj.2 e)), Bool.false_or]
   exact ih (j + 1) (by omega)
theorem outer_s (l : List Pg) (hl : l.length ≤ 1048576) (hs : ∀ p ∈ l, p.f0.size ≤ 140737488351232 ∧ p.f2.size ≤ 140737488351232) (d : Nat) : ∀ (i : Nat), i + d = l.length → Ev (fun k => spec_WorldOk.l0 k l (i : Int)) (restOk l d i) := by
 induction d with
 | zero =>
  intro i hi
  refine Ev_succ ?_
  simp only [spec_WorldOk.l0, show ¬ ((i : Int) < (l.length : Int)) from by omega, if_false, restOk]
  have e : decide ((l.length : Int) ≤ 12) = decide (l.length ≤ 12) := by rw [Bool.eq_iff_iff]; simp; omega
  rw [e]
  exact Ev.now _
 | succ d ih =>
  intro i hi
  have hlt : i < l.length := by omega
  have hr := rd_pg hlt
  have hm := hs _ (List.getElem_mem hlt)
  have stop : Ev (fun k => spec_WorldOk.j1 k l (i : Int) true) false := Ev_succ (by simp only [spec_WorldOk.j1, if_true]; exact Ev.now _)
  have go : Ev (fun k => spec_WorldOk.j1 k l (i : Int) false) (!((l.take i).any fun q => decide (q.f0 = (rd_T36 l (i : Int)).f0)) && restOk l d (i + 1)) := by
   refine Ev_succ ?_
   simp only [spec_WorldOk.j1, Bool.false_eq_true, if_false]
   have := inner_s l i hlt hl _ (ih (i + 1) (by omega)) i 0 (by omega)
   simpa using this
  unfold restOk pgOk
  refine Ev_succ ?_
  simp only [spec_WorldOk.l0, show (i : Int) < (l.length : Int) from by omega, ci_nn i, if_true]
  rw [hr]
  rw [hr] at go
  refine Ev.bind (norm_s _ hm.1) ?_
  generalize l[i] = p at go hm ⊢
  cases norm p.f0 with
  | false => simp only [Bool.false_and, Bool.false_eq_true, if_false]; exact stop
  | true =>
   simp only [if_true, Bool.true_and]
   by_cases h1 : (p.f1.size : Int) > 300
   ·simp only [h1, if_true, show ¬ p.f1.size ≤ 300 from by omega, decide_false, Bool.false_and]; exact stop
   ·simp only [h1, if_false, show p.f1.size ≤ 300 from by omega, decide_true, Bool.true_and]
    have hin : spec_l6In.f p.f3 0 9 = some (decide (0 ≤ p.f3) && decide (p.f3 ≤ 9)) := by
     unfold spec_l6In.f
     by_cases ha : 0 ≤ p.f3 <;> by_cases hb : p.f3 ≤ 9 <;> simp [ha, hb]
    rw [hin]
    simp only [Option.bind_some]
    by_cases h23 : (decide (0 ≤ p.f3) && decide (p.f3 ≤ 9)) = true
    ·simp only [h23, if_true, Bool.true_and]
     by_cases h4 : p.f2.toList = ([] : List UInt8)
     ·simp only [h4, if_true, beq_self_eq_true, Bool.true_or, Bool.true_and]; exact go
     ·simp only [h4, if_false, beq_eq_false_iff_ne.mpr h4, Bool.false_or]
      by_cases h5 : p.f1.toList = ([] : List UInt8)
      ·simp only [h5, if_true, beq_self_eq_true, Bool.and_true]
       refine Ev.bind (norm_s _ hm.2) ?_
       cases norm p.f2 with
       | false => simp only [Bool.not_false, Bool.false_and]; exact stop
       | true => simp only [Bool.not_true, Bool.true_and]; exact go
      ·simp only [h5, if_false, beq_eq_false_iff_ne.mpr h5, Bool.and_false, Bool.false_and]; exact stop
    ·have h23' : (decide (0 ≤ p.f3) && decide (p.f3 ≤ 9)) = false := by simpa using h23
     simp only [h23', Bool.false_eq_true, if_false, Bool.false_and]; exact stop
theorem rest_world (l : List Pg) (d : Nat) : ∀ (i : Nat), i + d = l.length → fresh (l.take i).reverse = true → restOk l d i = (decide (l.length ≤ 12) && (l.drop i).all pgOk && fresh l.reverse) := by
 induction d with
 | zero =>
  intro i hi hf
  obtain rfl : i = l.length := by omega
  rw [List.take_length] at hf
  simp [restOk, hf]
 | succ d ih =>
  intro i hi hf
  have hlt : i < l.length := by omega
  have ht : (l.take (i + 1)).reverse = l[i] :: (l.take i).reverse := by
   rw [List.take_succ_eq_append_getElem hlt, List.reverse_append]
   rfl
  rw [List.drop_eq_getElem_cons hlt, List.all_cons]
  unfold restOk
  rw [rd_pg hlt]
  cases ha : ((l.take i).any fun q => decide (q.f0 = l[i].f0)) with
  | false =>
   rw [ih (i + 1) (by omega) (by rw [ht]; unfold fresh; rw [List.any_reverse, ha, hf]; rfl)]
   cases pgOk l[i] <;> simp
  | true =>
   have hn : fresh l.reverse = false := by
    have e : l.reverse = (l.drop (i + 1)).reverse ++ (l.take (i + 1)).reverse := by rw [← List.reverse_append, List.take_append_drop]
    rw [e, ht]
    generalize (l.drop (i + 1)).reverse = x
    induction x with
    | nil => simp only [List.nil_append]; unfold fresh; rw [List.any_reverse, ha]; rfl
    | cons y x ih2 => simp only [List.cons_append]; unfold fresh; rw [ih2, Bool.and_false]
   simp [hn]
theorem worldOk_s (l : List Pg) (hl : l.length ≤ 1048576) (hs : ∀ p ∈ l, p.f0.size ≤ 140737488351232 ∧ p.f2.size ≤ 140737488351232) : Ev (fun k => spec_WorldOk.f k l) (worldOk l) := by
 unfold spec_WorldOk.f
 have h := outer_s l hl hs l.length 0 (by omega)
 rw [rest_world l l.length 0 (by omega) (by simp [fresh])] at h
 rw [List.drop_zero] at h
 exact h
end Go.Proofs.YtpnedbnpnekahaaDoor.Wd
end
section
namespace Go.Proofs.YtpnedbnpnekahaaDoor.Wd
open Go.RowKit Go.Proofs.YtpnedbnpnekahaaDoor.P Go.Proofs.YtpnedbnpnekahaaDoorW.PrintWords Go.Proofs.YtpnedbnpnekahaaDoorW.PrintLast Go.Proofs.YtpnedbnpnekahaaDoorW.PrintMore Go.Proofs.YtpnedbnpnekahaaDoor.B Go.Proofs.YtpnedbnpnekahaaDoor.Ad
set_option linter.unusedVariables false
set_option linter.unusedSimpArgs false
abbrev Lp := S34
def conv (p : Lp) : Pg := ⟨p.f0, p.f1, p.f2, p.f3⟩
theorem rd_lp {l : List Lp} {i : Nat} (h : i < l.length) : rd_T34 l (i : Int) = l[i] := by
 simp [rd_T34, List.getD, List.getElem?_eq_getElem h]
theorem szPg (p : Lp) (h0 : p.f0.size ≤ 4611686018427387904) (h1 : p.f1.size ≤ 4611686018427387904) (h2 : p.f2.size ≤ 4611686018427387904) (x : Int) (hx : 0 ≤ x) (hx' : x ≤ 1048576) :
  ∃ r : Int, laws_szPage.f p.f0 p.f1 p.f2 p.f3 x = some r ∧ r ≤ 1048576 ∧ -1 ≤ r ∧ (0 ≤ r → p.f0.size ≤ 1048576 ∧ p.f1.size ≤ 1048576 ∧ p.f2.size ≤ 1048576) := by
 unfold laws_szPage.f
 have w1 : wrap64 (x - (p.f0.size : Int)) = x - (p.f0.size : Int) := w64 (by omega) (by omega)
 rw [w1]
 by_cases c1 : x - (p.f0.size : Int) < 0
 ·exact ⟨-1, by simp only [c1, if_true], by omega, by omega, fun h => by omega⟩
 have w2 : wrap64 (x - (p.f0.size : Int) - (p.f1.size : Int)) = x - (p.f0.size : Int) - (p.f1.size : Int) := w64 (by omega) (by omega)
 rw [w2]
 by_cases c2 : x - (p.f0.size : Int) - (p.f1.size : Int) < 0
 ·exact ⟨-1, by simp only [c1, c2, if_true, if_false], by omega, by omega, fun h => by omega⟩
 have w3 : wrap64 (x - (p.f0.size : Int) - (p.f1.size : Int) - (p.f2.size : Int)) = x - (p.f0.size : Int) - (p.f1.size : Int) - (p.f2.size : Int) := w64 (by omega) (by omega)
 rw [w3]
 by_cases c3 : x - (p.f0.size : Int) - (p.f1.size : Int) - (p.f2.size : Int) < 0
 ·exact ⟨-1, by simp only [c1, c2, c3, if_true, if_false], by omega, by omega, fun h => by omega⟩
 ·exact ⟨x - (p.f0.size : Int) - (p.f1.size : Int) - (p.f2.size : Int), by simp only [c1, c2, c3, if_false], by omega, by omega, fun _ => ⟨by omega, by omega, by omega⟩⟩
theorem szPgs_l (l : List Lp) (hl : l.length ≤ 2513169434916) (hs : ∀ p ∈ l, p.f0.size ≤ 4611686018427387904 ∧ p.f1.size ≤ 4611686018427387904 ∧ p.f2.size ≤ 4611686018427387904) (d : Nat) : ∀ (i : Nat) (x : Int), i + d = l.length → 0 ≤ x → x ≤ 1048576 →
  ∃ r : Int, Ev (fun k => laws_szPageS.l0 k l x (i : Int)) r ∧ (0 ≤ r → ∀ p ∈ l.drop i, p.f0.size ≤ 1048576 ∧ p.f1.size ≤ 1048576 ∧ p.f2.size ≤ 1048576) := by
 induction d with
 | zero =>
  intro i x hi h0 h1
  refine ⟨x, Ev_succ ?_, fun _ p hp => ?_⟩
  ·simp only [laws_szPageS.l0, show ¬ ((i : Int) < (l.length : Int)) from by omega, if_false]
   exact Ev.now _
  ·rw [List.drop_eq_nil_of_le (by omega)] at hp; cases hp
 | succ d ih =>
  intro i x hi h0 h1
  have hlt : i < l.length := by omega
  have hr := rd_lp hlt
  have w1 : wrap64 ((i : Int) + 1) = ((i + 1 : Nat) : Int) := by rw [w64 (by omega) (by omega)]; rfl
  have f1 : (i : Int) < (l.length : Int) := by omega
  obtain ⟨z0, z1, z2⟩ := hs l[i] (List.getElem_mem hlt)
  rw [List.drop_eq_getElem_cons hlt]
  generalize l[i] = p at hr z0 z1 z2 ⊢
  obtain ⟨q, e, q1, q2, q3⟩ := szPg p z0 z1 z2 x h0 h1
  by_cases hn : q < 0
  ·refine ⟨-1, Ev_succ ?_, fun h => by omega⟩
   simp only [laws_szPageS.l0, f1, ci_nn i, if_true, hr, e, Option.bind_some, hn]
   exact Ev.now _
  ·obtain ⟨r, er, r3⟩ := ih (i + 1) q (by omega) (by omega) (by omega)
   refine ⟨r, Ev_succ ?_, fun h s hq => ?_⟩
   ·simp only [laws_szPageS.l0, f1, ci_nn i, if_true, hr, e, Option.bind_some, hn, if_false]
    rw [w1]
    exact er
   ·rcases List.mem_cons.1 hq with rfl | hq
    ·exact q3 (by omega)
    ·exact r3 h s hq
theorem szPgs_ev (l : List Lp) (hl : l.length ≤ 2513169434916) (hs : ∀ p ∈ l, p.f0.size ≤ 4611686018427387904 ∧ p.f1.size ≤ 4611686018427387904 ∧ p.f2.size ≤ 4611686018427387904) :
  ∃ r : Int, Ev (fun k => laws_szPageS.f k l 1048576) r ∧ (0 ≤ r → l.length ≤ 1048576 ∧ ∀ p ∈ l, p.f0.size ≤ 1048576 ∧ p.f1.size ≤ 1048576 ∧ p.f2.size ≤ 1048576) := by
 unfold laws_szPageS.f
 have w1 : wrap64 ((1048576 : Int) - (l.length : Int)) = 1048576 - (l.length : Int) := w64 (by omega) (by omega)
 rw [w1]
 by_cases c1 : (1048576 : Int) - (l.length : Int) < 0
 ·exact ⟨-1, by simp only [c1, if_true]; exact Ev.now _, fun h => by omega⟩
 ·obtain ⟨r, e, h3⟩ := szPgs_l l hl hs l.length 0 (1048576 - (l.length : Int)) (by omega) (by omega) (by omega)
  refine ⟨r, by simp only [c1, if_false]; exact e, fun h => ⟨by omega, ?_⟩⟩
  simpa using h3 h
theorem toPgs_l (l : List Lp) (hl : l.length ≤ 1048576) (d : Nat) : ∀ (i : Nat), i + d = l.length → Ev (fun k => laws_toPageS.l0 k l ((l.take i).map conv ++ List.replicate d z36) (i : Int)) (l.map conv) := by
 induction d with
 | zero =>
  intro i hi
  refine Ev_succ ?_
  simp only [laws_toPageS.l0, show ¬ ((i : Int) < (l.length : Int)) from by omega, if_false]
  rw [List.take_of_length_le (by omega), List.replicate_zero, List.append_nil]
  exact Ev.now _
 | succ d ih =>
  intro i hi
  have hlt : i < l.length := by omega
  have hr := rd_lp hlt
  have w1 : wrap64 ((i : Int) + 1) = ((i + 1 : Nat) : Int) := by rw [w64 (by omega) (by omega)]; rfl
  have f1 : (i : Int) < (l.length : Int) := by omega
  have next := ih (i + 1) (by omega)
  have f2 : (i : Int) < (((l.take i).map conv ++ List.replicate (d + 1) z36).length : Int) := by
   rw [List.length_append, List.length_map, List.length_take, List.length_replicate]; omega
  have hset : ((l.take i).map conv ++ List.replicate (d + 1) z36).set i (conv l[i]) = (l.take (i + 1)).map conv ++ List.replicate d z36 := by
   have e : ((l.take i).map conv).length = i := by rw [List.length_map, List.length_take]; omega
   rw [List.set_append_right i _ (by omega), e, Nat.sub_self, List.replicate_succ, List.set_cons_zero, List.take_succ_eq_append_getElem hlt, List.map_append, List.append_assoc]
   rfl
  refine Ev_succ ?_
  simp only [laws_toPageS.l0, laws_toPage.f, f1, f2, ci_nn i, if_true, hr, Int.toNat_natCast, Option.bind_some]
  rw [w1]
  rw [show (⟨l[i].f0, l[i].f1, l[i].f2, l[i].f3⟩ : Pg) = conv l[i] from rfl, hset]
  exact next
theorem toPgs_ev (l : List Lp) (hl : l.length ≤ 1048576) : Ev (fun k => laws_toPageS.f k l) (l.map conv) := by
 have := toPgs_l l hl l.length 0 (Nat.zero_add _)
 rw [List.take_zero, List.map_nil, List.nil_append] at this
 unfold laws_toPageS.f
 simp only [show (0 : Int) ≤ (l.length : Int) from by omega, if_true, Int.toNat_natCast, show l.length ≤ 5026338869833 from by omega]
 exact this
theorem eqPgs_l (l : List Pg) (hl : l.length ≤ 1048576) (d : Nat) : ∀ (i : Nat), i + d = l.length → Ev (fun k => laws_eqPageS.l0 k l l (i : Int)) true := by
 induction d with
 | zero =>
  intro i hi
  refine Ev_succ ?_
  simp only [laws_eqPageS.l0, show ¬ ((i : Int) < (l.length : Int)) from by omega, if_false]
  exact Ev.now _
 | succ d ih =>
  intro i hi
  have w1 : wrap64 ((i : Int) + 1) = ((i + 1 : Nat) : Int) := by rw [w64 (by omega) (by omega)]; rfl
  refine Ev_succ ?_
  simp only [laws_eqPageS.l0, laws_eqPage.f, show (i : Int) < (l.length : Int) from by omega, ci_nn i, if_true, Option.bind_some]
  rw [w1]
  exact ih (i + 1) (by omega)
theorem eqPgs_ev (l : List Pg) (hl : l.length ≤ 1048576) : Ev (fun k => laws_eqPageS.f k l l) true := by
 unfold laws_eqPageS.f
 simp only [if_true]
 exact eqPgs_l l hl l.length 0 (by omega)
end Go.Proofs.YtpnedbnpnekahaaDoor.Wd
end
section
namespace Go.Proofs.YtpnedbnpnekahaaDoor.Pure
open Go.RowKit Go.Proofs.YtpnedbnpnekahaaDoor.P Go.Proofs.YtpnedbnpnekahaaDoorW.PrintWords Go.Proofs.YtpnedbnpnekahaaDoorW.PrintLast Go.Proofs.YtpnedbnpnekahaaDoor.B Go.Proofs.YtpnedbnpnekahaaDoor.Ad Go.Proofs.YtpnedbnpnekahaaDoor.Wd
set_option linter.unusedSimpArgs false
set_option linter.unusedVariables false
theorem FnExactWorldOk (l : List Lp) (hl : l.length ≤ 2513169434916) (hs : ∀ p ∈ l, p.f0.size ≤ 4611686018427387904 ∧ p.f1.size ≤ 4611686018427387904 ∧ p.f2.size ≤ 4611686018427387904) :
  Ev (fun k => laws_FnExactWorldOk.f k l) true := by
 unfold laws_FnExactWorldOk.f
 obtain ⟨r, hr, hb⟩ := szPgs_ev l hl hs
 refine Ev.bind hr ?_
 by_cases hr0 : r < 0
 ·simp only [hr0, if_true]; exact Ev.now _
 simp only [hr0, if_false]
 obtain ⟨b1, b2⟩ := hb (by omega)
 have hA := toPgs_ev l b1
 have hm : ∀ p ∈ l.map conv, p.f0.size ≤ 1048576 ∧ p.f1.size ≤ 1048576 ∧ p.f2.size ≤ 1048576 := by
  intro p hp
  obtain ⟨q, hq, rfl⟩ := List.mem_map.1 hp
  exact b2 q hq
 have h1 := worldOk_s (l.map conv) (by rw [List.length_map]; omega) (fun p hp => by have := hm p hp; omega)
 have h2 := worldOk_i (l.map conv) (fun p hp => by have := hm p hp; omega)
 refine Ev.bind hA (Ev.bind h1 (Ev.bind hA (Ev.bind h2 ?_)))
 simp only [bne_self_eq_false, Bool.false_eq_true, if_false]
 refine Ev.bind hA (Ev.bind (eqPgs_ev _ (by rw [List.length_map]; omega)) ?_)
 simp only [if_true]
 exact Ev.now _
end Go.Proofs.YtpnedbnpnekahaaDoor.Pure
end
section
namespace Go.Proofs.YtpnedbnpnekahaaDoorW.PrintWords
open Go.ChangeShapes Go.WideShapes
end Go.Proofs.YtpnedbnpnekahaaDoorW.PrintWords
end
section
namespace Go.Proofs.YtpnedbnpnekahaaDoor.fnExactWorldOk
open Go.ChangeShapes Go.WideShapes Go.ChangeAt Go.RowKit
open Go.ChangeMaps (open_string shut_string)
set_option linter.unusedVariables false
theorem own : ownKnob Tryd.prog.godebug = none := by kernel_rfl
theorem laidOut : laidOutB Tryd.prog = true := by kernel_rfl
set_option maxRecDepth 100000 in
theorem lifted (os : Os) (started : os.Started) (H : Type) (enc : TypeId × Value → H) :
  ReturnsInHanded {} Tryd.checked os 3 .any (fun w args => (Rows.fnExactWorldOkSpec.pre enc Tryd.prog Tryd.f3 Rows.fnExactWorldOkRow.domain false w args ∧ laidMetH Tryd.prog Rows.fnExactWorldOkRow.laid w) ∧ sizedMet enc Tryd.prog Tryd.f3 (OpenSpec.ofChange Rows.fnExactWorldOkSpec) false w args)
   (Rows.fnExactWorldOkSpec.post enc Tryd.prog Tryd.f3 false true false false) := by
 refine returnsInHanded_of_change_and (C := Tryd.checked) (X := fun w _ => laidMetH Tryd.prog Rows.fnExactWorldOkRow.laid w) (fun _ _ _ hh h => h.of_heap hh) own started (by kernel_rfl) Tryd.func3
  (ChangeSpec.witness_shaped (enc := enc) (C := Tryd.checked) (os := os) (X := fun w _ => laidMetH Tryd.prog Rows.fnExactWorldOkRow.laid w) false (World.laidAll Tryd.prog os Rows.fnExactWorldOkRow.laid) #[.slice none 0 0] 8 (World.laidAll_os _ _ _)
   (World.shaped_of_ZipB (by kernel_rfl) (by kernel_rfl)) (by kernel_rfl) (by kernel_rfl) (by kernel_rfl)
   (by rw [MakeChecks.laidMetH_plain _ _ _ (by kernel_rfl)]; exact laidMet_laidAll _ (by kernel_rfl) (by kernel_rfl))) ?_
 intro W base args ds gs before hval0 hW hcnd hsz0 hL _
 have hsz : (DataW.weightsEach Tryd.prog (Tryd.f3.params.toList ++ Rows.fnExactWorldOkSpec.plain.varTypes Tryd.prog) (ds ++ gs)).all (· ≤ reachBytes) = true := hsz0
 have hval : ∀ (j : Nat) t v, Tryd.f3.params[j]? = some t → args[j]? = some v → Value.okWide Tryd.prog W .any base t v := hval0
 have hW' := hW
 obtain ⟨p, q, hA0, hV, rfl, hfz, hnd⟩ := hW
 have hA : DataW.TrodAll enc Tryd.prog W 0 (fun _ => true) true Tryd.f3.params.toList args.toList ds p := hA0
 rw [Tryd.params3] at hA hval hsz
 obtain ⟨v0, vs0, d0, ds0, p0, q0, hargs, rfl, rfl, h0, r0⟩ := trodAll_cons hA
 obtain ⟨rfl, rfl, rfl⟩ := trodAll_nil r0
 obtain rfl : args = #[v0] := by cases args; simp_all
 obtain ⟨rfl, rfl⟩ := trodVars_none hV
 have k0 := h0
 have lt0 : ∀ x ∈ p0, x.block < W.heap.size := by obtain ⟨m, hm⟩ := k0; exact DataW.trod_lt m _ _ _ hm
 obtain ⟨a0, len0, cap0, rfl⟩ := okWide_slice Tryd.underlying22 (hval 0 22 v0 rfl rfl)
 obtain ⟨n0, f0⟩ := h0
 have hrb : reachBytes = 140737488351232 := rfl
 obtain ⟨A, l, c, e0, hC, hc, hw⟩ := Wd.pages_open f0
 have e0' : (.slice a0 len0 cap0 : Value) = .slice A l.length c := by simpa [Value.cells] using e0
 injection e0' with e1 e2 e3
 subst e1
 subst e2
 subst e3
 obtain ⟨w1, w2⟩ := hw reachBytes (by omega) (fun x hx => by
  have g2 := List.all_eq_true.1 hsz _ (DataW.weights_mem_each (j := 0) (t := 22) rfl rfl x hx)
  simpa using g2)
 obtain ⟨K, hK⟩ := Pure.FnExactWorldOk l (by omega) (fun p hp => by have := w2 p hp; omega)
 clear hA0 hval0 hsz0 hsz hw
 refine (P.laws_FnExactWorldOk.calls K a0 cap0 l true W hC hc (hK K (Nat.le_refl _))).mono fun e W' ⟨he, bel⟩ => ?_
 subst he
 exact ⟨_, rfl, _, _, _, [], _, [], hW', trodAll_mk1 (shut_bool Tryd.underlying4 _), (trodAll_cons_mk (Below.trod laidOut (by kernel_rfl) (of_decide_eq_true (by kernel_rfl)) k0 bel lt0) trodAll_mk0), rfl, bel.frame _, fun h => by cases h⟩
set_option maxHeartbeats 4000000 in
theorem over : Rows.fnExactWorldOkRow.holds Tryd.pinned (OpenSpec.ofChange Rows.fnExactWorldOkSpec) :=
 OpenClaim.holds_of_wide 3 Tryd.f3 rfl rfl rfl rfl rfl rfl rfl ⟨rfl, rfl, rfl, rfl, rfl⟩ rfl rfl rfl rfl rfl (by as_aux_lemma => kernel_rfl) Tryd.func3 (by as_aux_lemma => kernel_rfl)
  (of_decide_eq_true (by as_aux_lemma => kernel_rfl)) (by unfold Func.isWrapper; first | (rw [if_pos (by decide +kernel)]; kernel_rfl) | (rw [if_neg (by decide +kernel)]; exact ⟨rfl, rfl⟩))
  (fun os started H enc _ => lifted os started H enc)
theorem card_holds : Rows.FnExactWorldOkCardSaid :=
 Claim7.holds_tied_plain_at .later [] [.data, .pinned] true (true, "667f380021e1764fdcda0af37ca07c112bee89bd658a5feadb8f0ace53fbc055") false over (fun _ h => by cases h) (by as_aux_lemma => kernel_rfl) (fun _ h => by cases h) fnExactWorldOk_row_tie rfl ⟨rfl, rfl⟩ (by as_aux_lemma => kernel_rfl) rfl
  (fun f fn hf hfn => by
   obtain rfl : f = 3 := Option.some.inj ((show Tryd.prog.funcNamed "loop.example/pedlar/laws.FnExactWorldOk" = some 3 by as_aux_lemma => kernel_rfl).symm.trans hf) |>.symm
   obtain rfl : fn = Tryd.f3 := (Option.some.inj (Tryd.func3.symm.trans hfn)).symm
   exact ⟨by as_aux_lemma => kernel_rfl, fun j t ht => by
    rw [Tryd.params3] at ht
    have hm : t ∈ [22] := by simpa using Array.mem_of_getElem? ht
    have hall : ([22].all fun u => !Tryd.prog.wantsStandIn u) = true := by as_aux_lemma => kernel_rfl
    exact (show Tryd.prog.wantsStandIn t = false by simpa using List.all_eq_true.1 hall t hm)⟩)
  (by as_aux_lemma => kernel_rfl)
#print axioms card_holds
end Go.Proofs.YtpnedbnpnekahaaDoor.fnExactWorldOk
namespace Go.Proofs.YtpnedbnpnekahaaDoor
theorem fnExactWorldOk_holds : Rows.FnExactWorldOkCardSaid := fnExactWorldOk.card_holds
end Go.Proofs.YtpnedbnpnekahaaDoor
end
