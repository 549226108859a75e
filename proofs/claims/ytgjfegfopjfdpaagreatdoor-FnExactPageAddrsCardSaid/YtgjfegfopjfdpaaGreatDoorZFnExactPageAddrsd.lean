/- Part 4 of the proof of FnExactPageAddrs: the plain functions of what it reaches, that Go comes to just their answers, what they answer, and the words that the walks use; conditions: each theorem's own. -/
import Derived.Test.YtgjfegfopjfdpaaGreatDoorZFnExactPageAddrsb
import Derived.Test.YtgjfegfopjfdpaaGreatDoorZFnExactPageAddrsc
import Derived.OneCell
import Derived.Laws.EntriesVeiled
import Derived.Laws.RangeAny
import Derived.Laws.Runes
import Derived.Laws.RangeString
import Derived.Laws.Strings3
import Derived.Lib.IndexAny
import Derived.Lib.IndexBytes
import Derived.Deep.LoopGhost

section
namespace Go.Proofs.YtgjfegfopjfdpaaGreatDoor.P
open Go.RowKit Go.Proofs.YtgjfegfopjfdpaaGreatDoorW.PrintWords Go.Proofs.YtgjfegfopjfdpaaGreatDoorW.PrintLast Go.Proofs.YtgjfegfopjfdpaaGreatDoorW.PrintMore
attribute [local go_sem] max2_int min2_int max_two min_two max_three min_three max_four min_four
set_option linter.unusedVariables false
set_option linter.unusedSimpArgs false
def impl_isNormal.f (k : Nat) (a0 : ByteArray) : Option (Bool) := (impl_EscNorm.f k a0).bind fun bt365 => (if bt365.2 = true then (some (bt365.1.toList == a0.toList)) else (some false))
set_option maxHeartbeats 8000000 in
set_option maxRecDepth 100000 in
theorem impl_isNormal.calls (k : Nat) (a0 : ByteArray) (r : Bool) (w : World) (h : impl_isNormal.f k a0 = some r) :
  Calls Tryz.prog 59 #[.string a0] w fun e w' => e = .returned (.bool r) ∧ Below w.heap.size w w' := by
 have HB := Aside0.mk (Below.refl w.heap.size w);have H : ((impl_EscNorm.f k a0).bind fun bt365 => (if bt365.2 = true then (some (bt365.1.toList == a0.toList)) else (some false))) = some r := h;clear h;replace H := bindA H;obtain ⟨⟨t365, t366⟩, A2, H⟩ := H;try dsimp -simprocs only at H
 by_cases c3 : t366 = true
 ·subst c3
  rw [if_pos rfl] at H;obtain rfl := Option.some.inj H;go_enter Tryz.func59, Tryz.ntmps59;go_wp2_with (first | ((with_reducible refine gate_callee (f := 78) rfl ?_); refine gsL (some 7) Tryz.func78 #[.string a0] ?_; (with_reducible refine (impl_EscNorm.calls k a0 t365 true _ A2.out).mono ?_); rintro e w4 ⟨rfl, hb⟩; refine ⟨_, rfl, ?_⟩; have n0_ := Aside0.mk (below_step (zz4 HB) hb); clear HB; have HB := n0_; clear n0_; (try clear hb)))
  go_ret
  exact ⟨zz5, (zz4 HB)⟩
 ·replace c3 := Bool.eq_false_iff.mpr c3
  subst c3;rw [if_neg (show ¬ (false = true) by decide)] at H;obtain rfl := Option.some.inj H;go_enter Tryz.func59, Tryz.ntmps59;go_wp2_with (first | ((with_reducible refine gate_callee (f := 78) rfl ?_); refine gsL (some 7) Tryz.func78 #[.string a0] ?_; (with_reducible refine (impl_EscNorm.calls k a0 t365 false _ A2.out).mono ?_); rintro e w5 ⟨rfl, hb⟩; refine ⟨_, rfl, ?_⟩; have n0_ := Aside0.mk (below_step (zz4 HB) hb); clear HB; have HB := n0_; clear n0_; (try clear hb)))
  go_ret
  exact ⟨zz5, (zz4 HB)⟩
mutual
def impl_AddrOk.j0 : Nat → Bool → ByteArray → List ByteArray → Bool → ByteArray → Option (Bool)
 | 0, _, _, _, _, _ => none
 | k + 1, x14, x368000, x368001, x368002, x368003 => if x14 = true then (some false) else (impl_AddrOk.l0 k x368001 (x368001.length : Int) 0 x368000 x368001 x368002 x368003)
def impl_AddrOk.l0 : Nat → List ByteArray → Int → Int → ByteArray → List ByteArray → Bool → ByteArray → Option (Bool)
 | 0, _, _, _, _, _, _, _ => none
 | k + 1, x16, x17, x18, x368000, x368001, x368002, x368003 => if x18 < x17 then (if 0 ≤ x18 then (if x18 < (x16.length : Int) then (if (rdOf ByteArray.empty x16 x18).toList = ([] : List UInt8) then (some false) else (if (rdOf ByteArray.empty x16 x18).toList = ([46] : List UInt8) then (some false) else (if (rdOf ByteArray.empty x16 x18).toList = ([46, 46] : List UInt8) then (some false) else ((impl_isNormal.f k (rdOf ByteArray.empty x16 x18)).bind fun t370 => (if t370 = true then (impl_AddrOk.l0 k x16 x17 (wrap64 (x18 + 1)) x368000 x368001 x368002 x368003) else (some false)))))) else (none)) else (none)) else ((impl_isNormal.f k x368003).bind fun t371 => (if t371 = true then (if x368002 = true then ((impl_writeAddr.f x368000 x368001 x368002 x368003).bind fun t372 => (some (decide ((t372.size : Int) ≤ 60)))) else (if x368003.toList = ([] : List UInt8) then ((impl_writeAddr.f x368000 x368001 x368002 x368003).bind fun t373 => (some (decide ((t373.size : Int) ≤ 60)))) else (some false))) else (some false)))
end
def impl_AddrOk.f (k : Nat) (a0_0 : ByteArray) (l0_1 : List ByteArray) (a0_2 : Bool) (a0_3 : ByteArray) : Option (Bool) := (impl_isHouse.f k a0_0).bind fun t368 => (if t368 = true then (impl_AddrOk.j0 k (decide ((l0_1.length : Int) > 5)) a0_0 l0_1 a0_2 a0_3) else (impl_AddrOk.j0 k true a0_0 l0_1 a0_2 a0_3))
set_option maxHeartbeats 8000000 in
set_option maxRecDepth 100000 in
theorem impl_AddrOk.calls (k : Nat) (a0_0 : ByteArray) (A0_1 : Option Addr) (c0_1 : Nat) (l0_1 : List ByteArray) (a0_2 : Bool) (a0_3 : ByteArray) (r : Bool) (w : World) (hr0_1 : Kd.C Kd.string w A0_1 l0_1.length l0_1) (hc0_1 : l0_1.length ≤ c0_1) (h : impl_AddrOk.f k a0_0 l0_1 a0_2 a0_3 = some r) :
  Calls Tryz.prog 34 #[.agg #[.string a0_0, .slice A0_1 l0_1.length c0_1, .bool a0_2, .string a0_3]] w fun e w' => e = .returned (.bool r) ∧ Below w.heap.size w w' := by
 have hu27 := Tryz.underlying27;have HR0_1 := Aside0.mk hr0_1;have HC0_1 := Aside0.mk hc0_1;clear hr0_1 hc0_1;have HB := Aside0.mk (Below.refl w.heap.size w);have H : ((impl_isHouse.f k a0_0).bind fun t368 => (if t368 = true then (impl_AddrOk.j0 k (decide ((l0_1.length : Int) > 5)) a0_0 l0_1 a0_2 a0_3) else (impl_AddrOk.j0 k true a0_0 l0_1 a0_2 a0_3))) = some r := h;clear h;have HC2 := Aside0.mk H;clear H;go_enter Tryz.func34, Tryz.ntmps34;go_upto_region 1 with (first | ((with_reducible refine gate_dst (N := 1) rfl ?_); (try (refine gate_guard (by rfl) ?_; dsimp only)); refine boxE 1 #[.string a0_0, .slice A0_1 l0_1.length c0_1, .bool a0_2, .string a0_3] 27 ?_; intro gb367 hg w3 hbox hb; have n0_ := Aside0.mk (below_step (zz4 HB) hb); have n1_ := Aside0.mk (hbox); have n2_ := Aside0.mk ((by rw [hg]; exact (below_size (zz4 HB)) : w.heap.size ≤ gb367)); have n3_ := Aside0.mk ((by rw [hg]; exact (below_size (zz4 HB)) : w.heap.size ≤ gb367)); clear HB; have HB := n0_; have BK367 := n1_; have GW367 := n2_; have GE367 := n3_; clear n0_ n1_ n2_ n3_; clear hb hbox hg))
 (try simp only [Act.put, List.setIfInBounds_toArray, List.set_cons_zero, List.set_cons_succ])
 go_cut [14] (fun v14 wc => ∃ (kq : Nat) (x14_1 : Bool), v14 = .bool x14_1 ∧ Aside0 (impl_AddrOk.j0 kq x14_1 a0_0 l0_1 a0_2 a0_3 = some r) ∧ Aside0 (kq ≤ k) ∧ Aside0 (wc.heap[gb367]? = some (.cells #[.string a0_0, (.slice A0_1 l0_1.length c0_1), .bool a0_2, .string a0_3] 27 (0, 0))) ∧ Aside0 (Below w.heap.size w wc))
 case first =>
  have H := HC2.out;clear HC2;replace H := bindA H;obtain ⟨t368, A4, H⟩ := H;by_cases c5 : t368 = true
  ·subst c5
   rw [if_pos rfl] at H;have H' := Aside0.mk H;clear H;obtain ⟨_, _, _, _, _, _, _, _⟩ := cf4 BK367;go_wp2_with (first | ((with_reducible refine gate_callee (f := 58) rfl ?_); refine gsL (some 7) Tryz.func58 #[.string a0_0] ?_; (with_reducible refine (impl_isHouse.calls k a0_0 true _ A4.out).mono ?_); rintro e w' ⟨rfl, ⟨nd, rfl⟩⟩; refine ⟨_, rfl, ?_⟩))
   go_meet
   case rel => exact ⟨_, (decide ((l0_1.length : Int) > 5)), zz0, H', ⟨zz18⟩, ⟨(zz27 BK367)⟩, ⟨(zz6 HB GE367)⟩⟩
  ·replace c5 := Bool.eq_false_iff.mpr c5
   subst c5;rw [if_neg (show ¬ (false = true) by decide)] at H;have H' := Aside0.mk H;clear H;obtain ⟨_, _, _, _, _, _, _, _⟩ := cf4 BK367;go_wp2_with (first | ((with_reducible refine gate_callee (f := 58) rfl ?_); refine gsL (some 7) Tryz.func58 #[.string a0_0] ?_; (with_reducible refine (impl_isHouse.calls k a0_0 false _ A4.out).mono ?_); rintro e w' ⟨rfl, ⟨nd, rfl⟩⟩; refine ⟨_, rfl, ?_⟩))
   go_meet
   case rel => exact ⟨_, (true), zz0, H', ⟨zz18⟩, ⟨(zz27 BK367)⟩, ⟨(zz6 HB GE367)⟩⟩
 case rest =>
  clear HC2;obtain ⟨kq, x14_1, rfl, HA, HJ1, BK367, HB⟩ := hcut;cases kq with
  | zero => exact absurd HA.out (by simp [impl_AddrOk.j0])
  | succ kj1 =>
   have H := HA.out;clear HA;simp only [impl_AddrOk.j0] at H
   by_cases c8 : x14_1 = true
   ·subst c8
    rw [if_pos rfl] at H;obtain rfl := Option.some.inj H;go_wp2
    go_ret
    exact ⟨zz5, (zz6 HB GE367)⟩
   ·replace c8 := Bool.eq_false_iff.mpr c8
    subst c8;rw [if_neg (show ¬ (false = true) by decide)] at H;have H' := Aside0.mk H;clear H;obtain ⟨_, _, _, _, _, _, _, _⟩ := cf4 BK367;go_wp2
    go_loopg [18] kj1 (fun kq v18 w' => ∃ (x18_2 : Int), v18 = .int .i64 x18_2 ∧ Aside0 (impl_AddrOk.l0 kq l0_1 (l0_1.length : Int) x18_2 a0_0 l0_1 a0_2 a0_3 = some r) ∧ Aside0 (kq ≤ kj1) ∧ Aside0 (w'.heap[gb367]? = some (.cells #[.string a0_0, (.slice A0_1 l0_1.length c0_1), .bool a0_2, .string a0_3] 27 (0, 0))) ∧ Aside0 (Below w.heap.size w w'))
    case atStart => exact ⟨(0), zz0, H', ⟨Nat.le_refl _⟩, ⟨(zz27 BK367)⟩, ⟨(zz6 HB GE367)⟩⟩
    case round =>
     clear H';obtain ⟨x18_2, rfl, HA, HK2, BK367, HB⟩ := hrel;cases gk with
     | zero => exact absurd HA.out (by simp [impl_AddrOk.l0])
     | succ k2 =>
      have H := HA.out;clear HA;simp only [impl_AddrOk.l0] at H
      by_cases c10 : x18_2 < (l0_1.length : Int)
      ·rw [if_pos c10] at H
       have c10b0 : decide (x18_2 < (l0_1.length : Int)) = true := decide_eq_true c10;clear c10;by_cases c11 : 0 ≤ x18_2
       ·rw [if_pos c11] at H
        have c11b0 : decide (0 ≤ x18_2) = true := decide_eq_true c11;clear c11;by_cases c12 : x18_2 < (l0_1.length : Int)
        ·rw [if_pos c12] at H
         have c12b0 : decide (x18_2 < (l0_1.length : Int)) = true := decide_eq_true c12;clear c12;by_cases c13 : (rdOf ByteArray.empty l0_1 x18_2).toList = ([] : List UInt8)
         ·rw [if_pos c13] at H
          have c13b0 : ((rdOf ByteArray.empty l0_1 x18_2).toList == ([] : List UInt8)) = true := beq_iff_eq.mpr c13;have c13b1 : ((rdOf ByteArray.empty l0_1 x18_2).toList != ([] : List UInt8)) = false := bne_eq_false_iff_eq.mpr c13;clear c13;obtain rfl := Option.some.inj H;have p369 : 0 ≤ (x18_2 : Int) := ofD;have q369 : x18_2 < (l0_1.length : Int) := ofD;obtain ⟨ad369, e369, hx369_0⟩ := Kd.at_string HR0_1.out x18_2 p369 q369;cases e369
          replace hx369_0 := (HB.out.cell (World.block_lt_of_cell? w _ hx369_0)).trans hx369_0;replace p369 := eq_true p369;replace q369 := eq_true q369;go_wp2
          go_ret
          exact ⟨zz5, (zz6 HB GE367)⟩
         ·rw [if_neg c13] at H
          have c13b0 : ((rdOf ByteArray.empty l0_1 x18_2).toList == ([] : List UInt8)) = false := beq_eq_false_iff_ne.mpr c13;have c13b1 : ((rdOf ByteArray.empty l0_1 x18_2).toList != ([] : List UInt8)) = true := bne_iff_ne.mpr c13;by_cases c14 : (rdOf ByteArray.empty l0_1 x18_2).toList = ([46] : List UInt8)
          ·rw [if_pos c14] at H
           have c14b0 : ((rdOf ByteArray.empty l0_1 x18_2).toList == ([46] : List UInt8)) = true := beq_iff_eq.mpr c14;have c14b1 : ((rdOf ByteArray.empty l0_1 x18_2).toList != ([46] : List UInt8)) = false := bne_eq_false_iff_eq.mpr c14;clear c14;obtain rfl := Option.some.inj H;have p369 : 0 ≤ (x18_2 : Int) := ofD;have q369 : x18_2 < (l0_1.length : Int) := ofD;obtain ⟨ad369, e369, hx369_0⟩ := Kd.at_string HR0_1.out x18_2 p369 q369;cases e369
           replace hx369_0 := (HB.out.cell (World.block_lt_of_cell? w _ hx369_0)).trans hx369_0;replace p369 := eq_true p369;replace q369 := eq_true q369;go_wp2
           go_ret
           exact ⟨zz5, (zz6 HB GE367)⟩
          ·rw [if_neg c14] at H
           have c14b0 : ((rdOf ByteArray.empty l0_1 x18_2).toList == ([46] : List UInt8)) = false := beq_eq_false_iff_ne.mpr c14;have c14b1 : ((rdOf ByteArray.empty l0_1 x18_2).toList != ([46] : List UInt8)) = true := bne_iff_ne.mpr c14;by_cases c15 : (rdOf ByteArray.empty l0_1 x18_2).toList = ([46, 46] : List UInt8)
           ·rw [if_pos c15] at H
            have c15b0 : ((rdOf ByteArray.empty l0_1 x18_2).toList == ([46, 46] : List UInt8)) = true := beq_iff_eq.mpr c15;have c15b1 : ((rdOf ByteArray.empty l0_1 x18_2).toList != ([46, 46] : List UInt8)) = false := bne_eq_false_iff_eq.mpr c15;clear c15;obtain rfl := Option.some.inj H;have p369 : 0 ≤ (x18_2 : Int) := ofD;have q369 : x18_2 < (l0_1.length : Int) := ofD;obtain ⟨ad369, e369, hx369_0⟩ := Kd.at_string HR0_1.out x18_2 p369 q369;cases e369
            replace hx369_0 := (HB.out.cell (World.block_lt_of_cell? w _ hx369_0)).trans hx369_0;replace p369 := eq_true p369;replace q369 := eq_true q369;go_wp2
            go_ret
            exact ⟨zz5, (zz6 HB GE367)⟩
           ·rw [if_neg c15] at H
            have c15b0 : ((rdOf ByteArray.empty l0_1 x18_2).toList == ([46, 46] : List UInt8)) = false := beq_eq_false_iff_ne.mpr c15;have c15b1 : ((rdOf ByteArray.empty l0_1 x18_2).toList != ([46, 46] : List UInt8)) = true := bne_iff_ne.mpr c15;replace H := bindA H;obtain ⟨t370, A16, H⟩ := H;by_cases c17 : t370 = true
            ·subst c17
             rw [if_pos rfl] at H;have H' := Aside0.mk H;clear H;have p369 : 0 ≤ (x18_2 : Int) := ofD;have q369 : x18_2 < (l0_1.length : Int) := ofD;obtain ⟨ad369, e369, hx369_0⟩ := Kd.at_string HR0_1.out x18_2 p369 q369;cases e369
             replace hx369_0 := (HB.out.cell (World.block_lt_of_cell? w _ hx369_0)).trans hx369_0;replace p369 := eq_true p369;replace q369 := eq_true q369;go_wp2_with (first | (go_at_call 59; (with_reducible refine (impl_isNormal.calls k2 (rdOf ByteArray.empty l0_1 x18_2) true _ A16.out).mono ?_); rintro e w18 ⟨rfl, hb⟩; have n0_ := Aside0.mk (blk_below (zz27 BK367) hb); have n1_ := Aside0.mk (below_step (zz6 HB GE367) hb); clear BK367; clear HB; have BK367 := n0_; have HB := n1_; clear n0_ n1_; (try clear hb)))
             go_roundg k2
             case measure => have := HJ1.out; have := HK2.out; omega
             case rel => exact ⟨(wrap64 (x18_2 + 1)), zz0, H', ⟨(zz26 HJ1 HK2)⟩, ⟨(zz27 BK367)⟩, ⟨(zz6 HB GE367)⟩⟩
            ·replace c17 := Bool.eq_false_iff.mpr c17
             subst c17;rw [if_neg (show ¬ (false = true) by decide)] at H;obtain rfl := Option.some.inj H;have p369 : 0 ≤ (x18_2 : Int) := ofD;have q369 : x18_2 < (l0_1.length : Int) := ofD;obtain ⟨ad369, e369, hx369_0⟩ := Kd.at_string HR0_1.out x18_2 p369 q369;cases e369
             replace hx369_0 := (HB.out.cell (World.block_lt_of_cell? w _ hx369_0)).trans hx369_0;replace p369 := eq_true p369;replace q369 := eq_true q369;go_wp2_with (first | (go_at_call 59; (with_reducible refine (impl_isNormal.calls k2 (rdOf ByteArray.empty l0_1 x18_2) false _ A16.out).mono ?_); rintro e w19 ⟨rfl, hb⟩; have n0_ := Aside0.mk (blk_below (zz27 BK367) hb); have n1_ := Aside0.mk (below_step (zz6 HB GE367) hb); clear BK367; clear HB; have BK367 := n0_; have HB := n1_; clear n0_ n1_; (try clear hb)))
             go_ret
             exact ⟨zz5, (zz6 HB GE367)⟩
        ·rw [if_neg c12] at H
         exact absurd H (by simp)
       ·rw [if_neg c11] at H
        exact absurd H (by simp)
      ·rw [if_neg c10] at H
       have c10b0 : decide (x18_2 < (l0_1.length : Int)) = false := decide_eq_false c10;clear c10;replace H := bindA H;obtain ⟨t371, A20, H⟩ := H;by_cases c21 : t371 = true
       ·subst c21
        rw [if_pos rfl] at H;by_cases c22 : a0_2 = true
        ·subst c22
         rw [if_pos rfl] at H;replace H := bindA H;obtain ⟨t372, A23, H⟩ := H;obtain rfl := Option.some.inj H;obtain ⟨_, _, _, _, _, _, _, _⟩ := cf4 BK367;go_wp2_with (first | ((with_reducible refine gate_callee (f := 59) rfl ?_); refine gsL (some 40) Tryz.func59 #[.string a0_3] ?_; (with_reducible refine (impl_isNormal.calls k2 a0_3 true _ A20.out).mono ?_); rintro e w25 ⟨rfl, hb⟩; refine ⟨_, rfl, ?_⟩; have n0_ := Aside0.mk (blk_below (zz27 BK367) hb); have n1_ := Aside0.mk (below_step (zz6 HB GE367) hb); clear BK367; clear HB; have BK367 := n0_; have HB := n1_; clear n0_ n1_; (try clear hb); obtain ⟨_, _, _, _, _, _, _, _⟩ := cf4 BK367) | ((with_reducible refine gate_callee (f := 45) rfl ?_); refine gsL (some 53) Tryz.func45 #[.agg #[.string a0_0, .slice A0_1 l0_1.length c0_1, .bool true, .string a0_3]] ?_; (with_reducible refine (impl_writeAddr.calls a0_0 _ _ l0_1 true a0_3 t372 _ ?side1 ?side2 A23.out).mono ?_); (case side1 => exact (zz7 HR0_1 HB)); (case side2 => exact HC0_1.out); rintro e w27 ⟨rfl, hb⟩; refine ⟨_, rfl, ?_⟩; have n0_ := Aside0.mk (blk_below (zz27 BK367) hb); have n1_ := Aside0.mk (below_step (zz6 HB GE367) hb); clear BK367; clear HB; have BK367 := n0_; have HB := n1_; clear n0_ n1_; (try clear hb)))
         go_ret
         exact ⟨zz5, (zz6 HB GE367)⟩
        ·replace c22 := Bool.eq_false_iff.mpr c22
         subst c22;rw [if_neg (show ¬ (false = true) by decide)] at H;by_cases c28 : a0_3.toList = ([] : List UInt8)
         ·rw [if_pos c28] at H
          have c28b0 : (a0_3.toList == ([] : List UInt8)) = true := beq_iff_eq.mpr c28;have c28b1 : (a0_3.toList != ([] : List UInt8)) = false := bne_eq_false_iff_eq.mpr c28;clear c28;replace H := bindA H;obtain ⟨t373, A29, H⟩ := H;obtain rfl := Option.some.inj H;obtain ⟨_, _, _, _, _, _, _, _⟩ := cf4 BK367;go_wp2_with (first | ((with_reducible refine gate_callee (f := 59) rfl ?_); refine gsL (some 40) Tryz.func59 #[.string a0_3] ?_; (with_reducible refine (impl_isNormal.calls k2 a0_3 true _ A20.out).mono ?_); rintro e w31 ⟨rfl, hb⟩; refine ⟨_, rfl, ?_⟩; have n0_ := Aside0.mk (blk_below (zz27 BK367) hb); have n1_ := Aside0.mk (below_step (zz6 HB GE367) hb); clear BK367; clear HB; have BK367 := n0_; have HB := n1_; clear n0_ n1_; (try clear hb); obtain ⟨_, _, _, _, _, _, _, _⟩ := cf4 BK367) | ((with_reducible refine gate_callee (f := 45) rfl ?_); refine gsL (some 53) Tryz.func45 #[.agg #[.string a0_0, .slice A0_1 l0_1.length c0_1, .bool false, .string a0_3]] ?_; (with_reducible refine (impl_writeAddr.calls a0_0 _ _ l0_1 false a0_3 t373 _ ?side1 ?side2 A29.out).mono ?_); (case side1 => exact (zz7 HR0_1 HB)); (case side2 => exact HC0_1.out); rintro e w33 ⟨rfl, hb⟩; refine ⟨_, rfl, ?_⟩; have n0_ := Aside0.mk (blk_below (zz27 BK367) hb); have n1_ := Aside0.mk (below_step (zz6 HB GE367) hb); clear BK367; clear HB; have BK367 := n0_; have HB := n1_; clear n0_ n1_; (try clear hb)))
          go_ret
          exact ⟨zz5, (zz6 HB GE367)⟩
         ·rw [if_neg c28] at H
          have c28b0 : (a0_3.toList == ([] : List UInt8)) = false := beq_eq_false_iff_ne.mpr c28;have c28b1 : (a0_3.toList != ([] : List UInt8)) = true := bne_iff_ne.mpr c28;obtain rfl := Option.some.inj H;obtain ⟨_, _, _, _, _, _, _, _⟩ := cf4 BK367;go_wp2_with (first | ((with_reducible refine gate_callee (f := 59) rfl ?_); refine gsL (some 40) Tryz.func59 #[.string a0_3] ?_; (with_reducible refine (impl_isNormal.calls k2 a0_3 true _ A20.out).mono ?_); rintro e w35 ⟨rfl, hb⟩; refine ⟨_, rfl, ?_⟩; have n0_ := Aside0.mk (blk_below (zz27 BK367) hb); have n1_ := Aside0.mk (below_step (zz6 HB GE367) hb); clear BK367; clear HB; have BK367 := n0_; have HB := n1_; clear n0_ n1_; (try clear hb); obtain ⟨_, _, _, _, _, _, _, _⟩ := cf4 BK367))
          go_ret
          exact ⟨zz5, (zz6 HB GE367)⟩
       ·replace c21 := Bool.eq_false_iff.mpr c21
        subst c21;rw [if_neg (show ¬ (false = true) by decide)] at H;obtain rfl := Option.some.inj H;obtain ⟨_, _, _, _, _, _, _, _⟩ := cf4 BK367;go_wp2_with (first | ((with_reducible refine gate_callee (f := 59) rfl ?_); refine gsL (some 40) Tryz.func59 #[.string a0_3] ?_; (with_reducible refine (impl_isNormal.calls k2 a0_3 false _ A20.out).mono ?_); rintro e w38 ⟨rfl, hb⟩; refine ⟨_, rfl, ?_⟩; have n0_ := Aside0.mk (blk_below (zz27 BK367) hb); have n1_ := Aside0.mk (below_step (zz6 HB GE367) hb); clear BK367; clear HB; have BK367 := n0_; have HB := n1_; clear n0_ n1_; (try clear hb)))
        go_ret
        exact ⟨zz5, (zz6 HB GE367)⟩
def impl_AddrText.f (k : Nat) (a0_0 : ByteArray) (l0_1 : List ByteArray) (a0_2 : Bool) (a0_3 : ByteArray) : Option (ByteArray) := (impl_AddrOk.f k a0_0 l0_1 a0_2 a0_3).bind fun t375 => (if t375 = true then ((impl_writeAddr.f a0_0 l0_1 a0_2 a0_3).bind fun t376 => (some t376)) else (some (⟨#[]⟩ : ByteArray)))
set_option maxHeartbeats 8000000 in
set_option maxRecDepth 100000 in
theorem impl_AddrText.calls (k : Nat) (a0_0 : ByteArray) (A0_1 : Option Addr) (c0_1 : Nat) (l0_1 : List ByteArray) (a0_2 : Bool) (a0_3 : ByteArray) (r : ByteArray) (w : World) (hr0_1 : Kd.C Kd.string w A0_1 l0_1.length l0_1) (hc0_1 : l0_1.length ≤ c0_1) (h : impl_AddrText.f k a0_0 l0_1 a0_2 a0_3 = some r) :
  Calls Tryz.prog 21 #[.agg #[.string a0_0, .slice A0_1 l0_1.length c0_1, .bool a0_2, .string a0_3]] w fun e w' => e = .returned (.string r) ∧ Below w.heap.size w w' := by
 have hu27 := Tryz.underlying27;have HR0_1 := Aside0.mk hr0_1;have HC0_1 := Aside0.mk hc0_1;clear hr0_1 hc0_1;have HB := Aside0.mk (Below.refl w.heap.size w);have H : ((impl_AddrOk.f k a0_0 l0_1 a0_2 a0_3).bind fun t375 => (if t375 = true then ((impl_writeAddr.f a0_0 l0_1 a0_2 a0_3).bind fun t376 => (some t376)) else (some (⟨#[]⟩ : ByteArray)))) = some r := h;clear h;replace H := bindA H;obtain ⟨t375, A2, H⟩ := H;by_cases c3 : t375 = true
 ·subst c3
  rw [if_pos rfl] at H;replace H := bindA H;obtain ⟨t376, A4, H⟩ := H;obtain rfl := Option.some.inj H;go_enter Tryz.func21, Tryz.ntmps21;go_wp2_with (first | ((with_reducible refine gate_dst (N := 1) rfl ?_); refine boxE 1 #[.string a0_0, .slice A0_1 l0_1.length c0_1, .bool a0_2, .string a0_3] 27 ?_; intro gb374 hg w5 hbox hb; have n0_ := Aside0.mk (below_step (zz4 HB) hb); have n1_ := Aside0.mk (hbox); have n2_ := Aside0.mk ((by rw [hg]; exact (below_size (zz4 HB)) : w.heap.size ≤ gb374)); have n3_ := Aside0.mk ((by rw [hg]; exact (below_size (zz4 HB)) : w.heap.size ≤ gb374)); clear HB; have HB := n0_; have BK374 := n1_; have GW374 := n2_; have GE374 := n3_; clear n0_ n1_ n2_ n3_; clear hb hbox hg; obtain ⟨_, _, _, _, _, _, _, _⟩ := cf4 BK374) | ((with_reducible refine gate_callee (f := 34) rfl ?_); refine gsL (some 4) Tryz.func34 #[.agg #[.string a0_0, .slice A0_1 l0_1.length c0_1, .bool a0_2, .string a0_3]] ?_; (with_reducible refine (impl_AddrOk.calls k a0_0 _ _ l0_1 a0_2 a0_3 true _ ?side1 ?side2 A2.out).mono ?_); (case side1 => exact (zz7 HR0_1 HB)); (case side2 => exact HC0_1.out); rintro e w7 ⟨rfl, hb⟩; refine ⟨_, rfl, ?_⟩; have n0_ := Aside0.mk (blk_below (zz27 BK374) hb); have n1_ := Aside0.mk (below_step (zz6 HB GE374) hb); clear BK374; clear HB; have BK374 := n0_; have HB := n1_; clear n0_ n1_; (try clear hb); obtain ⟨_, _, _, _, _, _, _, _⟩ := cf4 BK374) | ((with_reducible refine gate_callee (f := 45) rfl ?_); refine gsL (some 7) Tryz.func45 #[.agg #[.string a0_0, .slice A0_1 l0_1.length c0_1, .bool a0_2, .string a0_3]] ?_; (with_reducible refine (impl_writeAddr.calls a0_0 _ _ l0_1 a0_2 a0_3 t376 _ ?side1 ?side2 A4.out).mono ?_); (case side1 => exact (zz7 HR0_1 HB)); (case side2 => exact HC0_1.out); rintro e w9 ⟨rfl, hb⟩; refine ⟨_, rfl, ?_⟩; have n0_ := Aside0.mk (blk_below (zz27 BK374) hb); have n1_ := Aside0.mk (below_step (zz6 HB GE374) hb); clear BK374; clear HB; have BK374 := n0_; have HB := n1_; clear n0_ n1_; (try clear hb)))
  go_ret
  exact ⟨zz5, (zz6 HB GE374)⟩
 ·replace c3 := Bool.eq_false_iff.mpr c3
  subst c3;rw [if_neg (show ¬ (false = true) by decide)] at H;obtain rfl := Option.some.inj H;go_enter Tryz.func21, Tryz.ntmps21;go_wp2_with (first | ((with_reducible refine gate_dst (N := 1) rfl ?_); refine boxE 1 #[.string a0_0, .slice A0_1 l0_1.length c0_1, .bool a0_2, .string a0_3] 27 ?_; intro gb374 hg w10 hbox hb; have n0_ := Aside0.mk (below_step (zz4 HB) hb); have n1_ := Aside0.mk (hbox); have n2_ := Aside0.mk ((by rw [hg]; exact (below_size (zz4 HB)) : w.heap.size ≤ gb374)); have n3_ := Aside0.mk ((by rw [hg]; exact (below_size (zz4 HB)) : w.heap.size ≤ gb374)); clear HB; have HB := n0_; have BK374 := n1_; have GW374 := n2_; have GE374 := n3_; clear n0_ n1_ n2_ n3_; clear hb hbox hg; obtain ⟨_, _, _, _, _, _, _, _⟩ := cf4 BK374) | ((with_reducible refine gate_callee (f := 34) rfl ?_); refine gsL (some 4) Tryz.func34 #[.agg #[.string a0_0, .slice A0_1 l0_1.length c0_1, .bool a0_2, .string a0_3]] ?_; (with_reducible refine (impl_AddrOk.calls k a0_0 _ _ l0_1 a0_2 a0_3 false _ ?side1 ?side2 A2.out).mono ?_); (case side1 => exact (zz7 HR0_1 HB)); (case side2 => exact HC0_1.out); rintro e w12 ⟨rfl, hb⟩; refine ⟨_, rfl, ?_⟩; have n0_ := Aside0.mk (blk_below (zz27 BK374) hb); have n1_ := Aside0.mk (below_step (zz6 HB GE374) hb); clear BK374; clear HB; have BK374 := n0_; have HB := n1_; clear n0_ n1_; (try clear hb)))
  go_ret
  exact ⟨zz5, (zz6 HB GE374)⟩
def impl_beginsWith.f (a0 : ByteArray) (a1 : Int) : Option (Bool) := if a0.toList = ([] : List UInt8) then (some false) else (if 0 < (a0.size : Int) then (some ((bt a0 0) == a1)) else (none))
set_option maxHeartbeats 8000000 in
set_option maxRecDepth 100000 in
theorem impl_beginsWith.calls (a0 : ByteArray) (a1 : Int) (r : Bool) (w : World) (h : impl_beginsWith.f a0 a1 = some r) :
  Calls Tryz.prog 47 #[.string a0, .int .u8 a1] w fun e w' => e = .returned (.bool r) ∧ Drawn0 w w' := by
 have H : (if a0.toList = ([] : List UInt8) then (some false) else (if 0 < (a0.size : Int) then (some ((bt a0 0) == a1)) else (none))) = some r := h;clear h;by_cases c3 : a0.toList = ([] : List UInt8)
 ·rw [if_pos c3] at H
  have c3b0 : (a0.toList == ([] : List UInt8)) = true := beq_iff_eq.mpr c3;have c3b1 : (a0.toList != ([] : List UInt8)) = false := bne_eq_false_iff_eq.mpr c3;clear c3;obtain rfl := Option.some.inj H;go_enter Tryz.func47, Tryz.ntmps47;go_wp2
  go_ret
  exact ⟨zz0, zz1⟩
 ·rw [if_neg c3] at H
  have c3b0 : (a0.toList == ([] : List UInt8)) = false := beq_eq_false_iff_ne.mpr c3;have c3b1 : (a0.toList != ([] : List UInt8)) = true := bne_iff_ne.mpr c3;by_cases c4 : 0 < (a0.size : Int)
  ·rw [if_pos c4] at H
   have c4b0 : decide (0 < (a0.size : Int)) = true := decide_eq_true c4;have c4b1 : decide (0 < a0.size) = true := decide_eq_true (by omega);clear c4;obtain rfl := Option.some.inj H;have p5 : 0 ≤ (0 : Int) := (by omega);have q5 : 0 < a0.size := (by have : (0 : Int) < (a0.size : Int) := ofD; omega);have hx5 : ∀ h : 0 < a0.size, ((a0[0]'h).toNat : Int) = bt a0 0 := bt_at a0 0;clear p5;have qi5 : (0 < (a0.size : Int)) = True := eq_true ofD;replace q5 := eq_true q5;go_enter Tryz.func47, Tryz.ntmps47;go_wp2
   go_ret
   exact ⟨zz0, zz1⟩
  ·rw [if_neg c4] at H
   exact absurd H (by simp)
end Go.Proofs.YtgjfegfopjfdpaaGreatDoor.P
end
section
namespace Go.Proofs.YtgjfegfopjfdpaaGreatDoor.Mk
open Go.RowKit Go.Proofs.YtgjfegfopjfdpaaGreatDoor.P Go.Proofs.YtgjfegfopjfdpaaGreatDoorW.PrintWords Go.Proofs.YtgjfegfopjfdpaaGreatDoorW.PrintLast Go.Proofs.YtgjfegfopjfdpaaGreatDoorW.PrintMore Go.Proofs.YtgjfegfopjfdpaaGreatDoor.B
set_option linter.unusedVariables false
set_option linter.unusedSimpArgs false
def pmStep (s : ByteArray) (i : Nat) (ms : List ByteArray) (st a : Nat) : List ByteArray × Nat × Nat :=
 if st = 1 then (if bt s i = 62 then (ms ++ [s.extract a i], 0, a) else (ms, 1, a))
 else if st = 2 then (if bt s i = 41 then (ms, 0, a) else (ms, 2, a))
 else (if bt s i = 60 then (ms, 1, i + 1) else if bt s i = 40 then (ms, 2, a) else (ms, st, a))
def pmTo (s : ByteArray) : Nat → List ByteArray × Nat × Nat
 | 0 => ([], 0, 0)
 | k + 1 => pmStep s k (pmTo s k).1 (pmTo s k).2.1 (pmTo s k).2.2
def marks (s : ByteArray) : List ByteArray := if s.size ≤ 300 then (pmTo s s.size).1 else []
theorem pmStep_ok (s : ByteArray) (i : Nat) (ms : List ByteArray) (st a : Nat) (h1 : st ≤ 2) (h2 : a ≤ i) (h3 : ms.length ≤ i) :
  (pmStep s i ms st a).2.1 ≤ 2 ∧ (pmStep s i ms st a).2.2 ≤ i + 1 ∧ (pmStep s i ms st a).1.length ≤ i + 1 := by
 unfold pmStep
 repeat' split
 all_goals (try simp only [List.length_append, List.length_singleton])
 all_goals omega
theorem pmTo_ok (s : ByteArray) (k : Nat) : (pmTo s k).2.1 ≤ 2 ∧ (pmTo s k).2.2 ≤ k ∧ (pmTo s k).1.length ≤ k := by
 induction k with
 | zero => simp [pmTo]
 | succ k ih => exact pmStep_ok s k _ _ _ ih.1 ih.2.1 ih.2.2
def pmRun (s : ByteArray) : Nat → Nat → List ByteArray → Nat → Nat → List ByteArray × Nat × Nat
 | 0, _, ms, st, a => (ms, st, a)
 | d + 1, i, ms, st, a => pmRun s d (i + 1) (pmStep s i ms st a).1 (pmStep s i ms st a).2.1 (pmStep s i ms st a).2.2
theorem pmRun_to (s : ByteArray) (d : Nat) : ∀ i, pmRun s d i (pmTo s i).1 (pmTo s i).2.1 (pmTo s i).2.2 = pmTo s (i + d) := by
 induction d with
 | zero => intro i; rfl
 | succ d ih =>
  intro i
  simp only [pmRun]
  have := ih (i + 1)
  rw [show i + 1 + d = i + (d + 1) from by omega] at this
  exact this
theorem marks_run (s : ByteArray) (h : s.size ≤ 300) : marks s = (pmRun s s.size 0 [] 0 0).1 := by
 have := pmRun_to s s.size 0
 simp only [pmTo, Nat.zero_add] at this
 rw [this, marks, if_pos h]
def rnd (st : Nat) : Bool := st == 2
def frm (st a : Nat) : Int := if st = 1 then a else -1
theorem spec_l (s : ByteArray) (hs : s.size ≤ 300) (d : Nat) : ∀ (k i : Nat) (ms : List ByteArray) (st a : Nat), i + d = s.size → 3 * d + 2 < k → st ≤ 2 → a ≤ i → ms.length ≤ i →
  spec_l3Marks.l0 k s ms (rnd st) (frm st a) (i : Int) = some (pmRun s d i ms st a).1 := by
 induction d with
 | zero =>
  intro k i ms st a h hk h1 h2 h3
  obtain ⟨k, rfl⟩ : ∃ m, k = m + 2 := ⟨k - 2, by omega⟩
  simp only [spec_l3Marks.l0, spec_l3Marks.j1, pmRun]
  rw [if_neg (by omega), if_neg (by simp)]
 | succ d ih =>
  intro k i ms st a h hk h1 h2 h3
  obtain ⟨k, rfl⟩ : ∃ m, k = m + 3 := ⟨k - 3, by omega⟩
  have hlt : (i : Int) < (s.size : Int) := by omega
  have h0 : 0 ≤ (i : Int) := by omega
  have hd : decide ((s.size : Int) ≤ 300) = true := by simp; omega
  have hw : wrap64 ((i : Int) + 1) = ((i + 1 : Nat) : Int) := by rw [w64 (by omega) (by omega)]; omega
  have next := fun ms' st' a' (q1 : st' ≤ 2) (q2 : a' ≤ i + 1) (q3 : ms'.length ≤ i + 1) => ih k (i + 1) ms' st' a' (by omega) (by omega) q1 q2 q3
  simp only [spec_l3Marks.l0, spec_l3Marks.j1, spec_l3Marks.j2, pmRun]
  rw [if_pos hlt, hd, if_pos rfl, hw]
  by_cases e1 : st = 1
  ·subst e1
   have ef : frm 1 a = (a : Int) := by simp [frm]
   have er : rnd 1 = false := rfl
   rw [ef, er, if_pos (by omega : (a : Int) ≥ 0), if_pos h0, if_pos hlt]
   by_cases e2 : bt s i = 62
   ·have hp : pmStep s i ms 1 a = (ms ++ [s.extract a i], 0, a) := by simp [pmStep, e2]
    rw [if_pos (by simpa using e2), if_pos (by omega), if_pos (by omega), if_pos (by omega), if_pos (by omega), hp]
    have := next (ms ++ [s.extract a i]) 0 a (by omega) (by omega) (by simp; omega)
    simpa [rnd, frm] using this
   ·have hp : pmStep s i ms 1 a = (ms, 1, a) := by simp [pmStep, e2]
    rw [if_neg (by simpa using e2), if_pos (by omega : (a : Int) ≥ 0), hp]
    have := next ms 1 a (by omega) (by omega) (by omega)
    rwa [ef, er] at this
  ·have ef : frm st a = -1 := by simp [frm, e1]
   rw [ef, if_neg (by omega), if_neg (by simp), if_neg (by omega)]
   by_cases e2 : st = 2
   ·subst e2
    rw [show rnd 2 = true from rfl, if_pos rfl, if_pos h0, if_pos hlt]
    by_cases e3 : bt s i = 41
    ·have hp : pmStep s i ms 2 a = (ms, 0, a) := by simp [pmStep, e3]
     have eb : (bt s i != 41) = false := by simp [e3]
     rw [hp, eb]
     have := next ms 0 a (by omega) (by omega) (by omega)
     simpa [rnd, frm] using this
    ·have hp : pmStep s i ms 2 a = (ms, 2, a) := by simp [pmStep, e3]
     have eb : (bt s i != 41) = true := by simp [e3]
     rw [hp, eb]
     have := next ms 2 a (by omega) (by omega) (by omega)
     simpa [rnd, frm] using this
   ·obtain rfl : st = 0 := by omega
    rw [show rnd 0 = false from rfl, if_neg (by simp), if_pos h0, if_pos hlt]
    by_cases e3 : bt s i = 40
    ·have hp : pmStep s i ms 0 a = (ms, 2, a) := by simp [pmStep, e3]
     rw [if_pos e3, hp]
     have := next ms 2 a (by omega) (by omega) (by omega)
     simpa [rnd, frm] using this
    ·rw [if_neg e3]
     by_cases e4 : bt s i = 60
     ·have hp : pmStep s i ms 0 a = (ms, 1, i + 1) := by simp [pmStep, e4]
      rw [if_pos e4, hp]
      have := next ms 1 (i + 1) (by omega) (by omega) (by omega)
      simpa [rnd, frm] using this
     ·have hp : pmStep s i ms 0 a = (ms, 0, a) := by simp [pmStep, e3, e4]
      rw [if_neg e4, hp]
      have := next ms 0 a (by omega) (by omega) (by omega)
      simpa [rnd, frm] using this
theorem spec_ev (s : ByteArray) (hs : s.size ≤ 140737488351232) : Ev (fun k => spec_l3Marks.f k s) (marks s) := by
 unfold spec_l3Marks.f
 by_cases h : s.size ≤ 300
 ·refine Ev.of (fun k => spec_l3Marks.mono_l k |>.1 _ _ _ _ _) (k := 3 * s.size + 3) ?_
  have := spec_l s h s.size (3 * s.size + 3) 0 [] 0 0 (by omega) (by omega) (by omega) (by omega) (by simp)
  rw [marks_run s h]
  simpa [rnd, frm] using this
 ·refine Ev.of (fun k => spec_l3Marks.mono_l k |>.1 _ _ _ _ _) (k := 2) ?_
  simp only [spec_l3Marks.l0, spec_l3Marks.j1, marks]
  rw [if_neg h, if_pos (by omega), if_neg (by simp; omega)]
end Go.Proofs.YtgjfegfopjfdpaaGreatDoor.Mk
end
section
namespace Go.Proofs.YtgjfegfopjfdpaaGreatDoor.P
open Go.RowKit Go.Proofs.YtgjfegfopjfdpaaGreatDoorW.PrintWords Go.Proofs.YtgjfegfopjfdpaaGreatDoorW.PrintLast Go.Proofs.YtgjfegfopjfdpaaGreatDoorW.PrintMore Go.Proofs.YtgjfegfopjfdpaaGreatDoor.Mk
set_option linter.unusedVariables false
set_option linter.unusedSimpArgs false
structure PmInv (B : Nat) (s : ByteArray) (ms : List ByteArray) (st a : Nat) (v : Value) (w : World) : Prop where
 text : w.heap[B]? = some (.cells #[.string s] 9 (0, 0))
 marks : w.heap[B + 1]? = some (.cells #[v] 22 (0, 0))
 state : w.heap[B + 2]? = some (.cells #[.int .i64 st] 3 (0, 0))
 start : w.heap[B + 3]? = some (.cells #[.int .i64 a] 3 (0, 0))
 size : B + 5 ≤ w.heap.size
 row : Kd.R Kd.string 9 w (B + 5) (fun k => B + 5 ≤ k) v ms
theorem PmInv.setState {B : Nat} {s : ByteArray} {ms : List ByteArray} {st a : Nat} {v : Value} {w : World} (h : PmInv B s ms st a v w) (x : Int) (st' : Nat) (hx : x = st') :
  PmInv B s ms st' a v (w.setCell ⟨B + 2, 0, none⟩ (.int .i64 x)) := by
 subst hx
 exact ⟨(heap_set_ne _ _ _ _ (by show B ≠ B + 2; omega)).trans h.text, (heap_set_ne _ _ _ _ (by show B + 1 ≠ B + 2; omega)).trans h.marks, one_setCell h.state,
  (heap_set_ne _ _ _ _ (by show B + 3 ≠ B + 2; omega)).trans h.start, by rw [size_set]; exact h.size, Kd.R_far h.row (fun k hk => by show k ≠ B + 2; omega) _⟩
theorem PmInv.setStart {B : Nat} {s : ByteArray} {ms : List ByteArray} {st a : Nat} {v : Value} {w : World} (h : PmInv B s ms st a v w) (x : Int) (a' : Nat) (hx : x = a') :
  PmInv B s ms st a' v (w.setCell ⟨B + 3, 0, none⟩ (.int .i64 x)) := by
 subst hx
 exact ⟨(heap_set_ne _ _ _ _ (by show B ≠ B + 3; omega)).trans h.text, (heap_set_ne _ _ _ _ (by show B + 1 ≠ B + 3; omega)).trans h.marks,
  (heap_set_ne _ _ _ _ (by show B + 2 ≠ B + 3; omega)).trans h.state, one_setCell h.start, by rw [size_set]; exact h.size, Kd.R_far h.row (fun k hk => by show k ≠ B + 3; omega) _⟩
theorem PmInv.setMarks {B : Nat} {s : ByteArray} {ms ms' : List ByteArray} {st a : Nat} {v v' : Value} {w w1 : World} (h : PmInv B s ms st a v w) (hg : w.grownBy w1 v.ownBlock) (hrow : Kd.R Kd.string 9 w1 (B + 5) (fun k => B + 5 ≤ k) v' ms') (hv : ∀ k, v.ownBlock = some k → B + 5 ≤ k) :
  PmInv B s ms' st a v' (w1.setCell ⟨B + 1, 0, none⟩ v') := by
 have hs := h.size
 have blk : ∀ k, k < B + 5 → w1.heap[k]? = w.heap[k]? := fun k hk => hg.block k (by omega) (fun e => by have := hv k e.symm; omega)
 exact ⟨(heap_set_ne _ _ _ _ (by show B ≠ B + 1; omega)).trans ((blk B (by omega)).trans h.text), one_setCell ((blk (B + 1) (by omega)).trans h.marks),
  (heap_set_ne _ _ _ _ (by show B + 2 ≠ B + 1; omega)).trans ((blk (B + 2) (by omega)).trans h.state), (heap_set_ne _ _ _ _ (by show B + 3 ≠ B + 1; omega)).trans ((blk (B + 3) (by omega)).trans h.start),
  by rw [size_set]; have := hg.size; omega, Kd.R_far hrow (fun k hk => by show k ≠ B + 1; omega) _⟩
def PmPost (B : Nat) (s : ByteArray) (r : List ByteArray × Nat × Nat) (w : World) (e : Ending) (w' : World) : Prop :=
 e = .returned (.tuple #[]) ∧ (∃ v, PmInv B s r.1 r.2.1 r.2.2 v w') ∧ Below B w w' ∧ w'.heap[B + 4]? = w.heap[B + 4]?
set_option maxHeartbeats 400000 in
set_option maxRecDepth 100000 in
theorem pm1_calls (B i : Nat) (s : ByteArray) (ms : List ByteArray) (a : Nat) (v : Value) (w : World) (h : PmInv B s ms 0 a v w) (hi : i < 300) :
  Calls Tryz.prog 70 #[.int .i64 i, .int .u8 (bt s i), .pointer (some ⟨B + 2, 0, none⟩), .pointer (some ⟨B + 3, 0, none⟩)] w (PmPost B s (pmStep s i ms 0 a) w) := by
 have H := Aside0.mk h
 obtain ⟨h1, h2, h3, h4, h5, h6⟩ := h
 have c3 := cell_of_one h3
 have f3 := free_of_one h3
 have c4 := cell_of_one h4
 have f4 := free_of_one h4
 clear h1 h2 h3 h4 h5 h6
 generalize hb : bt s i = b
 have Hb := Aside0.mk hb
 clear hb
 by_cases e1 : b = 60
 ·have e1b : (b == 60) = true := by simp [e1]
  have hp : Aside0 (pmStep s i ms 0 a = (ms, 1, i + 1)) := ⟨by simp [pmStep, Hb.out, e1]⟩
  clear e1
  go_enter Tryz.func70, Tryz.ntmps70
  go_wp2
  go_end0
  rw [PmPost, hp.out]
  exact ⟨rfl, ⟨v, (H.out.setState 1 1 rfl).setStart _ (i + 1) (by omega)⟩, ((Below.refl _ _).setCell (by show B ≤ B + 2; omega) _).setCell (by show B ≤ B + 3; omega) _,
   (heap_set_ne _ _ _ _ (by show B + 4 ≠ B + 3; omega)).trans (heap_set_ne _ _ _ _ (by show B + 4 ≠ B + 2; omega))⟩
 ·have e1b : (b == 60) = false := by simp [e1]
  by_cases e2 : b = 40
  ·have e2b : (b == 40) = true := by simp [e2]
   have hp : Aside0 (pmStep s i ms 0 a = (ms, 2, a)) := ⟨by simp [pmStep, Hb.out, e1, e2]⟩
   clear e1 e2
   go_enter Tryz.func70, Tryz.ntmps70
   go_wp2
   go_end0
   rw [PmPost, hp.out]
   exact ⟨rfl, ⟨v, H.out.setState 2 2 rfl⟩, (Below.refl _ _).setCell (by show B ≤ B + 2; omega) _, heap_set_ne _ _ _ _ (by show B + 4 ≠ B + 2; omega)⟩
  ·have e2b : (b == 40) = false := by simp [e2]
   have hp : Aside0 (pmStep s i ms 0 a = (ms, 0, a)) := ⟨by simp [pmStep, Hb.out, e1, e2]⟩
   clear e1 e2
   go_enter Tryz.func70, Tryz.ntmps70
   go_wp2
   go_end0
   rw [PmPost, hp.out]
   exact ⟨rfl, ⟨v, H.out⟩, Below.refl _ _, rfl⟩
set_option maxHeartbeats 400000 in
set_option maxRecDepth 100000 in
theorem pm3_calls (B i : Nat) (s : ByteArray) (ms : List ByteArray) (a : Nat) (v : Value) (w : World) (h : PmInv B s ms 2 a v w) (hi : i < 300) :
  Calls Tryz.prog 72 #[.int .i64 i, .int .u8 (bt s i), .pointer (some ⟨B + 2, 0, none⟩)] w (PmPost B s (pmStep s i ms 2 a) w) := by
 have H := Aside0.mk h
 obtain ⟨h1, h2, h3, h4, h5, h6⟩ := h
 have c3 := cell_of_one h3
 have f3 := free_of_one h3
 clear h1 h2 h3 h4 h5 h6
 generalize hb : bt s i = b
 have Hb := Aside0.mk hb
 clear hb
 by_cases e1 : b = 41
 ·have e1b : (b == 41) = true := by simp [e1]
  have hp : Aside0 (pmStep s i ms 2 a = (ms, 0, a)) := ⟨by simp [pmStep, Hb.out, e1]⟩
  clear e1
  go_enter Tryz.func72, Tryz.ntmps72
  go_wp2
  go_end0
  rw [PmPost, hp.out]
  exact ⟨rfl, ⟨v, H.out.setState 0 0 rfl⟩, (Below.refl _ _).setCell (by show B ≤ B + 2; omega) _, heap_set_ne _ _ _ _ (by show B + 4 ≠ B + 2; omega)⟩
 ·have e1b : (b == 41) = false := by simp [e1]
  have hp : Aside0 (pmStep s i ms 2 a = (ms, 2, a)) := ⟨by simp [pmStep, Hb.out, e1]⟩
  clear e1
  go_enter Tryz.func72, Tryz.ntmps72
  go_wp2
  go_end0
  rw [PmPost, hp.out]
  exact ⟨rfl, ⟨v, H.out⟩, Below.refl _ _, rfl⟩
set_option maxHeartbeats 400000 in
set_option maxRecDepth 100000 in
theorem pm2_calls (B i : Nat) (s : ByteArray) (ms : List ByteArray) (a : Nat) (v : Value) (w : World) (h : PmInv B s ms 1 a v w) (hi : i < s.size) (hs : s.size ≤ 300) (ha : a ≤ i) (hm : ms.length ≤ 300) :
  Calls Tryz.prog 71 #[.int .i64 i, .int .u8 (bt s i), .pointer (some ⟨B + 1, 0, none⟩), .pointer (some ⟨B, 0, none⟩), .pointer (some ⟨B + 3, 0, none⟩), .pointer (some ⟨B + 2, 0, none⟩)] w (PmPost B s (pmStep s i ms 1 a) w) := by
 have H := Aside0.mk h
 obtain ⟨h1, h2, h3, h4, h5, h6⟩ := h
 have c1 := cell_of_one h1
 have c2 := cell_of_one h2
 have f2 := free_of_one h2
 have c3 := cell_of_one h3
 have f3 := free_of_one h3
 have c4 := cell_of_one h4
 have H6 := Aside0.mk h6
 obtain ⟨A, c, ev⟩ := Kd.R_slice h6
 subst ev
 clear h1 h2 h3 h4 h6
 generalize hb : bt s i = b
 have Hb := Aside0.mk hb
 clear hb
 by_cases e1 : b = 62
 ·have e1b : (b == 62) = true := by simp [e1]
  have hp : Aside0 (pmStep s i ms 1 a = (ms ++ [s.extract a i], 0, a)) := ⟨by simp [pmStep, Hb.out, e1]⟩
  clear e1
  have ha' : (a : Int) ≤ (i : Int) := by omega
  have hi' : (i : Int) ≤ (s.size : Int) := by omega
  go_enter Tryz.func71, Tryz.ntmps71
  go_wp2_with fail
  have W0 : Aside0 (PmInv B s ms 1 a (Value.slice A ms.length c) w.drew) := ⟨⟨H.out.text, H.out.marks, H.out.state, H.out.start, H.out.size, Kd.R_drew H.out.row⟩⟩
  refine start_ (n := 8) (S := fun w' => w'.cell? ⟨B + 1, 0, none⟩ = some (.slice A ms.length c) ∧ w'.cell? ⟨B, 0, none⟩ = some (.string s) ∧ w'.cell? ⟨B + 3, 0, none⟩ = some (.int .i64 a)) (ds := [7]) #[false, false, false, false, false, false, false, false] (by kernel_rfl) rfl rfl ⟨cell_of_one W0.out.marks, cell_of_one W0.out.text, cell_of_one W0.out.start⟩ (fun hHeld => ?_)
  have HB : Aside0 (Below B w w.drew) := ⟨below_drew (Below.refl B w)⟩
  have HE : Aside0 (w.drew.heap[B + 4]? = w.heap[B + 4]?) := ⟨rfl⟩
  clear c1 c2 f2 c3 f3 c4 h5 H H6
  generalize w.drew = w1 at W0 HB HE hHeld ⊢
  refine take_ (i := 0) (N := some 10) (v := ?_) (a' := ?_) #[true, false, false, false, false, false, false, false] rfl rfl (by kernel_rfl) (fun _ _ _ h => h) (Or.inl ⟨by rfl, ?_⟩) hHeld ?_ ?_
  rotate_left
  ·rintro w' ⟨s0, s1, s2⟩
   go_simp
   with_reducible rfl
  rotate_left
  ·simp only [Act.put, List.setIfInBounds_toArray, List.set_cons_zero, List.set_cons_succ, i64_w, i32_w]
   rfl
  refine take_ (i := 1) (N := some 11) (v := ?_) (a' := ?_) #[true, true, false, false, false, false, false, false] rfl rfl (by kernel_rfl) (fun _ _ _ h => h) (Or.inl ⟨by rfl, ?_⟩) hHeld ?_ ?_
  rotate_left
  ·rintro w' ⟨s0, s1, s2⟩
   go_simp
   with_reducible rfl
  rotate_left
  ·simp only [Act.put, List.setIfInBounds_toArray, List.set_cons_zero, List.set_cons_succ, i64_w, i32_w]
   rfl
  refine take_ (i := 2) (N := some 12) (v := ?_) (a' := ?_) #[true, true, true, false, false, false, false, false] rfl rfl (by kernel_rfl) (fun _ _ _ h => h) (Or.inl ⟨by rfl, ?_⟩) hHeld ?_ ?_
  rotate_left
  ·rintro w' ⟨s0, s1, s2⟩
   go_simp
   with_reducible rfl
  rotate_left
  ·simp only [Act.put, List.setIfInBounds_toArray, List.set_cons_zero, List.set_cons_succ, i64_w, i32_w]
   rfl
  refine pure_ (i := 3) (N := some 13) (v := ?_) (a' := ?_) #[true, true, true, true, false, false, false, false] rfl rfl (by kernel_rfl) (fun _ _ _ h => h) (Or.inl ⟨by rfl, ?_⟩) ?_ ?_
  rotate_left
  ·intro w'
   go_simp
   with_reducible rfl
  rotate_left
  ·simp only [Act.put, List.setIfInBounds_toArray, List.set_cons_zero, List.set_cons_succ, i64_w, i32_w]
   rfl
  refine pure_ (i := 4) (N := some 14) (v := .string (s.extract a i)) (a' := ?_) #[true, true, true, true, true, false, false, false] rfl rfl (by kernel_rfl) (fun _ _ _ h => h) (Or.inl ⟨by rfl, ?_⟩) ?_ ?_
  ·intro w'
   go_simp
  rotate_left
  ·simp only [Act.put, List.setIfInBounds_toArray, List.set_cons_zero, List.set_cons_succ, i64_w, i32_w]
   rfl
  refine one_ (i := 5) (N := some 15) #[true, true, true, true, true, true, false, false] rfl rfl (by kernel_rfl) (by decide) (fun K hK => ?_)
  refine value_ (w1 := ?_) (v := ?_) (by rfl) rfl ?_ ?_
  rotate_left 2
  ·go_simp
   constructor
   ·rfl
   ·rfl
  have W1 : Aside0 (PmInv B s ms 1 a (Value.slice A ms.length c) (w1.alloc (.cells #[.string (s.extract a i)] 9))) :=
   ⟨⟨(Below.heap_alloc _ _ _ (by have := W0.out.size; omega)).trans W0.out.text, (Below.heap_alloc _ _ _ (by have := W0.out.size; omega)).trans W0.out.marks, (Below.heap_alloc _ _ _ (by have := W0.out.size; omega)).trans W0.out.state,
    (Below.heap_alloc _ _ _ (by have := W0.out.size; omega)).trans W0.out.start, by have := W0.out.size; simp; omega, Kd.R_alloc W0.out.row _⟩⟩
  refine hK.out _ _ ⟨cell_of_one W1.out.marks, cell_of_one W1.out.text, cell_of_one W1.out.start⟩ (fun hHeld => ?_)
  clear hK K hHeld
  refine norm_ (a' := ?_) ?_ ?_
  rotate_left
  ·show Act.put _ (some 15) _ = _
   simp only [Act.put, List.setIfInBounds_toArray, List.set_cons_zero, List.set_cons_succ, i64_w, i32_w]
   rfl
  refine one_ (i := 6) (N := some 16) #[true, true, true, true, true, true, true, false] rfl rfl (by kernel_rfl) (by decide) (fun K hK => ?_)
  refine Kd.R_append_step Kd.string (B + 5) (by rfl) (.tmp 10) (.tmp 15) 22 9 (.string ⟨#[]⟩) 16 rfl Tryz.underlying22 info9 rfl (by decide) (by omega) (.slice A ms.length c) ms (s.extract a i) [.string (s.extract a i)] (fun k => B + 5 ≤ k) (fun _ => False) rfl rfl ?aP (fun _ hk => hk.elim) ?aF ?aO (Below.refl _ _) ?aS ?aL ?_
  (case aP => exact rfl)
  (case aF => exact (fun k_ hk => Nat.le_trans W0.out.size hk))
  (case aO => exact W0.out.row)
  (case aS => exact W0.out.size)
  (case aL => omega)
  intro v2 w2 ho hb hg hat
  obtain ⟨A2, cc2, e2⟩ := Kd.R_slice ho
  subst e2
  have hv : ∀ k, (Value.slice A ms.length c).ownBlock = some k → B + 5 ≤ k := fun k hk => W0.out.row.1 k hk
  have blk : ∀ k, k < B + 5 → w2.heap[k]? = w1.heap[k]? := fun k hk => hg.block k (by have := W0.out.size; omega) (fun e => by have := hv k e.symm; omega)
  have W3 : Aside0 (PmInv B s (ms ++ [s.extract a i]) 1 a (.slice A2 (ms ++ [s.extract a i]).length cc2) (w2.setCell ⟨B + 1, 0, none⟩ (.slice A2 (ms ++ [s.extract a i]).length cc2))) := ⟨W0.out.setMarks hg ho hv⟩
  have hm2 := (blk (B + 1) (by omega)).trans W0.out.marks
  have HB3 : Aside0 (Below B w (w2.setCell ⟨B + 1, 0, none⟩ (.slice A2 (ms ++ [s.extract a i]).length cc2))) := ⟨(HB.out.grown hg (by have := W0.out.size; omega) (fun k hk => by have := hv k hk; omega)).setCell (by show B ≤ B + 1; omega) _⟩
  have HE3 : Aside0 ((w2.setCell ⟨B + 1, 0, none⟩ (.slice A2 (ms ++ [s.extract a i]).length cc2)).heap[B + 4]? = w.heap[B + 4]?) := ⟨(heap_set_ne _ _ _ _ (by show B + 4 ≠ B + 1; omega)).trans ((blk (B + 4) (by omega)).trans HE.out)⟩
  have cM := cell_of_one hm2
  have fM := free_of_one hm2
  refine hK.out _ _ ⟨cM, cell_of_one ((blk B (by omega)).trans W0.out.text), cell_of_one ((blk (B + 3) (by omega)).trans W0.out.start)⟩ (fun hHeld => ?_)
  clear hK K hHeld hm2 ho hb hg hat hv blk
  refine norm_ (a' := ?_) ?_ ?_
  rotate_left
  ·show Act.put _ (some 16) _ = _
   simp only [Act.put, List.setIfInBounds_toArray, List.set_cons_zero, List.set_cons_succ, i64_w, i32_w]
   rfl
  refine last_ (i := 7) (N := none) #[true, true, true, true, true, true, true, true] rfl rfl (by kernel_rfl) (by decide) (fun K hK => ?_)
  refine skip_ (w1 := w2.setCell ⟨B + 1, 0, none⟩ (.slice A2 (ms ++ [s.extract a i]).length cc2)) (by rfl) rfl ?_ ?_
  ·go_simp
  refine hK.out _ _ ?_
  clear hK K cM fM
  refine done_ (by kernel_rfl) ?_
  generalize w2.setCell ⟨B + 1, 0, none⟩ (.slice A2 (ms ++ [s.extract a i]).length cc2) = w4 at W3 HB3 HE3 ⊢
  have c3 := cell_of_one W3.out.state
  have f3 := free_of_one W3.out.state
  go_wp2
  go_end0
  rw [PmPost, hp.out]
  exact ⟨rfl, ⟨_, W3.out.setState 0 0 rfl⟩, HB3.out.setCell (by show B ≤ B + 2; omega) _, (heap_set_ne _ _ _ _ (by show B + 4 ≠ B + 2; omega)).trans HE3.out⟩
 ·have e1b : (b == 62) = false := by simp [e1]
  have hp : Aside0 (pmStep s i ms 1 a = (ms, 1, a)) := ⟨by simp [pmStep, Hb.out, e1]⟩
  clear e1
  go_enter Tryz.func71, Tryz.ntmps71
  go_wp2
  go_end0
  rw [PmPost, hp.out]
  exact ⟨rfl, ⟨_, H.out⟩, Below.refl _ _, rfl⟩
def pmFns (B : Nat) : Array Value :=
 #[.func (.func 70) #[] #[.pointer (some ⟨B + 1 + 1, 0, none⟩), .pointer (some ⟨B + 1 + 1 + 1, 0, none⟩)],
  .func (.func 71) #[] #[.pointer (some ⟨B + 1, 0, none⟩), .pointer (some ⟨B, 0, none⟩), .pointer (some ⟨B + 1 + 1 + 1, 0, none⟩), .pointer (some ⟨B + 1 + 1, 0, none⟩)],
  .func (.func 72) #[] #[.pointer (some ⟨B + 1 + 1, 0, none⟩)]]
theorem pm_start (w : World) (s : ByteArray) (X : Obj) :
  PmInv w.heap.size s [] 0 0 (.slice none 0 0) (((((w.alloc (.cells #[.string s] 9)).alloc (.cells #[.slice none 0 0] 22)).alloc (.cells #[.int .i64 0] 3)).alloc (.cells #[.int .i64 0] 3)).alloc X) ∧
  (((((w.alloc (.cells #[.string s] 9)).alloc (.cells #[.slice none 0 0] 22)).alloc (.cells #[.int .i64 0] 3)).alloc (.cells #[.int .i64 0] 3)).alloc X).heap[w.heap.size + 4]? = some X := by
 generalize e1 : w.alloc (.cells #[.string s] 9) = w1
 have s1 : w1.heap.size = w.heap.size + 1 := by rw [← e1]; simp
 have h1 : w1.heap[w.heap.size]? = some (.cells #[.string s] 9 (0, 0)) := by rw [← e1]; exact heap_alloc_new _ _
 generalize e2 : w1.alloc (.cells #[.slice none 0 0] 22) = w2
 have s2 : w2.heap.size = w.heap.size + 2 := by rw [← e2]; simp [s1]
 have h2 : w2.heap[w.heap.size + 1]? = some (.cells #[.slice none 0 0] 22 (0, 0)) := by rw [← e2, ← s1]; exact heap_alloc_new _ _
 generalize e3 : w2.alloc (.cells #[.int .i64 0] 3) = w3
 have s3 : w3.heap.size = w.heap.size + 3 := by rw [← e3]; simp [s2]
 have h3 : w3.heap[w.heap.size + 2]? = some (.cells #[.int .i64 0] 3 (0, 0)) := by rw [← e3, ← s2]; exact heap_alloc_new _ _
 generalize e4 : w3.alloc (.cells #[.int .i64 0] 3) = w4
 have s4 : w4.heap.size = w.heap.size + 4 := by rw [← e4]; simp [s3]
 have h4 : w4.heap[w.heap.size + 3]? = some (.cells #[.int .i64 0] 3 (0, 0)) := by rw [← e4, ← s3]; exact heap_alloc_new _ _
 have a2 : ∀ j, j < w.heap.size + 1 → w2.heap[j]? = w1.heap[j]? := fun j hj => by rw [← e2]; exact Below.heap_alloc _ _ _ (by omega)
 have a3 : ∀ j, j < w.heap.size + 2 → w3.heap[j]? = w2.heap[j]? := fun j hj => by rw [← e3]; exact Below.heap_alloc _ _ _ (by omega)
 have a4 : ∀ j, j < w.heap.size + 3 → w4.heap[j]? = w3.heap[j]? := fun j hj => by rw [← e4]; exact Below.heap_alloc _ _ _ (by omega)
 have a5 : ∀ j, j < w.heap.size + 4 → (w4.alloc X).heap[j]? = w4.heap[j]? := fun j hj => Below.heap_alloc _ _ _ (by omega)
 refine ⟨⟨?_, ?_, ?_, ?_, by simp [s4], Kd.R_nil _ _ _ _ _⟩, ?_⟩
 ·rw [a5 _ (by omega), a4 _ (by omega), a3 _ (by omega), a2 _ (by omega)]; exact h1
 ·rw [a5 _ (by omega), a4 _ (by omega), a3 _ (by omega)]; exact h2
 ·rw [a5 _ (by omega), a4 _ (by omega)]; exact h3
 ·rw [a5 _ (by omega)]; exact h4
 ·rw [← s4]; exact heap_alloc_new _ _
def impl_pageMarks.f (a0 : ByteArray) : Option (List ByteArray) := some (marks a0)
set_option maxHeartbeats 400000 in
set_option maxRecDepth 100000 in
theorem impl_pageMarks.calls (a0 : ByteArray) (r : List ByteArray) (w : World) (h : impl_pageMarks.f a0 = some r) :
  Calls Tryz.prog 46 #[.string a0] w fun e w' => ∃ v0_ : Value, e = .returned (v0_) ∧ Kd.R Kd.string 9 w' w.heap.size (fun _ => True) v0_ r ∧ Below w.heap.size w w' := by
 obtain rfl := Option.some.inj h
 clear h
 by_cases hs : a0.size ≤ 300
 ·have hs' : decide (300 < (a0.size : Int)) = false := by simp; omega
  have hmk : Aside0 (marks a0 = (pmTo a0 a0.size).1) := ⟨by unfold marks; rw [if_pos hs]⟩
  go_enter Tryz.func46, Tryz.ntmps46
  go_wp2_with fail
  go_loopw [7] (fun i wr => ∃ k : Nat, k ≤ a0.size ∧ i = .int .i64 k ∧ Aside0 (∃ v, PmInv w.heap.size a0 (pmTo a0 k).1 (pmTo a0 k).2.1 (pmTo a0 k).2.2 v wr) ∧ Aside0 (wr.heap[w.heap.size + 4]? = some (.cells (pmFns w.heap.size) 73 (0, 0))) ∧ Aside0 (Below w.heap.size w wr))
   (fun i _ => a0.size - (intOf i).toNat)
  case atStart =>
   refine ⟨0, Nat.zero_le _, rfl, ⟨_, (pm_start w a0 _).1⟩, ⟨(pm_start w a0 _).2⟩, ⟨?_⟩⟩
   exact (((((Below.refl _ w).alloc (Nat.le_refl _) _).alloc (by simp) _).alloc (by simp; omega) _).alloc (by simp; omega) _).alloc (by simp; omega) _
  case round =>
   obtain ⟨k, hk, rfl, ⟨v, hI⟩, hA, hB⟩ := hrel
   have HI := Aside0.mk hI
   have cT := cell_of_one hI.text
   have ok := pmTo_ok a0 k
   by_cases hlt : k < a0.size
   ·have Hn : Aside0 (pmTo a0 (k + 1) = pmStep a0 k (pmTo a0 k).1 (pmTo a0 k).2.1 (pmTo a0 k).2.2) := ⟨rfl⟩
    have HA0 := Aside0.mk hA.out
    have ok1 := ok.1
    have ok2 := ok.2.1
    have ok3 := ok.2.2
    clear hI ok hA
    generalize (pmTo a0 k).1 = ms at HI Hn ok3
    generalize (pmTo a0 k).2.1 = st at HI Hn ok1
    generalize (pmTo a0 k).2.2 = a at HI Hn ok2
    have hbt := bt_at a0 k
    go_wp2_with fail
    have W0 : Aside0 (PmInv w.heap.size a0 ms st a v wr.drew) := ⟨⟨HI.out.text, HI.out.marks, HI.out.state, HI.out.start, HI.out.size, Kd.R_drew HI.out.row⟩⟩
    replace HA0 : Aside0 (wr.drew.heap[w.heap.size + 4]? = some (.cells (pmFns w.heap.size) 73 (0, 0))) := ⟨HA0.out⟩
    have HB0 : Aside0 (Below w.heap.size w wr.drew) := ⟨below_drew hB.out⟩
    clear HI hB cT
    obtain rfl | rfl | rfl : st = 0 ∨ st = 1 ∨ st = 2 := by omega
    ·skip
     refine start_ (n := 8) (S := fun w' => w'.cell? ⟨w.heap.size + 1 + 1, 0, none⟩ = some (.int .i64 0) ∧ w'.cell? ⟨w.heap.size, 0, none⟩ = some (.string a0) ∧ w'.cell? ⟨w.heap.size + 1 + 1 + 1 + 1, 0, none⟩ = some (.func (.func 70) #[] #[.pointer (some ⟨w.heap.size + 1 + 1, 0, none⟩), .pointer (some ⟨w.heap.size + 1 + 1 + 1, 0, none⟩)])) (ds := [7]) #[false, false, false, false, false, false, false, false] (by kernel_rfl) rfl rfl ⟨cell_of_one W0.out.state, cell_of_one W0.out.text, blk_cell HA0.out 0⟩ (fun hHeld => ?_)
     generalize wr.drew = w1 at W0 HA0 HB0 hHeld ⊢
     refine take_ (i := 0) (N := some 23) (v := ?_) (a' := ?_) #[true, false, false, false, false, false, false, false] rfl rfl (by kernel_rfl) (fun _ _ _ h => h) (Or.inl ⟨by rfl, ?_⟩) hHeld ?_ ?_
     rotate_left
     ·rintro w' ⟨s0, s1, s2⟩
      go_simp
      with_reducible rfl
     rotate_left
     ·simp only [Act.put, List.setIfInBounds_toArray, List.set_cons_zero, List.set_cons_succ, i64_w, i32_w]
      rfl
     refine pure_ (i := 1) (N := some 24) (v := .pointer (some ⟨w.heap.size + 1 + 1 + 1 + 1, 0, none⟩)) (a' := ?_) #[true, true, false, false, false, false, false, false] rfl rfl (by kernel_rfl) (fun _ _ _ h => h) (Or.inl ⟨by rfl, ?_⟩) ?_ ?_
     ·intro w'
      go_simp
     rotate_left
     ·simp only [Act.put, List.setIfInBounds_toArray, List.set_cons_zero, List.set_cons_succ, i64_w, i32_w]
      rfl
     refine take_ (i := 2) (N := some 25) (v := ?_) (a' := ?_) #[true, true, true, false, false, false, false, false] rfl rfl (by kernel_rfl) (fun _ _ _ h => h) (Or.inl ⟨by rfl, ?_⟩) hHeld ?_ ?_
     rotate_left
     ·rintro w' ⟨s0, s1, s2⟩
      go_simp
      with_reducible rfl
     rotate_left
     ·simp only [Act.put, List.setIfInBounds_toArray, List.set_cons_zero, List.set_cons_succ, i64_w, i32_w]
      rfl
     refine pure_ (i := 3) (N := some 26) (v := ?_) (a' := ?_) #[true, true, true, true, false, false, false, false] rfl rfl (by kernel_rfl) (fun _ _ _ h => h) (Or.inl ⟨by rfl, ?_⟩) ?_ ?_
     rotate_left
     ·intro w'
      go_simp
      with_reducible rfl
     rotate_left
     ·simp only [Act.put, List.setIfInBounds_toArray, List.set_cons_zero, List.set_cons_succ, i64_w, i32_w]
      rfl
     refine take_ (i := 4) (N := some 27) (v := ?_) (a' := ?_) #[true, true, true, true, true, false, false, false] rfl rfl (by kernel_rfl) (fun _ _ _ h => h) (Or.inl ⟨by rfl, ?_⟩) hHeld ?_ ?_
     rotate_left
     ·rintro w' ⟨s0, s1, s2⟩
      go_simp
      with_reducible rfl
     rotate_left
     ·simp only [Act.put, List.setIfInBounds_toArray, List.set_cons_zero, List.set_cons_succ, i64_w, i32_w]
      rfl
     refine pure_ (i := 5) (N := some 28) (v := ?_) (a' := ?_) #[true, true, true, true, true, true, false, false] rfl rfl (by kernel_rfl) (fun _ _ _ h => h) (Or.inl ⟨by rfl, ?_⟩) ?_ ?_
     rotate_left
     ·intro w'
      go_simp
      with_reducible rfl
     rotate_left
     ·simp only [Act.put, List.setIfInBounds_toArray, List.set_cons_zero, List.set_cons_succ, i64_w, i32_w]
      rfl
     refine pure_ (i := 6) (N := some 29) (v := .int .u8 (bt a0 k)) (a' := ?_) #[true, true, true, true, true, true, true, false] rfl rfl (by kernel_rfl) (fun _ _ _ h => h) (Or.inl ⟨by rfl, ?_⟩) ?_ ?_
     ·intro w'
      go_simp
      exact bt_at a0 k (by simpa using hlt)
     rotate_left
     ·simp only [Act.put, List.setIfInBounds_toArray, List.set_cons_zero, List.set_cons_succ, i64_w, i32_w]
      rfl
     refine last_ (i := 7) (N := some 30) #[true, true, true, true, true, true, true, true] rfl rfl (by kernel_rfl) (by decide) (fun K hK => ?_)
     refine callv_ Tryz.func70 (by kernel_rfl) rfl #[.int .i64 k, .int .u8 (bt a0 k), .pointer (some ⟨w.heap.size + 1 + 1, 0, none⟩), .pointer (some ⟨w.heap.size + 1 + 1 + 1, 0, none⟩)] (by rfl) rfl (.tmp 25) rfl rfl (by simp [Act.eval]) ?_
     refine (pm1_calls w.heap.size k a0 ms a v w1 W0.out (by omega)).mono ?_
     rintro e w2 ⟨rfl, ⟨v2, hI2⟩, hB2, hE2⟩
     refine ⟨_, rfl, hK.out _ _ ?_⟩
     have HI2 := Aside0.mk hI2
     have HB2 : Aside0 (Below w.heap.size w w2) := ⟨HB0.out.trans hB2⟩
     have HA2 := Aside0.mk (hE2.trans HA0.out)
     clear hI2 hB2 hE2 hK
     refine done_ (by kernel_rfl) ?_
     go_wp2
     go_roundw
     case rel => exact ⟨k + 1, by omega, by go_num, ⟨v2, by rw [Hn.out]; exact HI2.out⟩, HA2, HB2⟩
     case measure => simp [intOf]; omega
    ·skip
     refine start_ (n := 8) (S := fun w' => w'.cell? ⟨w.heap.size + 1 + 1, 0, none⟩ = some (.int .i64 1) ∧ w'.cell? ⟨w.heap.size, 0, none⟩ = some (.string a0) ∧ w'.cell? ⟨w.heap.size + 1 + 1 + 1 + 1, 1, none⟩ = some (.func (.func 71) #[] #[.pointer (some ⟨w.heap.size + 1, 0, none⟩), .pointer (some ⟨w.heap.size, 0, none⟩), .pointer (some ⟨w.heap.size + 1 + 1 + 1, 0, none⟩), .pointer (some ⟨w.heap.size + 1 + 1, 0, none⟩)])) (ds := [7]) #[false, false, false, false, false, false, false, false] (by kernel_rfl) rfl rfl ⟨cell_of_one W0.out.state, cell_of_one W0.out.text, blk_cell HA0.out 1⟩ (fun hHeld => ?_)
     generalize wr.drew = w1 at W0 HA0 HB0 hHeld ⊢
     refine take_ (i := 0) (N := some 23) (v := ?_) (a' := ?_) #[true, false, false, false, false, false, false, false] rfl rfl (by kernel_rfl) (fun _ _ _ h => h) (Or.inl ⟨by rfl, ?_⟩) hHeld ?_ ?_
     rotate_left
     ·rintro w' ⟨s0, s1, s2⟩
      go_simp
      with_reducible rfl
     rotate_left
     ·simp only [Act.put, List.setIfInBounds_toArray, List.set_cons_zero, List.set_cons_succ, i64_w, i32_w]
      rfl
     refine pure_ (i := 1) (N := some 24) (v := .pointer (some ⟨w.heap.size + 1 + 1 + 1 + 1, 1, none⟩)) (a' := ?_) #[true, true, false, false, false, false, false, false] rfl rfl (by kernel_rfl) (fun _ _ _ h => h) (Or.inl ⟨by rfl, ?_⟩) ?_ ?_
     ·intro w'
      go_simp
     rotate_left
     ·simp only [Act.put, List.setIfInBounds_toArray, List.set_cons_zero, List.set_cons_succ, i64_w, i32_w]
      rfl
     refine take_ (i := 2) (N := some 25) (v := ?_) (a' := ?_) #[true, true, true, false, false, false, false, false] rfl rfl (by kernel_rfl) (fun _ _ _ h => h) (Or.inl ⟨by rfl, ?_⟩) hHeld ?_ ?_
     rotate_left
     ·rintro w' ⟨s0, s1, s2⟩
      go_simp
      with_reducible rfl
     rotate_left
     ·simp only [Act.put, List.setIfInBounds_toArray, List.set_cons_zero, List.set_cons_succ, i64_w, i32_w]
      rfl
     refine pure_ (i := 3) (N := some 26) (v := ?_) (a' := ?_) #[true, true, true, true, false, false, false, false] rfl rfl (by kernel_rfl) (fun _ _ _ h => h) (Or.inl ⟨by rfl, ?_⟩) ?_ ?_
     rotate_left
     ·intro w'
      go_simp
      with_reducible rfl
     rotate_left
     ·simp only [Act.put, List.setIfInBounds_toArray, List.set_cons_zero, List.set_cons_succ, i64_w, i32_w]
      rfl
     refine take_ (i := 4) (N := some 27) (v := ?_) (a' := ?_) #[true, true, true, true, true, false, false, false] rfl rfl (by kernel_rfl) (fun _ _ _ h => h) (Or.inl ⟨by rfl, ?_⟩) hHeld ?_ ?_
     rotate_left
     ·rintro w' ⟨s0, s1, s2⟩
      go_simp
      with_reducible rfl
     rotate_left
     ·simp only [Act.put, List.setIfInBounds_toArray, List.set_cons_zero, List.set_cons_succ, i64_w, i32_w]
      rfl
     refine pure_ (i := 5) (N := some 28) (v := ?_) (a' := ?_) #[true, true, true, true, true, true, false, false] rfl rfl (by kernel_rfl) (fun _ _ _ h => h) (Or.inl ⟨by rfl, ?_⟩) ?_ ?_
     rotate_left
     ·intro w'
      go_simp
      with_reducible rfl
     rotate_left
     ·simp only [Act.put, List.setIfInBounds_toArray, List.set_cons_zero, List.set_cons_succ, i64_w, i32_w]
      rfl
     refine pure_ (i := 6) (N := some 29) (v := .int .u8 (bt a0 k)) (a' := ?_) #[true, true, true, true, true, true, true, false] rfl rfl (by kernel_rfl) (fun _ _ _ h => h) (Or.inl ⟨by rfl, ?_⟩) ?_ ?_
     ·intro w'
      go_simp
      exact bt_at a0 k (by simpa using hlt)
     rotate_left
     ·simp only [Act.put, List.setIfInBounds_toArray, List.set_cons_zero, List.set_cons_succ, i64_w, i32_w]
      rfl
     refine last_ (i := 7) (N := some 30) #[true, true, true, true, true, true, true, true] rfl rfl (by kernel_rfl) (by decide) (fun K hK => ?_)
     refine callv_ Tryz.func71 (by kernel_rfl) rfl #[.int .i64 k, .int .u8 (bt a0 k), .pointer (some ⟨w.heap.size + 1, 0, none⟩), .pointer (some ⟨w.heap.size, 0, none⟩), .pointer (some ⟨w.heap.size + 1 + 1 + 1, 0, none⟩), .pointer (some ⟨w.heap.size + 1 + 1, 0, none⟩)] (by rfl) rfl (.tmp 25) rfl rfl (by simp [Act.eval]) ?_
     refine (pm2_calls w.heap.size k a0 ms a v w1 W0.out (by omega) (by omega) (by omega) (by omega)).mono ?_
     rintro e w2 ⟨rfl, ⟨v2, hI2⟩, hB2, hE2⟩
     refine ⟨_, rfl, hK.out _ _ ?_⟩
     have HI2 := Aside0.mk hI2
     have HB2 : Aside0 (Below w.heap.size w w2) := ⟨HB0.out.trans hB2⟩
     have HA2 := Aside0.mk (hE2.trans HA0.out)
     clear hI2 hB2 hE2 hK
     refine done_ (by kernel_rfl) ?_
     go_wp2
     go_roundw
     case rel => exact ⟨k + 1, by omega, by go_num, ⟨v2, by rw [Hn.out]; exact HI2.out⟩, HA2, HB2⟩
     case measure => simp [intOf]; omega
    ·skip
     refine start_ (n := 8) (S := fun w' => w'.cell? ⟨w.heap.size + 1 + 1, 0, none⟩ = some (.int .i64 2) ∧ w'.cell? ⟨w.heap.size, 0, none⟩ = some (.string a0) ∧ w'.cell? ⟨w.heap.size + 1 + 1 + 1 + 1, 2, none⟩ = some (.func (.func 72) #[] #[.pointer (some ⟨w.heap.size + 1 + 1, 0, none⟩)])) (ds := [7]) #[false, false, false, false, false, false, false, false] (by kernel_rfl) rfl rfl ⟨cell_of_one W0.out.state, cell_of_one W0.out.text, blk_cell HA0.out 2⟩ (fun hHeld => ?_)
     generalize wr.drew = w1 at W0 HA0 HB0 hHeld ⊢
     refine take_ (i := 0) (N := some 23) (v := ?_) (a' := ?_) #[true, false, false, false, false, false, false, false] rfl rfl (by kernel_rfl) (fun _ _ _ h => h) (Or.inl ⟨by rfl, ?_⟩) hHeld ?_ ?_
     rotate_left
     ·rintro w' ⟨s0, s1, s2⟩
      go_simp
      with_reducible rfl
     rotate_left
     ·simp only [Act.put, List.setIfInBounds_toArray, List.set_cons_zero, List.set_cons_succ, i64_w, i32_w]
      rfl
     refine pure_ (i := 1) (N := some 24) (v := .pointer (some ⟨w.heap.size + 1 + 1 + 1 + 1, 2, none⟩)) (a' := ?_) #[true, true, false, false, false, false, false, false] rfl rfl (by kernel_rfl) (fun _ _ _ h => h) (Or.inl ⟨by rfl, ?_⟩) ?_ ?_
     ·intro w'
      go_simp
     rotate_left
     ·simp only [Act.put, List.setIfInBounds_toArray, List.set_cons_zero, List.set_cons_succ, i64_w, i32_w]
      rfl
     refine take_ (i := 2) (N := some 25) (v := ?_) (a' := ?_) #[true, true, true, false, false, false, false, false] rfl rfl (by kernel_rfl) (fun _ _ _ h => h) (Or.inl ⟨by rfl, ?_⟩) hHeld ?_ ?_
     rotate_left
     ·rintro w' ⟨s0, s1, s2⟩
      go_simp
      with_reducible rfl
     rotate_left
     ·simp only [Act.put, List.setIfInBounds_toArray, List.set_cons_zero, List.set_cons_succ, i64_w, i32_w]
      rfl
     refine pure_ (i := 3) (N := some 26) (v := ?_) (a' := ?_) #[true, true, true, true, false, false, false, false] rfl rfl (by kernel_rfl) (fun _ _ _ h => h) (Or.inl ⟨by rfl, ?_⟩) ?_ ?_
     rotate_left
     ·intro w'
      go_simp
      with_reducible rfl
     rotate_left
     ·simp only [Act.put, List.setIfInBounds_toArray, List.set_cons_zero, List.set_cons_succ, i64_w, i32_w]
      rfl
     refine take_ (i := 4) (N := some 27) (v := ?_) (a' := ?_) #[true, true, true, true, true, false, false, false] rfl rfl (by kernel_rfl) (fun _ _ _ h => h) (Or.inl ⟨by rfl, ?_⟩) hHeld ?_ ?_
     rotate_left
     ·rintro w' ⟨s0, s1, s2⟩
      go_simp
      with_reducible rfl
     rotate_left
     ·simp only [Act.put, List.setIfInBounds_toArray, List.set_cons_zero, List.set_cons_succ, i64_w, i32_w]
      rfl
     refine pure_ (i := 5) (N := some 28) (v := ?_) (a' := ?_) #[true, true, true, true, true, true, false, false] rfl rfl (by kernel_rfl) (fun _ _ _ h => h) (Or.inl ⟨by rfl, ?_⟩) ?_ ?_
     rotate_left
     ·intro w'
      go_simp
      with_reducible rfl
     rotate_left
     ·simp only [Act.put, List.setIfInBounds_toArray, List.set_cons_zero, List.set_cons_succ, i64_w, i32_w]
      rfl
     refine pure_ (i := 6) (N := some 29) (v := .int .u8 (bt a0 k)) (a' := ?_) #[true, true, true, true, true, true, true, false] rfl rfl (by kernel_rfl) (fun _ _ _ h => h) (Or.inl ⟨by rfl, ?_⟩) ?_ ?_
     ·intro w'
      go_simp
      exact bt_at a0 k (by simpa using hlt)
     rotate_left
     ·simp only [Act.put, List.setIfInBounds_toArray, List.set_cons_zero, List.set_cons_succ, i64_w, i32_w]
      rfl
     refine last_ (i := 7) (N := some 30) #[true, true, true, true, true, true, true, true] rfl rfl (by kernel_rfl) (by decide) (fun K hK => ?_)
     refine callv_ Tryz.func72 (by kernel_rfl) rfl #[.int .i64 k, .int .u8 (bt a0 k), .pointer (some ⟨w.heap.size + 1 + 1, 0, none⟩)] (by rfl) rfl (.tmp 25) rfl rfl (by simp [Act.eval]) ?_
     refine (pm3_calls w.heap.size k a0 ms a v w1 W0.out (by omega)).mono ?_
     rintro e w2 ⟨rfl, ⟨v2, hI2⟩, hB2, hE2⟩
     refine ⟨_, rfl, hK.out _ _ ?_⟩
     have HI2 := Aside0.mk hI2
     have HB2 : Aside0 (Below w.heap.size w w2) := ⟨HB0.out.trans hB2⟩
     have HA2 := Aside0.mk (hE2.trans HA0.out)
     clear hI2 hB2 hE2 hK
     refine done_ (by kernel_rfl) ?_
     go_wp2
     go_roundw
     case rel => exact ⟨k + 1, by omega, by go_num, ⟨v2, by rw [Hn.out]; exact HI2.out⟩, HA2, HB2⟩
     case measure => simp [intOf]; omega
   ·have ek : k = a0.size := by omega
    have Hk := Aside0.mk ek
    clear ek
    have cM := cell_of_one hI.marks
    clear hI
    go_wp2
    go_ret
    refine ⟨_, rfl, ?_, hB.out⟩
    rw [hmk.out, ← Hk.out]
    exact Kd.R_lower (Kd.R_mono HI.out.row (fun _ _ => trivial)) (by omega)
 ·have hs' : decide (300 < (a0.size : Int)) = true := by simp; omega
  have hmk : Aside0 (marks a0 = []) := ⟨by unfold marks; rw [if_neg hs]⟩
  clear hs
  go_enter Tryz.func46, Tryz.ntmps46
  go_wp2
  go_ret
  exact ⟨_, rfl, by rw [hmk.out]; exact Kd.R_nil _ _ _ _ _, (Below.refl _ _).alloc (Nat.le_refl _) _⟩
end Go.Proofs.YtgjfegfopjfdpaaGreatDoor.P
end
section
namespace Go.Proofs.YtgjfegfopjfdpaaGreatDoor.P
open Go.RowKit Go.Proofs.YtgjfegfopjfdpaaGreatDoorW.PrintWords Go.Proofs.YtgjfegfopjfdpaaGreatDoorW.PrintLast Go.Proofs.YtgjfegfopjfdpaaGreatDoorW.PrintMore
attribute [local go_sem] max2_int min2_int max_two min_two max_three min_three max_four min_four
set_option linter.unusedVariables false
set_option linter.unusedSimpArgs false
def impl_PageBase.l0 : Nat → List ByteArray → Int → Int → Option (ByteArray × Bool)
 | 0, _, _, _ => none
 | k + 1, x7, x8, x9 => if x9 < x8 then (if 0 ≤ x9 then (if x9 < (x7.length : Int) then ((impl_beginsWith.f (rdOf ByteArray.empty x7 x9) 64).bind fun t381 => (if t381 = true then (if 1 ≤ ((rdOf ByteArray.empty x7 x9).size : Int) then (some ((rdOf ByteArray.empty x7 x9).extract 1 (rdOf ByteArray.empty x7 x9).size, true)) else (none)) else (impl_PageBase.l0 k x7 x8 (wrap64 (x9 + 1))))) else (none)) else (none)) else (some ((⟨#[]⟩ : ByteArray), false))
def impl_PageBase.f (k : Nat) (a0 : ByteArray) : Option (ByteArray × Bool) := (impl_pageMarks.f a0).bind fun t377 => (impl_PageBase.l0 k t377 (t377.length : Int) 0)
theorem impl_PageBase.mono_l : ∀ k, (∀ y0 y1 y2, LeO (impl_PageBase.l0 k y0 y1 y2) (impl_PageBase.l0 (k + 1) y0 y1 y2))
 | 0 => fun _ _ _ r h => by simp [impl_PageBase.l0] at h
 | k + 1 => by
  have ih0 := impl_PageBase.mono_l k
  ·intro y0 y1 y2
   unfold impl_PageBase.l0
   repeat' first | (with_reducible first | exact ih0 _ _ _ | exact LeO.refl _ | exact LeO.none _ | refine LeO.ite ?_ ?_ | refine LeO.bind ?_ (fun _ => ?_)) | exact LeO.none _ | refine LeO.ite ?_ ?_ | refine LeO.bind ?_ (fun _ => ?_)
set_option maxHeartbeats 8000000 in
set_option maxRecDepth 100000 in
theorem impl_PageBase.calls (k : Nat) (a0 : ByteArray) (r1 : ByteArray) (r2 : Bool) (w : World) (h : impl_PageBase.f k a0 = some (r1, r2)) :
  Calls Tryz.prog 22 #[.string a0] w fun e w' => e = .returned (.tuple #[.string r1, .bool r2]) ∧ Below w.heap.size w w' := by
 have HB := Aside0.mk (Below.refl w.heap.size w);have H : ((impl_pageMarks.f a0).bind fun t377 => (impl_PageBase.l0 k t377 (t377.length : Int) 0)) = some (r1, r2) := h;clear h;replace H := bindA H;obtain ⟨t377, A2, H⟩ := H;have H' := Aside0.mk H;clear H;go_enter Tryz.func22, Tryz.ntmps22;go_wp2_with (first | ((with_reducible refine gate_callee (f := 46) rfl ?_); refine gsL (some 7) Tryz.func46 #[.string a0] ?_; (with_reducible refine (impl_pageMarks.calls a0 t377 _ A2.out).mono ?_); rintro e w3 ⟨v378, rfl, ho0, hb⟩; refine ⟨_, rfl, ?_⟩; have n0_ := Aside0.mk (Kd.R_lower ho0 (below_size (zz4 HB))); have n1_ := Aside0.mk (below_step (zz4 HB) hb); clear HB; have HO379 := n0_; have HB := n1_; clear n0_ n1_; (try clear hb ho0); obtain ⟨Ao4, co4, eo4⟩ := Kd.R_slice HO379.out; subst eo4))
 go_loopg [9] k (fun kq v9 w' => ∃ (x9_1 : Int), v9 = .int .i64 x9_1 ∧ Aside0 (impl_PageBase.l0 kq t377 (t377.length : Int) x9_1 = some (r1, r2)) ∧ Aside0 (kq ≤ k) ∧ Aside0 (Kd.R Kd.string 9 w' w.heap.size (fun _ => True) (.slice Ao4 t377.length co4) t377) ∧ Aside0 (Below w.heap.size w w'))
 case atStart => exact ⟨(0), zz0, H', ⟨Nat.le_refl _⟩, ⟨(zz9 HO379)⟩, ⟨(zz4 HB)⟩⟩
 case round =>
  clear H';obtain ⟨x9_1, rfl, HA, HK1, HO_7, HB⟩ := hrel;cases gk with
  | zero => exact absurd HA.out (by simp [impl_PageBase.l0])
  | succ k1 =>
   have H := HA.out;clear HA;simp only [impl_PageBase.l0] at H
   by_cases c5 : x9_1 < (t377.length : Int)
   ·rw [if_pos c5] at H
    have c5b0 : decide (x9_1 < (t377.length : Int)) = true := decide_eq_true c5;clear c5;by_cases c6 : 0 ≤ x9_1
    ·rw [if_pos c6] at H
     have c6b0 : decide (0 ≤ x9_1) = true := decide_eq_true c6;clear c6;by_cases c7 : x9_1 < (t377.length : Int)
     ·rw [if_pos c7] at H
      have c7b0 : decide (x9_1 < (t377.length : Int)) = true := decide_eq_true c7;clear c7;replace H := bindA H;obtain ⟨t381, A8, H⟩ := H;by_cases c9 : t381 = true
      ·subst c9
       rw [if_pos rfl] at H;by_cases c10 : 1 ≤ ((rdOf ByteArray.empty t377 x9_1).size : Int)
       ·rw [if_pos c10] at H
        have c10b0 := eq_true c10;have c10b1 : decide (1 ≤ ((rdOf ByteArray.empty t377 x9_1).size : Int)) = true := decide_eq_true c10;clear c10;simp only [Option.some.injEq, Prod.mk.injEq] at H
        obtain ⟨rfl, rfl⟩ := H;have p380 : 0 ≤ (x9_1 : Int) := ofD;have q380 : x9_1 < (t377.length : Int) := ofD;obtain ⟨ad380, e380, hx380_0⟩ := Kd.at_string (Kd.R_reads' HO_7.out).2.2 x9_1 p380 q380;cases e380
        replace p380 := eq_true p380;replace q380 := eq_true q380;go_wp2_with (first | ((with_reducible refine gate_callee (f := 47) rfl ?_); refine gsL (some 14) Tryz.func47 #[.string (rdOf ByteArray.empty t377 x9_1), .int .u8 64] ?_; (with_reducible refine (impl_beginsWith.calls (rdOf ByteArray.empty t377 x9_1) 64 true _ A8.out).mono ?_); rintro e w' ⟨rfl, ⟨nd, rfl⟩⟩; refine ⟨_, rfl, ?_⟩))
        go_ret2
        exact ⟨zz5, (zz4 HB)⟩
       ·rw [if_neg c10] at H
        exact absurd H (by simp)
      ·replace c9 := Bool.eq_false_iff.mpr c9
       subst c9;rw [if_neg (show ¬ (false = true) by decide)] at H;have H' := Aside0.mk H;clear H;have p380 : 0 ≤ (x9_1 : Int) := ofD;have q380 : x9_1 < (t377.length : Int) := ofD;obtain ⟨ad380, e380, hx380_0⟩ := Kd.at_string (Kd.R_reads' HO_7.out).2.2 x9_1 p380 q380;cases e380
       replace p380 := eq_true p380;replace q380 := eq_true q380;go_wp2_with (first | ((with_reducible refine gate_callee (f := 47) rfl ?_); refine gsL (some 14) Tryz.func47 #[.string (rdOf ByteArray.empty t377 x9_1), .int .u8 64] ?_; (with_reducible refine (impl_beginsWith.calls (rdOf ByteArray.empty t377 x9_1) 64 false _ A8.out).mono ?_); rintro e w' ⟨rfl, ⟨nd, rfl⟩⟩; refine ⟨_, rfl, ?_⟩))
       go_roundg k1
       case measure => have := HK1.out; omega
       case rel => exact ⟨(wrap64 (x9_1 + 1)), zz0, H', ⟨(zz3 HK1)⟩, ⟨(zz9 HO_7)⟩, ⟨(zz4 HB)⟩⟩
     ·rw [if_neg c7] at H
      exact absurd H (by simp)
    ·rw [if_neg c6] at H
     exact absurd H (by simp)
   ·rw [if_neg c5] at H
    have c5b0 : decide (x9_1 < (t377.length : Int)) = false := decide_eq_false c5;clear c5;simp only [Option.some.injEq, Prod.mk.injEq] at H
    obtain ⟨rfl, rfl⟩ := H;go_wp2
    go_ret2
    exact ⟨zz5, (zz4 HB)⟩
end Go.Proofs.YtgjfegfopjfdpaaGreatDoor.P
end
section
namespace Go.Proofs.YtgjfegfopjfdpaaGreatDoor.P
open Go.RowKit Go.Proofs.YtgjfegfopjfdpaaGreatDoorW.PrintWords Go.Proofs.YtgjfegfopjfdpaaGreatDoorW.PrintLast Go.Proofs.YtgjfegfopjfdpaaGreatDoorW.PrintMore Go.Proofs.YtgjfegfopjfdpaaGreatDoor.B Go.Proofs.YtgjfegfopjfdpaaGreatDoor.Ad
set_option linter.unusedVariables false
set_option linter.unusedSimpArgs false
def stringslite_Index.f (a0 : ByteArray) (a1 : ByteArray) : Option (Int) := match L a1 with
 | [c] => some (Lib.indexByte (L a0) c)
 | _ => none
theorem one_of_L {a : ByteArray} {c : UInt8} (h : L a = [c]) : a = ⟨#[c]⟩ := L_inj (by rw [h])
theorem stringslite_Index.calls (a0 : ByteArray) (a1 : ByteArray) (r : Int) (w : World) (h : stringslite_Index.f a0 a1 = some r) :
  Calls Tryz.prog 90 #[.string a0, .string a1] w fun e w' => e = .returned (.int .i64 r) ∧ Below w.heap.size w w' := by
 unfold stringslite_Index.f at h
 split at h
 ·rename_i c hc
  obtain rfl := Option.some.inj h
  obtain rfl := one_of_L hc
  exact (Tryz.stringslite_Index_one a0 c w).mono fun e w' ⟨he, hw⟩ => ⟨he, hw ▸ Below.refl _ _⟩
 ·cases h
def strings_Count.f (a0 : ByteArray) (a1 : ByteArray) : Option (Int) := match L a1 with
 | [c] => some (Lib.countByte (L a0) c)
 | _ => none
theorem strings_Count.calls (a0 : ByteArray) (a1 : ByteArray) (r : Int) (w : World) (h : strings_Count.f a0 a1 = some r) :
  Calls Tryz.prog 110 #[.string a0, .string a1] w fun e w' => e = .returned (.int .i64 r) ∧ Below w.heap.size w w' := by
 unfold strings_Count.f at h
 split at h
 ·rename_i c hc
  obtain rfl := Option.some.inj h
  obtain rfl := one_of_L hc
  exact (Tryz.strings_Count_one a0 c w).mono fun e w' ⟨he, hw⟩ => ⟨he, hw ▸ Below.refl _ _⟩
 ·cases h
end Go.Proofs.YtgjfegfopjfdpaaGreatDoor.P
end
section
namespace Go.Proofs.YtgjfegfopjfdpaaGreatDoor.P
open Go.RowKit Go.Proofs.YtgjfegfopjfdpaaGreatDoorW.PrintWords Go.Proofs.YtgjfegfopjfdpaaGreatDoorW.PrintLast Go.Proofs.YtgjfegfopjfdpaaGreatDoorW.PrintMore
attribute [local go_sem] max2_int min2_int max_two min_two max_three min_three max_four min_four
set_option linter.unusedVariables false
set_option linter.unusedSimpArgs false
def stringslite_Cut.f (a0 : ByteArray) (a1 : ByteArray) : Option (ByteArray × ByteArray × Bool) := (stringslite_Index.f a0 a1).bind fun t382 => (if t382 ≥ 0 then (if 0 ≤ t382 then (if t382 ≤ (a0.size : Int) then (if 0 ≤ (wrap64 (t382 + (a1.size : Int))) then (if (wrap64 (t382 + (a1.size : Int))) ≤ (a0.size : Int) then (some (a0.extract 0 (t382 : Int).toNat, a0.extract ((wrap64 (t382 + (a1.size : Int))) : Int).toNat a0.size, true)) else (none)) else (none)) else (none)) else (none)) else (some (a0, (⟨#[]⟩ : ByteArray), false)))
set_option maxHeartbeats 8000000 in
set_option maxRecDepth 100000 in
theorem stringslite_Cut.calls (a0 : ByteArray) (a1 : ByteArray) (r1 : ByteArray) (r2 : ByteArray) (r3 : Bool) (w : World) (h : stringslite_Cut.f a0 a1 = some (r1, r2, r3)) :
  Calls Tryz.prog 73 #[.string a0, .string a1] w fun e w' => e = .returned (.tuple #[.string r1, .string r2, .bool r3]) ∧ Below w.heap.size w w' := by
 have HB := Aside0.mk (Below.refl w.heap.size w);have H : ((stringslite_Index.f a0 a1).bind fun t382 => (if t382 ≥ 0 then (if 0 ≤ t382 then (if t382 ≤ (a0.size : Int) then (if 0 ≤ (wrap64 (t382 + (a1.size : Int))) then (if (wrap64 (t382 + (a1.size : Int))) ≤ (a0.size : Int) then (some (a0.extract 0 (t382 : Int).toNat, a0.extract ((wrap64 (t382 + (a1.size : Int))) : Int).toNat a0.size, true)) else (none)) else (none)) else (none)) else (none)) else (some (a0, (⟨#[]⟩ : ByteArray), false)))) = some (r1, r2, r3) := h;clear h;replace H := bindA H;obtain ⟨t382, A3, H⟩ := H;by_cases c4 : t382 ≥ 0
 ·rw [if_pos c4] at H
  have c4b0 : decide (0 ≤ t382) = true := decide_eq_true c4;clear c4;by_cases c5 : 0 ≤ t382
  ·rw [if_pos c5] at H
   have c5b0 := eq_true c5;have c5b1 : decide (0 ≤ t382) = true := decide_eq_true c5;clear c5;by_cases c6 : t382 ≤ (a0.size : Int)
   ·rw [if_pos c6] at H
    have c6b0 := eq_true c6;have c6b1 : decide (t382 ≤ (a0.size : Int)) = true := decide_eq_true c6;clear c6;obtain ⟨ji7, hji7⟩ : ∃ j_ : Int, (wrap64 (t382 + (a1.size : Int))) = j_ := ⟨_, rfl⟩;replace H : (if 0 ≤ (ji7) then (if (ji7) ≤ (a0.size : Int) then (some (a0.extract 0 (t382 : Int).toNat, a0.extract ((ji7) : Int).toNat a0.size, true)) else (none)) else (none)) = some (r1, r2, r3) := by first | (rw [hji7] at H; exact H) | (simp only [hji7] at H ⊢; exact H)
    (try rw [hji7] at A3)
    have hji7w : (IntKind.i64.wrap (t382 + (a1.size : Int))) = ji7 := (i64_w _).trans hji7;by_cases c8 : 0 ≤ (ji7)
    ·rw [if_pos c8] at H
     have c8b0 := eq_true c8;have c8b1 : decide (0 ≤ (ji7)) = true := decide_eq_true c8;clear c8;by_cases c9 : (ji7) ≤ (a0.size : Int)
     ·rw [if_pos c9] at H
      have c9b0 := eq_true c9;have c9b1 : decide ((ji7) ≤ (a0.size : Int)) = true := decide_eq_true c9;clear c9;simp only [Option.some.injEq, Prod.mk.injEq] at H
      obtain ⟨rfl, rfl, rfl⟩ := H;go_enter Tryz.func73, Tryz.ntmps73;go_wp2_with (first | (go_at_call 90; (with_reducible refine (stringslite_Index.calls a0 a1 t382 _ A3.out).mono ?_); rintro e w10 ⟨rfl, hb⟩; have n0_ := Aside0.mk (below_step (zz4 HB) hb); clear HB; have HB := n0_; clear n0_; (try clear hb)))
      repeat (go_quiet (first | (go_at_call 90; (with_reducible refine (stringslite_Index.calls a0 a1 t382 _ A3.out).mono ?_); rintro e w10 ⟨rfl, hb⟩; have n0_ := Aside0.mk (below_step (zz4 HB) hb); clear HB; have HB := n0_; clear n0_; (try clear hb))); try go_wp2_with (first | (go_at_call 90; (with_reducible refine (stringslite_Index.calls a0 a1 t382 _ A3.out).mono ?_); rintro e w10 ⟨rfl, hb⟩; have n0_ := Aside0.mk (below_step (zz4 HB) hb); clear HB; have HB := n0_; clear n0_; (try clear hb))))
      go_ret3
      exact ⟨(by first | rfl | (simp [errW_none, errW_some] <;> rfl) | (simp only [← hji7]; first | rfl | (simp [errW_none, errW_some] <;> rfl)) | (simp [*, errW_none, errW_some] <;> rfl)), (zz4 HB)⟩
     ·rw [if_neg c9] at H
      exact absurd H (by simp)
    ·rw [if_neg c8] at H
     exact absurd H (by simp)
   ·rw [if_neg c6] at H
    exact absurd H (by simp)
  ·rw [if_neg c5] at H
   exact absurd H (by simp)
 ·rw [if_neg c4] at H
  have c4b0 : decide (0 ≤ t382) = false := decide_eq_false c4;clear c4;simp only [Option.some.injEq, Prod.mk.injEq] at H
  obtain ⟨rfl, rfl, rfl⟩ := H;go_enter Tryz.func73, Tryz.ntmps73;go_wp2_with (first | (go_at_call 90; (with_reducible refine (stringslite_Index.calls a0 a1 t382 _ A3.out).mono ?_); rintro e w11 ⟨rfl, hb⟩; have n0_ := Aside0.mk (below_step (zz4 HB) hb); clear HB; have HB := n0_; clear n0_; (try clear hb)))
  repeat (go_quiet (first | (go_at_call 90; (with_reducible refine (stringslite_Index.calls a0 a1 t382 _ A3.out).mono ?_); rintro e w11 ⟨rfl, hb⟩; have n0_ := Aside0.mk (below_step (zz4 HB) hb); clear HB; have HB := n0_; clear n0_; (try clear hb))); try go_wp2_with (first | (go_at_call 90; (with_reducible refine (stringslite_Index.calls a0 a1 t382 _ A3.out).mono ?_); rintro e w11 ⟨rfl, hb⟩; have n0_ := Aside0.mk (below_step (zz4 HB) hb); clear HB; have HB := n0_; clear n0_; (try clear hb))))
  go_ret3
  exact ⟨zz5, (zz4 HB)⟩
def strings_Cut.f (a0 : ByteArray) (a1 : ByteArray) : Option (ByteArray × ByteArray × Bool) := (stringslite_Cut.f a0 a1).bind fun bt383 => (some (bt383.1, bt383.2.1, bt383.2.2))
set_option maxHeartbeats 8000000 in
set_option maxRecDepth 100000 in
theorem strings_Cut.calls (a0 : ByteArray) (a1 : ByteArray) (r1 : ByteArray) (r2 : ByteArray) (r3 : Bool) (w : World) (h : strings_Cut.f a0 a1 = some (r1, r2, r3)) :
  Calls Tryz.prog 48 #[.string a0, .string a1] w fun e w' => e = .returned (.tuple #[.string r1, .string r2, .bool r3]) ∧ Below w.heap.size w w' := by
 have HB := Aside0.mk (Below.refl w.heap.size w);have H : ((stringslite_Cut.f a0 a1).bind fun bt383 => (some (bt383.1, bt383.2.1, bt383.2.2))) = some (r1, r2, r3) := h;clear h;replace H := bindA H;obtain ⟨⟨t383, t384, t385⟩, A3, H⟩ := H;try dsimp -simprocs only at H
 simp only [Option.some.injEq, Prod.mk.injEq] at H
 obtain ⟨rfl, rfl, rfl⟩ := H;go_enter Tryz.func48, Tryz.ntmps48;go_wp2_with (first | ((with_reducible refine gate_callee (f := 73) rfl ?_); refine gsL (some 9) Tryz.func73 #[.string a0, .string a1] ?_; (with_reducible refine (stringslite_Cut.calls a0 a1 t383 t384 t385 _ A3.out).mono ?_); rintro e w4 ⟨rfl, hb⟩; refine ⟨_, rfl, ?_⟩; have n0_ := Aside0.mk (below_step (zz4 HB) hb); clear HB; have HB := n0_; clear n0_; (try clear hb)))
 go_ret3
 exact ⟨zz5, (zz4 HB)⟩
def stringslite_HasPrefix.f (a0 : ByteArray) (a1 : ByteArray) : Option (Bool) := if (a0.size : Int) ≥ (a1.size : Int) then (if 0 ≤ (a1.size : Int) then (if (a1.size : Int) ≤ (a0.size : Int) then (some ((a0.extract 0 ((a1.size : Int) : Int).toNat).toList == a1.toList)) else (none)) else (none)) else (some false)
set_option maxHeartbeats 8000000 in
set_option maxRecDepth 100000 in
theorem stringslite_HasPrefix.calls (a0 : ByteArray) (a1 : ByteArray) (r : Bool) (w : World) (h : stringslite_HasPrefix.f a0 a1 = some r) :
  Calls Tryz.prog 74 #[.string a0, .string a1] w fun e w' => e = .returned (.bool r) ∧ Drawn0 w w' := by
 have H : (if (a0.size : Int) ≥ (a1.size : Int) then (if 0 ≤ (a1.size : Int) then (if (a1.size : Int) ≤ (a0.size : Int) then (some ((a0.extract 0 ((a1.size : Int) : Int).toNat).toList == a1.toList)) else (none)) else (none)) else (some false)) = some r := h;clear h;by_cases c3 : (a0.size : Int) ≥ (a1.size : Int)
 ·rw [if_pos c3] at H
  have c3b0 : decide ((a1.size : Int) ≤ (a0.size : Int)) = true := decide_eq_true c3;have c3b1 : decide (a1.size ≤ a0.size) = true := decide_eq_true (Int.ofNat_le.mp c3);clear c3;by_cases c4 : 0 ≤ (a1.size : Int)
  ·rw [if_pos c4] at H
   have c4b0 := eq_true c4;have c4b1 : decide (0 ≤ (a1.size : Int)) = true := decide_eq_true c4;clear c4;by_cases c5 : (a1.size : Int) ≤ (a0.size : Int)
   ·rw [if_pos c5] at H
    have c5b0 := eq_true c5;have c5b1 : decide ((a1.size : Int) ≤ (a0.size : Int)) = true := decide_eq_true c5;clear c5;obtain rfl := Option.some.inj H;go_enter Tryz.func74, Tryz.ntmps74;go_wp2
    go_ret
    exact ⟨zz0, zz1⟩
   ·rw [if_neg c5] at H
    exact absurd H (by simp)
  ·rw [if_neg c4] at H
   exact absurd H (by simp)
 ·rw [if_neg c3] at H
  have c3b0 : decide ((a1.size : Int) ≤ (a0.size : Int)) = false := decide_eq_false c3;have c3b1 : decide (a1.size ≤ a0.size) = false := decide_eq_false (fun h => c3 (Int.ofNat_le.mpr h));clear c3;obtain rfl := Option.some.inj H;go_enter Tryz.func74, Tryz.ntmps74;go_wp2
  go_ret
  exact ⟨zz0, zz1⟩
def strings_HasPrefix.f (a0 : ByteArray) (a1 : ByteArray) : Option (Bool) := (stringslite_HasPrefix.f a0 a1).bind fun t386 => (some t386)
set_option maxHeartbeats 8000000 in
set_option maxRecDepth 100000 in
theorem strings_HasPrefix.calls (a0 : ByteArray) (a1 : ByteArray) (r : Bool) (w : World) (h : strings_HasPrefix.f a0 a1 = some r) :
  Calls Tryz.prog 49 #[.string a0, .string a1] w fun e w' => e = .returned (.bool r) ∧ Drawn0 w w' := by
 have H : ((stringslite_HasPrefix.f a0 a1).bind fun t386 => (some t386)) = some r := h;clear h;replace H := bindA H;obtain ⟨t386, A3, H⟩ := H;obtain rfl := Option.some.inj H;go_enter Tryz.func49, Tryz.ntmps49;go_wp2_with (first | ((with_reducible refine gate_callee (f := 74) rfl ?_); refine gsL (some 7) Tryz.func74 #[.string a0, .string a1] ?_; (with_reducible refine (stringslite_HasPrefix.calls a0 a1 t386 _ A3.out).mono ?_); rintro e w' ⟨rfl, ⟨nd, rfl⟩⟩; refine ⟨_, rfl, ?_⟩))
 go_ret
 exact ⟨zz0, zz1⟩
def strings_Index.f (a0 : ByteArray) (a1 : ByteArray) : Option (Int) := (stringslite_Index.f a0 a1).bind fun t387 => (some t387)
set_option maxHeartbeats 8000000 in
set_option maxRecDepth 100000 in
theorem strings_Index.calls (a0 : ByteArray) (a1 : ByteArray) (r : Int) (w : World) (h : strings_Index.f a0 a1 = some r) :
  Calls Tryz.prog 111 #[.string a0, .string a1] w fun e w' => e = .returned (.int .i64 r) ∧ Below w.heap.size w w' := by
 have HB := Aside0.mk (Below.refl w.heap.size w);have H : ((stringslite_Index.f a0 a1).bind fun t387 => (some t387)) = some r := h;clear h;replace H := bindA H;obtain ⟨t387, A3, H⟩ := H;obtain rfl := Option.some.inj H;go_enter Tryz.func111, Tryz.ntmps111;go_wp2_with (first | ((with_reducible refine gate_callee (f := 90) rfl ?_); refine gsL (some 7) Tryz.func90 #[.string a0, .string a1] ?_; (with_reducible refine (stringslite_Index.calls a0 a1 t387 _ A3.out).mono ?_); rintro e w4 ⟨rfl, hb⟩; refine ⟨_, rfl, ?_⟩; have n0_ := Aside0.mk (below_step (zz4 HB) hb); clear HB; have HB := n0_; clear n0_; (try clear hb)))
 go_ret
 exact ⟨zz5, (zz4 HB)⟩
end Go.Proofs.YtgjfegfopjfdpaaGreatDoor.P
end
section
namespace Go.Proofs.YtgjfegfopjfdpaaGreatDoor.P
open Go.RowKit Go.Proofs.YtgjfegfopjfdpaaGreatDoorW.PrintWords Go.Proofs.YtgjfegfopjfdpaaGreatDoorW.PrintLast Go.Proofs.YtgjfegfopjfdpaaGreatDoorW.PrintMore
set_option linter.unusedVariables false
def strings_explode.f (a0 : ByteArray) (a1 : Int) : Option (List ByteArray) := none
theorem strings_explode.calls (a0 : ByteArray) (a1 : Int) (r : List ByteArray) (w : World) (h : strings_explode.f a0 a1 = some r) :
  Calls Tryz.prog 109 #[.string a0, .int .i64 a1] w fun e w' => ∃ v0_ : Value, e = .returned (v0_) ∧ Kd.R Kd.string 9 w' w.heap.size (fun _ => True) v0_ r ∧ Below w.heap.size w w' := by
 cases h
end Go.Proofs.YtgjfegfopjfdpaaGreatDoor.P
end
section
namespace Go.Proofs.YtgjfegfopjfdpaaGreatDoor.P
open Go.RowKit Go.Proofs.YtgjfegfopjfdpaaGreatDoorW.PrintWords Go.Proofs.YtgjfegfopjfdpaaGreatDoorW.PrintLast Go.Proofs.YtgjfegfopjfdpaaGreatDoorW.PrintMore
attribute [local go_sem] max2_int min2_int max_two min_two max_three min_three max_four min_four
set_option linter.unusedVariables false
set_option linter.unusedSimpArgs false
mutual
def strings_genSplit.j0 : Nat → ByteArray → ByteArray → Int → Int → Option (List ByteArray)
 | 0, _, _, _, _ => none
 | k + 1, x0, x1, x2, x3 => if 0 ≤ (mn x3 (wrap64 ((x0.size : Int) + 1))) then (if (mn x3 (wrap64 ((x0.size : Int) + 1)) : Int).toNat ≤ 17592186044416 then (strings_genSplit.l0 k x0 x1 x2 (wrap64 ((mn x3 (wrap64 ((x0.size : Int) + 1))) - 1)) (List.replicate (mn x3 (wrap64 ((x0.size : Int) + 1)) : Int).toNat (⟨#[]⟩ : ByteArray)) 0) else (none)) else (none)
def strings_genSplit.l0 : Nat → ByteArray → ByteArray → Int → Int → List ByteArray → Int → Option (List ByteArray)
 | 0, _, _, _, _, _, _ => none
 | k + 1, x0, x1, x2, x3, x9, x10 => if x10 < x3 then ((strings_Index.f x0 x1).bind fun t395 => (if t395 < 0 then (if 0 ≤ x10 then (if x10 < (x9.length : Int) then (if 0 ≤ (wrap64 (x10 + 1)) then (if (wrap64 (x10 + 1)) ≤ (x9.length : Int) then (some ((x9.set (x10 : Int).toNat x0).take ((wrap64 (x10 + 1)) : Int).toNat)) else (none)) else (none)) else (none)) else (none)) else (if 0 ≤ (wrap64 (t395 + x2)) then (if (wrap64 (t395 + x2)) ≤ (x0.size : Int) then (if 0 ≤ x10 then (if x10 < (x9.length : Int) then (if 0 ≤ (wrap64 (t395 + (x1.size : Int))) then (if (wrap64 (t395 + (x1.size : Int))) ≤ (x0.size : Int) then (strings_genSplit.l0 k (x0.extract ((wrap64 (t395 + (x1.size : Int))) : Int).toNat x0.size) x1 x2 x3 (x9.set (x10 : Int).toNat (x0.extract 0 ((wrap64 (t395 + x2)) : Int).toNat)) (wrap64 (x10 + 1))) else (none)) else (none)) else (none)) else (none)) else (none)) else (none)))) else (if 0 ≤ x10 then (if x10 < (x9.length : Int) then (if 0 ≤ (wrap64 (x10 + 1)) then (if (wrap64 (x10 + 1)) ≤ (x9.length : Int) then (some ((x9.set (x10 : Int).toNat x0).take ((wrap64 (x10 + 1)) : Int).toNat)) else (none)) else (none)) else (none)) else (none))
end
def strings_genSplit.f (k : Nat) (a0 : ByteArray) (a1 : ByteArray) (a2 : Int) (a3 : Int) : Option (List ByteArray) := if a3 = 0 then (some ([] : List ByteArray)) else (if a1.toList = ([] : List UInt8) then ((strings_explode.f a0 a3).bind fun t388 => (some t388)) else (if a3 < 0 then ((strings_Count.f a0 a1).bind fun t391 => (strings_genSplit.j0 k a0 a1 a2 (wrap64 (t391 + 1)))) else (strings_genSplit.j0 k a0 a1 a2 a3)))
set_option maxHeartbeats 8000000 in
set_option maxRecDepth 100000 in
theorem strings_genSplit.calls (k : Nat) (a0 : ByteArray) (a1 : ByteArray) (a2 : Int) (a3 : Int) (r : List ByteArray) (w : World) (h : strings_genSplit.f k a0 a1 a2 a3 = some r) :
  Calls Tryz.prog 98 #[.string a0, .string a1, .int .i64 a2, .int .i64 a3] w fun e w' => ∃ v0_ : Value, e = .returned (v0_) ∧ Kd.R Kd.string 9 w' w.heap.size (fun _ => True) v0_ r ∧ Below w.heap.size w w' := by
 have HB := Aside0.mk (Below.refl w.heap.size w);have H : (if a3 = 0 then (some ([] : List ByteArray)) else (if a1.toList = ([] : List UInt8) then ((strings_explode.f a0 a3).bind fun t388 => (some t388)) else (if a3 < 0 then ((strings_Count.f a0 a1).bind fun t391 => (strings_genSplit.j0 k a0 a1 a2 (wrap64 (t391 + 1)))) else (strings_genSplit.j0 k a0 a1 a2 a3)))) = some r := h;clear h;by_cases c5 : a3 = 0
 ·rw [if_pos c5] at H
  have c5b0 : (a3 == 0) = true := beq_iff_eq.mpr c5;have c5b1 : (a3 != 0) = false := bne_eq_false_iff_eq.mpr c5;clear c5;obtain rfl := Option.some.inj H;go_enter Tryz.func98, Tryz.ntmps98;go_wp2
  go_ret
  exact ⟨_, zz5, zz43, (zz4 HB)⟩
 ·rw [if_neg c5] at H
  have c5b0 : (a3 == 0) = false := beq_eq_false_iff_ne.mpr c5;have c5b1 : (a3 != 0) = true := bne_iff_ne.mpr c5;by_cases c6 : a1.toList = ([] : List UInt8)
  ·rw [if_pos c6] at H
   have c6b0 : (a1.toList == ([] : List UInt8)) = true := beq_iff_eq.mpr c6;have c6b1 : (a1.toList != ([] : List UInt8)) = false := bne_eq_false_iff_eq.mpr c6;clear c6;replace H := bindA H;obtain ⟨t388, A7, H⟩ := H;obtain rfl := Option.some.inj H;go_enter Tryz.func98, Tryz.ntmps98;go_wp2_with (first | ((with_reducible refine gate_callee (f := 109) rfl ?_); refine gsL (some 18) Tryz.func109 #[.string a0, .int .i64 a3] ?_; (with_reducible refine (strings_explode.calls a0 a3 t388 _ A7.out).mono ?_); rintro e w8 ⟨v389, rfl, ho0, hb⟩; refine ⟨_, rfl, ?_⟩; have n0_ := Aside0.mk (Kd.R_lower ho0 (below_size (zz4 HB))); have n1_ := Aside0.mk (below_step (zz4 HB) hb); clear HB; have HO390 := n0_; have HB := n1_; clear n0_ n1_; (try clear hb ho0)))
   go_ret
   exact ⟨_, zz5, (zz9 HO390), (zz4 HB)⟩
  ·rw [if_neg c6] at H
   have c6b0 : (a1.toList == ([] : List UInt8)) = false := beq_eq_false_iff_ne.mpr c6;have c6b1 : (a1.toList != ([] : List UInt8)) = true := bne_iff_ne.mpr c6;have HC9 := Aside0.mk H;clear H;go_enter Tryz.func98, Tryz.ntmps98;go_upto_if 20 with (fail)
   go_cut [3] (fun v3 wc => ∃ (kq : Nat) (x3_8 : Int), v3 = .int .i64 x3_8 ∧ Aside0 (strings_genSplit.j0 kq a0 a1 a2 x3_8 = some r) ∧ Aside0 (kq ≤ k) ∧ Aside0 (Below w.heap.size w wc))
   case first =>
    have H := HC9.out;clear HC9;by_cases c10 : a3 < 0
    ·rw [if_pos c10] at H
     have c10b0 : decide (a3 < 0) = true := decide_eq_true c10;clear c10;(first | rw [c10b0] | (simp only [i64_w, i32_w]; rw [c10b0]) | skip)
     replace H := bindA H;obtain ⟨t391, A11, H⟩ := H;have H' := Aside0.mk H;clear H;go_wp2_with (first | ((with_reducible refine gate_callee (f := 110) rfl ?_); refine gsL (some 23) Tryz.func110 #[.string a0, .string a1] ?_; (with_reducible refine (strings_Count.calls a0 a1 t391 _ A11.out).mono ?_); rintro e w12 ⟨rfl, hb⟩; refine ⟨_, rfl, ?_⟩; have n0_ := Aside0.mk (below_step (zz4 HB) hb); clear HB; have HB := n0_; clear n0_; (try clear hb)))
     go_meet
     case rel => exact ⟨_, (wrap64 (t391 + 1)), zz0, H', ⟨zz18⟩, ⟨(zz4 HB)⟩⟩
    ·rw [if_neg c10] at H
     have c10b0 : decide (a3 < 0) = false := decide_eq_false c10;clear c10;(first | rw [c10b0] | (simp only [i64_w, i32_w]; rw [c10b0]) | skip)
     have H' := Aside0.mk H;clear H;go_wp2
     go_meet
     case rel => exact ⟨_, (a3), zz0, H', ⟨zz18⟩, ⟨(zz4 HB)⟩⟩
   case rest =>
    clear HC9;obtain ⟨kq, x3_8, rfl, HA, HJ8, HB⟩ := hcut;cases kq with
    | zero => exact absurd HA.out (by simp [strings_genSplit.j0])
    | succ kj8 =>
     have H := HA.out;clear HA;simp only [strings_genSplit.j0] at H
     obtain ⟨ji13, hji13⟩ : ∃ j_ : Int, (mn x3_8 (wrap64 ((a0.size : Int) + 1))) = j_ := ⟨_, rfl⟩;replace H : (if 0 ≤ (ji13) then (if (ji13 : Int).toNat ≤ 17592186044416 then (strings_genSplit.l0 kj8 a0 a1 a2 (wrap64 ((ji13) - 1)) (List.replicate (ji13 : Int).toNat (⟨#[]⟩ : ByteArray)) 0) else (none)) else (none)) = some r := by first | (rw [hji13] at H; exact H) | (simp only [hji13] at H ⊢; exact H)
     have hji13_ : (if (wrap64 ((a0.size : Int) + 1)) < x3_8 then (wrap64 ((a0.size : Int) + 1)) else x3_8) = ji13 := hji13;by_cases c14 : 0 ≤ (ji13)
     ·rw [if_pos c14] at H
      have c14b0 := eq_true c14;have c14b1 : decide (0 ≤ (ji13)) = true := decide_eq_true c14;clear c14;by_cases c15 : (ji13 : Int).toNat ≤ 17592186044416
      ·rw [if_pos c15] at H
       have c15b0 := eq_true c15;have c15b1 : decide ((ji13 : Int).toNat ≤ 17592186044416) = true := decide_eq_true c15;clear c15;obtain ⟨y392, Ny392⟩ := toY (List.replicate (ji13 : Int).toNat (⟨#[]⟩ : ByteArray));(first | with_reducible replace H := bindZ Ny392 H | rw [← Ny392.out] at H | skip)
       have H' := Aside0.mk H;clear H;go_wp2_with (first | ((with_reducible refine gate_dst (N := 31) rfl ?_); refine Kd.R_make Kd.string _ 9 rfl (N := 31) rfl 22 _ _ rfl ji13 rfl rfl Tryz.underlying22 (.string ⟨#[]⟩) 16 info9 rfl (by decide) (by omega) (⟨#[]⟩ : ByteArray) (ok := fun _ => True) (okp := fun _ => True) rfl (fun _ hk => hk) trivial ofD (Nat.le_trans (Nat.mul_le_mul_right _ (ofD : ji13.toNat ≤ 17592186044416)) (by omega)) (Below.refl _ _) (Nat.le_refl _) ?_; intro v393 w16 ho17 hb hg_ hnew_; clear hg_ hnew_; (first | rw [← Ny392.out] at ho17 | (simp only [Int.reduceToNat] at ho17; rw [← Ny392.out] at ho17)); have n0_ := Aside0.mk (Kd.R_lower ho17 (below_size (zz4 HB))); have n1_ := Aside0.mk (below_step (zz4 HB) hb); clear HB; have HO394 := n0_; have HB := n1_; clear n0_ n1_; clear hb ho17))
       go_loopg [0, 10] kj8 (fun kq v0 v10 w' => ∃ (x0_2 : ByteArray) (x9_2 : List ByteArray) (x10_2 : Int), v0 = .string x0_2 ∧ v10 = .int .i64 x10_2 ∧ Aside0 (strings_genSplit.l0 kq x0_2 a1 a2 (wrap64 ((ji13) - 1)) x9_2 x10_2 = some r) ∧ Aside0 (kq ≤ kj8) ∧ Aside0 (Kd.R Kd.string 9 w' w.heap.size (fun _ => True) v393 x9_2) ∧ Aside0 (Below w.heap.size w w'))
       case atStart => exact ⟨(a0), (y392), (0), zz0, zz0, H', ⟨Nat.le_refl _⟩, ⟨(zz9 HO394)⟩, ⟨(zz4 HB)⟩⟩
       case round =>
        clear H';obtain ⟨x0_2, x9_2, x10_2, rfl, rfl, HA, HK2, HO_9, HB⟩ := hrel;cases gk with
        | zero => exact absurd HA.out (by simp [strings_genSplit.l0])
        | succ k2 =>
         have H := HA.out;clear HA;simp only [strings_genSplit.l0] at H
         by_cases c18 : x10_2 < (wrap64 ((ji13) - 1))
         ·rw [if_pos c18] at H
          have c18b0 : decide (x10_2 < (wrap64 ((ji13) - 1))) = true := decide_eq_true c18;clear c18;replace H := bindA H;obtain ⟨t395, A19, H⟩ := H;by_cases c20 : t395 < 0
          ·rw [if_pos c20] at H
           have c20b0 : decide (t395 < 0) = true := decide_eq_true c20;clear c20;by_cases c21 : 0 ≤ x10_2
           ·rw [if_pos c21] at H
            have c21b0 : decide (0 ≤ x10_2) = true := decide_eq_true c21;clear c21;by_cases c22 : x10_2 < (x9_2.length : Int)
            ·rw [if_pos c22] at H
             have c22b0 : decide (x10_2 < (x9_2.length : Int)) = true := decide_eq_true c22;clear c22;obtain ⟨y396, hy396⟩ : ∃ y_ : List ByteArray, y_ = (x9_2.set (x10_2 : Int).toNat x0_2) := ⟨_, rfl⟩;replace H : (if 0 ≤ (wrap64 (x10_2 + 1)) then (if (wrap64 (x10_2 + 1)) ≤ (x9_2.length : Int) then (some (y396.take ((wrap64 (x10_2 + 1)) : Int).toNat)) else (none)) else (none)) = some r := by first | (rw [hy396]; with_reducible exact H) | (have H2_ := (Option.bind_some _ _).symm.trans H; rw [hy396]; with_reducible exact H2_) | (have H2_ := (Option.bind_some _ _).symm.trans H; with_reducible exact H2_) | with_reducible exact H | (rw [hy396]; exact H) | exact H
             have Ny396 := Aside0.mk hy396;have Ly396 : y396.length ≤ x9_2.length ∧ x9_2.length ≤ y396.length := by rw [hy396, List.length_set]; exact ⟨Nat.le_refl _, Nat.le_refl _⟩
             have My396 := Ly396.1;replace Ly396 := Ly396.2;clear hy396;obtain ⟨ji24, hji24⟩ : ∃ j_ : Int, (wrap64 (x10_2 + 1)) = j_ := ⟨_, rfl⟩;replace H : (if 0 ≤ (ji24) then (if (ji24) ≤ (x9_2.length : Int) then (some (y396.take ((ji24) : Int).toNat)) else (none)) else (none)) = some r := by first | (rw [hji24] at H; exact H) | (simp only [hji24] at H ⊢; exact H)
             (try rw [hji24] at A19)
             have hji24w : (IntKind.i64.wrap (x10_2 + 1)) = ji24 := (i64_w _).trans hji24;by_cases c25 : 0 ≤ (ji24)
             ·rw [if_pos c25] at H
              have c25b0 := eq_true c25;have c25b1 : decide (0 ≤ (ji24)) = true := decide_eq_true c25;clear c25;by_cases c26 : (ji24) ≤ (x9_2.length : Int)
              ·rw [if_pos c26] at H
               have c26b0 := eq_true c26;have c26b1 : decide ((ji24) ≤ (x9_2.length : Int)) = true := decide_eq_true c26;clear c26;obtain ⟨y397, Ny397⟩ := toY (y396.take ((ji24) : Int).toNat);(first | with_reducible replace H := bindZ Ny397 H | rw [← Ny397.out] at H | skip)
               obtain rfl := Option.some.inj H;go_wp2_with (first | ((with_reducible refine gate_callee (f := 111) rfl ?_); refine gsL (some 39) Tryz.func111 #[.string x0_2, .string a1] ?_; (with_reducible refine (strings_Index.calls x0_2 a1 t395 _ A19.out).mono ?_); rintro e w27 ⟨rfl, hb⟩; refine ⟨_, rfl, ?_⟩; have n0_ := Aside0.mk (Kd.R_below (zz9 HO_9) hb); have n1_ := Aside0.mk (below_step (zz4 HB) hb); clear HO_9; clear HB; have HO_9 := n0_; have HB := n1_; clear n0_ n1_; (try clear hb); have p23 : 0 ≤ (x10_2 : Int) := ofD; have q23 : (x10_2 : Int) < ((x9_2.length : Int) : Int) := ofD; obtain ⟨go23, co23, eo23, gb23, gl23, cl23, HG23⟩ := Kd.R_form HO_9.out (by omega); (first | cases eo23 | (injection eo23 with ea_ en_ ec_; (first | subst ea_ | (injection ea_ with ea_; subst ea_)); subst ec_; clear en_)); have GB23 := Aside0.mk gb23; have GG23 := Aside0.mk HG23; clear gb23 gl23 HG23; obtain ⟨hx23_0, hf23_0⟩ := Kd.R_celln (⟨#[]⟩ : ByteArray) HO_9.out (x10_2 : Int) p23 q23; replace p23 := eq_true p23; replace q23 := eq_true q23; obtain ⟨hy28_, hz28_⟩ := Kd.R_celln (⟨#[]⟩ : ByteArray) HO_9.out (x10_2 : Int) ofD ofD; have HP28 := Kd.R_putg HO_9.out (x10_2 : Int) x0_2) | ((with_reducible refine gate_store (t := 9) (p := 61) rfl ?_); refine store_event (t := 9) (p := 61) (v := ?vo_w29) (w1 := (w27.setCell ⟨go23, (x10_2 : Int).toNat, none⟩ (.string x0_2))) ?hg ?ho ?hn ?hr ?_; (case ho => rfl); (case hg => rfl); (case hn => rfl); (case hr => exact zz8); intro w29 hw; have hg : w27.grownBy w29 (some go23) := (by rw [hw]; exact HP28.2); have hp_ : Kd.R Kd.string 9 w29 w.heap.size (fun _ => True) (.slice (some ⟨go23, 0, none⟩) x9_2.length co23) y396 := (by rw [hw, Ny396.out]; exact HP28.1); clear HP28; have n0_ := Aside0.mk (hp_); have n1_ := Aside0.mk ((by rw [hw]; exact below_set (HB.out) GB23.out : Below w.heap.size w w29)); clear HO_9; clear HB; have HO_9 := n0_; have HB := n1_; clear n0_ n1_; clear hg hw hp_; have q30 : ((ji24) : Int) ≤ ((x9_2.length : Int) : Int) := ofD; obtain ⟨i030, hi030, _, hsz30, _⟩ := info_parts info9; have hcut30 := cut_to (P := Tryz.prog) 22 9 .i64 Tryz.underlying22 hi030 (some ⟨go23, 0, none⟩) x9_2.length co23 (ji24) ofD q30 (Kd.R_reads' HO_9.out).2.1; have hr30 := Kd.R_take (m := ((ji24) : Int).toNat) HO_9.out (by omega); have hy30 : y397.length = ((ji24) : Int).toNat := (by rw [Ny397.out, List.length_take]; omega); rw [← Ny397.out] at hr30; rw [← hy30] at hr30 hcut30; clear hy30 hi030 hsz30 HO_9; have HO399 := Aside0.mk hr30; clear hr30; replace q30 := eq_true q30))
               go_ret
               exact ⟨_, (by first | rfl | (simp [errW_none, errW_some] <;> rfl) | (simp only [← hji13, ← hji24]; first | rfl | (simp [errW_none, errW_some] <;> rfl)) | (simp [*, errW_none, errW_some] <;> rfl)), (zz9 HO399), (zz4 HB)⟩
              ·rw [if_neg c26] at H
               exact absurd H (by simp)
             ·rw [if_neg c25] at H
              exact absurd H (by simp)
            ·rw [if_neg c22] at H
             exact absurd H (by simp)
           ·rw [if_neg c21] at H
            exact absurd H (by simp)
          ·rw [if_neg c20] at H
           have c20b0 : decide (t395 < 0) = false := decide_eq_false c20;clear c20;obtain ⟨ji31, hji31⟩ : ∃ j_ : Int, (wrap64 (t395 + a2)) = j_ := ⟨_, rfl⟩;replace H : (if 0 ≤ (ji31) then (if (ji31) ≤ (x0_2.size : Int) then (if 0 ≤ x10_2 then (if x10_2 < (x9_2.length : Int) then (if 0 ≤ (wrap64 (t395 + (a1.size : Int))) then (if (wrap64 (t395 + (a1.size : Int))) ≤ (x0_2.size : Int) then (strings_genSplit.l0 k2 (x0_2.extract ((wrap64 (t395 + (a1.size : Int))) : Int).toNat x0_2.size) a1 a2 (wrap64 ((ji13) - 1)) (x9_2.set (x10_2 : Int).toNat (x0_2.extract 0 ((ji31) : Int).toNat)) (wrap64 (x10_2 + 1))) else (none)) else (none)) else (none)) else (none)) else (none)) else (none)) = some r := by first | (rw [hji31] at H; exact H) | (simp only [hji31] at H ⊢; exact H)
           (try rw [hji31] at A19)
           have hji31w : (IntKind.i64.wrap (t395 + a2)) = ji31 := (i64_w _).trans hji31;by_cases c32 : 0 ≤ (ji31)
           ·rw [if_pos c32] at H
            have c32b0 := eq_true c32;have c32b1 : decide (0 ≤ (ji31)) = true := decide_eq_true c32;clear c32;by_cases c33 : (ji31) ≤ (x0_2.size : Int)
            ·rw [if_pos c33] at H
             have c33b0 := eq_true c33;have c33b1 : decide ((ji31) ≤ (x0_2.size : Int)) = true := decide_eq_true c33;clear c33;by_cases c34 : 0 ≤ x10_2
             ·rw [if_pos c34] at H
              have c34b0 : decide (0 ≤ x10_2) = true := decide_eq_true c34;clear c34;by_cases c35 : x10_2 < (x9_2.length : Int)
              ·rw [if_pos c35] at H
               have c35b0 : decide (x10_2 < (x9_2.length : Int)) = true := decide_eq_true c35;clear c35;obtain ⟨y400, hy400⟩ : ∃ y_ : List ByteArray, y_ = (x9_2.set (x10_2 : Int).toNat (x0_2.extract 0 ((ji31) : Int).toNat)) := ⟨_, rfl⟩;replace H : (if 0 ≤ (wrap64 (t395 + (a1.size : Int))) then (if (wrap64 (t395 + (a1.size : Int))) ≤ (x0_2.size : Int) then (strings_genSplit.l0 k2 (x0_2.extract ((wrap64 (t395 + (a1.size : Int))) : Int).toNat x0_2.size) a1 a2 (wrap64 ((ji13) - 1)) y400 (wrap64 (x10_2 + 1))) else (none)) else (none)) = some r := by first | (rw [hy400]; with_reducible exact H) | (have H2_ := (Option.bind_some _ _).symm.trans H; rw [hy400]; with_reducible exact H2_) | (have H2_ := (Option.bind_some _ _).symm.trans H; with_reducible exact H2_) | with_reducible exact H | (rw [hy400]; exact H) | exact H
               have Ny400 := Aside0.mk hy400;have Ly400 : y400.length ≤ x9_2.length ∧ x9_2.length ≤ y400.length := by rw [hy400, List.length_set]; exact ⟨Nat.le_refl _, Nat.le_refl _⟩
               have My400 := Ly400.1;replace Ly400 := Ly400.2;clear hy400;obtain ⟨ji37, hji37⟩ : ∃ j_ : Int, (wrap64 (t395 + (a1.size : Int))) = j_ := ⟨_, rfl⟩;replace H : (if 0 ≤ (ji37) then (if (ji37) ≤ (x0_2.size : Int) then (strings_genSplit.l0 k2 (x0_2.extract ((ji37) : Int).toNat x0_2.size) a1 a2 (wrap64 ((ji13) - 1)) y400 (wrap64 (x10_2 + 1))) else (none)) else (none)) = some r := by first | (rw [hji37] at H; exact H) | (simp only [hji37] at H ⊢; exact H)
               (try rw [hji37] at A19)
               have hji37w : (IntKind.i64.wrap (t395 + (a1.size : Int))) = ji37 := (i64_w _).trans hji37;by_cases c38 : 0 ≤ (ji37)
               ·rw [if_pos c38] at H
                have c38b0 := eq_true c38;have c38b1 : decide (0 ≤ (ji37)) = true := decide_eq_true c38;clear c38;by_cases c39 : (ji37) ≤ (x0_2.size : Int)
                ·rw [if_pos c39] at H
                 have c39b0 := eq_true c39;have c39b1 : decide ((ji37) ≤ (x0_2.size : Int)) = true := decide_eq_true c39;clear c39;have H' := Aside0.mk H;clear H;go_wp2_with (first | ((with_reducible refine gate_callee (f := 111) rfl ?_); refine gsL (some 39) Tryz.func111 #[.string x0_2, .string a1] ?_; (with_reducible refine (strings_Index.calls x0_2 a1 t395 _ A19.out).mono ?_); rintro e w40 ⟨rfl, hb⟩; refine ⟨_, rfl, ?_⟩; have n0_ := Aside0.mk (Kd.R_below (zz9 HO_9) hb); have n1_ := Aside0.mk (below_step (zz4 HB) hb); clear HO_9; clear HB; have HO_9 := n0_; have HB := n1_; clear n0_ n1_; (try clear hb); have p36 : 0 ≤ (x10_2 : Int) := ofD; have q36 : (x10_2 : Int) < ((x9_2.length : Int) : Int) := ofD; obtain ⟨go36, co36, eo36, gb36, gl36, cl36, HG36⟩ := Kd.R_form HO_9.out (by omega); (first | cases eo36 | (injection eo36 with ea_ en_ ec_; (first | subst ea_ | (injection ea_ with ea_; subst ea_)); subst ec_; clear en_)); have GB36 := Aside0.mk gb36; have GG36 := Aside0.mk HG36; clear gb36 gl36 HG36; obtain ⟨hx36_0, hf36_0⟩ := Kd.R_celln (⟨#[]⟩ : ByteArray) HO_9.out (x10_2 : Int) p36 q36; replace p36 := eq_true p36; replace q36 := eq_true q36; obtain ⟨hy41_, hz41_⟩ := Kd.R_celln (⟨#[]⟩ : ByteArray) HO_9.out (x10_2 : Int) ofD ofD; have HP41 := Kd.R_putg HO_9.out (x10_2 : Int) (x0_2.extract 0 ((ji31) : Int).toNat)) | ((with_reducible refine gate_store (t := 9) (p := 49) rfl ?_); refine store_event (t := 9) (p := 49) (v := ?vo_w42) (w1 := (w40.setCell ⟨go36, (x10_2 : Int).toNat, none⟩ (.string (x0_2.extract 0 ((ji31) : Int).toNat)))) ?hg ?ho ?hn ?hr ?_; (case ho => rfl); (case hg => rfl); (case hn => rfl); (case hr => exact zz8); intro w42 hw; have hg : w40.grownBy w42 (some go36) := (by rw [hw]; exact HP41.2); have hp_ : Kd.R Kd.string 9 w42 w.heap.size (fun _ => True) (.slice (some ⟨go36, 0, none⟩) x9_2.length co36) y400 := (by rw [hw, Ny400.out]; exact HP41.1); clear HP41; have n0_ := Aside0.mk (hp_); have n1_ := Aside0.mk ((by rw [hw]; exact below_set (HB.out) GB36.out : Below w.heap.size w w42)); clear HO_9; clear HB; have HO_9 := n0_; have HB := n1_; clear n0_ n1_; clear hg hw hp_))
                 go_roundg k2
                 case measure => have := HJ8.out; have := HK2.out; omega
                 case rel => exact ⟨(x0_2.extract ((ji37) : Int).toNat x0_2.size), (y400), (wrap64 (x10_2 + 1)), (by first | rfl | (simp only [i64_w, i32_w]; done) | (simp only [aid_isEmpty, aid_isEmpty2]; done) | (simp; done) | ((simp only [← hji37] <;> (first | rfl | simp)); done) | (simp [*]; done)), zz0, H', ⟨(zz26 HJ8 HK2)⟩, ⟨(zz9 HO_9)⟩, ⟨(zz4 HB)⟩⟩
                ·rw [if_neg c39] at H
                 exact absurd H (by simp)
               ·rw [if_neg c38] at H
                exact absurd H (by simp)
              ·rw [if_neg c35] at H
               exact absurd H (by simp)
             ·rw [if_neg c34] at H
              exact absurd H (by simp)
            ·rw [if_neg c33] at H
             exact absurd H (by simp)
           ·rw [if_neg c32] at H
            exact absurd H (by simp)
         ·rw [if_neg c18] at H
          have c18b0 : decide (x10_2 < (wrap64 ((ji13) - 1))) = false := decide_eq_false c18;clear c18;by_cases c43 : 0 ≤ x10_2
          ·rw [if_pos c43] at H
           have c43b0 : decide (0 ≤ x10_2) = true := decide_eq_true c43;clear c43;by_cases c44 : x10_2 < (x9_2.length : Int)
           ·rw [if_pos c44] at H
            have c44b0 : decide (x10_2 < (x9_2.length : Int)) = true := decide_eq_true c44;clear c44;obtain ⟨y401, hy401⟩ : ∃ y_ : List ByteArray, y_ = (x9_2.set (x10_2 : Int).toNat x0_2) := ⟨_, rfl⟩;replace H : (if 0 ≤ (wrap64 (x10_2 + 1)) then (if (wrap64 (x10_2 + 1)) ≤ (x9_2.length : Int) then (some (y401.take ((wrap64 (x10_2 + 1)) : Int).toNat)) else (none)) else (none)) = some r := by first | (rw [hy401]; with_reducible exact H) | (have H2_ := (Option.bind_some _ _).symm.trans H; rw [hy401]; with_reducible exact H2_) | (have H2_ := (Option.bind_some _ _).symm.trans H; with_reducible exact H2_) | with_reducible exact H | (rw [hy401]; exact H) | exact H
            have Ny401 := Aside0.mk hy401;have Ly401 : y401.length ≤ x9_2.length ∧ x9_2.length ≤ y401.length := by rw [hy401, List.length_set]; exact ⟨Nat.le_refl _, Nat.le_refl _⟩
            have My401 := Ly401.1;replace Ly401 := Ly401.2;clear hy401;obtain ⟨ji46, hji46⟩ : ∃ j_ : Int, (wrap64 (x10_2 + 1)) = j_ := ⟨_, rfl⟩;replace H : (if 0 ≤ (ji46) then (if (ji46) ≤ (x9_2.length : Int) then (some (y401.take ((ji46) : Int).toNat)) else (none)) else (none)) = some r := by first | (rw [hji46] at H; exact H) | (simp only [hji46] at H ⊢; exact H)
            have hji46w : (IntKind.i64.wrap (x10_2 + 1)) = ji46 := (i64_w _).trans hji46;by_cases c47 : 0 ≤ (ji46)
            ·rw [if_pos c47] at H
             have c47b0 := eq_true c47;have c47b1 : decide (0 ≤ (ji46)) = true := decide_eq_true c47;clear c47;by_cases c48 : (ji46) ≤ (x9_2.length : Int)
             ·rw [if_pos c48] at H
              have c48b0 := eq_true c48;have c48b1 : decide ((ji46) ≤ (x9_2.length : Int)) = true := decide_eq_true c48;clear c48;obtain ⟨y402, Ny402⟩ := toY (y401.take ((ji46) : Int).toNat);(first | with_reducible replace H := bindZ Ny402 H | rw [← Ny402.out] at H | skip)
              obtain rfl := Option.some.inj H;have p45 : 0 ≤ (x10_2 : Int) := ofD;have q45 : (x10_2 : Int) < ((x9_2.length : Int) : Int) := ofD;obtain ⟨go45, co45, eo45, gb45, gl45, cl45, HG45⟩ := Kd.R_form HO_9.out (by omega);(first | cases eo45 | (injection eo45 with ea_ en_ ec_; (first | subst ea_ | (injection ea_ with ea_; subst ea_)); subst ec_; clear en_))
              have GB45 := Aside0.mk gb45;have GG45 := Aside0.mk HG45;clear gb45 gl45 HG45;obtain ⟨hx45_0, hf45_0⟩ := Kd.R_celln (⟨#[]⟩ : ByteArray) HO_9.out (x10_2 : Int) p45 q45;replace p45 := eq_true p45;replace q45 := eq_true q45;have HP49 := Kd.R_putg HO_9.out (x10_2 : Int) x0_2;go_wp2_with (first | ((with_reducible refine gate_store (t := 9) (p := 61) rfl ?_); refine store_event (t := 9) (p := 61) (v := ?vo_w50) (w1 := (wr.setCell ⟨go45, (x10_2 : Int).toNat, none⟩ (.string x0_2))) ?hg ?ho ?hn ?hr ?_; (case ho => rfl); (case hg => rfl); (case hn => rfl); (case hr => exact zz8); intro w50 hw; have hg : wr.grownBy w50 (some go45) := (by rw [hw]; exact HP49.2); have hp_ : Kd.R Kd.string 9 w50 w.heap.size (fun _ => True) (.slice (some ⟨go45, 0, none⟩) x9_2.length co45) y401 := (by rw [hw, Ny401.out]; exact HP49.1); clear HP49; have n0_ := Aside0.mk (hp_); have n1_ := Aside0.mk ((by rw [hw]; exact below_set (HB.out) GB45.out : Below w.heap.size w w50)); clear HO_9; clear HB; have HO_9 := n0_; have HB := n1_; clear n0_ n1_; clear hg hw hp_; have q51 : ((ji46) : Int) ≤ ((x9_2.length : Int) : Int) := ofD; obtain ⟨i051, hi051, _, hsz51, _⟩ := info_parts info9; have hcut51 := cut_to (P := Tryz.prog) 22 9 .i64 Tryz.underlying22 hi051 (some ⟨go45, 0, none⟩) x9_2.length co45 (ji46) ofD q51 (Kd.R_reads' HO_9.out).2.1; have hr51 := Kd.R_take (m := ((ji46) : Int).toNat) HO_9.out (by omega); have hy51 : y402.length = ((ji46) : Int).toNat := (by rw [Ny402.out, List.length_take]; omega); rw [← Ny402.out] at hr51; rw [← hy51] at hr51 hcut51; clear hy51 hi051 hsz51 HO_9; have HO404 := Aside0.mk hr51; clear hr51; replace q51 := eq_true q51))
              go_ret
              exact ⟨_, (by first | rfl | (simp [errW_none, errW_some] <;> rfl) | (simp only [← hji13, ← hji46]; first | rfl | (simp [errW_none, errW_some] <;> rfl)) | (simp [*, errW_none, errW_some] <;> rfl)), (zz9 HO404), (zz4 HB)⟩
             ·rw [if_neg c48] at H
              exact absurd H (by simp)
            ·rw [if_neg c47] at H
             exact absurd H (by simp)
           ·rw [if_neg c44] at H
            exact absurd H (by simp)
          ·rw [if_neg c43] at H
           exact absurd H (by simp)
      ·rw [if_neg c15] at H
       exact absurd H (by simp)
     ·rw [if_neg c14] at H
      exact absurd H (by simp)
def strings_Split.f (k : Nat) (a0 : ByteArray) (a1 : ByteArray) : Option (List ByteArray) := (strings_genSplit.f k a0 a1 0 (-1)).bind fun t405 => (some t405)
set_option maxHeartbeats 8000000 in
set_option maxRecDepth 100000 in
theorem strings_Split.calls (k : Nat) (a0 : ByteArray) (a1 : ByteArray) (r : List ByteArray) (w : World) (h : strings_Split.f k a0 a1 = some r) :
  Calls Tryz.prog 79 #[.string a0, .string a1] w fun e w' => ∃ v0_ : Value, e = .returned (v0_) ∧ Kd.R Kd.string 9 w' w.heap.size (fun _ => True) v0_ r ∧ Below w.heap.size w w' := by
 have HB := Aside0.mk (Below.refl w.heap.size w);have H : ((strings_genSplit.f k a0 a1 0 (-1)).bind fun t405 => (some t405)) = some r := h;clear h;replace H := bindA H;obtain ⟨t405, A3, H⟩ := H;obtain rfl := Option.some.inj H;go_enter Tryz.func79, Tryz.ntmps79;go_wp2_with (first | ((with_reducible refine gate_callee (f := 98) rfl ?_); refine gsL (some 7) Tryz.func98 #[.string a0, .string a1, .int .i64 0, .int .i64 (-1)] ?_; (with_reducible refine (strings_genSplit.calls k a0 a1 0 (-1) t405 _ A3.out).mono ?_); rintro e w4 ⟨v406, rfl, ho0, hb⟩; refine ⟨_, rfl, ?_⟩; have n0_ := Aside0.mk (Kd.R_lower ho0 (below_size (zz4 HB))); have n1_ := Aside0.mk (below_step (zz4 HB) hb); clear HB; have HO407 := n0_; have HB := n1_; clear n0_ n1_; (try clear hb ho0)))
 go_ret
 exact ⟨_, zz5, (zz9 HO407), (zz4 HB)⟩
mutual
def impl_PathClean.l0 : Nat → List ByteArray → List ByteArray → Int → Int → Option (List ByteArray)
 | 0, _, _, _, _ => none
 | k + 1, x3, x6, x7, x8 => if x8 < x7 then (if 0 ≤ x8 then (if x8 < (x6.length : Int) then (if (rdOf ByteArray.empty x6 x8).toList = ([] : List UInt8) then (impl_PathClean.j1 k x3 (rdOf ByteArray.empty x6 x8) x6 x7 x8 (rdOf ByteArray.empty x6 x8) ((rdOf ByteArray.empty x6 x8).toList == ([] : List UInt8))) else (impl_PathClean.j1 k x3 (rdOf ByteArray.empty x6 x8) x6 x7 x8 (rdOf ByteArray.empty x6 x8) ((rdOf ByteArray.empty x6 x8).toList == ([46] : List UInt8)))) else (none)) else (none)) else (some x3)
def impl_PathClean.j1 : Nat → List ByteArray → ByteArray → List ByteArray → Int → Int → ByteArray → Bool → Option (List ByteArray)
 | 0, _, _, _, _, _, _, _ => none
 | k + 1, x3, x5, x6, x7, x8, x12, x13 => if x13 = true then (impl_PathClean.l0 k x3 x6 x7 (wrap64 (x8 + 1))) else (if x12.toList = ([46, 46] : List UInt8) then (if (x3.length : Int) > 0 then (if 0 ≤ (wrap64 ((x3.length : Int) - 1)) then (if (wrap64 ((x3.length : Int) - 1)) ≤ (x3.length : Int) then (impl_PathClean.l0 k (x3.take ((wrap64 ((x3.length : Int) - 1)) : Int).toNat) x6 x7 (wrap64 (x8 + 1))) else (none)) else (none)) else (impl_PathClean.l0 k x3 x6 x7 (wrap64 (x8 + 1)))) else (if x3.length < 8796093022208 then (impl_PathClean.l0 k (x3 ++ [x5]) x6 x7 (wrap64 (x8 + 1))) else (none)))
end
def impl_PathClean.f (k : Nat) (l0 : List ByteArray) : Option (List ByteArray) := impl_PathClean.l0 k ([] : List ByteArray) l0 (l0.length : Int) 0
set_option maxHeartbeats 8000000 in
set_option maxRecDepth 100000 in
theorem impl_PathClean.calls (k : Nat) (A0 : Option Addr) (c0 : Nat) (l0 : List ByteArray) (r : List ByteArray) (w : World) (hr0 : Kd.C Kd.string w A0 l0.length l0) (hc0 : l0.length ≤ c0) (h : impl_PathClean.f k l0 = some r) :
  Calls Tryz.prog 80 #[.slice A0 l0.length c0] w fun e w' => ∃ v0_ : Value, e = .returned (v0_) ∧ Kd.R Kd.string 9 w' w.heap.size (fun _ => True) v0_ r ∧ Below w.heap.size w w' := by
 have HR0 := Aside0.mk hr0;have HC0 := Aside0.mk hc0;clear hr0 hc0;have HB := Aside0.mk (Below.refl w.heap.size w);have H : (impl_PathClean.l0 k ([] : List ByteArray) l0 (l0.length : Int) 0) = some r := h;clear h;have H' := Aside0.mk H;clear H;go_enter Tryz.func80, Tryz.ntmps80;go_wp2
 go_step3
 go_wp2
 go_step3
 go_wp2
 go_loopg [3, 8] k (fun kq v3 v8 w' => ∃ (x3_1 : List ByteArray) (x8_1 : Int), v8 = .int .i64 x8_1 ∧ Aside0 (impl_PathClean.l0 kq x3_1 l0 (l0.length : Int) x8_1 = some r) ∧ Aside0 (kq ≤ k) ∧ Aside0 (Kd.R Kd.string 9 w' w.heap.size (fun _ => True) v3 x3_1) ∧ Aside0 (Below w.heap.size w w'))
 case atStart => exact ⟨(([] : List ByteArray)), (0), zz0, H', ⟨Nat.le_refl _⟩, ⟨zz43⟩, ⟨(zz4 HB)⟩⟩
 case round =>
  clear H';obtain ⟨x3_1, x8_1, rfl, HA, HK1, HO_3, HB⟩ := hrel;cases gk with
  | zero => exact absurd HA.out (by simp [impl_PathClean.l0])
  | succ k1 =>
   have H := HA.out;clear HA;simp only [impl_PathClean.l0] at H
   by_cases c2 : x8_1 < (l0.length : Int)
   ·rw [if_pos c2] at H
    have c2b0 : decide (x8_1 < (l0.length : Int)) = true := decide_eq_true c2;clear c2;by_cases c3 : 0 ≤ x8_1
    ·rw [if_pos c3] at H
     have c3b0 : decide (0 ≤ x8_1) = true := decide_eq_true c3;clear c3;by_cases c4 : x8_1 < (l0.length : Int)
     ·rw [if_pos c4] at H
      have c4b0 : decide (x8_1 < (l0.length : Int)) = true := decide_eq_true c4;clear c4;have HC5 := Aside0.mk H;clear H;have p408 : 0 ≤ (x8_1 : Int) := ofD;have q408 : x8_1 < (l0.length : Int) := ofD;obtain ⟨ad408, e408, hx408_0⟩ := Kd.at_string HR0.out x8_1 p408 q408;cases e408
      replace hx408_0 := (HB.out.cell (World.block_lt_of_cell? w _ hx408_0)).trans hx408_0;replace p408 := eq_true p408;replace q408 := eq_true q408;go_upto_if 13 with (fail)
      go_cut [13] (fun v13 wc => ∃ (kq : Nat) (x13_4 : Bool), v13 = .bool x13_4 ∧ Aside0 (impl_PathClean.j1 kq x3_1 (rdOf ByteArray.empty l0 x8_1) l0 (l0.length : Int) x8_1 (rdOf ByteArray.empty l0 x8_1) x13_4 = some r) ∧ Aside0 (kq ≤ k1) ∧ Aside0 (Kd.R Kd.string 9 wc w.heap.size (fun _ => True) u3 x3_1) ∧ Aside0 (Below w.heap.size w wc))
      case first =>
       have H := HC5.out;clear HC5;by_cases c6 : (rdOf ByteArray.empty l0 x8_1).toList = ([] : List UInt8)
       ·rw [if_pos c6] at H
        have c6b0 : ((rdOf ByteArray.empty l0 x8_1).toList == ([] : List UInt8)) = true := beq_iff_eq.mpr c6;have c6i0 : (rdOf ByteArray.empty l0 x8_1).toList.isEmpty = true := (aid_isEmpty2 _).symm.trans c6b0;have c6b1 : ((rdOf ByteArray.empty l0 x8_1).toList != ([] : List UInt8)) = false := bne_eq_false_iff_eq.mpr c6;clear c6;(first | rw [c6b0] | (simp only [i64_w, i32_w]; rw [c6b0]) | skip)
        have H' := Aside0.mk H;clear H;go_wp2
        all_goals (first | (exfalso; have h_ : (rdOf ByteArray.empty l0 x8_1).toList.isEmpty = false := (by assumption); rw [c6i0] at h_; cases h_; done) | skip)
        go_meet
        case rel => exact ⟨_, (((rdOf ByteArray.empty l0 x8_1).toList == ([] : List UInt8))), zz0, H', ⟨(zz11 HK1)⟩, ⟨(zz9 HO_3)⟩, ⟨(zz4 HB)⟩⟩
       ·rw [if_neg c6] at H
        have c6b0 : ((rdOf ByteArray.empty l0 x8_1).toList == ([] : List UInt8)) = false := beq_eq_false_iff_ne.mpr c6;have c6i0 : (rdOf ByteArray.empty l0 x8_1).toList.isEmpty = false := (aid_isEmpty2 _).symm.trans c6b0;have c6b1 : ((rdOf ByteArray.empty l0 x8_1).toList != ([] : List UInt8)) = true := bne_iff_ne.mpr c6;(first | rw [c6b0] | (simp only [i64_w, i32_w]; rw [c6b0]) | skip)
        have H' := Aside0.mk H;clear H;go_wp2
        all_goals (first | (exfalso; have h_ : (rdOf ByteArray.empty l0 x8_1).toList.isEmpty = true := (by assumption); rw [c6i0] at h_; cases h_; done) | skip)
        go_meet
        case rel => exact ⟨_, (((rdOf ByteArray.empty l0 x8_1).toList == ([46] : List UInt8))), zz0, H', ⟨(zz11 HK1)⟩, ⟨(zz9 HO_3)⟩, ⟨(zz4 HB)⟩⟩
      case rest =>
       clear HC5;obtain ⟨kq, x13_4, rfl, HA, HJ4, HO_3, HB⟩ := hcut;cases kq with
       | zero => exact absurd HA.out (by simp [impl_PathClean.j1])
       | succ kj4 =>
        have H := HA.out;clear HA;simp only [impl_PathClean.j1] at H
        by_cases c7 : x13_4 = true
        ·subst c7
         rw [if_pos rfl] at H;have H' := Aside0.mk H;clear H;go_wp2
         go_roundg kj4
         case measure => have := HK1.out; have := HJ4.out; omega
         case rel => exact ⟨(x3_1), (wrap64 (x8_1 + 1)), zz0, H', ⟨(zz26 HK1 HJ4)⟩, ⟨(zz9 HO_3)⟩, ⟨(zz4 HB)⟩⟩
        ·replace c7 := Bool.eq_false_iff.mpr c7
         subst c7;rw [if_neg (show ¬ (false = true) by decide)] at H;by_cases c8 : (rdOf ByteArray.empty l0 x8_1).toList = ([46, 46] : List UInt8)
         ·rw [if_pos c8] at H
          have c8b0 : ((rdOf ByteArray.empty l0 x8_1).toList == ([46, 46] : List UInt8)) = true := beq_iff_eq.mpr c8;have c8b1 : ((rdOf ByteArray.empty l0 x8_1).toList != ([46, 46] : List UInt8)) = false := bne_eq_false_iff_eq.mpr c8;clear c8;by_cases c9 : (x3_1.length : Int) > 0
          ·rw [if_pos c9] at H
           have c9b0 : decide (0 < (x3_1.length : Int)) = true := decide_eq_true c9;have c9b1 : decide (0 < x3_1.length) = true := decide_eq_true (by omega);clear c9;obtain ⟨ji10, hji10⟩ : ∃ j_ : Int, (wrap64 ((x3_1.length : Int) - 1)) = j_ := ⟨_, rfl⟩;replace H : (if 0 ≤ (ji10) then (if (ji10) ≤ (x3_1.length : Int) then (impl_PathClean.l0 kj4 (x3_1.take ((ji10) : Int).toNat) l0 (l0.length : Int) (wrap64 (x8_1 + 1))) else (none)) else (none)) = some r := by first | (rw [hji10] at H; exact H) | (simp only [hji10] at H ⊢; exact H)
           have hji10w : (IntKind.i64.wrap ((x3_1.length : Int) - 1)) = ji10 := (i64_w _).trans hji10;by_cases c11 : 0 ≤ (ji10)
           ·rw [if_pos c11] at H
            have c11b0 := eq_true c11;have c11b1 : decide (0 ≤ (ji10)) = true := decide_eq_true c11;clear c11;by_cases c12 : (ji10) ≤ (x3_1.length : Int)
            ·rw [if_pos c12] at H
             have c12b0 := eq_true c12;have c12b1 : decide ((ji10) ≤ (x3_1.length : Int)) = true := decide_eq_true c12;clear c12;obtain ⟨y409, Ny409⟩ := toY (x3_1.take ((ji10) : Int).toNat);(first | with_reducible replace H := bindZ Ny409 H | rw [← Ny409.out] at H | skip)
             have H' := Aside0.mk H;clear H;obtain ⟨Ao13, co13, eo13⟩ := Kd.R_slice HO_3.out;subst eo13;have q14 : ((ji10) : Int) ≤ ((x3_1.length : Int) : Int) := ofD;obtain ⟨i014, hi014, _, hsz14, _⟩ := info_parts info9;have hcut14 := cut_to (P := Tryz.prog) 22 9 .i64 Tryz.underlying22 hi014 Ao13 x3_1.length co13 (ji10) ofD q14 (Kd.R_reads' HO_3.out).2.1;have hr14 := Kd.R_take (m := ((ji10) : Int).toNat) HO_3.out (by omega);have hy14 : y409.length = ((ji10) : Int).toNat := (by rw [Ny409.out, List.length_take]; omega);rw [← Ny409.out] at hr14;rw [← hy14] at hr14 hcut14;clear hy14 hi014 hsz14 HO_3;have HO411 := Aside0.mk hr14;clear hr14;replace q14 := eq_true q14;go_wp2
             go_roundg kj4
             case measure => have := HK1.out; have := HJ4.out; omega
             case rel => exact ⟨(y409), (wrap64 (x8_1 + 1)), zz0, H', ⟨(zz26 HK1 HJ4)⟩, ⟨(zz9 HO411)⟩, ⟨(zz4 HB)⟩⟩
            ·rw [if_neg c12] at H
             exact absurd H (by simp)
           ·rw [if_neg c11] at H
            exact absurd H (by simp)
          ·rw [if_neg c9] at H
           have c9b0 : decide (0 < (x3_1.length : Int)) = false := decide_eq_false c9;have c9b1 : decide (0 < x3_1.length) = false := decide_eq_false (by omega);clear c9;have H' := Aside0.mk H;clear H;obtain ⟨Ao15, co15, eo15⟩ := Kd.R_slice HO_3.out;subst eo15;go_wp2
           go_roundg kj4
           case measure => have := HK1.out; have := HJ4.out; omega
           case rel => exact ⟨(x3_1), (wrap64 (x8_1 + 1)), zz0, H', ⟨(zz26 HK1 HJ4)⟩, ⟨(zz9 HO_3)⟩, ⟨(zz4 HB)⟩⟩
         ·rw [if_neg c8] at H
          have c8b0 : ((rdOf ByteArray.empty l0 x8_1).toList == ([46, 46] : List UInt8)) = false := beq_eq_false_iff_ne.mpr c8;have c8b1 : ((rdOf ByteArray.empty l0 x8_1).toList != ([46, 46] : List UInt8)) = true := bne_iff_ne.mpr c8;by_cases c16 : x3_1.length < 8796093022208
          ·rw [if_pos c16] at H
           have LMc16 := Aside0.mk c16;clear c16;obtain ⟨y412, Ny412⟩ := toY (x3_1 ++ [(rdOf ByteArray.empty l0 x8_1)]);(first | with_reducible replace H := bindZ Ny412 H | rw [← Ny412.out] at H | skip)
           have H' := Aside0.mk H;clear H;go_wp2_with (first | ((with_reducible refine gate_builtin (b := .append) (xs := #[.tmp 26, .tmp 28]) rfl ?_); at_builtin; refine Kd.R_append Kd.string (w0 := w) w.heap.size rfl (.tmp 26) (.tmp 28) 22 9 (.string ⟨#[]⟩) 16 rfl Tryz.underlying22 info9 rfl (by decide) (by omega) u3 x3_1 (rdOf ByteArray.empty l0 x8_1) [.string (rdOf ByteArray.empty l0 x8_1)] (fun _ => True) (fun _ => False) rfl rfl ?aP (fun _ hk => hk.elim) ?aF ?aO ?aB ?aS ?aL ?_; (case aP => exact rfl); (case aB => exact (zz4 HB)); (case aF => exact (fun _ _ => trivial)); (case aO => exact (zz9 HO_3)); (case aS => exact (below_size (zz4 HB))); (case aL => exact (zz3 LMc16)); intro v413 w17 ho hb hg hat; rw [← Ny412.out] at ho; have n0_ := Aside0.mk (hb); have n1_ := Aside0.mk (ho); clear HB; clear HO_3; have HB := n0_; have HO414 := n1_; clear n0_ n1_; clear ho hb hg hat))
           go_roundg kj4
           case measure => have := HK1.out; have := HJ4.out; omega
           case rel => exact ⟨(y412), (wrap64 (x8_1 + 1)), zz0, H', ⟨(zz26 HK1 HJ4)⟩, ⟨(zz9 HO414)⟩, ⟨(zz4 HB)⟩⟩
          ·rw [if_neg c16] at H
           exact absurd H (by simp)
     ·rw [if_neg c4] at H
      exact absurd H (by simp)
    ·rw [if_neg c3] at H
     exact absurd H (by simp)
   ·rw [if_neg c2] at H
    have c2b0 : decide (x8_1 < (l0.length : Int)) = false := decide_eq_false c2;clear c2;obtain rfl := Option.some.inj H;go_wp2
    go_ret
    exact ⟨_, zz5, (zz9 HO_3), (zz4 HB)⟩
end Go.Proofs.YtgjfegfopjfdpaaGreatDoor.P
end
section
namespace Go.Proofs.YtgjfegfopjfdpaaGreatDoor.P
open Go.RowKit Go.Proofs.YtgjfegfopjfdpaaGreatDoorW.PrintWords Go.Proofs.YtgjfegfopjfdpaaGreatDoorW.PrintLast Go.Proofs.YtgjfegfopjfdpaaGreatDoorW.PrintMore Go.Proofs.YtgjfegfopjfdpaaGreatDoor.B Go.Proofs.YtgjfegfopjfdpaaGreatDoor.Ad
set_option linter.unusedVariables false
set_option linter.unusedSimpArgs false
def slices_Clone_string_string.f (l0 : List ByteArray) : Option (List ByteArray) := if l0.length * 16 ≤ 140737488355328 then some l0 else none
theorem slices_Clone_string_string.calls (A0 : Option Addr) (c0 : Nat) (l0 : List ByteArray) (r : List ByteArray) (w : World) (hr0 : Kd.C Kd.string w A0 l0.length l0) (hc0 : l0.length ≤ c0) (h : slices_Clone_string_string.f l0 = some r) :
  Calls Tryz.prog 51 #[.slice A0 l0.length c0] w fun e w' => ∃ v0_ : Value, e = .returned (v0_) ∧ Kd.R Kd.string 9 w' w.heap.size (fun _ => True) v0_ r ∧ Below w.heap.size w w' := by
 unfold slices_Clone_string_string.f at h
 split at h
 ·rename_i hh
  obtain rfl := Option.some.inj h
  rcases Nat.eq_zero_or_pos l0.length with h0 | h0
  ·obtain rfl : l0 = [] := List.length_eq_zero_iff.1 h0
   cases A0 with
   | none => exact (Tryz.slices_Clone_string_nil 0 c0 w).mono fun e w' ⟨he, hw⟩ => ⟨_, he, Kd.R_nil _ _ _ _ _, hw ▸ Below.refl _ _⟩
   | some a => exact (Tryz.slices_Clone_string_zero a c0 w).mono fun e w' ⟨v, he, ho, _, hb⟩ => ⟨v, he, Kd.R_of_own ho (fun _ _ => trivial), hb⟩
  ·obtain ⟨bk, o, rfl, hb, hcells⟩ := row_at hr0 h0
   refine (Tryz.slices_Clone_string bk o l0.length c0 l0 w (Nat.le_refl _) hh (fun j hj => ?_)).mono fun e w' ⟨v, he, ho, _, hb'⟩ => ⟨v, he, Kd.R_of_own ?_ (fun _ _ => trivial), hb'⟩
   ·rw [List.getD_eq_getElem?_getD, List.getElem?_eq_getElem hj]
    exact hcells j _ (List.getElem?_eq_getElem hj)
   ·rw [List.take_length] at ho
    exact ho
 ·cases h
end Go.Proofs.YtgjfegfopjfdpaaGreatDoor.P
end
section
namespace Go.Proofs.YtgjfegfopjfdpaaGreatDoor.P
open Go.RowKit Go.Proofs.YtgjfegfopjfdpaaGreatDoorW.PrintWords Go.Proofs.YtgjfegfopjfdpaaGreatDoorW.PrintLast Go.Proofs.YtgjfegfopjfdpaaGreatDoorW.PrintMore
attribute [local go_sem] max2_int min2_int max_two min_two max_three min_three max_four min_four
set_option linter.unusedVariables false
set_option linter.unusedSimpArgs false
def impl_readWay.l0 : Nat → ByteArray → ByteArray → Bool → List ByteArray → List ByteArray → Int → Int → Option (ByteArray × List ByteArray × Bool × ByteArray × Bool)
 | 0, _, _, _, _, _, _, _ => none
 | k + 1, x0, x9, x10, x12, x35, x36, x37 => if x37 < x36 then (if 0 ≤ x37 then (if x37 < (x35.length : Int) then ((impl_EscNorm.f k (rdOf ByteArray.empty x35 x37)).bind fun bt428 => (if bt428.2 = true then (if x12.length < 8796093022208 then (impl_readWay.l0 k x0 x9 x10 (x12 ++ [bt428.1]) x35 x36 (wrap64 (x37 + 1))) else (none)) else (some ((⟨#[]⟩ : ByteArray), ([] : List ByteArray), false, (⟨#[]⟩ : ByteArray), false)))) else (none)) else (none)) else ((impl_PathClean.f k x12).bind fun t433 => ((impl_AddrOk.f k x0 t433 x10 x9).bind fun t437 => (if t437 = true then (some (x0, t433, x10, x9, true)) else (some ((⟨#[]⟩ : ByteArray), ([] : List ByteArray), false, (⟨#[]⟩ : ByteArray), false)))))
def impl_readWay.f (k : Nat) (a0 : ByteArray) (l1 : List ByteArray) (a2 : ByteArray) : Option (ByteArray × List ByteArray × Bool × ByteArray × Bool) := (strings_Cut.f a2 (⟨#[63]⟩ : ByteArray)).bind fun bt416 => ((impl_EscNorm.f k bt416.2.1).bind fun bt419 => (if bt419.2 = true then ((slices_Clone_string_string.f l1).bind fun t421 => ((strings_Split.f k bt416.1 (⟨#[47]⟩ : ByteArray)).bind fun t424 => (impl_readWay.l0 k a0 bt419.1 bt416.2.2 t421 t424 (t424.length : Int) 0))) else (some ((⟨#[]⟩ : ByteArray), ([] : List ByteArray), false, (⟨#[]⟩ : ByteArray), false))))
set_option maxHeartbeats 8000000 in
set_option maxRecDepth 100000 in
theorem impl_readWay.calls (k : Nat) (a0 : ByteArray) (A1 : Option Addr) (c1 : Nat) (l1 : List ByteArray) (a2 : ByteArray) (r1 : ByteArray) (r2 : List ByteArray) (r3 : Bool) (r4 : ByteArray) (r5 : Bool) (w : World) (hr1 : Kd.C Kd.string w A1 l1.length l1) (hc1 : l1.length ≤ c1) (h : impl_readWay.f k a0 l1 a2 = some (r1, r2, r3, r4, r5)) :
  Calls Tryz.prog 52 #[.string a0, .slice A1 l1.length c1, .string a2] w fun e w' => ∃ v1_ : Value, e = .returned (.tuple #[.agg #[.string r1, v1_, .bool r3, .string r4], .bool r5]) ∧ Kd.R Kd.string 9 w' w.heap.size (fun _ => True) v1_ r2 ∧ Below w.heap.size w w' := by
 have hu27 := Tryz.underlying27;have HR1 := Aside0.mk hr1;have HC1 := Aside0.mk hc1;clear hr1 hc1;have HB := Aside0.mk (Below.refl w.heap.size w);have H : ((strings_Cut.f a2 (⟨#[63]⟩ : ByteArray)).bind fun bt416 => ((impl_EscNorm.f k bt416.2.1).bind fun bt419 => (if bt419.2 = true then ((slices_Clone_string_string.f l1).bind fun t421 => ((strings_Split.f k bt416.1 (⟨#[47]⟩ : ByteArray)).bind fun t424 => (impl_readWay.l0 k a0 bt419.1 bt416.2.2 t421 t424 (t424.length : Int) 0))) else (some ((⟨#[]⟩ : ByteArray), ([] : List ByteArray), false, (⟨#[]⟩ : ByteArray), false))))) = some (r1, r2, r3, r4, r5) := h;clear h;replace H := bindA H;obtain ⟨⟨t416, t417, t418⟩, A4, H⟩ := H;try dsimp -simprocs only at H
 replace H := bindA H;obtain ⟨⟨t419, t420⟩, A5, H⟩ := H;try dsimp -simprocs only at H
 by_cases c6 : t420 = true
 ·subst c6
  rw [if_pos rfl] at H;replace H := bindA H;obtain ⟨t421, A7, H⟩ := H;replace H := bindA H;obtain ⟨t424, A8, H⟩ := H;have H' := Aside0.mk H;clear H;go_enter Tryz.func52, Tryz.ntmps52;go_wp2_with (first | ((with_reducible refine gate_dst (N := 6) rfl ?_); refine boxE 6 #[.string (⟨#[]⟩ : ByteArray), .slice none 0 0, .bool false, .string (⟨#[]⟩ : ByteArray)] 27 ?_; intro gb415 hg w9 hbox hb; have n0_ := Aside0.mk (below_step (zz4 HB) hb); have n1_ := Aside0.mk (hbox); have n2_ := Aside0.mk ((by rw [hg]; exact (below_size (zz4 HB)) : w.heap.size ≤ gb415)); have n3_ := Aside0.mk ((by rw [hg]; exact (below_size (zz4 HB)) : w.heap.size ≤ gb415)); clear HB; have HB := n0_; have BK415 := n1_; have GW415 := n2_; have GE415 := n3_; clear n0_ n1_ n2_ n3_; clear hb hbox hg) | ((with_reducible refine gate_callee (f := 48) rfl ?_); refine gsL (some 20) Tryz.func48 #[.string a2, .string (⟨#[63]⟩ : ByteArray)] ?_; (with_reducible refine (strings_Cut.calls a2 (⟨#[63]⟩ : ByteArray) t416 t417 t418 _ A4.out).mono ?_); rintro e w10 ⟨rfl, hb⟩; refine ⟨_, rfl, ?_⟩; have n0_ := Aside0.mk (blk_below (zz27 BK415) hb); have n1_ := Aside0.mk (below_step (zz6 HB GE415) hb); clear BK415; clear HB; have BK415 := n0_; have HB := n1_; clear n0_ n1_; (try clear hb)) | ((with_reducible refine gate_callee (f := 78) rfl ?_); refine gsL (some 26) Tryz.func78 #[.string t417] ?_; (with_reducible refine (impl_EscNorm.calls k t417 t419 true _ A5.out).mono ?_); rintro e w11 ⟨rfl, hb⟩; refine ⟨_, rfl, ?_⟩; have n0_ := Aside0.mk (blk_below (zz27 BK415) hb); have n1_ := Aside0.mk (below_step (zz6 HB GE415) hb); clear BK415; clear HB; have BK415 := n0_; have HB := n1_; clear n0_ n1_; (try clear hb)) | ((with_reducible refine gate_callee (f := 51) rfl ?_); refine gsL (some 33) Tryz.func51 #[.slice A1 l1.length c1] ?_; (with_reducible refine (slices_Clone_string_string.calls _ _ l1 t421 _ ?side1 ?side2 A7.out).mono ?_); (case side1 => exact (zz7 HR1 HB)); (case side2 => exact HC1.out); rintro e w12 ⟨v422, rfl, ho0, hb⟩; refine ⟨_, rfl, ?_⟩; have n0_ := Aside0.mk (Kd.R_lower ho0 (below_size (zz6 HB GE415))); have n1_ := Aside0.mk (blk_below (zz27 BK415) hb); have n2_ := Aside0.mk (below_step (zz6 HB GE415) hb); clear BK415; clear HB; have HO423 := n0_; have BK415 := n1_; have HB := n2_; clear n0_ n1_ n2_; (try clear hb ho0)) | ((with_reducible refine gate_callee (f := 79) rfl ?_); refine gsL (some 35) Tryz.func79 #[.string t416, .string (⟨#[47]⟩ : ByteArray)] ?_; (with_reducible refine (strings_Split.calls k t416 (⟨#[47]⟩ : ByteArray) t424 _ A8.out).mono ?_); rintro e w13 ⟨v425, rfl, ho0, hb⟩; refine ⟨_, rfl, ?_⟩; have n0_ := Aside0.mk (Kd.R_elder' (zz9 HO423) (Kd.R_base ho0) hb); have n1_ := Aside0.mk (Kd.R_lower (Kd.R_new' ho0 (Kd.R_lt (zz9 HO423))) (below_size (zz6 HB GE415))); have n2_ := Aside0.mk (blk_below (zz27 BK415) hb); have n3_ := Aside0.mk (below_step (zz6 HB GE415) hb); clear HO423; clear BK415; clear HB; have HO423 := n0_; have HO426 := n1_; have BK415 := n2_; have HB := n3_; clear n0_ n1_ n2_ n3_; (try clear hb ho0); obtain ⟨Ao14, co14, eo14⟩ := Kd.R_slice HO426.out; subst eo14))
  go_loopg [12, 37] k (fun kq v12 v37 w' => ∃ (x12_1 : List ByteArray) (x37_1 : Int) (x416000_1 : ByteArray) (x416002_1 : Bool) (x416003_1 : ByteArray), v37 = .int .i64 x37_1 ∧ Aside0 (impl_readWay.l0 kq a0 t419 t418 x12_1 t424 (t424.length : Int) x37_1 = some (r1, r2, r3, r4, r5)) ∧ Aside0 (kq ≤ k) ∧ Aside0 (Kd.R Kd.string 9 w' w.heap.size (fun k_ => some k_ ≠ ((.slice Ao14 t424.length co14) : Value).ownBlock) v12 x12_1) ∧ Aside0 (Kd.R Kd.string 9 w' w.heap.size (fun k_ => some k_ ≠ (v12 : Value).ownBlock) (.slice Ao14 t424.length co14) t424) ∧ Aside0 (w'.heap[gb415]? = some (.cells #[.string x416000_1, (.slice none 0 0), .bool x416002_1, .string x416003_1] 27 (0, 0))) ∧ Aside0 (Below w.heap.size w w'))
  case atStart => exact ⟨(t421), (0), ((⟨#[]⟩ : ByteArray)), (false), ((⟨#[]⟩ : ByteArray)), zz0, H', ⟨Nat.le_refl _⟩, ⟨(zz39 HO423)⟩, ⟨(zz39 HO426)⟩, ⟨(zz27 BK415)⟩, ⟨(zz6 HB GE415)⟩⟩
  case round =>
   clear H';obtain ⟨x12_1, x37_1, x416000_1, x416002_1, x416003_1, rfl, HA, HK1, HO_12, HO_35, BK415, HB⟩ := hrel;cases gk with
   | zero => exact absurd HA.out (by simp [impl_readWay.l0])
   | succ k1 =>
    have H := HA.out;clear HA;simp only [impl_readWay.l0] at H
    by_cases c15 : x37_1 < (t424.length : Int)
    ·rw [if_pos c15] at H
     have c15b0 : decide (x37_1 < (t424.length : Int)) = true := decide_eq_true c15;clear c15;by_cases c16 : 0 ≤ x37_1
     ·rw [if_pos c16] at H
      have c16b0 : decide (0 ≤ x37_1) = true := decide_eq_true c16;clear c16;by_cases c17 : x37_1 < (t424.length : Int)
      ·rw [if_pos c17] at H
       have c17b0 : decide (x37_1 < (t424.length : Int)) = true := decide_eq_true c17;clear c17;replace H := bindA H;obtain ⟨⟨t428, t429⟩, A18, H⟩ := H;try dsimp -simprocs only at H
       by_cases c19 : t429 = true
       ·subst c19
        rw [if_pos rfl] at H;by_cases c20 : x12_1.length < 8796093022208
        ·rw [if_pos c20] at H
         have LMc20 := Aside0.mk c20;clear c20;obtain ⟨y430, Ny430⟩ := toY (x12_1 ++ [t428]);(first | with_reducible replace H := bindZ Ny430 H | rw [← Ny430.out] at H | skip)
         have H' := Aside0.mk H;clear H;have p427 : 0 ≤ (x37_1 : Int) := ofD;have q427 : x37_1 < (t424.length : Int) := ofD;obtain ⟨ad427, e427, hx427_0⟩ := Kd.at_string (Kd.R_reads' HO_35.out).2.2 x37_1 p427 q427;cases e427
         replace p427 := eq_true p427;replace q427 := eq_true q427;go_wp2_with (first | ((with_reducible refine gate_callee (f := 78) rfl ?_); refine gsL (some 43) Tryz.func78 #[.string (rdOf ByteArray.empty t424 x37_1)] ?_; (with_reducible refine (impl_EscNorm.calls k1 (rdOf ByteArray.empty t424 x37_1) t428 true _ A18.out).mono ?_); rintro e w21 ⟨rfl, hb⟩; refine ⟨_, rfl, ?_⟩; have n0_ := Aside0.mk (Kd.R_below (zz9 HO_12) hb); have n1_ := Aside0.mk (Kd.R_below (zz9 HO_35) hb); have n2_ := Aside0.mk (blk_below (zz27 BK415) hb); have n3_ := Aside0.mk (below_step (zz6 HB GE415) hb); clear HO_12; clear HO_35; clear BK415; clear HB; have HO_12 := n0_; have HO_35 := n1_; have BK415 := n2_; have HB := n3_; clear n0_ n1_ n2_ n3_; (try clear hb)) | ((with_reducible refine gate_builtin (b := .append) (xs := #[.tmp 49, .tmp 51]) rfl ?_); at_builtin; refine Kd.R_append Kd.string (w0 := w) w.heap.size rfl (.tmp 49) (.tmp 51) 22 9 (.string ⟨#[]⟩) 16 rfl Tryz.underlying22 info9 rfl (by decide) (by omega) u12 x12_1 t428 [.string t428] (fun k_ => some k_ ≠ (.slice (some ad427) t424.length co14 : Value).ownBlock) (fun _ => False) rfl rfl ?aP (fun _ hk => hk.elim) ?aF ?aO ?aB ?aS ?aL ?_; (case aP => exact rfl); (case aB => exact (zz6 HB GE415)); (case aF => exact (fun k_ hk => Kd.fresh' (Kd.R_lt (zz9 HO_35)) k_ hk)); (case aO => exact (zz9 HO_12)); (case aS => exact (below_size (zz6 HB GE415))); (case aL => exact (zz3 LMc20)); intro v431 w22 ho hb hg hat; rw [← Ny430.out] at ho; have n0_ := Aside0.mk (Kd.R_after (ok := (fun _ => True)) (zz41 HO_35) hg hat); have n1_ := Aside0.mk (blk_grown (zz27 BK415) hg (Kd.R_ne HO_12.out BK415.out (by decide))); have n2_ := Aside0.mk (hb); have n3_ := Aside0.mk (ho); clear HO_35; clear BK415; clear HB; clear HO_12; have HO_35 := n0_; have BK415 := n1_; have HB := n2_; have HO432 := n3_; clear n0_ n1_ n2_ n3_; clear ho hb hg hat))
         go_roundg k1
         case measure => have := HK1.out; omega
         case rel => exact ⟨(y430), (wrap64 (x37_1 + 1)), (x416000_1), (x416002_1), (x416003_1), zz0, H', ⟨(zz3 HK1)⟩, ⟨(zz9 HO432)⟩, ⟨(zz39 HO_35)⟩, ⟨(zz27 BK415)⟩, ⟨(zz6 HB GE415)⟩⟩
        ·rw [if_neg c20] at H
         exact absurd H (by simp)
       ·replace c19 := Bool.eq_false_iff.mpr c19
        subst c19;rw [if_neg (show ¬ (false = true) by decide)] at H;simp only [Option.some.injEq, Prod.mk.injEq] at H
        obtain ⟨rfl, rfl, rfl, rfl, rfl⟩ := H;have p427 : 0 ≤ (x37_1 : Int) := ofD;have q427 : x37_1 < (t424.length : Int) := ofD;obtain ⟨ad427, e427, hx427_0⟩ := Kd.at_string (Kd.R_reads' HO_35.out).2.2 x37_1 p427 q427;cases e427
        replace p427 := eq_true p427;replace q427 := eq_true q427;go_wp2_with (first | ((with_reducible refine gate_callee (f := 78) rfl ?_); refine gsL (some 43) Tryz.func78 #[.string (rdOf ByteArray.empty t424 x37_1)] ?_; (with_reducible refine (impl_EscNorm.calls k1 (rdOf ByteArray.empty t424 x37_1) t428 false _ A18.out).mono ?_); rintro e w23 ⟨rfl, hb⟩; refine ⟨_, rfl, ?_⟩; have n0_ := Aside0.mk (Kd.R_below (zz9 HO_12) hb); have n1_ := Aside0.mk (Kd.R_below (zz9 HO_35) hb); have n2_ := Aside0.mk (blk_below (zz27 BK415) hb); have n3_ := Aside0.mk (below_step (zz6 HB GE415) hb); clear HO_12; clear HO_35; clear BK415; clear HB; have HO_12 := n0_; have HO_35 := n1_; have BK415 := n2_; have HB := n3_; clear n0_ n1_ n2_ n3_; (try clear hb); obtain ⟨_, _, _, _, _, _, _, _⟩ := cf4 BK415))
        refine bodyPost_ret (results_ct rfl _ _ gb415 27 #[.string (⟨#[]⟩ : ByteArray), .slice none 0 0, .bool false, .string (⟨#[]⟩ : ByteArray)] (0, 0) _ rfl (zz42 BK415) Tryz.underlying27 rfl (by kernel_rfl)) rfl ?_;exact ⟨_, zz5, zz43, (zz6 HB GE415)⟩
      ·rw [if_neg c17] at H
       exact absurd H (by simp)
     ·rw [if_neg c16] at H
      exact absurd H (by simp)
    ·rw [if_neg c15] at H
     have c15b0 : decide (x37_1 < (t424.length : Int)) = false := decide_eq_false c15;clear c15;replace H := bindA H;obtain ⟨t433, A25, H⟩ := H;replace H := bindA H;obtain ⟨t437, A26, H⟩ := H;by_cases c27 : t437 = true
     ·subst c27
      rw [if_pos rfl] at H;simp only [Option.some.injEq, Prod.mk.injEq] at H
      obtain ⟨rfl, rfl, rfl, rfl, rfl⟩ := H;obtain ⟨Ao28, co28, eo28⟩ := Kd.R_slice HO_12.out;subst eo28;go_wp2_with (first | ((with_reducible refine gate_callee (f := 80) rfl ?_); refine gsL (some 56) Tryz.func80 #[.slice Ao28 x12_1.length co28] ?_; (with_reducible refine (impl_PathClean.calls k1 _ _ x12_1 t433 _ ?side1 ?side2 A25.out).mono ?_); (case side1 => exact (zz44 HO_12)); (case side2 => exact (Kd.R_reads' HO_12.out).2.1); rintro e w29 ⟨v434, rfl, ho0, hb⟩; refine ⟨_, rfl, ?_⟩; have n0_ := Aside0.mk (Kd.R_elder' (zz9 HO_12) (Kd.R_base ho0) hb); have n1_ := Aside0.mk (Kd.R_elder' (zz9 HO_35) (Kd.R_base ho0) hb); have n2_ := Aside0.mk (Kd.R_lower (Kd.R_new' (Kd.R_new' ho0 (Kd.R_lt (zz9 HO_12))) (Kd.R_lt (zz9 HO_35))) (below_size (zz6 HB GE415))); have n3_ := Aside0.mk (blk_below (zz27 BK415) hb); have n4_ := Aside0.mk (below_step (zz6 HB GE415) hb); clear HO_12; clear HO_35; clear BK415; clear HB; have HO_12 := n0_; have HO_35 := n1_; have HO435 := n2_; have BK415 := n3_; have HB := n4_; clear n0_ n1_ n2_ n3_ n4_; (try clear hb ho0); obtain ⟨Ao30, co30, eo30⟩ := Kd.R_slice HO435.out; subst eo30) | ((with_reducible refine gate_dst (N := 17) rfl ?_); refine boxE 17 #[.string (⟨#[]⟩ : ByteArray), .slice none 0 0, .bool false, .string (⟨#[]⟩ : ByteArray)] 27 ?_; intro gb436 hg w31 hbox hb; have n0_ := Aside0.mk (Kd.R_below (zz9 HO_12) hb); have n1_ := Aside0.mk (Kd.R_below (zz9 HO_35) hb); have n2_ := Aside0.mk (Kd.R_below (zz9 HO435) hb); have n3_ := Aside0.mk (blk_below (zz27 BK415) hb); have n4_ := Aside0.mk (below_step (zz6 HB GE415) hb); have n5_ := Aside0.mk (hbox); have n6_ := Aside0.mk ((by rw [hg]; exact (below_size (zz6 HB GE415)) : w.heap.size ≤ gb436)); have n7_ := Aside0.mk ((by rw [hg]; exact (below_size (zz6 HB GE415)) : w.heap.size ≤ gb436)); have n8_ := Aside0.mk ((by rw [hg]; exact Nat.ne_of_lt (blk_lt (zz27 BK415)) : gb415 ≠ gb436)); have n9_ := Aside0.mk ((by rw [hg]; exact Nat.ne_of_gt (blk_lt (zz27 BK415)) : gb436 ≠ gb415)); clear HO_12; clear HO_35; clear HO435; clear BK415; clear HB; have HO_12 := n0_; have HO_35 := n1_; have HO435 := n2_; have BK415 := n3_; have HB := n4_; have BK436 := n5_; have GW436 := n6_; have GE436 := n7_; have NB415_436 := n8_; have NB436_415 := n9_; clear n0_ n1_ n2_ n3_ n4_ n5_ n6_ n7_ n8_ n9_; clear hb hbox hg; have hnb32 := NB436_415.out; have hnc32 := NB415_436.out; obtain ⟨_, _, _, _, _, _, _, _⟩ := cf4 BK436) | ((with_reducible refine gate_callee (f := 34) rfl ?_); refine gsL (some 61) Tryz.func34 #[.agg #[.string a0, .slice Ao30 t433.length co30, .bool t418, .string t419]] ?_; (with_reducible refine (impl_AddrOk.calls k1 a0 _ _ t433 t418 t419 true _ ?side1 ?side2 A26.out).mono ?_); (case side1 => exact (by refine (Kd.R_reads' (e := 9) (base := w.heap.size) (ok := fun k_ => ((True ∧ some k_ ≠ (.slice Ao28 x12_1.length co28 : Value).ownBlock) ∧ some k_ ≠ (.slice Ao14 t424.length co14 : Value).ownBlock)) (n := t433.length) (c := co30) ?_).2.2; exact (zz116 HO435 BK436))); (case side2 => exact (Kd.R_reads' HO435.out).2.1); rintro e w34 ⟨rfl, hb⟩; refine ⟨_, rfl, ?_⟩; have n0_ := Aside0.mk (Kd.R_below (zz116 HO_12 BK436) hb); have n1_ := Aside0.mk (Kd.R_below (zz116 HO_35 BK436) hb); have n2_ := Aside0.mk (Kd.R_below (zz116 HO435 BK436) hb); have n3_ := Aside0.mk (blk_below (g := gb415) (o := .cells #[.string x416000_1, .slice none 0 0, .bool x416002_1, .string x416003_1] 27 (0, 0)) (zz50 BK415 NB415_436) hb); have n4_ := Aside0.mk (blk_below (g := gb436) (o := .cells #[.string a0, .slice Ao30 t433.length co30, .bool t418, .string t419] 27 (0, 0)) (zz42 BK436) hb); have n5_ := Aside0.mk (below_step (zz38 HB GE415 GE436) hb); clear HO_12; clear HO_35; clear HO435; clear BK415; clear BK436; clear HB; have HO_12 := n0_; have HO_35 := n1_; have HO435 := n2_; have BK415 := n3_; have BK436 := n4_; have HB := n5_; clear n0_ n1_ n2_ n3_ n4_ n5_; (try clear hb); obtain ⟨_, _, _, _, _, _, _, _⟩ := cf4 BK436; obtain ⟨_, _, _, _, _, _, _, _⟩ := cf4 BK415))
      refine bodyPost_ret (results_ct rfl _ _ gb415 27 #[.string a0, .slice Ao30 t433.length co30, .bool t418, .string t419] (0, 0) _ rfl (zz42 BK415) Tryz.underlying27 rfl (by kernel_rfl)) rfl ?_;exact ⟨_, zz5, (zz51 (rt HO435 BK415)), (zz38 HB GE415 GE436)⟩
     ·replace c27 := Bool.eq_false_iff.mpr c27
      subst c27;rw [if_neg (show ¬ (false = true) by decide)] at H;simp only [Option.some.injEq, Prod.mk.injEq] at H
      obtain ⟨rfl, rfl, rfl, rfl, rfl⟩ := H;obtain ⟨Ao37, co37, eo37⟩ := Kd.R_slice HO_12.out;subst eo37;go_wp2_with (first | ((with_reducible refine gate_callee (f := 80) rfl ?_); refine gsL (some 56) Tryz.func80 #[.slice Ao37 x12_1.length co37] ?_; (with_reducible refine (impl_PathClean.calls k1 _ _ x12_1 t433 _ ?side1 ?side2 A25.out).mono ?_); (case side1 => exact (zz44 HO_12)); (case side2 => exact (Kd.R_reads' HO_12.out).2.1); rintro e w38 ⟨v434, rfl, ho0, hb⟩; refine ⟨_, rfl, ?_⟩; have n0_ := Aside0.mk (Kd.R_elder' (zz9 HO_12) (Kd.R_base ho0) hb); have n1_ := Aside0.mk (Kd.R_elder' (zz9 HO_35) (Kd.R_base ho0) hb); have n2_ := Aside0.mk (Kd.R_lower (Kd.R_new' (Kd.R_new' ho0 (Kd.R_lt (zz9 HO_12))) (Kd.R_lt (zz9 HO_35))) (below_size (zz6 HB GE415))); have n3_ := Aside0.mk (blk_below (zz27 BK415) hb); have n4_ := Aside0.mk (below_step (zz6 HB GE415) hb); clear HO_12; clear HO_35; clear BK415; clear HB; have HO_12 := n0_; have HO_35 := n1_; have HO435 := n2_; have BK415 := n3_; have HB := n4_; clear n0_ n1_ n2_ n3_ n4_; (try clear hb ho0); obtain ⟨Ao39, co39, eo39⟩ := Kd.R_slice HO435.out; subst eo39) | ((with_reducible refine gate_dst (N := 17) rfl ?_); refine boxE 17 #[.string (⟨#[]⟩ : ByteArray), .slice none 0 0, .bool false, .string (⟨#[]⟩ : ByteArray)] 27 ?_; intro gb436 hg w40 hbox hb; have n0_ := Aside0.mk (Kd.R_below (zz9 HO_12) hb); have n1_ := Aside0.mk (Kd.R_below (zz9 HO_35) hb); have n2_ := Aside0.mk (Kd.R_below (zz9 HO435) hb); have n3_ := Aside0.mk (blk_below (zz27 BK415) hb); have n4_ := Aside0.mk (below_step (zz6 HB GE415) hb); have n5_ := Aside0.mk (hbox); have n6_ := Aside0.mk ((by rw [hg]; exact (below_size (zz6 HB GE415)) : w.heap.size ≤ gb436)); have n7_ := Aside0.mk ((by rw [hg]; exact (below_size (zz6 HB GE415)) : w.heap.size ≤ gb436)); have n8_ := Aside0.mk ((by rw [hg]; exact Nat.ne_of_lt (blk_lt (zz27 BK415)) : gb415 ≠ gb436)); have n9_ := Aside0.mk ((by rw [hg]; exact Nat.ne_of_gt (blk_lt (zz27 BK415)) : gb436 ≠ gb415)); clear HO_12; clear HO_35; clear HO435; clear BK415; clear HB; have HO_12 := n0_; have HO_35 := n1_; have HO435 := n2_; have BK415 := n3_; have HB := n4_; have BK436 := n5_; have GW436 := n6_; have GE436 := n7_; have NB415_436 := n8_; have NB436_415 := n9_; clear n0_ n1_ n2_ n3_ n4_ n5_ n6_ n7_ n8_ n9_; clear hb hbox hg; have hnb41 := NB436_415.out; have hnc41 := NB415_436.out; obtain ⟨_, _, _, _, _, _, _, _⟩ := cf4 BK436) | ((with_reducible refine gate_callee (f := 34) rfl ?_); refine gsL (some 61) Tryz.func34 #[.agg #[.string a0, .slice Ao39 t433.length co39, .bool t418, .string t419]] ?_; (with_reducible refine (impl_AddrOk.calls k1 a0 _ _ t433 t418 t419 false _ ?side1 ?side2 A26.out).mono ?_); (case side1 => exact (by refine (Kd.R_reads' (e := 9) (base := w.heap.size) (ok := fun k_ => ((True ∧ some k_ ≠ (.slice Ao37 x12_1.length co37 : Value).ownBlock) ∧ some k_ ≠ (.slice Ao14 t424.length co14 : Value).ownBlock)) (n := t433.length) (c := co39) ?_).2.2; exact (zz118 HO435 BK436))); (case side2 => exact (Kd.R_reads' HO435.out).2.1); rintro e w43 ⟨rfl, hb⟩; refine ⟨_, rfl, ?_⟩; have n0_ := Aside0.mk (Kd.R_below (zz118 HO_12 BK436) hb); have n1_ := Aside0.mk (Kd.R_below (zz118 HO_35 BK436) hb); have n2_ := Aside0.mk (Kd.R_below (zz118 HO435 BK436) hb); have n3_ := Aside0.mk (blk_below (g := gb415) (o := .cells #[.string x416000_1, .slice none 0 0, .bool x416002_1, .string x416003_1] 27 (0, 0)) (zz50 BK415 NB415_436) hb); have n4_ := Aside0.mk (blk_below (g := gb436) (o := .cells #[.string a0, .slice Ao39 t433.length co39, .bool t418, .string t419] 27 (0, 0)) (zz42 BK436) hb); have n5_ := Aside0.mk (below_step (zz38 HB GE415 GE436) hb); clear HO_12; clear HO_35; clear HO435; clear BK415; clear BK436; clear HB; have HO_12 := n0_; have HO_35 := n1_; have HO435 := n2_; have BK415 := n3_; have BK436 := n4_; have HB := n5_; clear n0_ n1_ n2_ n3_ n4_ n5_; (try clear hb); obtain ⟨_, _, _, _, _, _, _, _⟩ := cf4 BK415))
      refine bodyPost_ret (results_ct rfl _ _ gb415 27 #[.string (⟨#[]⟩ : ByteArray), .slice none 0 0, .bool false, .string (⟨#[]⟩ : ByteArray)] (0, 0) _ rfl (zz42 BK415) Tryz.underlying27 rfl (by kernel_rfl)) rfl ?_;exact ⟨_, zz5, zz43, (zz38 HB GE415 GE436)⟩
 ·replace c6 := Bool.eq_false_iff.mpr c6
  subst c6;rw [if_neg (show ¬ (false = true) by decide)] at H;simp only [Option.some.injEq, Prod.mk.injEq] at H
  obtain ⟨rfl, rfl, rfl, rfl, rfl⟩ := H;go_enter Tryz.func52, Tryz.ntmps52;go_wp2_with (first | ((with_reducible refine gate_dst (N := 6) rfl ?_); refine boxE 6 #[.string (⟨#[]⟩ : ByteArray), .slice none 0 0, .bool false, .string (⟨#[]⟩ : ByteArray)] 27 ?_; intro gb415 hg w45 hbox hb; have n0_ := Aside0.mk (below_step (zz4 HB) hb); have n1_ := Aside0.mk (hbox); have n2_ := Aside0.mk ((by rw [hg]; exact (below_size (zz4 HB)) : w.heap.size ≤ gb415)); have n3_ := Aside0.mk ((by rw [hg]; exact (below_size (zz4 HB)) : w.heap.size ≤ gb415)); clear HB; have HB := n0_; have BK415 := n1_; have GW415 := n2_; have GE415 := n3_; clear n0_ n1_ n2_ n3_; clear hb hbox hg) | ((with_reducible refine gate_callee (f := 48) rfl ?_); refine gsL (some 20) Tryz.func48 #[.string a2, .string (⟨#[63]⟩ : ByteArray)] ?_; (with_reducible refine (strings_Cut.calls a2 (⟨#[63]⟩ : ByteArray) t416 t417 t418 _ A4.out).mono ?_); rintro e w46 ⟨rfl, hb⟩; refine ⟨_, rfl, ?_⟩; have n0_ := Aside0.mk (blk_below (zz27 BK415) hb); have n1_ := Aside0.mk (below_step (zz6 HB GE415) hb); clear BK415; clear HB; have BK415 := n0_; have HB := n1_; clear n0_ n1_; (try clear hb)) | ((with_reducible refine gate_callee (f := 78) rfl ?_); refine gsL (some 26) Tryz.func78 #[.string t417] ?_; (with_reducible refine (impl_EscNorm.calls k t417 t419 false _ A5.out).mono ?_); rintro e w47 ⟨rfl, hb⟩; refine ⟨_, rfl, ?_⟩; have n0_ := Aside0.mk (blk_below (zz27 BK415) hb); have n1_ := Aside0.mk (below_step (zz6 HB GE415) hb); clear BK415; clear HB; have BK415 := n0_; have HB := n1_; clear n0_ n1_; (try clear hb); obtain ⟨_, _, _, _, _, _, _, _⟩ := cf4 BK415))
  refine bodyPost_ret (results_ct rfl _ _ gb415 27 #[.string (⟨#[]⟩ : ByteArray), .slice none 0 0, .bool false, .string (⟨#[]⟩ : ByteArray)] (0, 0) _ rfl (zz42 BK415) Tryz.underlying27 rfl (by kernel_rfl)) rfl ?_;exact ⟨_, zz5, zz43, (zz6 HB GE415)⟩
def stringslite_CutPrefix.f (a0 : ByteArray) (a1 : ByteArray) : Option (ByteArray × Bool) := (stringslite_HasPrefix.f a0 a1).bind fun t438 => (if t438 = true then (if 0 ≤ (a1.size : Int) then (if (a1.size : Int) ≤ (a0.size : Int) then (some (a0.extract ((a1.size : Int) : Int).toNat a0.size, true)) else (none)) else (none)) else (some (a0, false)))
set_option maxHeartbeats 8000000 in
set_option maxRecDepth 100000 in
theorem stringslite_CutPrefix.calls (a0 : ByteArray) (a1 : ByteArray) (r1 : ByteArray) (r2 : Bool) (w : World) (h : stringslite_CutPrefix.f a0 a1 = some (r1, r2)) :
  Calls Tryz.prog 91 #[.string a0, .string a1] w fun e w' => e = .returned (.tuple #[.string r1, .bool r2]) ∧ Drawn0 w w' := by
 have H : ((stringslite_HasPrefix.f a0 a1).bind fun t438 => (if t438 = true then (if 0 ≤ (a1.size : Int) then (if (a1.size : Int) ≤ (a0.size : Int) then (some (a0.extract ((a1.size : Int) : Int).toNat a0.size, true)) else (none)) else (none)) else (some (a0, false)))) = some (r1, r2) := h;clear h;replace H := bindA H;obtain ⟨t438, A3, H⟩ := H;by_cases c4 : t438 = true
 ·subst c4
  rw [if_pos rfl] at H;by_cases c5 : 0 ≤ (a1.size : Int)
  ·rw [if_pos c5] at H
   have c5b0 := eq_true c5;have c5b1 : decide (0 ≤ (a1.size : Int)) = true := decide_eq_true c5;clear c5;by_cases c6 : (a1.size : Int) ≤ (a0.size : Int)
   ·rw [if_pos c6] at H
    have c6b0 := eq_true c6;have c6b1 : decide ((a1.size : Int) ≤ (a0.size : Int)) = true := decide_eq_true c6;clear c6;simp only [Option.some.injEq, Prod.mk.injEq] at H
    obtain ⟨rfl, rfl⟩ := H;go_enter Tryz.func91, Tryz.ntmps91;go_wp2_with (first | ((with_reducible refine gate_callee (f := 74) rfl ?_); refine gsL (some 8) Tryz.func74 #[.string a0, .string a1] ?_; (with_reducible refine (stringslite_HasPrefix.calls a0 a1 true _ A3.out).mono ?_); rintro e w' ⟨rfl, ⟨nd, rfl⟩⟩; refine ⟨_, rfl, ?_⟩))
    go_ret2
    exact ⟨zz0, zz1⟩
   ·rw [if_neg c6] at H
    exact absurd H (by simp)
  ·rw [if_neg c5] at H
   exact absurd H (by simp)
 ·replace c4 := Bool.eq_false_iff.mpr c4
  subst c4;rw [if_neg (show ¬ (false = true) by decide)] at H;simp only [Option.some.injEq, Prod.mk.injEq] at H
  obtain ⟨rfl, rfl⟩ := H;go_enter Tryz.func91, Tryz.ntmps91;go_wp2_with (first | ((with_reducible refine gate_callee (f := 74) rfl ?_); refine gsL (some 8) Tryz.func74 #[.string a0, .string a1] ?_; (with_reducible refine (stringslite_HasPrefix.calls a0 a1 false _ A3.out).mono ?_); rintro e w' ⟨rfl, ⟨nd, rfl⟩⟩; refine ⟨_, rfl, ?_⟩))
  go_ret2
  exact ⟨zz0, zz1⟩
def strings_CutPrefix.f (a0 : ByteArray) (a1 : ByteArray) : Option (ByteArray × Bool) := (stringslite_CutPrefix.f a0 a1).bind fun bt439 => (some (bt439.1, bt439.2))
set_option maxHeartbeats 8000000 in
set_option maxRecDepth 100000 in
theorem strings_CutPrefix.calls (a0 : ByteArray) (a1 : ByteArray) (r1 : ByteArray) (r2 : Bool) (w : World) (h : strings_CutPrefix.f a0 a1 = some (r1, r2)) :
  Calls Tryz.prog 75 #[.string a0, .string a1] w fun e w' => e = .returned (.tuple #[.string r1, .bool r2]) ∧ Drawn0 w w' := by
 have H : ((stringslite_CutPrefix.f a0 a1).bind fun bt439 => (some (bt439.1, bt439.2))) = some (r1, r2) := h;clear h;replace H := bindA H;obtain ⟨⟨t439, t440⟩, A3, H⟩ := H;try dsimp -simprocs only at H
 simp only [Option.some.injEq, Prod.mk.injEq] at H
 obtain ⟨rfl, rfl⟩ := H;go_enter Tryz.func75, Tryz.ntmps75;go_wp2_with (first | ((with_reducible refine gate_callee (f := 91) rfl ?_); refine gsL (some 8) Tryz.func91 #[.string a0, .string a1] ?_; (with_reducible refine (stringslite_CutPrefix.calls a0 a1 t439 t440 _ A3.out).mono ?_); rintro e w' ⟨rfl, ⟨nd, rfl⟩⟩; refine ⟨_, rfl, ?_⟩))
 go_ret2
 exact ⟨zz0, zz1⟩
end Go.Proofs.YtgjfegfopjfdpaaGreatDoor.P
end
section
namespace Go.Proofs.YtgjfegfopjfdpaaGreatDoor.P
open Go.RowKit Go.Proofs.YtgjfegfopjfdpaaGreatDoorW.PrintWords Go.Proofs.YtgjfegfopjfdpaaGreatDoorW.PrintLast Go.Proofs.YtgjfegfopjfdpaaGreatDoorW.PrintMore Go.Proofs.YtgjfegfopjfdpaaGreatDoor.B Go.Proofs.YtgjfegfopjfdpaaGreatDoor.Ad
set_option linter.unusedVariables false
set_option linter.unusedSimpArgs false
def impl_smallLetters.f (a0 : ByteArray) : Option (ByteArray) := if a0.size ≤ 140737488351232 then some (smallB a0) else none
set_option maxHeartbeats 400000 in
set_option maxRecDepth 100000 in
theorem impl_smallLetters.calls (a0 r : ByteArray) (w : World) (h : impl_smallLetters.f a0 = some r) :
  Calls Tryz.prog 77 #[.string a0] w fun e w' => e = .returned (.string r) ∧ Below w.heap.size w w' := by
 unfold impl_smallLetters.f at h
 by_cases hs : a0.size ≤ 140737488351232
 ·rw [if_pos hs] at h
  obtain rfl := Option.some.inj h
  clear h
  have hcv := Lib.run_convert_string_bytes (P := Tryz.prog) w 9 34 5 a0 Tryz.underlying9 Tryz.underlying34 Tryz.underlying5
  go_enter Tryz.func77, Tryz.ntmps77
  go_wp2_with fail
  clear hcv
  go_loopw [10] (fun i wr => ∃ k : Nat, k ≤ a0.size ∧ i = .int .i64 k ∧ Aside0 (SmRow w.heap.size a0 k wr) ∧ Aside0 (Below w.heap.size w wr))
   (fun i _ => a0.size - (intOf i).toNat)
  case atStart =>
   refine ⟨0, Nat.zero_le _, rfl, ⟨sm_start w 5 a0⟩, ⟨?_⟩⟩
   exact sm_below w 5 a0
  case round =>
   obtain ⟨k, hk, rfl, hI, hB⟩ := hrel
   by_cases hlt : k < a0.size
   ·have hc := (hI.out.2 k hlt).1
    have hf := (hI.out.2 k hlt).2
    rw [if_neg (by omega)] at hc
    have hset := Aside0.mk (sm_set hI.out hlt)
    have hskip := Aside0.mk (sm_skip hI.out hlt)
    clear hI
    generalize (L a0).getD k 0 = b at hc hset hskip
    have hb := b.toNat_lt
    by_cases h1 : 65 ≤ b.toNat
    ·by_cases h2 : b.toNat ≤ 90
     ·have e1 : (sm b).toNat = b.toNat + 32 := by
       unfold sm
       rw [if_pos ⟨h1, h2⟩, UInt8.toNat_add]
       have : (32 : UInt8).toNat = 32 := rfl
       omega
      rw [e1, show ((b.toNat + 32 : Nat) : Int) = (b.toNat : Int) + 32 from by omega] at hset
      clear hskip e1
      go_wp2
      exact ⟨⟨k + 1, by omega, by go_num, hset, ⟨hB.out.setCell (Nat.le_refl _) _⟩⟩, by simp [intOf]; omega⟩
     ·have e1 : sm b = b := by unfold sm; rw [if_neg (by omega)]
      have hS : Aside0 (SmRow w.heap.size a0 (k + 1) wr) := ⟨hskip.out e1⟩
      clear e1 hset hskip
      go_wp2
      exact ⟨⟨k + 1, by omega, by go_num, hS, hB⟩, by simp [intOf]; omega⟩
    ·have e1 : sm b = b := by unfold sm; rw [if_neg (by omega)]
     have hS : Aside0 (SmRow w.heap.size a0 (k + 1) wr) := ⟨hskip.out e1⟩
     clear e1 hset hskip
     go_wp2
     exact ⟨⟨k + 1, by omega, by go_num, hS, hB⟩, by simp [intOf]; omega⟩
   ·have ek : k = a0.size := by omega
    have hcells : ∀ j (hj : j < (L (smallB a0)).length), wr.cell? ((⟨w.heap.size, 0, none⟩ : Addr).add j) = some (.int .u8 ((L (smallB a0))[j].toNat : Int)) := by
     intro j hj
     have hj' : j < a0.size := by rw [L_size, smallB, ofL_size, List.length_map, L_size] at hj; exact hj
     rw [add_plain, (hI.out.2 j hj').1, if_pos (by omega)]
     simp [smallB, L_of, List.getD_eq_getElem?_getD, List.getElem?_eq_getElem (show j < (L a0).length by rw [L_size]; exact hj')]
    have hcv := run_convert_bytes_back (P := Tryz.prog) wr 34 9 5 ⟨w.heap.size, 0, none⟩ (grownCap w a0.size 0 5) (L (smallB a0)) Tryz.underlying34 Tryz.underlying5 Tryz.underlying9 hcells
    have hl : (L (smallB a0)).length = a0.size := by rw [L_size, smallB, ofL_size, List.length_map, L_size]
    rw [hl, show (⟨(L (smallB a0)).toArray⟩ : ByteArray) = smallB a0 from of_L _] at hcv
    have Hk := Aside0.mk ek
    clear ek hcells hl
    go_wp2
    go_ret
    exact ⟨rfl, hB.out⟩
 ·rw [if_neg hs] at h; cases h
end Go.Proofs.YtgjfegfopjfdpaaGreatDoor.P
end
section
namespace Go.Proofs.YtgjfegfopjfdpaaGreatDoor.P
open Go.RowKit Go.Proofs.YtgjfegfopjfdpaaGreatDoorW.PrintWords Go.Proofs.YtgjfegfopjfdpaaGreatDoorW.PrintLast Go.Proofs.YtgjfegfopjfdpaaGreatDoorW.PrintMore Go.Proofs.YtgjfegfopjfdpaaGreatDoor.B Go.Proofs.YtgjfegfopjfdpaaGreatDoor.Ad
set_option linter.unusedVariables false
set_option linter.unusedSimpArgs false
def sq : ByteArray := ⟨#[47, 63]⟩
theorem sq_at : sq.size = 2 ∧ (∀ h : 0 < sq.size, (sq[0]'h).toNat = 47) ∧ (∀ h : 1 < sq.size, (sq[1]'h).toNat = 63) := by decide +kernel
theorem valid_same (r : Int) : Utf8.valid r = Lib.validRune r := by
 unfold Utf8.valid Lib.validRune
 rw [Bool.eq_iff_iff]
 simp only [Bool.or_eq_true, Bool.and_eq_true, decide_eq_true_eq]
 omega
theorem decode_skip (s : ByteArray) (pos : Nat) (h : pos < s.size) (ha : 128 ≤ (s[pos]'h).toNat) :
  pos + (Utf8.decode s pos).2 ≤ s.size ∧ ∀ j, pos ≤ j → j < pos + (Utf8.decode s pos).2 → ∀ hj : j < s.size, 128 ≤ (s[j]'hj).toNat := by
 have hn : ¬ (s[pos]'h).toNat < 128 := by omega
 have one : pos + 1 ≤ s.size ∧ ∀ j, pos ≤ j → j < pos + 1 → ∀ hj : j < s.size, 128 ≤ (s[j]'hj).toNat := by
  refine ⟨h, fun j h1 h2 hj => ?_⟩
  obtain rfl : j = pos := by omega
  exact ha
 have cont : ∀ k, (decide (pos + k < s.size) && ((s.get! (pos + k)).toNat / 64 == 2)) = true → pos + k < s.size ∧ ∀ hj : pos + k < s.size, 128 ≤ (s[pos + k]'hj).toNat := by
  intro k hk
  simp only [Bool.and_eq_true, decide_eq_true_eq, beq_iff_eq] at hk
  refine ⟨hk.1, fun hj => ?_⟩
  have e := get_at s (pos + k) hj
  rw [Nat.add_zero] at e
  rw [e] at hk
  omega
 simp only [Utf8.decode, get_at s pos h, hn, if_false]
 split
 ·rename_i h1
  simp only [Bool.and_eq_true] at h1
  obtain ⟨l1, b1⟩ := cont 1 (by simpa using h1.2)
  split
  ·refine ⟨by show pos + 2 ≤ _; omega, fun j h2 h3 hj => ?_⟩
   have h3' : j < pos + 2 := h3
   rcases (by omega : j = pos ∨ j = pos + 1) with e | e
   ·subst e; exact ha
   ·subst e; exact b1 hj
  ·exact one
 ·split
  ·rename_i _ h1
   simp only [Bool.and_eq_true] at h1
   obtain ⟨l1, b1⟩ := cont 1 (by simpa using h1.1.2)
   obtain ⟨l2, b2⟩ := cont 2 (by simpa using h1.2)
   split
   ·refine ⟨by show pos + 3 ≤ _; omega, fun j h2 h3 hj => ?_⟩
    have h3' : j < pos + 3 := h3
    rcases (by omega : j = pos ∨ j = pos + 1 ∨ j = pos + 2) with e | e | e
    ·subst e; exact ha
    ·subst e; exact b1 hj
    ·subst e; exact b2 hj
   ·exact one
  ·split
   ·rename_i _ _ h1
    simp only [Bool.and_eq_true] at h1
    obtain ⟨l1, b1⟩ := cont 1 (by simpa using h1.1.1.2)
    obtain ⟨l2, b2⟩ := cont 2 (by simpa using h1.1.2)
    obtain ⟨l3, b3⟩ := cont 3 (by simpa using h1.2)
    split
    ·refine ⟨by show pos + 4 ≤ _; omega, fun j h2 h3 hj => ?_⟩
     have h3' : j < pos + 4 := h3
     rcases (by omega : j = pos ∨ j = pos + 1 ∨ j = pos + 2 ∨ j = pos + 3) with e | e | e | e
     ·subst e; exact ha
     ·subst e; exact b1 hj
     ·subst e; exact b2 hj
     ·subst e; exact b3 hj
    ·exact one
   ·exact one
theorem noAny_skip {s : ByteArray} {pos n : Nat} (h : Lib.NoAny (L s) (L sq) pos) (hb : ∀ j, pos ≤ j → j < pos + n → ∀ hj : j < s.size, 128 ≤ (s[j]'hj).toNat) : Lib.NoAny (L s) (L sq) (pos + n) := by
 intro j b hj hx
 rcases Nat.lt_or_ge j pos with hlt | hge
 ·exact h j b hlt hx
 ·obtain ⟨hl, he⟩ := List.getElem?_eq_some_iff.1 hx
  have hjs : j < s.size := by rw [← L_size]; exact hl
  have h1 := hb j hge hj hjs
  have h2 : (s[j]'hjs) = b := by rw [← he]; rfl
  rw [h2] at h1
  have : L sq = [47, 63] := rfl
  rw [this]
  simp only [List.contains_cons, List.contains_nil, Bool.or_false, Bool.or_eq_false_iff, beq_eq_false_iff_ne]
  constructor
  ·rintro rfl; exact absurd h1 (by decide)
  ·rintro rfl; exact absurd h1 (by decide)
set_option maxHeartbeats 4000000 in
set_option maxRecDepth 1000000 in
theorem indexRune_far (r : Int) (w : World) (h0 : 128 ≤ r) (h1 : r ≤ 2147483647) :
  Calls Tryz.prog 92 #[.string sq, .int .i32 r] w fun e w' => e = .returned (.int .i64 (-1)) ∧ Below w.heap.size w w' := by
 have g0 : decide (0 ≤ r) = true := decide_eq_true (by omega)
 have g1 : decide (r < 128) = false := decide_eq_false (by omega)
 obtain ⟨hsz, hs0, hs1⟩ := sq_at
 by_cases hr : r = 65533
 ·subst hr
  have n0 := fun ty => run_next_ascii (P := Tryz.prog) w sq 0 ty (by rw [hsz]; decide) (by rw [hs0]; decide)
  have n1 := fun ty => run_next_ascii (P := Tryz.prog) w sq 1 ty (by rw [hsz]; decide) (by rw [hs1]; decide)
  rw [hs0] at n0
  rw [hs1] at n1
  have n2 := fun ty => run_next_end (P := Tryz.prog) w sq 2 ty (by rw [hsz]; decide)
  clear hsz hs0 hs1 h0 h1 g0 g1
  go_enter Tryz.func92, Tryz.ntmps92
  go_wp2
  go_loopg [5, 6] 2 (fun g _ _ wx => ∃ i : Nat, i + g = 2 ∧ wx = w.iter sq i)
  case atStart => exact ⟨0, by omega, rfl⟩
  case round =>
   obtain ⟨i, hig, rfl⟩ := hrel
   cases gk with
   | zero =>
    obtain rfl : i = 2 := by omega
    go_wp2
    go_ret
    exact ⟨rfl, (Below.refl _ _).alloc (Nat.le_refl _) _⟩
   | succ g =>
    rcases (by omega : i = 0 ∨ i = 1) with e | e
    ·subst e
     go_wp2
     go_roundg g
     case measure => omega
     case rel => exact ⟨1, by omega, rfl⟩
    ·subst e
     go_wp2
     go_roundg g
     case measure => omega
     case rel => exact ⟨2, by omega, rfl⟩
 ·have g2 : (r == 65533) = false := by simp [hr]
  cases hv : Lib.validRune r with
  | false =>
   go_enter Tryz.func92, Tryz.ntmps92
   go_wp2_with (go_at_call 107; refine (Tryz.utf8_ValidRune _ _).mono ?_; rintro e w' ⟨rfl, hw⟩; rw [hw, hv])
   go_ret
   exact ⟨rfl, Below.refl _ _⟩
  | true =>
   obtain ⟨e1, e2, e3⟩ := encode_facts r (by rw [valid_same]; exact hv) h0
   go_enter Tryz.func92, Tryz.ntmps92
   go_wp2_with (go_at_call 107; refine (Tryz.utf8_ValidRune _ _).mono ?_; rintro e w' ⟨rfl, hw⟩; rw [hw, hv])
   go_step3
   go_wp2
   generalize Utf8.encode r = nd at e1 e2 e3 ⊢
   refine wp_loop_rounds 1 ?_
   rw [rounds_succ]
   by_cases hn : nd.size = 2
   ·obtain ⟨x, hx⟩ : ∃ x : UInt8, ∀ h : 1 < nd.size, nd[1]'h = x := ⟨nd[1]'(by omega), fun _ => rfl⟩
    have hx1 : 128 ≤ x.toNat := by
     have := e3 (by omega)
     simp only [hn] at this
     rw [← hx (by omega)]; exact this
    clear e3
    have hne : ((63 : Int) != (x.toNat : Int)) = true := by simp; omega
    have hnz : ((nd.size : Nat) : Int) - 1 = 1 := by omega
    rw [hnz]
    have HN := Aside0.mk hn
    have hlt : (1 : Int) < (nd.size : Int) := by omega
    clear hn hnz e1 e2
    have hs1' := hs1 (by rw [hsz]; decide)
    have hi1 : (1 : Int) < (sq.size : Int) := by rw [hsz]; decide
    have hs2 : (2 : Int) ≤ (sq.size : Int) := by rw [hsz]; decide
    go_wp2
    go_step3
    go_wp2
    go_quiet (fail)
    have HB : Aside0 (Below w.heap.size w (w.drewN nq)) := ⟨pw_below_drewN (Below.refl _ _) nq⟩
    generalize w.drewN nq = w1 at HB ⊢
    have hib : Lib.indexByte (sq.extract 2 2).data.toList ((x.toNat : Int)).toNat.toUInt8 = -1 := rfl
    go_wp2
    go_quiet ((go_at_call 106; exact Calls.quiet_of_same (Tryz.strings_IndexByte _ _ _)))
    go_wp2
    rw [Exit.noGoto_ret]
    go_wp2
    rw [Exit.noGoto_ret]
    go_ret
    exact ⟨rfl, pw_below_drewN HB.out _⟩
   ·have hge : decide ((nd.size : Int) - 1 < 2) = false := decide_eq_false (by omega)
    go_wp2
    rw [Exit.noGoto_ret]
    go_ret
    exact ⟨rfl, Below.refl _ _⟩
def strings_IndexAny.f (a0 a1 : ByteArray) : Option Int := if L a1 = [47, 63] ∧ a0.size < 4294967281 then some (Lib.indexAny (L a0) (L a1)) else none
def iterTo (w : World) (b : Nat) (s : ByteArray) (p : Nat) : World := { w with heap := w.heap.setIfInBounds b (.stringIter s p) }
theorem iterTo_at {w : World} {b : Nat} {s : ByteArray} {p q : Nat} (h : w.heap[b]? = some (.stringIter s q)) : (iterTo w b s p).heap[b]? = some (.stringIter s p) := by
 obtain ⟨hl, _⟩ := Array.getElem?_eq_some_iff.1 h
 simp [iterTo, hl]
theorem iterTo_below {w0 w : World} {b : Nat} {s : ByteArray} {p : Nat} (h : Below w0.heap.size w0 w) (hb : w0.heap.size ≤ b) : Below w0.heap.size w0 (iterTo w b s p) :=
 ⟨h.os, h.tape, h.output, by simp [iterTo]; exact h.size, fun i hi => by
  rw [← h.block i hi]
  simp only [iterTo]
  exact Array.getElem?_setIfInBounds_ne (by omega)⟩
theorem run_next_in {P : Program} (w : World) (b : Nat) (s : ByteArray) (pos : Nat) (hb : w.heap[b]? = some (.stringIter s pos)) (h : pos < s.size) (ty : TypeId) :
  (Instr.next (.pointer (some ⟨b, 0, none⟩)) true ty).run P w = .ok (.tuple #[.bool true, .int .i64 pos, .int .i32 (Utf8.decode s pos).1]) (iterTo w b s (pos + (Utf8.decode s pos).2)) := by
 simp only [Instr.next, getObj, setObj, Sem.run_bind, Sem.run, hb, Result.andThen, h, if_true, iterTo]
 simp [goInt]
theorem run_next_out {P : Program} (w : World) (b : Nat) (s : ByteArray) (pos : Nat) (hb : w.heap[b]? = some (.stringIter s pos)) (h : ¬ pos < s.size) (ty : TypeId) :
  (Instr.next (.pointer (some ⟨b, 0, none⟩)) true ty).run P w = .ok (.tuple #[.bool false]) w := by
 simp [Instr.next, getObj, Sem.run, hb, h]
set_option maxHeartbeats 4000000 in
set_option maxRecDepth 1000000 in
theorem indexAny_few (s : ByteArray) (w : World) (h8 : s.size ≤ 8) :
  Calls Tryz.prog 76 #[.string s, .string sq] w fun e w' => e = .returned (.int .i64 (Lib.indexAny (L s) (L sq))) ∧ Below w.heap.size w w' := by
 have hemp : sq.toList.isEmpty = false := by decide +kernel
 have hn1 : ((sq.size : Int) == 1) = false := by decide +kernel
 have h8z : decide ((8 : Int) < (s.size : Int)) = false := decide_eq_false (by omega)
 go_enter Tryz.func76, Tryz.ntmps76
 go_wp2_with (go_at_call 93; refine (Tryz.strings_shouldUseASCIISet _ _).mono ?_; rintro e w' ⟨rfl, hw⟩; rw [hw, h8z])
 go_loopg [9, 10] s.size (fun g _ _ wx => ∃ i : Nat, i + g = s.size ∧ Aside0 (wx.heap[w.heap.size]? = some (.stringIter s i)) ∧ Aside0 (Lib.NoAny (L s) (L sq) i) ∧ Aside0 (Below w.heap.size w wx))
 case atStart => exact ⟨0, by omega, ⟨World.iter_heap w s 0⟩, ⟨Lib.NoAny.zero _ _⟩, ⟨(Below.refl _ _).alloc (Nat.le_refl _) _⟩⟩
 case round =>
  obtain ⟨i, hig, hI, HN, HB⟩ := hrel
  cases gk with
  | zero =>
   obtain rfl : i = s.size := by omega
   have hnx := run_next_out (P := Tryz.prog) wr w.heap.size s s.size hI.out (by omega)
   go_wp2
   go_ret
   exact ⟨by rw [Lib.indexAny_none (by rw [L_size]; exact HN.out)]; rfl, HB.out⟩
  | succ g =>
   have hi : i < s.size := by omega
   have hnx := run_next_in (P := Tryz.prog) wr w.heap.size s i hI.out hi
   obtain ⟨x, hx⟩ : ∃ x : UInt8, s[i]'hi = x := ⟨_, rfl⟩
   have Hx : Aside0 ((L s)[i]? = some x) := ⟨by rw [← hx]; exact Lib.data_getElem? s i hi⟩
   by_cases hlt : x.toNat < 128
   ·have hd := decode_ascii s i hi (by rw [hx]; exact hlt)
    rw [hx] at hd
    rw [hd] at hnx
    clear hd
    have HI2 : Aside0 ((iterTo wr w.heap.size s (i + 1)).heap[w.heap.size]? = some (.stringIter s (i + 1))) := ⟨iterTo_at hI.out⟩
    have HB2 : Aside0 (Below w.heap.size w (iterTo wr w.heap.size s (i + 1))) := ⟨iterTo_below HB.out (Nat.le_refl _)⟩
    simp only at hnx
    have hcon := Lib.contains_iff_indexByte (L sq) x
    have hback : ((x.toNat : Int)).toNat.toUInt8 = x := by simp
    obtain ⟨q, hq⟩ : ∃ q, Lib.indexByte sq.data.toList x = q := ⟨_, rfl⟩
    have hcon : (L sq).contains x = decide (0 ≤ q) := by rw [← hq]; exact hcon
    clear hx HB hI
    generalize iterTo wr w.heap.size s (i + 1) = w2 at hnx HI2 HB2
    cases hin : (L sq).contains x
    ·rw [hin] at hcon
     have hlt0 : ¬ ((0 : Int) ≤ q) := of_decide_eq_false hcon.symm
     clear hcon
     have HS : Aside0 (Lib.NoAny (L s) (L sq) (i + 1)) := ⟨HN.out.succ Hx.out hin⟩
     clear hin
     go_wp2_with (go_at_call 92; refine (Tryz.strings_IndexRune_ascii _ _ _ (by omega) (by omega)).mono ?_; rintro e w' ⟨rfl, hw⟩; rw [hw, hback, hq])
     go_roundg g
     case measure => omega
     case rel => exact ⟨i + 1, by omega, HI2, HS, HB2⟩
    ·rw [hin] at hcon
     have hge : (0 : Int) ≤ q := of_decide_eq_true hcon.symm
     clear hcon
     have HE : Aside0 (Lib.indexAny (L s) (L sq) = i) := ⟨Lib.indexAny_hit HN.out Hx.out hin⟩
     clear hin
     go_wp2_with (go_at_call 92; refine (Tryz.strings_IndexRune_ascii _ _ _ (by omega) (by omega)).mono ?_; rintro e w' ⟨rfl, hw⟩; rw [hw, hback, hq])
     go_ret
     exact ⟨by rw [HE.out]; rfl, HB2.out⟩
   ·obtain ⟨hd1, hd2⟩ := decode_high s i hi (by rw [hx]; omega)
    have hd3 := decode_le s i
    obtain ⟨hk1, hk2⟩ := decode_skip s i hi (by rw [hx]; omega)
    generalize (Utf8.decode s i).2 = n at hnx hd2 hk1 hk2
    generalize (Utf8.decode s i).1 = c at hnx hd1 hd3
    have HI2 : Aside0 ((iterTo wr w.heap.size s (i + n)).heap[w.heap.size]? = some (.stringIter s (i + n))) := ⟨iterTo_at hI.out⟩
    have HB2 : Aside0 (Below w.heap.size w (iterTo wr w.heap.size s (i + n))) := ⟨iterTo_below HB.out (Nat.le_refl _)⟩
    have HS : Aside0 (Lib.NoAny (L s) (L sq) (i + n)) := ⟨noAny_skip HN.out hk2⟩
    have hlo : (128 : Int) ≤ (c : Int) := by omega
    have hhi : (c : Int) ≤ 2147483647 := by omega
    have HK := Aside0.mk hk1
    have HD := Aside0.mk hd2
    clear hx HB hI HN Hx hk1 hk2 hd1 hd2 hd3 hlt
    generalize iterTo wr w.heap.size s (i + n) = w2 at hnx HI2 HB2
    go_wp2_with (go_at_call 92; refine (indexRune_far _ _ hlo hhi).mono ?_; rintro e w' ⟨rfl, hb⟩)
    have HC := Aside0.mk hb
    clear hb
    go_roundg (g + 1 - n)
    case measure => have := HK.out; have := HD.out; omega
    case rel => exact ⟨i + n, by have := HK.out; omega, ⟨(HC.out.block _ (by obtain ⟨hl, _⟩ := Array.getElem?_eq_some_iff.1 HI2.out; exact hl)).trans HI2.out⟩, HS, ⟨HB2.out.trans (HC.out.mono HB2.out.size)⟩⟩
theorem strings_IndexAny.calls (a0 a1 : ByteArray) (r : Int) (w : World) (h : strings_IndexAny.f a0 a1 = some r) :
  Calls Tryz.prog 76 #[.string a0, .string a1] w fun e w' => e = .returned (.int .i64 r) ∧ Below w.heap.size w w' := by
 unfold strings_IndexAny.f at h
 split at h
 ·rename_i hh
  obtain rfl := Option.some.inj h
  obtain rfl : a1 = sq := L_inj (by rw [hh.1]; rfl)
  rcases Nat.lt_or_ge 8 a0.size with h8 | h8
  ·refine (Tryz.strings_IndexAny_long (fun w => by kernel_rfl) a0 sq w (by decide +kernel) h8 hh.2 (by decide +kernel) (fun j b hb => ?_)).mono fun e w' ⟨he, hw⟩ => ⟨he, hw ▸ ((Below.refl _ _).alloc (Nat.le_refl _) _).alloc (by simp) _⟩
   have hb' : ([47, 63] : List UInt8)[j]? = some b := hb
   match j, hb' with
   | 0, hb' => injection hb' with hb'; subst hb'; decide
   | 1, hb' => injection hb' with hb'; subst hb'; decide
  ·exact indexAny_few a0 w h8
 ·cases h
end Go.Proofs.YtgjfegfopjfdpaaGreatDoor.P
end
section
namespace Go.Proofs.YtgjfegfopjfdpaaGreatDoor.P
open Go.RowKit Go.Proofs.YtgjfegfopjfdpaaGreatDoorW.PrintWords Go.Proofs.YtgjfegfopjfdpaaGreatDoorW.PrintLast Go.Proofs.YtgjfegfopjfdpaaGreatDoorW.PrintMore
attribute [local go_sem] max2_int min2_int max_two min_two max_three min_three max_four min_four
set_option linter.unusedVariables false
set_option linter.unusedSimpArgs false
def impl_readWhole.f (k : Nat) (a0 : ByteArray) : Option (ByteArray × List ByteArray × Bool × ByteArray × Bool) := (strings_CutPrefix.f a0 (⟨#[47, 47]⟩ : ByteArray)).bind fun bt442 => (if bt442.2 = true then ((strings_IndexAny.f bt442.1 (⟨#[47, 63]⟩ : ByteArray)).bind fun t444 => (if t444 < 0 then (if 0 ≤ (bt442.1.size : Int) then (if (bt442.1.size : Int) ≤ (bt442.1.size : Int) then ((impl_smallLetters.f (bt442.1.extract 0 ((bt442.1.size : Int) : Int).toNat)).bind fun t445 => ((impl_readWay.f k t445 ([] : List ByteArray) (bt442.1.extract ((bt442.1.size : Int) : Int).toNat bt442.1.size)).bind fun bt446 => (some (bt446.1, bt446.2.1, bt446.2.2.1, bt446.2.2.2.1, bt446.2.2.2.2)))) else (none)) else (none)) else (if 0 ≤ t444 then (if t444 ≤ (bt442.1.size : Int) then ((impl_smallLetters.f (bt442.1.extract 0 (t444 : Int).toNat)).bind fun t453 => ((impl_readWay.f k t453 ([] : List ByteArray) (bt442.1.extract (t444 : Int).toNat bt442.1.size)).bind fun bt454 => (some (bt454.1, bt454.2.1, bt454.2.2.1, bt454.2.2.2.1, bt454.2.2.2.2)))) else (none)) else (none)))) else (some ((⟨#[]⟩ : ByteArray), ([] : List ByteArray), false, (⟨#[]⟩ : ByteArray), false)))
def impl_readWhole.T7 : Bool × List (List Nat × List Nat) := (true, [([], []), ([], []), ([0, 1], [0, 1]), ([2], [2]), ([], []), ([], []), ([4, 5], [4, 5]), ([3, 6, 3], [3, 6]), ([7], [7]), ([7], [7]), ([8, 7, 0, 1, 2, 3, 4, 5, 6, 7, 8, 9], [8]), ([9, 10, 0, 1, 2, 3, 4, 5, 6, 7, 8, 9, 10], [9])])
def impl_readWhole.B7 : List Nat := [0, 0, 3, 7, 0, 0, 48, 127, 255, 255, 1023, 2047]
theorem impl_readWhole.tab7 : rtab .any (opsOf Tryz.f50 7) = impl_readWhole.T7 := by kernel_rfl
theorem impl_readWhole.bits7 : waitsOk impl_readWhole.T7.2 impl_readWhole.B7 = true := by kernel_rfl
set_option maxHeartbeats 8000000 in
set_option maxRecDepth 100000 in
theorem impl_readWhole.calls (k : Nat) (a0 : ByteArray) (r1 : ByteArray) (r2 : List ByteArray) (r3 : Bool) (r4 : ByteArray) (r5 : Bool) (w : World) (h : impl_readWhole.f k a0 = some (r1, r2, r3, r4, r5)) :
  Calls Tryz.prog 50 #[.string a0] w fun e w' => ∃ v1_ : Value, e = .returned (.tuple #[.agg #[.string r1, v1_, .bool r3, .string r4], .bool r5]) ∧ Kd.R Kd.string 9 w' w.heap.size (fun _ => True) v1_ r2 ∧ Below w.heap.size w w' := by
 have hu27 := Tryz.underlying27;have HB := Aside0.mk (Below.refl w.heap.size w);have H : ((strings_CutPrefix.f a0 (⟨#[47, 47]⟩ : ByteArray)).bind fun bt442 => (if bt442.2 = true then ((strings_IndexAny.f bt442.1 (⟨#[47, 63]⟩ : ByteArray)).bind fun t444 => (if t444 < 0 then (if 0 ≤ (bt442.1.size : Int) then (if (bt442.1.size : Int) ≤ (bt442.1.size : Int) then ((impl_smallLetters.f (bt442.1.extract 0 ((bt442.1.size : Int) : Int).toNat)).bind fun t445 => ((impl_readWay.f k t445 ([] : List ByteArray) (bt442.1.extract ((bt442.1.size : Int) : Int).toNat bt442.1.size)).bind fun bt446 => (some (bt446.1, bt446.2.1, bt446.2.2.1, bt446.2.2.2.1, bt446.2.2.2.2)))) else (none)) else (none)) else (if 0 ≤ t444 then (if t444 ≤ (bt442.1.size : Int) then ((impl_smallLetters.f (bt442.1.extract 0 (t444 : Int).toNat)).bind fun t453 => ((impl_readWay.f k t453 ([] : List ByteArray) (bt442.1.extract (t444 : Int).toNat bt442.1.size)).bind fun bt454 => (some (bt454.1, bt454.2.1, bt454.2.2.1, bt454.2.2.2.1, bt454.2.2.2.2)))) else (none)) else (none)))) else (some ((⟨#[]⟩ : ByteArray), ([] : List ByteArray), false, (⟨#[]⟩ : ByteArray), false)))) = some (r1, r2, r3, r4, r5) := h;clear h;replace H := bindA H;obtain ⟨⟨t442, t443⟩, A2, H⟩ := H;try dsimp -simprocs only at H
 by_cases c3 : t443 = true
 ·subst c3
  rw [if_pos rfl] at H;replace H := bindA H;obtain ⟨t444, A4, H⟩ := H;by_cases c5 : t444 < 0
  ·rw [if_pos c5] at H
   have c5b0 : decide (t444 < 0) = true := decide_eq_true c5;clear c5;by_cases c6 : 0 ≤ (t442.size : Int)
   ·rw [if_pos c6] at H
    have c6b0 := eq_true c6;have c6b1 : decide (0 ≤ (t442.size : Int)) = true := decide_eq_true c6;clear c6;by_cases c7 : (t442.size : Int) ≤ (t442.size : Int)
    ·rw [if_pos c7] at H
     have c7b0 := eq_true c7;have c7b1 : decide ((t442.size : Int) ≤ (t442.size : Int)) = true := decide_eq_true c7;clear c7;replace H := bindA H;obtain ⟨t445, A8, H⟩ := H;have c9b0 := eq_true (ofD : 0 ≤ (t442.size : Int));have c10b0 := eq_true (ofD : (t442.size : Int) ≤ (t442.size : Int));replace H := bindA H;obtain ⟨⟨t446, t447, t450, t451, t452⟩, A11, H⟩ := H;try dsimp -simprocs only at H
     simp only [Option.some.injEq, Prod.mk.injEq] at H
     obtain ⟨rfl, rfl, rfl, rfl, rfl⟩ := H;go_enter Tryz.func50, Tryz.ntmps50;try go_wp2_with (first | ((with_reducible refine gate_dst (N := 2) rfl ?_); refine boxE 2 #[.string (⟨#[]⟩ : ByteArray), .slice none 0 0, .bool false, .string (⟨#[]⟩ : ByteArray)] 27 ?_; intro gb441 hg w12 hbox hb; have n0_ := Aside0.mk (below_step (zz4 HB) hb); have n1_ := Aside0.mk (hbox); have n2_ := Aside0.mk ((by rw [hg]; exact (below_size (zz4 HB)) : w.heap.size ≤ gb441)); have n3_ := Aside0.mk ((by rw [hg]; exact (below_size (zz4 HB)) : w.heap.size ≤ gb441)); clear HB; have HB := n0_; have BK441 := n1_; have GW441 := n2_; have GE441 := n3_; clear n0_ n1_ n2_ n3_; clear hb hbox hg) | ((with_reducible refine gate_callee (f := 75) rfl ?_); refine goesL_ (some 9) rfl rfl Tryz.func75 (by kernel_rfl) rfl #[.string a0, .string (⟨#[47, 47]⟩ : ByteArray)] rfl zz120 ?_; (with_reducible refine (strings_CutPrefix.calls a0 (⟨#[47, 47]⟩ : ByteArray) t442 true _ A2.out).mono ?_); rintro e w' ⟨rfl, ⟨nd, rfl⟩⟩; refine ⟨_, rfl, ?_⟩; (try (rw [drewN_self w12]; generalize hq_ : World.drewN w12 _ = w12; have n0_ : Aside0 (w12.heap[gb441]? = some (.cells #[.string (⟨#[]⟩ : ByteArray), .slice none 0 0, .bool false, .string (⟨#[]⟩ : ByteArray)] 27 (0, 0))) := ⟨(by rw [← hq_]; exact (zz27 BK441))⟩; have n1_ : Aside0 (Below w.heap.size w w12) := ⟨zz122⟩; clear BK441 HB hq_; have BK441 := n0_; have HB := n1_; clear n0_ n1_))) | ((with_reducible refine gate_callee (f := 76) rfl ?_); refine goesL_ (some 16) rfl rfl Tryz.func76 (by kernel_rfl) rfl #[.string t442, .string (⟨#[47, 63]⟩ : ByteArray)] rfl zz120 ?_; (with_reducible refine (strings_IndexAny.calls t442 (⟨#[47, 63]⟩ : ByteArray) t444 _ A4.out).mono ?_); rintro e w13 ⟨rfl, hb⟩; refine ⟨_, rfl, ?_⟩; have n0_ := Aside0.mk (blk_below (zz27 BK441) hb); have n1_ := Aside0.mk (below_step (zz6 HB GE441) hb); clear BK441; clear HB; have BK441 := n0_; have HB := n1_; clear n0_ n1_; (try clear hb)))
     have n0_ := Aside0.mk (blk_drew BK441.out);have n1_ := Aside0.mk (below_drew1 HB.out);clear BK441;clear HB;have BK441 := n0_;have HB := n1_;clear n0_ n1_;refine start_ (n := 12) (S := fun w' => True) (ds := []) #[false, false, false, false, false, false, false, false, false, false, false, false] (by kernel_rfl) rfl rfl trivial (fun hHeld => ?_); refine with_tabW impl_readWhole.tab7 impl_readWhole.bits7 (fun HT_ HW_ => ?_);generalize w13.drew = w14 at BK441 HB hHeld ⊢;refine pureZ 0 (some 21) #[true, false, false, false, false, false, false, false, false, false, false, false] ?_;refine pureZ 1 (some 22) #[true, true, false, false, false, false, false, false, false, false, false, false] ?_;refine pureZ 2 (some 23) #[true, true, true, false, false, false, false, false, false, false, false, false] ?_;refine pureZ 4 (some 25) #[true, true, true, false, true, false, false, false, false, false, false, false] ?_;refine pureZ 5 (some 26) #[true, true, true, false, true, true, false, false, false, false, false, false] ?_;refine pureZ 6 (some 27) #[true, true, true, false, true, true, true, false, false, false, false, false] ?_;refine one_ (i := 3) (N := some 24) #[true, true, true, true, true, true, true, false, false, false, false, false] rfl rfl (one_of HT_.out (by kernel_rfl)) (by decide) (fun K hK => ?_);refine goes_ Tryz.func77 (by kernel_rfl) rfl #[.string (t442.extract 0 ((t442.size : Int) : Int).toNat)] (by rfl) rfl rfl zz120 ?_;with_reducible refine (impl_smallLetters.calls (t442.extract 0 ((t442.size : Int) : Int).toNat) t445 _ A8.out).mono ?_
     rintro e w15 ⟨rfl, hb⟩;refine ⟨_, rfl, ?_⟩;have n0_ := Aside0.mk (blk_below (zz27 BK441) hb);have n1_ := Aside0.mk (below_step (zz6 HB GE441) hb);clear BK441;clear HB;have BK441 := n0_;have HB := n1_;clear n0_ n1_;(try clear hb)
     (try clear hb2)
     (try clear hk)
     (try clear hi)
     refine hK.out _ _ trivial (fun hHeld => ?_);clear hK K;refine norm_ (a' := ?_) ?_ ?_;rotate_left
     ·show Act.put _ (some 24) _ = _
      simp only [Act.put, List.setIfInBounds_toArray, List.set_cons_zero, List.set_cons_succ, i64_w, i32_w]
      rfl
     refine one_ (i := 7) (N := some 28) #[true, true, true, true, true, true, true, true, false, false, false, false] rfl rfl (one_of HT_.out (by kernel_rfl)) (by decide) (fun K hK => ?_);refine goes_ Tryz.func52 (by kernel_rfl) rfl #[.string t445, .slice none 0 0, .string (t442.extract ((t442.size : Int) : Int).toNat t442.size)] (by rfl) rfl rfl zz120 ?_;refine (impl_readWay.calls k t445 _ _ ([] : List ByteArray) (t442.extract ((t442.size : Int) : Int).toNat t442.size) t446 t447 t450 t451 t452 _ ?side1 ?side2 A11.out).mono ?_;(case side1 => exact Kd.C_nil _ _)
     (case side2 => exact Nat.le_refl _)
     rintro e w16 ⟨v448, rfl, ho0, hb⟩;refine ⟨_, rfl, ?_⟩;have n0_ := Aside0.mk (Kd.R_lower ho0 (below_size (zz6 HB GE441)));have n1_ := Aside0.mk (blk_below (zz27 BK441) hb);have n2_ := Aside0.mk (below_step (zz6 HB GE441) hb);clear BK441;clear HB;have HO449 := n0_;have BK441 := n1_;have HB := n2_;clear n0_ n1_ n2_;(try clear hb)
     (try clear hb2)
     (try clear hk)
     (try clear hi)
     (try clear ho0)
     obtain ⟨Ao18, co18, eo18⟩ := Kd.R_slice HO449.out;(first | subst eo18 | (injection eo18 with f1_ f2_ f3_; have f4_ := f1_.symm; have f5_ := f3_.symm; clear f1_ f2_ f3_; subst f4_; subst f5_))
     refine hK.out _ _ trivial (fun hHeld => ?_);clear hK K;refine norm_ (a' := ?_) ?_ ?_;rotate_left
     ·show Act.put _ (some 28) _ = _
      simp only [Act.put, List.setIfInBounds_toArray, List.set_cons_zero, List.set_cons_succ, i64_w, i32_w]
      rfl
     refine pureZ 8 (some 29) #[true, true, true, true, true, true, true, true, true, false, false, false] ?_;refine pureZ 9 (some 30) #[true, true, true, true, true, true, true, true, true, true, false, false] ?_;refine one_ (i := 10) (N := none) #[true, true, true, true, true, true, true, true, true, true, true, false] rfl rfl (one_of HT_.out (by kernel_rfl)) (by decide) (fun K hK => ?_);have hs17 : w16.cell? ⟨gb441, 0, none⟩ = some (.string (⟨#[]⟩ : ByteArray)) := (blk_cell BK441.out 0).trans rfl;have hfs17 := blk_frozen BK441.out 0;have hs19 : w16.cell? ⟨gb441, 1, none⟩ = some (.slice none 0 0) := (blk_cell BK441.out 1).trans rfl;have hfs19 := blk_frozen BK441.out 1;have hs20 : w16.cell? ⟨gb441, 2, none⟩ = some (.bool false) := (blk_cell BK441.out 2).trans rfl;have hfs20 := blk_frozen BK441.out 2;have hs21 : w16.cell? ⟨gb441, 3, none⟩ = some (.string (⟨#[]⟩ : ByteArray)) := (blk_cell BK441.out 3).trans rfl;have hfs21 := blk_frozen BK441.out 3;refine skip_ (w1 := ?_) (by rfl) rfl ?_ ?_;rotate_left
     ·go_simp
      rfl
     refine hK.out _ _ trivial (fun hHeld => ?_);clear hK K;refine pureZ 11 (some 3) #[true, true, true, true, true, true, true, true, true, true, true, true] ?_;refine done_ (done_of HT_.out (by kernel_rfl)) ?_;try go_wp2
     refine bodyPost_ret (results_ct rfl _ _ gb441 27 #[.string t446, .slice Ao18 t447.length co18, .bool t450, .string t451] (0, 0) _ rfl (zz42 BK441) Tryz.underlying27 rfl (by kernel_rfl)) rfl ?_;exact ⟨_, zz5, (zz51 (rt HO449 BK441)), (zz6 HB GE441)⟩
    ·rw [if_neg c7] at H
     exact absurd H (by simp)
   ·rw [if_neg c6] at H
    exact absurd H (by simp)
  ·rw [if_neg c5] at H
   have c5b0 : decide (t444 < 0) = false := decide_eq_false c5;clear c5;by_cases c22 : 0 ≤ t444
   ·rw [if_pos c22] at H
    have c22b0 := eq_true c22;have c22b1 : decide (0 ≤ t444) = true := decide_eq_true c22;clear c22;by_cases c23 : t444 ≤ (t442.size : Int)
    ·rw [if_pos c23] at H
     have c23b0 := eq_true c23;have c23b1 : decide (t444 ≤ (t442.size : Int)) = true := decide_eq_true c23;clear c23;replace H := bindA H;obtain ⟨t453, A24, H⟩ := H;have c25b0 := eq_true (ofD : 0 ≤ t444);have c26b0 := eq_true (ofD : t444 ≤ (t442.size : Int));replace H := bindA H;obtain ⟨⟨t454, t455, t458, t459, t460⟩, A27, H⟩ := H;try dsimp -simprocs only at H
     simp only [Option.some.injEq, Prod.mk.injEq] at H
     obtain ⟨rfl, rfl, rfl, rfl, rfl⟩ := H;go_enter Tryz.func50, Tryz.ntmps50;try go_wp2_with (first | ((with_reducible refine gate_dst (N := 2) rfl ?_); refine boxE 2 #[.string (⟨#[]⟩ : ByteArray), .slice none 0 0, .bool false, .string (⟨#[]⟩ : ByteArray)] 27 ?_; intro gb441 hg w28 hbox hb; have n0_ := Aside0.mk (below_step (zz4 HB) hb); have n1_ := Aside0.mk (hbox); have n2_ := Aside0.mk ((by rw [hg]; exact (below_size (zz4 HB)) : w.heap.size ≤ gb441)); have n3_ := Aside0.mk ((by rw [hg]; exact (below_size (zz4 HB)) : w.heap.size ≤ gb441)); clear HB; have HB := n0_; have BK441 := n1_; have GW441 := n2_; have GE441 := n3_; clear n0_ n1_ n2_ n3_; clear hb hbox hg) | ((with_reducible refine gate_callee (f := 75) rfl ?_); refine goesL_ (some 9) rfl rfl Tryz.func75 (by kernel_rfl) rfl #[.string a0, .string (⟨#[47, 47]⟩ : ByteArray)] rfl zz120 ?_; (with_reducible refine (strings_CutPrefix.calls a0 (⟨#[47, 47]⟩ : ByteArray) t442 true _ A2.out).mono ?_); rintro e w' ⟨rfl, ⟨nd, rfl⟩⟩; refine ⟨_, rfl, ?_⟩; (try (rw [drewN_self w28]; generalize hq_ : World.drewN w28 _ = w28; have n0_ : Aside0 (w28.heap[gb441]? = some (.cells #[.string (⟨#[]⟩ : ByteArray), .slice none 0 0, .bool false, .string (⟨#[]⟩ : ByteArray)] 27 (0, 0))) := ⟨(by rw [← hq_]; exact (zz27 BK441))⟩; have n1_ : Aside0 (Below w.heap.size w w28) := ⟨zz122⟩; clear BK441 HB hq_; have BK441 := n0_; have HB := n1_; clear n0_ n1_))) | ((with_reducible refine gate_callee (f := 76) rfl ?_); refine goesL_ (some 16) rfl rfl Tryz.func76 (by kernel_rfl) rfl #[.string t442, .string (⟨#[47, 63]⟩ : ByteArray)] rfl zz120 ?_; (with_reducible refine (strings_IndexAny.calls t442 (⟨#[47, 63]⟩ : ByteArray) t444 _ A4.out).mono ?_); rintro e w29 ⟨rfl, hb⟩; refine ⟨_, rfl, ?_⟩; have n0_ := Aside0.mk (blk_below (zz27 BK441) hb); have n1_ := Aside0.mk (below_step (zz6 HB GE441) hb); clear BK441; clear HB; have BK441 := n0_; have HB := n1_; clear n0_ n1_; (try clear hb)))
     have n0_ := Aside0.mk (blk_drew BK441.out);have n1_ := Aside0.mk (below_drew1 HB.out);clear BK441;clear HB;have BK441 := n0_;have HB := n1_;clear n0_ n1_;refine start_ (n := 12) (S := fun w' => True) (ds := []) #[false, false, false, false, false, false, false, false, false, false, false, false] (by kernel_rfl) rfl rfl trivial (fun hHeld => ?_); refine with_tabW impl_readWhole.tab7 impl_readWhole.bits7 (fun HT_ HW_ => ?_);generalize w29.drew = w30 at BK441 HB hHeld ⊢;refine pureZ 0 (some 21) #[true, false, false, false, false, false, false, false, false, false, false, false] ?_;refine pureZ 1 (some 22) #[true, true, false, false, false, false, false, false, false, false, false, false] ?_;refine pureZ 2 (some 23) #[true, true, true, false, false, false, false, false, false, false, false, false] ?_;refine pureZ 4 (some 25) #[true, true, true, false, true, false, false, false, false, false, false, false] ?_;refine pureZ 5 (some 26) #[true, true, true, false, true, true, false, false, false, false, false, false] ?_;refine pureZ 6 (some 27) #[true, true, true, false, true, true, true, false, false, false, false, false] ?_;refine one_ (i := 3) (N := some 24) #[true, true, true, true, true, true, true, false, false, false, false, false] rfl rfl (one_of HT_.out (by kernel_rfl)) (by decide) (fun K hK => ?_);refine goes_ Tryz.func77 (by kernel_rfl) rfl #[.string (t442.extract 0 (t444 : Int).toNat)] (by rfl) rfl rfl zz120 ?_;with_reducible refine (impl_smallLetters.calls (t442.extract 0 (t444 : Int).toNat) t453 _ A24.out).mono ?_
     rintro e w31 ⟨rfl, hb⟩;refine ⟨_, rfl, ?_⟩;have n0_ := Aside0.mk (blk_below (zz27 BK441) hb);have n1_ := Aside0.mk (below_step (zz6 HB GE441) hb);clear BK441;clear HB;have BK441 := n0_;have HB := n1_;clear n0_ n1_;(try clear hb)
     (try clear hb2)
     (try clear hk)
     (try clear hi)
     refine hK.out _ _ trivial (fun hHeld => ?_);clear hK K;refine norm_ (a' := ?_) ?_ ?_;rotate_left
     ·show Act.put _ (some 24) _ = _
      simp only [Act.put, List.setIfInBounds_toArray, List.set_cons_zero, List.set_cons_succ, i64_w, i32_w]
      rfl
     refine one_ (i := 7) (N := some 28) #[true, true, true, true, true, true, true, true, false, false, false, false] rfl rfl (one_of HT_.out (by kernel_rfl)) (by decide) (fun K hK => ?_);refine goes_ Tryz.func52 (by kernel_rfl) rfl #[.string t453, .slice none 0 0, .string (t442.extract (t444 : Int).toNat t442.size)] (by rfl) rfl rfl zz120 ?_;refine (impl_readWay.calls k t453 _ _ ([] : List ByteArray) (t442.extract (t444 : Int).toNat t442.size) t454 t455 t458 t459 t460 _ ?side1 ?side2 A27.out).mono ?_;(case side1 => exact Kd.C_nil _ _)
     (case side2 => exact Nat.le_refl _)
     rintro e w32 ⟨v456, rfl, ho0, hb⟩;refine ⟨_, rfl, ?_⟩;have n0_ := Aside0.mk (Kd.R_lower ho0 (below_size (zz6 HB GE441)));have n1_ := Aside0.mk (blk_below (zz27 BK441) hb);have n2_ := Aside0.mk (below_step (zz6 HB GE441) hb);clear BK441;clear HB;have HO457 := n0_;have BK441 := n1_;have HB := n2_;clear n0_ n1_ n2_;(try clear hb)
     (try clear hb2)
     (try clear hk)
     (try clear hi)
     (try clear ho0)
     obtain ⟨Ao34, co34, eo34⟩ := Kd.R_slice HO457.out;(first | subst eo34 | (injection eo34 with f1_ f2_ f3_; have f4_ := f1_.symm; have f5_ := f3_.symm; clear f1_ f2_ f3_; subst f4_; subst f5_))
     refine hK.out _ _ trivial (fun hHeld => ?_);clear hK K;refine norm_ (a' := ?_) ?_ ?_;rotate_left
     ·show Act.put _ (some 28) _ = _
      simp only [Act.put, List.setIfInBounds_toArray, List.set_cons_zero, List.set_cons_succ, i64_w, i32_w]
      rfl
     refine pureZ 8 (some 29) #[true, true, true, true, true, true, true, true, true, false, false, false] ?_;refine pureZ 9 (some 30) #[true, true, true, true, true, true, true, true, true, true, false, false] ?_;refine one_ (i := 10) (N := none) #[true, true, true, true, true, true, true, true, true, true, true, false] rfl rfl (one_of HT_.out (by kernel_rfl)) (by decide) (fun K hK => ?_);have hs33 : w32.cell? ⟨gb441, 0, none⟩ = some (.string (⟨#[]⟩ : ByteArray)) := (blk_cell BK441.out 0).trans rfl;have hfs33 := blk_frozen BK441.out 0;have hs35 : w32.cell? ⟨gb441, 1, none⟩ = some (.slice none 0 0) := (blk_cell BK441.out 1).trans rfl;have hfs35 := blk_frozen BK441.out 1;have hs36 : w32.cell? ⟨gb441, 2, none⟩ = some (.bool false) := (blk_cell BK441.out 2).trans rfl;have hfs36 := blk_frozen BK441.out 2;have hs37 : w32.cell? ⟨gb441, 3, none⟩ = some (.string (⟨#[]⟩ : ByteArray)) := (blk_cell BK441.out 3).trans rfl;have hfs37 := blk_frozen BK441.out 3;refine skip_ (w1 := ?_) (by rfl) rfl ?_ ?_;rotate_left
     ·go_simp
      rfl
     refine hK.out _ _ trivial (fun hHeld => ?_);clear hK K;refine pureZ 11 (some 3) #[true, true, true, true, true, true, true, true, true, true, true, true] ?_;refine done_ (done_of HT_.out (by kernel_rfl)) ?_;try go_wp2
     refine bodyPost_ret (results_ct rfl _ _ gb441 27 #[.string t454, .slice Ao34 t455.length co34, .bool t458, .string t459] (0, 0) _ rfl (zz42 BK441) Tryz.underlying27 rfl (by kernel_rfl)) rfl ?_;exact ⟨_, zz5, (zz51 (rt HO457 BK441)), (zz6 HB GE441)⟩
    ·rw [if_neg c23] at H
     exact absurd H (by simp)
   ·rw [if_neg c22] at H
    exact absurd H (by simp)
 ·replace c3 := Bool.eq_false_iff.mpr c3
  subst c3;rw [if_neg (show ¬ (false = true) by decide)] at H;simp only [Option.some.injEq, Prod.mk.injEq] at H
  obtain ⟨rfl, rfl, rfl, rfl, rfl⟩ := H;go_enter Tryz.func50, Tryz.ntmps50;go_wp2_with (first | ((with_reducible refine gate_dst (N := 2) rfl ?_); refine boxE 2 #[.string (⟨#[]⟩ : ByteArray), .slice none 0 0, .bool false, .string (⟨#[]⟩ : ByteArray)] 27 ?_; intro gb441 hg w38 hbox hb; have n0_ := Aside0.mk (below_step (zz4 HB) hb); have n1_ := Aside0.mk (hbox); have n2_ := Aside0.mk ((by rw [hg]; exact (below_size (zz4 HB)) : w.heap.size ≤ gb441)); have n3_ := Aside0.mk ((by rw [hg]; exact (below_size (zz4 HB)) : w.heap.size ≤ gb441)); clear HB; have HB := n0_; have BK441 := n1_; have GW441 := n2_; have GE441 := n3_; clear n0_ n1_ n2_ n3_; clear hb hbox hg) | ((with_reducible refine gate_callee (f := 75) rfl ?_); refine goesL_ (some 9) rfl rfl Tryz.func75 (by kernel_rfl) rfl #[.string a0, .string (⟨#[47, 47]⟩ : ByteArray)] rfl zz120 ?_; (with_reducible refine (strings_CutPrefix.calls a0 (⟨#[47, 47]⟩ : ByteArray) t442 false _ A2.out).mono ?_); rintro e w' ⟨rfl, ⟨nd, rfl⟩⟩; refine ⟨_, rfl, ?_⟩; (try (rw [drewN_self w38]; generalize hq_ : World.drewN w38 _ = w38; have n0_ : Aside0 (w38.heap[gb441]? = some (.cells #[.string (⟨#[]⟩ : ByteArray), .slice none 0 0, .bool false, .string (⟨#[]⟩ : ByteArray)] 27 (0, 0))) := ⟨(by rw [← hq_]; exact (zz27 BK441))⟩; have n1_ : Aside0 (Below w.heap.size w w38) := ⟨zz122⟩; clear BK441 HB hq_; have BK441 := n0_; have HB := n1_; clear n0_ n1_)); obtain ⟨_, _, _, _, _, _, _, _⟩ := cf4 BK441))
  refine bodyPost_ret (results_ct rfl _ _ gb441 27 #[.string (⟨#[]⟩ : ByteArray), .slice none 0 0, .bool false, .string (⟨#[]⟩ : ByteArray)] (0, 0) _ rfl (zz42 BK441) Tryz.underlying27 rfl (by kernel_rfl)) rfl ?_;exact ⟨_, zz5, zz43, (zz6 HB GE441)⟩
def impl_AddrJoin.j0 : Nat → ByteArray → Bool → ByteArray → List ByteArray → Bool → ByteArray → Option (ByteArray × List ByteArray × Bool × ByteArray × Bool)
 | 0, _, _, _, _, _, _ => none
 | k + 1, x1, x16, x462000, x462001, x462002, x462003 => if x16 = true then (some ((⟨#[]⟩ : ByteArray), ([] : List ByteArray), false, (⟨#[]⟩ : ByteArray), false)) else ((strings_Cut.f x1 (⟨#[35]⟩ : ByteArray)).bind fun bt464 => ((strings_HasPrefix.f bt464.1 (⟨#[47, 47]⟩ : ByteArray)).bind fun t467 => (if t467 = true then ((impl_readWhole.f k bt464.1).bind fun bt468 => (some (bt468.1, bt468.2.1, bt468.2.2.1, bt468.2.2.2.1, bt468.2.2.2.2))) else (if bt464.1.toList = ([] : List UInt8) then ((slices_Clone_string_string.f x462001).bind fun t475 => (some (x462000, t475, x462002, x462003, true))) else (if 0 < (bt464.1.size : Int) then (if (bt bt464.1 0) = 47 then ((impl_readWay.f k x462000 ([] : List ByteArray) bt464.1).bind fun bt478 => (some (bt478.1, bt478.2.1, bt478.2.2.1, bt478.2.2.2.1, bt478.2.2.2.2))) else (if (bt bt464.1 0) = 63 then ((impl_readWay.f k x462000 x462001 bt464.1).bind fun bt485 => (some (bt485.1, bt485.2.1, bt485.2.2.1, bt485.2.2.2.1, bt485.2.2.2.2))) else (if 0 ≤ (mx (wrap64 ((x462001.length : Int) - 1)) 0) then (if (mx (wrap64 ((x462001.length : Int) - 1)) 0) ≤ (x462001.length : Int) then ((impl_readWay.f k x462000 (x462001.take ((mx (wrap64 ((x462001.length : Int) - 1)) 0) : Int).toNat) bt464.1).bind fun bt493 => (some (bt493.1, bt493.2.1, bt493.2.2.1, bt493.2.2.2.1, bt493.2.2.2.2))) else (none)) else (none)))) else (none))))))
def impl_AddrJoin.f (k : Nat) (a0_0 : ByteArray) (l0_1 : List ByteArray) (a0_2 : Bool) (a0_3 : ByteArray) (a1 : ByteArray) : Option (ByteArray × List ByteArray × Bool × ByteArray × Bool) := if (a1.size : Int) > 60 then (impl_AddrJoin.j0 k a1 true a0_0 l0_1 a0_2 a0_3) else ((impl_AddrOk.f k a0_0 l0_1 a0_2 a0_3).bind fun t463 => (impl_AddrJoin.j0 k a1 (!t463) a0_0 l0_1 a0_2 a0_3))
def impl_AddrJoin.T13 : Bool × List (List Nat × List Nat) := (true, [([], []), ([0], [0]), ([], []), ([2], [2]), ([], []), ([4], [4]), ([5], [5]), ([6], [6]), ([7], [7]), ([3, 8], [3, 8]), ([], []), ([1, 9, 10], [1, 9, 10]), ([11], [11]), ([11], [11]), ([12, 11, 0, 1, 2, 3, 4, 5, 6, 7, 8, 9, 10, 11, 12, 13], [12]), ([13, 14, 0, 1, 2, 3, 4, 5, 6, 7, 8, 9, 10, 11, 12, 13, 14], [13])])
def impl_AddrJoin.B13 : List Nat := [0, 1, 0, 4, 0, 16, 48, 112, 240, 508, 0, 2047, 4095, 4095, 16383, 32767]
theorem impl_AddrJoin.tab13 : rtab .any (opsOf Tryz.f23 13) = impl_AddrJoin.T13 := by kernel_rfl
theorem impl_AddrJoin.bits13 : waitsOk impl_AddrJoin.T13.2 impl_AddrJoin.B13 = true := by kernel_rfl
set_option maxHeartbeats 8000000 in
set_option maxRecDepth 100000 in
theorem impl_AddrJoin.calls (k : Nat) (a0_0 : ByteArray) (A0_1 : Option Addr) (c0_1 : Nat) (l0_1 : List ByteArray) (a0_2 : Bool) (a0_3 : ByteArray) (a1 : ByteArray) (r1 : ByteArray) (r2 : List ByteArray) (r3 : Bool) (r4 : ByteArray) (r5 : Bool) (w : World) (hr0_1 : Kd.C Kd.string w A0_1 l0_1.length l0_1) (hc0_1 : l0_1.length ≤ c0_1) (h : impl_AddrJoin.f k a0_0 l0_1 a0_2 a0_3 a1 = some (r1, r2, r3, r4, r5)) :
  Calls Tryz.prog 23 #[.agg #[.string a0_0, .slice A0_1 l0_1.length c0_1, .bool a0_2, .string a0_3], .string a1] w fun e w' => ∃ v1_ : Value, e = .returned (.tuple #[.agg #[.string r1, v1_, .bool r3, .string r4], .bool r5]) ∧ Kd.R Kd.string 9 w' w.heap.size (fun _ => True) v1_ r2 ∧ Below w.heap.size w w' := by
 have hu27 := Tryz.underlying27;have HR0_1 := Aside0.mk hr0_1;have HC0_1 := Aside0.mk hc0_1;clear hr0_1 hc0_1;have HB := Aside0.mk (Below.refl w.heap.size w);have H : (if (a1.size : Int) > 60 then (impl_AddrJoin.j0 k a1 true a0_0 l0_1 a0_2 a0_3) else ((impl_AddrOk.f k a0_0 l0_1 a0_2 a0_3).bind fun t463 => (impl_AddrJoin.j0 k a1 (!t463) a0_0 l0_1 a0_2 a0_3))) = some (r1, r2, r3, r4, r5) := h;clear h;have HC3 := Aside0.mk H;clear H;go_enter Tryz.func23, Tryz.ntmps23;go_upto_region 1 with (first | ((with_reducible refine gate_dst (N := 2) rfl ?_); refine boxE 2 #[.string a0_0, .slice A0_1 l0_1.length c0_1, .bool a0_2, .string a0_3] 27 ?_; intro gb461 hg w4 hbox hb; have n0_ := Aside0.mk (below_step (zz4 HB) hb); have n1_ := Aside0.mk (hbox); have n2_ := Aside0.mk ((by rw [hg]; exact (below_size (zz4 HB)) : w.heap.size ≤ gb461)); have n3_ := Aside0.mk ((by rw [hg]; exact (below_size (zz4 HB)) : w.heap.size ≤ gb461)); clear HB; have HB := n0_; have BK461 := n1_; have GW461 := n2_; have GE461 := n3_; clear n0_ n1_ n2_ n3_; clear hb hbox hg) | ((with_reducible refine gate_dst (N := 4) rfl ?_); refine boxE 4 #[.string (⟨#[]⟩ : ByteArray), .slice none 0 0, .bool false, .string (⟨#[]⟩ : ByteArray)] 27 ?_; intro gb462 hg w5 hbox hb; have n0_ := Aside0.mk (blk_below (zz27 BK461) hb); have n1_ := Aside0.mk (below_step (zz6 HB GE461) hb); have n2_ := Aside0.mk (hbox); have n3_ := Aside0.mk ((by rw [hg]; exact (below_size (zz6 HB GE461)) : w.heap.size ≤ gb462)); have n4_ := Aside0.mk ((by rw [hg]; exact (below_size (zz6 HB GE461)) : w.heap.size ≤ gb462)); have n5_ := Aside0.mk ((by rw [hg]; exact Nat.ne_of_lt (blk_lt (zz27 BK461)) : gb461 ≠ gb462)); have n6_ := Aside0.mk ((by rw [hg]; exact Nat.ne_of_gt (blk_lt (zz27 BK461)) : gb462 ≠ gb461)); clear BK461; clear HB; have BK461 := n0_; have HB := n1_; have BK462 := n2_; have GW462 := n3_; have GE462 := n4_; have NB461_462 := n5_; have NB462_461 := n6_; clear n0_ n1_ n2_ n3_ n4_ n5_ n6_; clear hb hbox hg))
 (try simp only [Act.put, List.setIfInBounds_toArray, List.set_cons_zero, List.set_cons_succ])
 go_cut [16] (fun v16 wc => ∃ (kq : Nat) (x16_2 : Bool), v16 = .bool x16_2 ∧ Aside0 (impl_AddrJoin.j0 kq a1 x16_2 a0_0 l0_1 a0_2 a0_3 = some (r1, r2, r3, r4, r5)) ∧ Aside0 (kq ≤ k) ∧ Aside0 (wc.heap[gb461]? = some (.cells #[.string a0_0, (.slice A0_1 l0_1.length c0_1), .bool a0_2, .string a0_3] 27 (0, 0))) ∧ Aside0 (wc.heap[gb462]? = some (.cells #[.string (⟨#[]⟩ : ByteArray), (.slice none 0 0), .bool false, .string (⟨#[]⟩ : ByteArray)] 27 (0, 0))) ∧ Aside0 (Below w.heap.size w wc))
 case first =>
  have H := HC3.out;clear HC3;by_cases c6 : (a1.size : Int) > 60
  ·rw [if_pos c6] at H
   have c6b0 : decide (60 < (a1.size : Int)) = true := decide_eq_true c6;have c6b1 : decide (60 < a1.size) = true := decide_eq_true (by omega);clear c6;(first | rw [c6b0] | (simp only [i64_w, i32_w]; rw [c6b0]) | skip)
   have H' := Aside0.mk H;clear H;go_wp2
   go_meet
   case rel => exact ⟨_, (true), zz0, H', ⟨zz18⟩, ⟨(zz27 BK461)⟩, ⟨(zz27 BK462)⟩, ⟨(zz38 HB GE461 GE462)⟩⟩
  ·rw [if_neg c6] at H
   have c6b0 : decide (60 < (a1.size : Int)) = false := decide_eq_false c6;have c6b1 : decide (60 < a1.size) = false := decide_eq_false (by omega);clear c6;(first | rw [c6b0] | (simp only [i64_w, i32_w]; rw [c6b0]) | skip)
   replace H := bindA H;obtain ⟨t463, A7, H⟩ := H;have H' := Aside0.mk H;clear H;have hnb8 := NB461_462.out;have hnc8 := NB462_461.out;obtain ⟨_, _, _, _, _, _, _, _⟩ := cf4 BK461;go_wp2_with (first | (go_at_call 34; (with_reducible refine (impl_AddrOk.calls k a0_0 _ _ l0_1 a0_2 a0_3 t463 _ ?side1 ?side2 A7.out).mono ?_); (case side1 => exact (zz7 HR0_1 HB)); (case side2 => exact HC0_1.out); rintro e w10 ⟨rfl, hb⟩; have n0_ := Aside0.mk (blk_below (zz27 BK461) hb); have n1_ := Aside0.mk (blk_below (zz27 BK462) hb); have n2_ := Aside0.mk (below_step (zz38 HB GE461 GE462) hb); clear BK461; clear BK462; clear HB; have BK461 := n0_; have BK462 := n1_; have HB := n2_; clear n0_ n1_ n2_; (try clear hb)))
   go_meet
   case rel => exact ⟨_, (!t463), zz0, H', ⟨zz18⟩, ⟨(zz27 BK461)⟩, ⟨(zz27 BK462)⟩, ⟨(zz38 HB GE461 GE462)⟩⟩
 case rest =>
  clear HC3;obtain ⟨kq, x16_2, rfl, HA, HJ2, BK461, BK462, HB⟩ := hcut;cases kq with
  | zero => exact absurd HA.out (by simp [impl_AddrJoin.j0])
  | succ kj2 =>
   have H := HA.out;clear HA;simp only [impl_AddrJoin.j0] at H
   by_cases c11 : x16_2 = true
   ·subst c11
    rw [if_pos rfl] at H;simp only [Option.some.injEq, Prod.mk.injEq] at H
    obtain ⟨rfl, rfl, rfl, rfl, rfl⟩ := H;have hnb12 := NB462_461.out;have hnc12 := NB461_462.out;obtain ⟨_, _, _, _, _, _, _, _⟩ := cf4 BK462;go_wp2
    refine bodyPost_ret (results_ct rfl _ _ gb462 27 #[.string (⟨#[]⟩ : ByteArray), .slice none 0 0, .bool false, .string (⟨#[]⟩ : ByteArray)] (0, 0) _ rfl (zz42 BK462) Tryz.underlying27 rfl (by kernel_rfl)) rfl ?_;exact ⟨_, zz5, zz43, (zz38 HB GE461 GE462)⟩
   ·replace c11 := Bool.eq_false_iff.mpr c11
    subst c11;rw [if_neg (show ¬ (false = true) by decide)] at H;replace H := bindA H;obtain ⟨⟨t464, t465, t466⟩, A14, H⟩ := H;try dsimp -simprocs only at H
    replace H := bindA H;obtain ⟨t467, A15, H⟩ := H;by_cases c16 : t467 = true
    ·subst c16
     rw [if_pos rfl] at H;replace H := bindA H;obtain ⟨⟨t468, t469, t472, t473, t474⟩, A17, H⟩ := H;try dsimp -simprocs only at H
     simp only [Option.some.injEq, Prod.mk.injEq] at H
     obtain ⟨rfl, rfl, rfl, rfl, rfl⟩ := H;go_wp2_with (first | ((with_reducible refine gate_callee (f := 48) rfl ?_); refine gsL (some 20) Tryz.func48 #[.string a1, .string (⟨#[35]⟩ : ByteArray)] ?_; (with_reducible refine (strings_Cut.calls a1 (⟨#[35]⟩ : ByteArray) t464 t465 t466 _ A14.out).mono ?_); rintro e w18 ⟨rfl, hb⟩; refine ⟨_, rfl, ?_⟩; have n0_ := Aside0.mk (blk_below (zz27 BK461) hb); have n1_ := Aside0.mk (blk_below (zz27 BK462) hb); have n2_ := Aside0.mk (below_step (zz38 HB GE461 GE462) hb); clear BK461; clear BK462; clear HB; have BK461 := n0_; have BK462 := n1_; have HB := n2_; clear n0_ n1_ n2_; (try clear hb)) | ((with_reducible refine gate_callee (f := 49) rfl ?_); refine gsL (some 26) Tryz.func49 #[.string t464, .string (⟨#[47, 47]⟩ : ByteArray)] ?_; (with_reducible refine (strings_HasPrefix.calls t464 (⟨#[47, 47]⟩ : ByteArray) true _ A15.out).mono ?_); rintro e w' ⟨rfl, ⟨nd, rfl⟩⟩; refine ⟨_, rfl, ?_⟩; (try (rw [drewN_self w18]; generalize hq_ : World.drewN w18 _ = w18; have n0_ : Aside0 (w18.heap[gb461]? = some (.cells #[.string a0_0, .slice A0_1 l0_1.length c0_1, .bool a0_2, .string a0_3] 27 (0, 0))) := ⟨zz124⟩; have n1_ : Aside0 (w18.heap[gb462]? = some (.cells #[.string (⟨#[]⟩ : ByteArray), .slice none 0 0, .bool false, .string (⟨#[]⟩ : ByteArray)] 27 (0, 0))) := ⟨zz125⟩; have n2_ : Aside0 (Below w.heap.size w w18) := ⟨zz126⟩; clear BK461 BK462 HB hq_; have BK461 := n0_; have BK462 := n1_; have HB := n2_; clear n0_ n1_ n2_))) | ((with_reducible refine gate_callee (f := 50) rfl ?_); refine gsL (some 28) Tryz.func50 #[.string t464] ?_; (with_reducible refine (impl_readWhole.calls kj2 t464 t468 t469 t472 t473 t474 _ A17.out).mono ?_); rintro e w19 ⟨v470, rfl, ho0, hb⟩; refine ⟨_, rfl, ?_⟩; have n0_ := Aside0.mk (Kd.R_lower ho0 (below_size (zz38 HB GE461 GE462))); have n1_ := Aside0.mk (blk_below (zz27 BK461) hb); have n2_ := Aside0.mk (blk_below (zz27 BK462) hb); have n3_ := Aside0.mk (below_step (zz38 HB GE461 GE462) hb); clear BK461; clear BK462; clear HB; have HO471 := n0_; have BK461 := n1_; have BK462 := n2_; have HB := n3_; clear n0_ n1_ n2_ n3_; (try clear hb ho0); have hnb20 := NB462_461.out; have hnc20 := NB461_462.out; obtain ⟨_, _, _, _, _, _, _, _⟩ := cf4 BK462; obtain ⟨Ao22, co22, eo22⟩ := Kd.R_slice HO471.out; subst eo22))
     refine bodyPost_ret (results_ct rfl _ _ gb462 27 #[.string t468, .slice Ao22 t469.length co22, .bool t472, .string t473] (0, 0) _ rfl (zz42 BK462) Tryz.underlying27 rfl (by kernel_rfl)) rfl ?_;exact ⟨_, zz5, (zz51 (rt HO471 BK462)), (zz38 HB GE461 GE462)⟩
    ·replace c16 := Bool.eq_false_iff.mpr c16
     subst c16;rw [if_neg (show ¬ (false = true) by decide)] at H;by_cases c23 : t464.toList = ([] : List UInt8)
     ·rw [if_pos c23] at H
      have c23b0 : (t464.toList == ([] : List UInt8)) = true := beq_iff_eq.mpr c23;have c23b1 : (t464.toList != ([] : List UInt8)) = false := bne_eq_false_iff_eq.mpr c23;clear c23;replace H := bindA H;obtain ⟨t475, A24, H⟩ := H;simp only [Option.some.injEq, Prod.mk.injEq] at H
      obtain ⟨rfl, rfl, rfl, rfl, rfl⟩ := H;go_wp2_with (first | ((with_reducible refine gate_callee (f := 48) rfl ?_); refine gsL (some 20) Tryz.func48 #[.string a1, .string (⟨#[35]⟩ : ByteArray)] ?_; (with_reducible refine (strings_Cut.calls a1 (⟨#[35]⟩ : ByteArray) t464 t465 t466 _ A14.out).mono ?_); rintro e w25 ⟨rfl, hb⟩; refine ⟨_, rfl, ?_⟩; have n0_ := Aside0.mk (blk_below (zz27 BK461) hb); have n1_ := Aside0.mk (blk_below (zz27 BK462) hb); have n2_ := Aside0.mk (below_step (zz38 HB GE461 GE462) hb); clear BK461; clear BK462; clear HB; have BK461 := n0_; have BK462 := n1_; have HB := n2_; clear n0_ n1_ n2_; (try clear hb)) | ((with_reducible refine gate_callee (f := 49) rfl ?_); refine gsL (some 26) Tryz.func49 #[.string t464, .string (⟨#[47, 47]⟩ : ByteArray)] ?_; (with_reducible refine (strings_HasPrefix.calls t464 (⟨#[47, 47]⟩ : ByteArray) false _ A15.out).mono ?_); rintro e w' ⟨rfl, ⟨nd, rfl⟩⟩; refine ⟨_, rfl, ?_⟩; (try (rw [drewN_self w25]; generalize hq_ : World.drewN w25 _ = w25; have n0_ : Aside0 (w25.heap[gb461]? = some (.cells #[.string a0_0, .slice A0_1 l0_1.length c0_1, .bool a0_2, .string a0_3] 27 (0, 0))) := ⟨zz124⟩; have n1_ : Aside0 (w25.heap[gb462]? = some (.cells #[.string (⟨#[]⟩ : ByteArray), .slice none 0 0, .bool false, .string (⟨#[]⟩ : ByteArray)] 27 (0, 0))) := ⟨zz125⟩; have n2_ : Aside0 (Below w.heap.size w w25) := ⟨zz126⟩; clear BK461 BK462 HB hq_; have BK461 := n0_; have BK462 := n1_; have HB := n2_; clear n0_ n1_ n2_)); have hnb26 := NB461_462.out; have hnc26 := NB462_461.out; obtain ⟨_, _, _, _, _, _, _, _⟩ := cf4 BK461) | ((with_reducible refine gate_callee (f := 51) rfl ?_); refine gsL (some 36) Tryz.func51 #[.slice A0_1 l0_1.length c0_1] ?_; (with_reducible refine (slices_Clone_string_string.calls _ _ l0_1 t475 _ ?side1 ?side2 A24.out).mono ?_); (case side1 => exact (zz7 HR0_1 HB)); (case side2 => exact HC0_1.out); rintro e w28 ⟨v476, rfl, ho0, hb⟩; refine ⟨_, rfl, ?_⟩; have n0_ := Aside0.mk (Kd.R_lower ho0 (below_size (zz38 HB GE461 GE462))); have n1_ := Aside0.mk (blk_below (zz27 BK461) hb); have n2_ := Aside0.mk (blk_below (zz27 BK462) hb); have n3_ := Aside0.mk (below_step (zz38 HB GE461 GE462) hb); clear BK461; clear BK462; clear HB; have HO477 := n0_; have BK461 := n1_; have BK462 := n2_; have HB := n3_; clear n0_ n1_ n2_ n3_; (try clear hb ho0); obtain ⟨Ao29, co29, eo29⟩ := Kd.R_slice HO477.out; subst eo29; obtain ⟨_, _, _, _, _, _, _, _⟩ := cf4 BK461; obtain ⟨_, _, _, _, _, _, _, _⟩ := cf4 BK462))
      refine bodyPost_ret (results_ct rfl _ _ gb462 27 #[.string a0_0, .slice Ao29 t475.length co29, .bool a0_2, .string a0_3] (0, 0) _ rfl (zz50 BK462 NB462_461) Tryz.underlying27 rfl (by kernel_rfl)) rfl ?_;exact ⟨_, zz5, (zz51 (rt (rt HO477 BK461) BK462)), (zz38 HB GE461 GE462)⟩
     ·rw [if_neg c23] at H
      have c23b0 : (t464.toList == ([] : List UInt8)) = false := beq_eq_false_iff_ne.mpr c23;have c23b1 : (t464.toList != ([] : List UInt8)) = true := bne_iff_ne.mpr c23;by_cases c32 : 0 < (t464.size : Int)
      ·rw [if_pos c32] at H
       have c32b0 : decide (0 < (t464.size : Int)) = true := decide_eq_true c32;have c32b1 : decide (0 < t464.size) = true := decide_eq_true (by omega);clear c32;by_cases c34 : (bt t464 0) = 47
       ·rw [if_pos c34] at H
        have c34b0 : ((bt t464 0) == 47) = true := beq_iff_eq.mpr c34;have c34b1 : ((bt t464 0) != 47) = false := bne_eq_false_iff_eq.mpr c34;clear c34;replace H := bindA H;obtain ⟨⟨t478, t479, t482, t483, t484⟩, A35, H⟩ := H;try dsimp -simprocs only at H
        simp only [Option.some.injEq, Prod.mk.injEq] at H
        obtain ⟨rfl, rfl, rfl, rfl, rfl⟩ := H;go_wp2_with (first | ((with_reducible refine gate_callee (f := 48) rfl ?_); refine gsL (some 20) Tryz.func48 #[.string a1, .string (⟨#[35]⟩ : ByteArray)] ?_; (with_reducible refine (strings_Cut.calls a1 (⟨#[35]⟩ : ByteArray) t464 t465 t466 _ A14.out).mono ?_); rintro e w36 ⟨rfl, hb⟩; refine ⟨_, rfl, ?_⟩; have n0_ := Aside0.mk (blk_below (zz27 BK461) hb); have n1_ := Aside0.mk (blk_below (zz27 BK462) hb); have n2_ := Aside0.mk (below_step (zz38 HB GE461 GE462) hb); clear BK461; clear BK462; clear HB; have BK461 := n0_; have BK462 := n1_; have HB := n2_; clear n0_ n1_ n2_; (try clear hb)) | ((with_reducible refine gate_callee (f := 49) rfl ?_); refine gsL (some 26) Tryz.func49 #[.string t464, .string (⟨#[47, 47]⟩ : ByteArray)] ?_; (with_reducible refine (strings_HasPrefix.calls t464 (⟨#[47, 47]⟩ : ByteArray) false _ A15.out).mono ?_); rintro e w' ⟨rfl, ⟨nd, rfl⟩⟩; refine ⟨_, rfl, ?_⟩; (try (rw [drewN_self w36]; generalize hq_ : World.drewN w36 _ = w36; have n0_ : Aside0 (w36.heap[gb461]? = some (.cells #[.string a0_0, .slice A0_1 l0_1.length c0_1, .bool a0_2, .string a0_3] 27 (0, 0))) := ⟨zz124⟩; have n1_ : Aside0 (w36.heap[gb462]? = some (.cells #[.string (⟨#[]⟩ : ByteArray), .slice none 0 0, .bool false, .string (⟨#[]⟩ : ByteArray)] 27 (0, 0))) := ⟨zz125⟩; have n2_ : Aside0 (Below w.heap.size w w36) := ⟨zz126⟩; clear BK461 BK462 HB hq_; have BK461 := n0_; have BK462 := n1_; have HB := n2_; clear n0_ n1_ n2_)); have p33 : 0 ≤ (0 : Int) := (by omega); have q33 : 0 < t464.size := (by have : (0 : Int) < (t464.size : Int) := ofD; omega); have hx33 : ∀ h : 0 < t464.size, ((t464[0]'h).toNat : Int) = bt t464 0 := bt_at t464 0; clear p33; have qi33 : (0 < (t464.size : Int)) = True := eq_true ofD; replace q33 := eq_true q33; have hnb37 := NB461_462.out; have hnc37 := NB462_461.out; obtain ⟨_, _, _, _, _, _, _, _⟩ := cf4 BK461) | ((with_reducible refine gate_callee (f := 52) rfl ?_); refine gsL (some 46) Tryz.func52 #[.string a0_0, .slice none 0 0, .string t464] ?_; (refine (impl_readWay.calls kj2 a0_0 _ _ ([] : List ByteArray) t464 t478 t479 t482 t483 t484 _ ?side1 ?side2 A35.out).mono ?_); (case side1 => exact Kd.C_nil _ _); (case side2 => exact Nat.le_refl _); rintro e w39 ⟨v480, rfl, ho0, hb⟩; refine ⟨_, rfl, ?_⟩; have n0_ := Aside0.mk (Kd.R_lower ho0 (below_size (zz38 HB GE461 GE462))); have n1_ := Aside0.mk (blk_below (zz27 BK461) hb); have n2_ := Aside0.mk (blk_below (zz27 BK462) hb); have n3_ := Aside0.mk (below_step (zz38 HB GE461 GE462) hb); clear BK461; clear BK462; clear HB; have HO481 := n0_; have BK461 := n1_; have BK462 := n2_; have HB := n3_; clear n0_ n1_ n2_ n3_; (try clear hb ho0); obtain ⟨_, _, _, _, _, _, _, _⟩ := cf4 BK462; obtain ⟨Ao41, co41, eo41⟩ := Kd.R_slice HO481.out; subst eo41))
        refine bodyPost_ret (results_ct rfl _ _ gb462 27 #[.string t478, .slice Ao41 t479.length co41, .bool t482, .string t483] (0, 0) _ rfl (zz42 BK462) Tryz.underlying27 rfl (by kernel_rfl)) rfl ?_;exact ⟨_, zz5, (zz51 (rt HO481 BK462)), (zz38 HB GE461 GE462)⟩
       ·rw [if_neg c34] at H
        have c34b0 : ((bt t464 0) == 47) = false := beq_eq_false_iff_ne.mpr c34;have c34b1 : ((bt t464 0) != 47) = true := bne_iff_ne.mpr c34;by_cases c43 : (bt t464 0) = 63
        ·rw [if_pos c43] at H
         have c43b0 : ((bt t464 0) == 63) = true := beq_iff_eq.mpr c43;have c43b1 : ((bt t464 0) != 63) = false := bne_eq_false_iff_eq.mpr c43;clear c43;replace H := bindA H;obtain ⟨⟨t485, t486, t489, t490, t491⟩, A44, H⟩ := H;try dsimp -simprocs only at H
         simp only [Option.some.injEq, Prod.mk.injEq] at H
         obtain ⟨rfl, rfl, rfl, rfl, rfl⟩ := H;go_wp2_with (first | ((with_reducible refine gate_callee (f := 48) rfl ?_); refine gsL (some 20) Tryz.func48 #[.string a1, .string (⟨#[35]⟩ : ByteArray)] ?_; (with_reducible refine (strings_Cut.calls a1 (⟨#[35]⟩ : ByteArray) t464 t465 t466 _ A14.out).mono ?_); rintro e w45 ⟨rfl, hb⟩; refine ⟨_, rfl, ?_⟩; have n0_ := Aside0.mk (blk_below (zz27 BK461) hb); have n1_ := Aside0.mk (blk_below (zz27 BK462) hb); have n2_ := Aside0.mk (below_step (zz38 HB GE461 GE462) hb); clear BK461; clear BK462; clear HB; have BK461 := n0_; have BK462 := n1_; have HB := n2_; clear n0_ n1_ n2_; (try clear hb)) | ((with_reducible refine gate_callee (f := 49) rfl ?_); refine gsL (some 26) Tryz.func49 #[.string t464, .string (⟨#[47, 47]⟩ : ByteArray)] ?_; (with_reducible refine (strings_HasPrefix.calls t464 (⟨#[47, 47]⟩ : ByteArray) false _ A15.out).mono ?_); rintro e w' ⟨rfl, ⟨nd, rfl⟩⟩; refine ⟨_, rfl, ?_⟩; (try (rw [drewN_self w45]; generalize hq_ : World.drewN w45 _ = w45; have n0_ : Aside0 (w45.heap[gb461]? = some (.cells #[.string a0_0, .slice A0_1 l0_1.length c0_1, .bool a0_2, .string a0_3] 27 (0, 0))) := ⟨zz124⟩; have n1_ : Aside0 (w45.heap[gb462]? = some (.cells #[.string (⟨#[]⟩ : ByteArray), .slice none 0 0, .bool false, .string (⟨#[]⟩ : ByteArray)] 27 (0, 0))) := ⟨zz125⟩; have n2_ : Aside0 (Below w.heap.size w w45) := ⟨zz126⟩; clear BK461 BK462 HB hq_; have BK461 := n0_; have BK462 := n1_; have HB := n2_; clear n0_ n1_ n2_)); have p33 : 0 ≤ (0 : Int) := (by omega); have q33 : 0 < t464.size := (by have : (0 : Int) < (t464.size : Int) := ofD; omega); have hx33 : ∀ h : 0 < t464.size, ((t464[0]'h).toNat : Int) = bt t464 0 := bt_at t464 0; clear p33; have qi33 : (0 < (t464.size : Int)) = True := eq_true ofD; replace q33 := eq_true q33; have p42 : 0 ≤ (0 : Int) := (by omega); have q42 : 0 < t464.size := (by have : (0 : Int) < (t464.size : Int) := ofD; omega); have hx42 : ∀ h : 0 < t464.size, ((t464[0]'h).toNat : Int) = bt t464 0 := bt_at t464 0; clear p42; have qi42 : (0 < (t464.size : Int)) = True := eq_true ofD; replace q42 := eq_true q42; have hnb46 := NB461_462.out; have hnc46 := NB462_461.out; obtain ⟨_, _, _, _, _, _, _, _⟩ := cf4 BK461) | ((with_reducible refine gate_callee (f := 52) rfl ?_); refine gsL (some 58) Tryz.func52 #[.string a0_0, .slice A0_1 l0_1.length c0_1, .string t464] ?_; (with_reducible refine (impl_readWay.calls kj2 a0_0 _ _ l0_1 t464 t485 t486 t489 t490 t491 _ ?side1 ?side2 A44.out).mono ?_); (case side1 => exact (zz7 HR0_1 HB)); (case side2 => exact HC0_1.out); rintro e w48 ⟨v487, rfl, ho0, hb⟩; refine ⟨_, rfl, ?_⟩; have n0_ := Aside0.mk (Kd.R_lower ho0 (below_size (zz38 HB GE461 GE462))); have n1_ := Aside0.mk (blk_below (zz27 BK461) hb); have n2_ := Aside0.mk (blk_below (zz27 BK462) hb); have n3_ := Aside0.mk (below_step (zz38 HB GE461 GE462) hb); clear BK461; clear BK462; clear HB; have HO488 := n0_; have BK461 := n1_; have BK462 := n2_; have HB := n3_; clear n0_ n1_ n2_ n3_; (try clear hb ho0); obtain ⟨_, _, _, _, _, _, _, _⟩ := cf4 BK462; obtain ⟨Ao50, co50, eo50⟩ := Kd.R_slice HO488.out; subst eo50))
         refine bodyPost_ret (results_ct rfl _ _ gb462 27 #[.string t485, .slice Ao50 t486.length co50, .bool t489, .string t490] (0, 0) _ rfl (zz42 BK462) Tryz.underlying27 rfl (by kernel_rfl)) rfl ?_;exact ⟨_, zz5, (zz51 (rt HO488 BK462)), (zz38 HB GE461 GE462)⟩
        ·rw [if_neg c43] at H
         have c43b0 : ((bt t464 0) == 63) = false := beq_eq_false_iff_ne.mpr c43;have c43b1 : ((bt t464 0) != 63) = true := bne_iff_ne.mpr c43;obtain ⟨ji51, hji51⟩ : ∃ j_ : Int, (mx (wrap64 ((l0_1.length : Int) - 1)) 0) = j_ := ⟨_, rfl⟩;replace H : (if 0 ≤ (ji51) then (if (ji51) ≤ (l0_1.length : Int) then ((impl_readWay.f kj2 a0_0 (l0_1.take ((ji51) : Int).toNat) t464).bind fun bt493 => (some (bt493.1, bt493.2.1, bt493.2.2.1, bt493.2.2.2.1, bt493.2.2.2.2))) else (none)) else (none)) = some (r1, r2, r3, r4, r5) := by first | (rw [hji51] at H; exact H) | (simp only [hji51] at H ⊢; exact H)
         (try rw [hji51] at A14)
         (try rw [hji51] at A15)
         (try (have hji51l : 0 ≤ ji51 := by (rw [← hji51]; unfold mx; (repeat' split) <;> omega)))
         (try (have hji51m : 0 ≤ ji51 := by omega))
         have hji51_ : (if (wrap64 ((l0_1.length : Int) - 1)) < 0 then 0 else (wrap64 ((l0_1.length : Int) - 1))) = ji51 := hji51;by_cases c52 : 0 ≤ (ji51)
         ·rw [if_pos c52] at H
          have c52b0 := eq_true c52;have c52b1 : decide (0 ≤ (ji51)) = true := decide_eq_true c52;clear c52;by_cases c53 : (ji51) ≤ (l0_1.length : Int)
          ·rw [if_pos c53] at H
           have c53b0 := eq_true c53;have c53b1 : decide ((ji51) ≤ (l0_1.length : Int)) = true := decide_eq_true c53;clear c53;replace H := bindA H;obtain ⟨⟨t493, t494, t497, t498, t499⟩, A54, H⟩ := H;try dsimp -simprocs only at H
           simp only [Option.some.injEq, Prod.mk.injEq] at H
           obtain ⟨rfl, rfl, rfl, rfl, rfl⟩ := H;try go_wp2_with (first | ((with_reducible refine gate_callee (f := 48) rfl ?_); refine gsL (some 20) Tryz.func48 #[.string a1, .string (⟨#[35]⟩ : ByteArray)] ?_; (with_reducible refine (strings_Cut.calls a1 (⟨#[35]⟩ : ByteArray) t464 t465 t466 _ A14.out).mono ?_); rintro e w55 ⟨rfl, hb⟩; refine ⟨_, rfl, ?_⟩; have n0_ := Aside0.mk (blk_below (zz27 BK461) hb); have n1_ := Aside0.mk (blk_below (zz27 BK462) hb); have n2_ := Aside0.mk (below_step (zz38 HB GE461 GE462) hb); clear BK461; clear BK462; clear HB; have BK461 := n0_; have BK462 := n1_; have HB := n2_; clear n0_ n1_ n2_; (try clear hb)) | ((with_reducible refine gate_callee (f := 49) rfl ?_); refine gsL (some 26) Tryz.func49 #[.string t464, .string (⟨#[47, 47]⟩ : ByteArray)] ?_; (with_reducible refine (strings_HasPrefix.calls t464 (⟨#[47, 47]⟩ : ByteArray) false _ A15.out).mono ?_); rintro e w' ⟨rfl, ⟨nd, rfl⟩⟩; refine ⟨_, rfl, ?_⟩; (try (rw [drewN_self w55]; generalize hq_ : World.drewN w55 _ = w55; have n0_ : Aside0 (w55.heap[gb461]? = some (.cells #[.string a0_0, .slice A0_1 l0_1.length c0_1, .bool a0_2, .string a0_3] 27 (0, 0))) := ⟨zz124⟩; have n1_ : Aside0 (w55.heap[gb462]? = some (.cells #[.string (⟨#[]⟩ : ByteArray), .slice none 0 0, .bool false, .string (⟨#[]⟩ : ByteArray)] 27 (0, 0))) := ⟨zz125⟩; have n2_ : Aside0 (Below w.heap.size w w55) := ⟨zz126⟩; clear BK461 BK462 HB hq_; have BK461 := n0_; have BK462 := n1_; have HB := n2_; clear n0_ n1_ n2_)); have p33 : 0 ≤ (0 : Int) := (by omega); have q33 : 0 < t464.size := (by have : (0 : Int) < (t464.size : Int) := ofD; omega); have hx33 : ∀ h : 0 < t464.size, ((t464[0]'h).toNat : Int) = bt t464 0 := bt_at t464 0; clear p33; have qi33 : (0 < (t464.size : Int)) = True := eq_true ofD; replace q33 := eq_true q33; have p42 : 0 ≤ (0 : Int) := (by omega); have q42 : 0 < t464.size := (by have : (0 : Int) < (t464.size : Int) := ofD; omega); have hx42 : ∀ h : 0 < t464.size, ((t464[0]'h).toNat : Int) = bt t464 0 := bt_at t464 0; clear p42; have qi42 : (0 < (t464.size : Int)) = True := eq_true ofD; replace q42 := eq_true q42))
           have n0_ := Aside0.mk (blk_drew BK461.out);have n1_ := Aside0.mk (blk_drew BK462.out);have n2_ := Aside0.mk (below_drew1 HB.out);clear BK461;clear BK462;clear HB;have BK461 := n0_;have BK462 := n1_;have HB := n2_;clear n0_ n1_ n2_;obtain ⟨i057, hi057, _, hsz57, _⟩ := info_parts info9;obtain ⟨hcut57, hA57, hC57⟩ := print_take_of (P := Tryz.prog) Value.string (⟨#[]⟩ : ByteArray) 22 9 .i64 Tryz.underlying22 hi057 hsz57 A0_1 c0_1 l0_1 (ji51) ofD ofD HC0_1.out;have HR492 := Aside0.mk (Kd.C_of_reads (h1 := fun _ => rfl) (hA57 _ (Kd.reads_of_C HR0_1.out)));have HC492 := Aside0.mk hC57;clear hA57 hC57 hi057 hsz57;refine start_ (n := 16) (S := fun w' => w'.cell? ⟨gb461, 0, none⟩ = some (.string a0_0) ∧ w'.cell? ⟨gb461, 1, none⟩ = some (.slice A0_1 l0_1.length c0_1) ∧ w'.cell? ⟨gb461, 2, none⟩ = some (.bool a0_2) ∧ w'.cell? ⟨gb461, 3, none⟩ = some (.string a0_3)) (ds := []) #[false, false, false, false, false, false, false, false, false, false, false, false, false, false, false, false] (by kernel_rfl) rfl rfl ⟨(blk_cell BK461.out 0).trans rfl, (blk_cell BK461.out 1).trans rfl, (blk_cell BK461.out 2).trans rfl, (blk_cell BK461.out 3).trans rfl⟩ (fun hHeld => ?_); refine with_tabW impl_AddrJoin.tab13 impl_AddrJoin.bits13 (fun HT_ HW_ => ?_);generalize w55.drew = w56 at BK461 BK462 HB HR492 hHeld ⊢;refine pureZ 0 (some 61) #[true, false, false, false, false, false, false, false, false, false, false, false, false, false, false, false] ?_;refine pureZ 2 (some 63) #[true, false, true, false, false, false, false, false, false, false, false, false, false, false, false, false] ?_;refine pureZ 4 (some 65) #[true, false, true, false, true, false, false, false, false, false, false, false, false, false, false, false] ?_;refine pureZ 10 (some 71) #[true, false, true, false, true, false, false, false, false, false, true, false, false, false, false, false] ?_;refine take_ (i := 1) (N := some 62) (v := ?_) (a' := ?_) #[true, true, true, false, true, false, false, false, false, false, true, false, false, false, false, false] rfl rfl (take_ofW HT_.out HW_.out (by kernel_rfl)) (fun _ _ _ h => h) (Or.inl ⟨by rfl, ?_⟩) hHeld ?_ ?_;rotate_left
           ·rintro w' ⟨s0, s1, s2, s3⟩
            go_simp
            with_reducible rfl
           rotate_left
           ·simp only [Act.put, List.setIfInBounds_toArray, List.set_cons_zero, List.set_cons_succ, i64_w, i32_w]
            rfl
           refine take_ (i := 3) (N := some 64) (v := ?_) (a' := ?_) #[true, true, true, true, true, false, false, false, false, false, true, false, false, false, false, false] rfl rfl (take_ofW HT_.out HW_.out (by kernel_rfl)) (fun _ _ _ h => h) (Or.inl ⟨by rfl, ?_⟩) hHeld ?_ ?_;rotate_left
           ·rintro w' ⟨s0, s1, s2, s3⟩
            go_simp
            with_reducible rfl
           rotate_left
           ·simp only [Act.put, List.setIfInBounds_toArray, List.set_cons_zero, List.set_cons_succ, i64_w, i32_w]
            rfl
           refine take_ (i := 5) (N := some 66) (v := ?_) (a' := ?_) #[true, true, true, true, true, true, false, false, false, false, true, false, false, false, false, false] rfl rfl (take_ofW HT_.out HW_.out (by kernel_rfl)) (fun _ _ _ h => h) (Or.inl ⟨by rfl, ?_⟩) hHeld ?_ ?_;rotate_left
           ·rintro w' ⟨s0, s1, s2, s3⟩
            go_simp
            with_reducible rfl
           rotate_left
           ·simp only [Act.put, List.setIfInBounds_toArray, List.set_cons_zero, List.set_cons_succ, i64_w, i32_w]
            rfl
           refine pureZ 6 (some 67) #[true, true, true, true, true, true, true, false, false, false, true, false, false, false, false, false] ?_;refine pureZ 7 (some 68) #[true, true, true, true, true, true, true, true, false, false, true, false, false, false, false, false] ?_;refine pureZ 8 (some 69) #[true, true, true, true, true, true, true, true, true, false, true, false, false, false, false, false] ?_;refine pureZ 9 (some 70) #[true, true, true, true, true, true, true, true, true, true, true, false, false, false, false, false] ?_;refine one_ (i := 11) (N := some 72) #[true, true, true, true, true, true, true, true, true, true, true, true, false, false, false, false] rfl rfl (one_of HT_.out (by kernel_rfl)) (by decide) (fun K hK => ?_);refine goes_ Tryz.func52 (by kernel_rfl) rfl #[.string a0_0, .slice A0_1 (l0_1.take ((ji51) : Int).toNat).length c0_1, .string t464] (by rfl) rfl rfl (by (try simp only [List.map_toArray, List.map_cons, List.map_nil]); first | done | (rw [show (l0_1.take ((ji51) : Int).toNat).length = (ji51).toNat from (by rw [List.length_take]; have h_ : ((ji51) : Int) ≤ (l0_1.length : Int) := ofD; omega)] <;> rfl) | (simp only [hji51]; rfl) | rfl | (simp only [List.length_drop, List.length_take]; rfl)) ?_;with_reducible refine (impl_readWay.calls kj2 a0_0 _ _ (l0_1.take ((ji51) : Int).toNat) t464 t493 t494 t497 t498 t499 _ ?side1 ?side2 A54.out).mono ?_
           (case side1 => exact (zz7 HR492 HB))
           (case side2 => exact HC492.out)
           rintro e w58 ⟨v495, rfl, ho0, hb⟩;refine ⟨_, rfl, ?_⟩;have n0_ := Aside0.mk (Kd.R_lower ho0 (below_size (zz38 HB GE461 GE462)));have n1_ := Aside0.mk (blk_below (zz27 BK461) hb);have n2_ := Aside0.mk (blk_below (zz27 BK462) hb);have n3_ := Aside0.mk (below_step (zz38 HB GE461 GE462) hb);clear BK461;clear BK462;clear HB;have HO496 := n0_;have BK461 := n1_;have BK462 := n2_;have HB := n3_;clear n0_ n1_ n2_ n3_;(try clear hb)
           (try clear hb2)
           (try clear hk)
           (try clear hi)
           (try clear ho0)
           obtain ⟨Ao60, co60, eo60⟩ := Kd.R_slice HO496.out;(first | subst eo60 | (injection eo60 with f1_ f2_ f3_; have f4_ := f1_.symm; have f5_ := f3_.symm; clear f1_ f2_ f3_; subst f4_; subst f5_))
           refine hK.out _ _ ⟨(blk_cell BK461.out 0).trans rfl, (blk_cell BK461.out 1).trans rfl, (blk_cell BK461.out 2).trans rfl, (blk_cell BK461.out 3).trans rfl⟩ (fun hHeld => ?_);clear hK K;refine norm_ (a' := ?_) ?_ ?_;rotate_left
           ·show Act.put _ (some 72) _ = _
            simp only [Act.put, List.setIfInBounds_toArray, List.set_cons_zero, List.set_cons_succ, i64_w, i32_w]
            rfl
           refine pureZ 12 (some 73) #[true, true, true, true, true, true, true, true, true, true, true, true, true, false, false, false] ?_;refine pureZ 13 (some 74) #[true, true, true, true, true, true, true, true, true, true, true, true, true, true, false, false] ?_;refine one_ (i := 14) (N := none) #[true, true, true, true, true, true, true, true, true, true, true, true, true, true, true, false] rfl rfl (one_of HT_.out (by kernel_rfl)) (by decide) (fun K hK => ?_);have hs59 : w58.cell? ⟨gb462, 0, none⟩ = some (.string (⟨#[]⟩ : ByteArray)) := (blk_cell BK462.out 0).trans rfl;have hfs59 := blk_frozen BK462.out 0;have hns59_0 := NB461_462.out;have hms59_0 := NB462_461.out;have hs61 : w58.cell? ⟨gb462, 1, none⟩ = some (.slice none 0 0) := (blk_cell BK462.out 1).trans rfl;have hfs61 := blk_frozen BK462.out 1;have hns61_0 := NB461_462.out;have hms61_0 := NB462_461.out;have hs62 : w58.cell? ⟨gb462, 2, none⟩ = some (.bool false) := (blk_cell BK462.out 2).trans rfl;have hfs62 := blk_frozen BK462.out 2;have hns62_0 := NB461_462.out;have hms62_0 := NB462_461.out;have hs63 : w58.cell? ⟨gb462, 3, none⟩ = some (.string (⟨#[]⟩ : ByteArray)) := (blk_cell BK462.out 3).trans rfl;have hfs63 := blk_frozen BK462.out 3;have hns63_0 := NB461_462.out;have hms63_0 := NB462_461.out;refine skip_ (w1 := ?_) (by rfl) rfl ?_ ?_;rotate_left
           ·go_simp
            rfl
           refine hK.out _ _ ⟨((cell_far (p := ⟨gb462, _, none⟩) NB461_462.out _).trans (((cell_far (p := ⟨gb462, _, none⟩) NB461_462.out _).trans (((cell_far (p := ⟨gb462, _, none⟩) NB461_462.out _).trans (((cell_far (p := ⟨gb462, _, none⟩) NB461_462.out _).trans (hHeld.1)))))))), ((cell_far (p := ⟨gb462, _, none⟩) NB461_462.out _).trans (((cell_far (p := ⟨gb462, _, none⟩) NB461_462.out _).trans (((cell_far (p := ⟨gb462, _, none⟩) NB461_462.out _).trans (((cell_far (p := ⟨gb462, _, none⟩) NB461_462.out _).trans (hHeld.2.1)))))))), ((cell_far (p := ⟨gb462, _, none⟩) NB461_462.out _).trans (((cell_far (p := ⟨gb462, _, none⟩) NB461_462.out _).trans (((cell_far (p := ⟨gb462, _, none⟩) NB461_462.out _).trans (((cell_far (p := ⟨gb462, _, none⟩) NB461_462.out _).trans (hHeld.2.2.1)))))))), ((cell_far (p := ⟨gb462, _, none⟩) NB461_462.out _).trans (((cell_far (p := ⟨gb462, _, none⟩) NB461_462.out _).trans (((cell_far (p := ⟨gb462, _, none⟩) NB461_462.out _).trans (((cell_far (p := ⟨gb462, _, none⟩) NB461_462.out _).trans (hHeld.2.2.2))))))))⟩ (fun hHeld => ?_);clear hK K;refine pureZ 15 (some 5) #[true, true, true, true, true, true, true, true, true, true, true, true, true, true, true, true] ?_;refine done_ (done_of HT_.out (by kernel_rfl)) ?_;try go_wp2
           refine bodyPost_ret (results_ct rfl _ _ gb462 27 #[.string t493, .slice Ao60 t494.length co60, .bool t497, .string t498] (0, 0) _ rfl (zz42 BK462) Tryz.underlying27 rfl (by kernel_rfl)) rfl ?_;exact ⟨_, (by first | rfl | (simp [errW_none, errW_some] <;> rfl) | (simp only [← hji51]; first | rfl | (simp [errW_none, errW_some] <;> rfl)) | (simp [*, errW_none, errW_some] <;> rfl)), (zz51 (rt HO496 BK462)), (zz38 HB GE461 GE462)⟩
          ·rw [if_neg c53] at H
           exact absurd H (by simp)
         ·rw [if_neg c52] at H
          exact absurd H (by simp)
      ·rw [if_neg c32] at H
       exact absurd H (by simp)
def impl_PageLinks.l0 : Nat → List ByteArray → List ByteArray → Int → Int → Option (List ByteArray)
 | 0, _, _, _, _ => none
 | k + 1, x3, x7, x8, x9 => if x9 < x8 then (if 0 ≤ x9 then (if x9 < (x7.length : Int) then ((impl_beginsWith.f (rdOf ByteArray.empty x7 x9) 33).bind fun t504 => (if t504 = true then (impl_PageLinks.l0 k x3 x7 x8 (wrap64 (x9 + 1))) else ((impl_beginsWith.f (rdOf ByteArray.empty x7 x9) 64).bind fun t505 => (if t505 = true then (impl_PageLinks.l0 k x3 x7 x8 (wrap64 (x9 + 1))) else (if x3.length < 8796093022208 then (impl_PageLinks.l0 k (x3 ++ [rdOf ByteArray.empty x7 x9]) x7 x8 (wrap64 (x9 + 1))) else (none)))))) else (none)) else (none)) else (some x3)
def impl_PageLinks.f (k : Nat) (a0 : ByteArray) : Option (List ByteArray) := (impl_pageMarks.f a0).bind fun t500 => (impl_PageLinks.l0 k ([] : List ByteArray) t500 (t500.length : Int) 0)
theorem impl_PageLinks.mono_l : ∀ k, (∀ y0 y1 y2 y3, LeO (impl_PageLinks.l0 k y0 y1 y2 y3) (impl_PageLinks.l0 (k + 1) y0 y1 y2 y3))
 | 0 => fun _ _ _ _ r h => by simp [impl_PageLinks.l0] at h
 | k + 1 => by
  have ih0 := impl_PageLinks.mono_l k
  ·intro y0 y1 y2 y3
   unfold impl_PageLinks.l0
   repeat' first | (with_reducible first | exact ih0 _ _ _ _ | exact LeO.refl _ | exact LeO.none _ | refine LeO.ite ?_ ?_ | refine LeO.bind ?_ (fun _ => ?_)) | exact LeO.none _ | refine LeO.ite ?_ ?_ | refine LeO.bind ?_ (fun _ => ?_)
set_option maxHeartbeats 8000000 in
set_option maxRecDepth 100000 in
theorem impl_PageLinks.calls (k : Nat) (a0 : ByteArray) (r : List ByteArray) (w : World) (h : impl_PageLinks.f k a0 = some r) :
  Calls Tryz.prog 24 #[.string a0] w fun e w' => ∃ v0_ : Value, e = .returned (v0_) ∧ Kd.R Kd.string 9 w' w.heap.size (fun _ => True) v0_ r ∧ Below w.heap.size w w' := by
 have HB := Aside0.mk (Below.refl w.heap.size w);have H : ((impl_pageMarks.f a0).bind fun t500 => (impl_PageLinks.l0 k ([] : List ByteArray) t500 (t500.length : Int) 0)) = some r := h;clear h;replace H := bindA H;obtain ⟨t500, A2, H⟩ := H;have H' := Aside0.mk H;clear H;go_enter Tryz.func24, Tryz.ntmps24;go_wp2_with (first | ((with_reducible refine gate_callee (f := 46) rfl ?_); refine gsL (some 7) Tryz.func46 #[.string a0] ?_; (with_reducible refine (impl_pageMarks.calls a0 t500 _ A2.out).mono ?_); rintro e w3 ⟨v501, rfl, ho0, hb⟩; refine ⟨_, rfl, ?_⟩; have n0_ := Aside0.mk (Kd.R_lower ho0 (below_size (zz4 HB))); have n1_ := Aside0.mk (below_step (zz4 HB) hb); clear HB; have HO502 := n0_; have HB := n1_; clear n0_ n1_; (try clear hb ho0); obtain ⟨Ao4, co4, eo4⟩ := Kd.R_slice HO502.out; subst eo4))
 go_loopg [3, 9] k (fun kq v3 v9 w' => ∃ (x3_1 : List ByteArray) (x9_1 : Int), v9 = .int .i64 x9_1 ∧ Aside0 (impl_PageLinks.l0 kq x3_1 t500 (t500.length : Int) x9_1 = some r) ∧ Aside0 (kq ≤ k) ∧ Aside0 (Kd.R Kd.string 9 w' w.heap.size (fun k_ => some k_ ≠ ((.slice Ao4 t500.length co4) : Value).ownBlock) v3 x3_1) ∧ Aside0 (Kd.R Kd.string 9 w' w.heap.size (fun k_ => some k_ ≠ (v3 : Value).ownBlock) (.slice Ao4 t500.length co4) t500) ∧ Aside0 (Below w.heap.size w w'))
 case atStart => exact ⟨(([] : List ByteArray)), (0), zz0, H', ⟨Nat.le_refl _⟩, ⟨zz43⟩, ⟨(by (with_reducible repeat (first | apply Kd.R_alloc | apply Kd.R_drewN | apply Kd.R_drew)); exact Kd.R_mono HO502.out (fun _ hk => (by simp [Value.ownBlock])))⟩, ⟨(zz4 HB)⟩⟩
 case round =>
  clear H';obtain ⟨x3_1, x9_1, rfl, HA, HK1, HO_3, HO_7, HB⟩ := hrel;cases gk with
  | zero => exact absurd HA.out (by simp [impl_PageLinks.l0])
  | succ k1 =>
   have H := HA.out;clear HA;simp only [impl_PageLinks.l0] at H
   by_cases c5 : x9_1 < (t500.length : Int)
   ·rw [if_pos c5] at H
    have c5b0 : decide (x9_1 < (t500.length : Int)) = true := decide_eq_true c5;clear c5;by_cases c6 : 0 ≤ x9_1
    ·rw [if_pos c6] at H
     have c6b0 : decide (0 ≤ x9_1) = true := decide_eq_true c6;clear c6;by_cases c7 : x9_1 < (t500.length : Int)
     ·rw [if_pos c7] at H
      have c7b0 : decide (x9_1 < (t500.length : Int)) = true := decide_eq_true c7;clear c7;replace H := bindA H;obtain ⟨t504, A8, H⟩ := H;by_cases c9 : t504 = true
      ·subst c9
       rw [if_pos rfl] at H;have H' := Aside0.mk H;clear H;have p503 : 0 ≤ (x9_1 : Int) := ofD;have q503 : x9_1 < (t500.length : Int) := ofD;obtain ⟨ad503, e503, hx503_0⟩ := Kd.at_string (Kd.R_reads' HO_7.out).2.2 x9_1 p503 q503;cases e503
       replace p503 := eq_true p503;replace q503 := eq_true q503;go_wp2_with (first | ((with_reducible refine gate_callee (f := 47) rfl ?_); refine gsL (some 14) Tryz.func47 #[.string (rdOf ByteArray.empty t500 x9_1), .int .u8 33] ?_; (with_reducible refine (impl_beginsWith.calls (rdOf ByteArray.empty t500 x9_1) 33 true _ A8.out).mono ?_); rintro e w' ⟨rfl, ⟨nd, rfl⟩⟩; refine ⟨_, rfl, ?_⟩))
       go_roundg k1
       case measure => have := HK1.out; omega
       case rel => exact ⟨(x3_1), (wrap64 (x9_1 + 1)), zz0, H', ⟨(zz3 HK1)⟩, ⟨(zz9 HO_3)⟩, ⟨(zz9 HO_7)⟩, ⟨(zz4 HB)⟩⟩
      ·replace c9 := Bool.eq_false_iff.mpr c9
       subst c9;rw [if_neg (show ¬ (false = true) by decide)] at H;replace H := bindA H;obtain ⟨t505, A10, H⟩ := H;by_cases c11 : t505 = true
       ·subst c11
        rw [if_pos rfl] at H;have H' := Aside0.mk H;clear H;have p503 : 0 ≤ (x9_1 : Int) := ofD;have q503 : x9_1 < (t500.length : Int) := ofD;obtain ⟨ad503, e503, hx503_0⟩ := Kd.at_string (Kd.R_reads' HO_7.out).2.2 x9_1 p503 q503;cases e503
        replace p503 := eq_true p503;replace q503 := eq_true q503;go_wp2_with (first | ((with_reducible refine gate_callee (f := 47) rfl ?_); refine gsL (some 14) Tryz.func47 #[.string (rdOf ByteArray.empty t500 x9_1), .int .u8 33] ?_; (with_reducible refine (impl_beginsWith.calls (rdOf ByteArray.empty t500 x9_1) 33 false _ A8.out).mono ?_); rintro e w' ⟨rfl, ⟨nd, rfl⟩⟩; refine ⟨_, rfl, ?_⟩) | (go_at_call 47; (with_reducible refine (impl_beginsWith.calls (rdOf ByteArray.empty t500 x9_1) 64 true _ A10.out).mono ?_); rintro e w' ⟨rfl, ⟨nd, rfl⟩⟩))
        go_roundg k1
        case measure => have := HK1.out; omega
        case rel => exact ⟨(x3_1), (wrap64 (x9_1 + 1)), zz0, H', ⟨(zz3 HK1)⟩, ⟨(zz9 HO_3)⟩, ⟨(zz9 HO_7)⟩, ⟨(zz4 HB)⟩⟩
       ·replace c11 := Bool.eq_false_iff.mpr c11
        subst c11;rw [if_neg (show ¬ (false = true) by decide)] at H;by_cases c12 : x3_1.length < 8796093022208
        ·rw [if_pos c12] at H
         have LMc12 := Aside0.mk c12;clear c12;obtain ⟨y506, Ny506⟩ := toY (x3_1 ++ [rdOf ByteArray.empty t500 x9_1]);(first | with_reducible replace H := bindZ Ny506 H | rw [← Ny506.out] at H | skip)
         have H' := Aside0.mk H;clear H;have p503 : 0 ≤ (x9_1 : Int) := ofD;have q503 : x9_1 < (t500.length : Int) := ofD;obtain ⟨ad503, e503, hx503_0⟩ := Kd.at_string (Kd.R_reads' HO_7.out).2.2 x9_1 p503 q503;cases e503
         replace p503 := eq_true p503;replace q503 := eq_true q503;go_wp2_with (first | ((with_reducible refine gate_callee (f := 47) rfl ?_); refine gsL (some 14) Tryz.func47 #[.string (rdOf ByteArray.empty t500 x9_1), .int .u8 33] ?_; (with_reducible refine (impl_beginsWith.calls (rdOf ByteArray.empty t500 x9_1) 33 false _ A8.out).mono ?_); rintro e w' ⟨rfl, ⟨nd, rfl⟩⟩; refine ⟨_, rfl, ?_⟩) | (go_at_call 47; (with_reducible refine (impl_beginsWith.calls (rdOf ByteArray.empty t500 x9_1) 64 false _ A10.out).mono ?_); rintro e w' ⟨rfl, ⟨nd, rfl⟩⟩) | ((with_reducible refine gate_builtin (b := .append) (xs := #[.tmp 21, .tmp 23]) rfl ?_); at_builtin; refine Kd.R_append Kd.string (w0 := w) w.heap.size rfl (.tmp 21) (.tmp 23) 22 9 (.string ⟨#[]⟩) 16 rfl Tryz.underlying22 info9 rfl (by decide) (by omega) u3 x3_1 (rdOf ByteArray.empty t500 x9_1) [.string (rdOf ByteArray.empty t500 x9_1)] (fun k_ => some k_ ≠ (.slice (some ad503) t500.length co4 : Value).ownBlock) (fun _ => False) rfl rfl ?aP (fun _ hk => hk.elim) ?aF ?aO ?aB ?aS ?aL ?_; (case aP => exact rfl); (case aB => exact (zz4 HB)); (case aF => exact (fun k_ hk => Kd.fresh' (Kd.R_lt (zz9 HO_7)) k_ hk)); (case aO => exact (zz9 HO_3)); (case aS => exact (below_size (zz4 HB))); (case aL => exact (zz3 LMc12)); intro v507 w13 ho hb hg hat; rw [← Ny506.out] at ho; have n0_ := Aside0.mk (Kd.R_after (ok := (fun _ => True)) (zz41 HO_7) hg hat); have n1_ := Aside0.mk (hb); have n2_ := Aside0.mk (ho); clear HO_7; clear HB; clear HO_3; have HO_7 := n0_; have HB := n1_; have HO508 := n2_; clear n0_ n1_ n2_; clear ho hb hg hat))
         go_roundg k1
         case measure => have := HK1.out; omega
         case rel => exact ⟨(y506), (wrap64 (x9_1 + 1)), zz0, H', ⟨(zz3 HK1)⟩, ⟨(zz9 HO508)⟩, ⟨(zz39 HO_7)⟩, ⟨(zz4 HB)⟩⟩
        ·rw [if_neg c12] at H
         exact absurd H (by simp)
     ·rw [if_neg c7] at H
      exact absurd H (by simp)
    ·rw [if_neg c6] at H
     exact absurd H (by simp)
   ·rw [if_neg c5] at H
    have c5b0 : decide (x9_1 < (t500.length : Int)) = false := decide_eq_false c5;clear c5;obtain rfl := Option.some.inj H;go_wp2
    go_ret
    exact ⟨_, zz5, (zz61 HO_3), (zz4 HB)⟩
def slices_Index_string_string.l0 : Nat → List ByteArray → ByteArray → Int → Int → Option (Int)
 | 0, _, _, _, _ => none
 | k + 1, x0, x1, x7, x8 => if x8 < x7 then (if 0 ≤ x8 then (if x8 < (x0.length : Int) then (if x1.toList = (rdOf ByteArray.empty x0 x8).toList then (some x8) else (slices_Index_string_string.l0 k x0 x1 x7 (wrap64 (x8 + 1)))) else (none)) else (none)) else (some (-1))
def slices_Index_string_string.f (k : Nat) (l0 : List ByteArray) (a1 : ByteArray) : Option (Int) := slices_Index_string_string.l0 k l0 a1 (l0.length : Int) 0
set_option maxHeartbeats 8000000 in
set_option maxRecDepth 100000 in
theorem slices_Index_string_string.calls (k : Nat) (A0 : Option Addr) (c0 : Nat) (l0 : List ByteArray) (a1 : ByteArray) (r : Int) (w : World) (hr0 : Kd.C Kd.string w A0 l0.length l0) (hc0 : l0.length ≤ c0) (h : slices_Index_string_string.f k l0 a1 = some r) :
  Calls Tryz.prog 60 #[.slice A0 l0.length c0, .string a1] w fun e w' => e = .returned (.int .i64 r) ∧ Drawn0 w w' := by
 have HR0 := Aside0.mk hr0;have HC0 := Aside0.mk hc0;clear hr0 hc0;have H : (slices_Index_string_string.l0 k l0 a1 (l0.length : Int) 0) = some r := h;clear h;have H' := Aside0.mk H;clear H;go_enter Tryz.func60, Tryz.ntmps60;go_wp2
 go_loopg [8] k (fun kq v8 w' => ∃ (x8_1 : Int), v8 = .int .i64 x8_1 ∧ Aside0 (slices_Index_string_string.l0 kq l0 a1 (l0.length : Int) x8_1 = some r) ∧ Aside0 (kq ≤ k) ∧ Drawn0 w w')
 case atStart => exact ⟨(0), zz0, H', ⟨Nat.le_refl _⟩, zz1⟩
 case round =>
  clear H';obtain ⟨x8_1, rfl, HA, HK1, ⟨m1, rfl⟩⟩ := hrel;cases gk with
  | zero => exact absurd HA.out (by simp [slices_Index_string_string.l0])
  | succ k1 =>
   have H := HA.out;clear HA;simp only [slices_Index_string_string.l0] at H
   by_cases c3 : x8_1 < (l0.length : Int)
   ·rw [if_pos c3] at H
    have c3b0 : decide (x8_1 < (l0.length : Int)) = true := decide_eq_true c3;clear c3;by_cases c4 : 0 ≤ x8_1
    ·rw [if_pos c4] at H
     have c4b0 : decide (0 ≤ x8_1) = true := decide_eq_true c4;clear c4;by_cases c5 : x8_1 < (l0.length : Int)
     ·rw [if_pos c5] at H
      have c5b0 : decide (x8_1 < (l0.length : Int)) = true := decide_eq_true c5;clear c5;by_cases c6 : a1.toList = (rdOf ByteArray.empty l0 x8_1).toList
      ·rw [if_pos c6] at H
       have c6b0 : (a1.toList == (rdOf ByteArray.empty l0 x8_1).toList) = true := beq_iff_eq.mpr c6;have c6b1 : (a1.toList != (rdOf ByteArray.empty l0 x8_1).toList) = false := bne_eq_false_iff_eq.mpr c6;clear c6;obtain rfl := Option.some.inj H;have p509 : 0 ≤ (x8_1 : Int) := ofD;have q509 : x8_1 < (l0.length : Int) := ofD;obtain ⟨ad509, e509, hx509_0⟩ := Kd.at_string HR0.out x8_1 p509 q509;cases e509
       replace p509 := eq_true p509;replace q509 := eq_true q509;go_wp2
       go_ret
       exact ⟨zz0, zz1⟩
      ·rw [if_neg c6] at H
       have c6b0 : (a1.toList == (rdOf ByteArray.empty l0 x8_1).toList) = false := beq_eq_false_iff_ne.mpr c6;have c6b1 : (a1.toList != (rdOf ByteArray.empty l0 x8_1).toList) = true := bne_iff_ne.mpr c6;have H' := Aside0.mk H;clear H;have p509 : 0 ≤ (x8_1 : Int) := ofD;have q509 : x8_1 < (l0.length : Int) := ofD;obtain ⟨ad509, e509, hx509_0⟩ := Kd.at_string HR0.out x8_1 p509 q509;cases e509
       replace p509 := eq_true p509;replace q509 := eq_true q509;go_wp2
       go_roundg k1
       case measure => have := HK1.out; omega
       case rel => exact ⟨(wrap64 (x8_1 + 1)), zz0, H', ⟨(zz3 HK1)⟩, zz1⟩
     ·rw [if_neg c5] at H
      exact absurd H (by simp)
    ·rw [if_neg c4] at H
     exact absurd H (by simp)
   ·rw [if_neg c3] at H
    have c3b0 : decide (x8_1 < (l0.length : Int)) = false := decide_eq_false c3;clear c3;obtain rfl := Option.some.inj H;go_wp2
    go_ret
    exact ⟨zz0, zz1⟩
def slices_Contains_string_string.f (k : Nat) (l0 : List ByteArray) (a1 : ByteArray) : Option (Bool) := (slices_Index_string_string.f k l0 a1).bind fun t510 => (some (decide (t510 ≥ 0)))
set_option maxHeartbeats 8000000 in
set_option maxRecDepth 100000 in
theorem slices_Contains_string_string.calls (k : Nat) (A0 : Option Addr) (c0 : Nat) (l0 : List ByteArray) (a1 : ByteArray) (r : Bool) (w : World) (hr0 : Kd.C Kd.string w A0 l0.length l0) (hc0 : l0.length ≤ c0) (h : slices_Contains_string_string.f k l0 a1 = some r) :
  Calls Tryz.prog 35 #[.slice A0 l0.length c0, .string a1] w fun e w' => e = .returned (.bool r) ∧ Drawn0 w w' := by
 have HR0 := Aside0.mk hr0;have HC0 := Aside0.mk hc0;clear hr0 hc0;have H : ((slices_Index_string_string.f k l0 a1).bind fun t510 => (some (decide (t510 ≥ 0)))) = some r := h;clear h;replace H := bindA H;obtain ⟨t510, A3, H⟩ := H;obtain rfl := Option.some.inj H;go_enter Tryz.func35, Tryz.ntmps35;go_wp2_with (first | ((with_reducible refine gate_callee (f := 60) rfl ?_); refine gsL (some 7) Tryz.func60 #[.slice A0 l0.length c0, .string a1] ?_; (with_reducible refine (slices_Index_string_string.calls k _ _ l0 a1 t510 _ ?side1 ?side2 A3.out).mono ?_); (case side1 => exact (by repeat (first | exact HR0.out | (with_reducible refine Kd.C_alloc ?_ _) | (with_reducible refine Kd.C_drewN ?_ _) | (with_reducible refine Kd.C_drew ?_)))); (case side2 => exact HC0.out); rintro e w' ⟨rfl, ⟨nd, rfl⟩⟩; refine ⟨_, rfl, ?_⟩))
 go_ret
 exact ⟨zz0, zz1⟩
end Go.Proofs.YtgjfegfopjfdpaaGreatDoor.P
end
