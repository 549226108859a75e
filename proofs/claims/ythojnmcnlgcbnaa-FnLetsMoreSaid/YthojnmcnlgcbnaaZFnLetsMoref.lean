/- FnLetsMore holds of the given program at every input: A rule more that lets bars nothing. So it does not behind drawn ones; one that bars lets nothing. No condition. Written by a program of this session (wip/pr.py). -/
import Derived.Test.YthojnmcnlgcbnaaZFnLetsMoreb
import Derived.Test.YthojnmcnlgcbnaaZFnLetsMoree
import Derived.Test.YthojnmcnlgcbnaaZFnLetsMored
import Derived.Test.YthojnmcnlgcbnaaZFnLetsMorec
import Derived.SizedLaws
import Derived.ChangeSlices
import Derived.Test.YthojnmcnlgcbnaaRows
import Derived.WalkKit
import Derived.ProofKit
import Derived.OpenShut
import Derived.ShutString
import Derived.ChangeOld
import Derived.Below

section
namespace Go.Proofs.Ythojnmcnlgcbnaa.P
open Go.RowKit Go.Proofs.YthojnmcnlgcbnaaW.PrintWords Go.Proofs.YthojnmcnlgcbnaaW.PrintLast Go.Proofs.YthojnmcnlgcbnaaW.PrintMore
attribute [local go_sem] max2_int min2_int max_two min_two max_three min_three max_four min_four
set_option linter.unusedVariables false
set_option linter.unusedSimpArgs false
def spec_RuleLets.l0 : Nat → List (S30) → ByteArray → Int → Bool → Int → Option (Bool)
 | 0, _, _, _, _, _ => none
 | k + 1, x0, x1, x5, x6, x7 => if x7 < (x0.length : Int) then (if 0 ≤ x7 then ((spec_RuleHas.f k ((rd_T30 x0 x7).f1) x1).bind fun t367 => (if t367 = true then (if (((rd_T30 x0 x7).f1).size : Int) < x5 then (spec_RuleLets.l0 k x0 x1 x5 x6 (wrap64 (x7 + 1))) else (if (rd_T30 x0 x7).f0 = true then (spec_RuleLets.l0 k x0 x1 (((rd_T30 x0 x7).f1).size : Int) true (wrap64 (x7 + 1))) else (if (((rd_T30 x0 x7).f1).size : Int) = x5 then (spec_RuleLets.l0 k x0 x1 (((rd_T30 x0 x7).f1).size : Int) x6 (wrap64 (x7 + 1))) else (spec_RuleLets.l0 k x0 x1 (((rd_T30 x0 x7).f1).size : Int) false (wrap64 (x7 + 1)))))) else (spec_RuleLets.l0 k x0 x1 x5 x6 (wrap64 (x7 + 1))))) else (none)) else (some x6)
def spec_RuleLets.f (k : Nat) (l0 : List (S30)) (a1 : ByteArray) : Option (Bool) := spec_RuleLets.l0 k l0 a1 (-1) true 0
set_option maxHeartbeats 8000000 in
set_option maxRecDepth 100000 in
theorem spec_RuleLets.calls (k : Nat) (A0 : Option Addr) (c0 : Nat) (l0 : List (S30)) (a1 : ByteArray) (r : Bool) (w : World) (hr0 : Kd.C k30 w A0 l0.length l0) (hc0 : l0.length ≤ c0) (h : spec_RuleLets.f k l0 a1 = some r) :
  Calls Try.prog 8 #[.slice A0 l0.length c0, .string a1] w fun e w' => e = .returned (.bool r) ∧ Below w.heap.size w w' := by
 have HR0 := Aside0.mk hr0
 have HC0 := Aside0.mk hc0
 clear hr0 hc0
 have HB := Aside0.mk (Below.refl w.heap.size w)
 have H : (spec_RuleLets.l0 k l0 a1 (-1) true 0) = some r := h
 clear h
 have H' := Aside0.mk H
 clear H
 go_enter Try.func8, Try.ntmps8
 go_wp2
 go_loopg [5, 6, 7] k (fun kq v5 v6 v7 w' => ∃ (x5_1 : Int) (x6_1 : Bool) (x7_1 : Int), v5 = .int .i64 x5_1 ∧ v6 = .bool x6_1 ∧ v7 = .int .i64 x7_1 ∧ Aside0 (spec_RuleLets.l0 kq l0 a1 x5_1 x6_1 x7_1 = some r) ∧ Aside0 (kq ≤ k) ∧ Aside0 (Below w.heap.size w w'))
 case atStart => exact ⟨((-1)), (true), (0), (by first | rfl | (simp only [i64_w, i32_w]; done) | (simp only [aid_isEmpty, aid_isEmpty2]; done) | (simp; done) | (simp [*]; done)), (by first | rfl | (simp only [i64_w, i32_w]; done) | (simp only [aid_isEmpty, aid_isEmpty2]; done) | (simp; done) | (simp [*]; done)), (by first | rfl | (simp only [i64_w, i32_w]; done) | (simp only [aid_isEmpty, aid_isEmpty2]; done) | (simp; done) | (simp [*]; done)), H', ⟨Nat.le_refl _⟩, ⟨by repeat (first | (with_reducible first | exact HB.out | apply below_alloc | apply pw_below_drewN | apply below_drew1) | exact HB.out)⟩⟩
 case round =>
  clear H'
  try clear p2
  obtain ⟨x5_1, x6_1, x7_1, rfl, rfl, rfl, HA, HK1, HB⟩ := hrel
  cases gk with
  | zero => exact absurd HA.out (by simp [spec_RuleLets.l0])
  | succ k1 =>
   have H := HA.out
   clear HA
   simp only [spec_RuleLets.l0] at H
   by_cases c3 : x7_1 < (l0.length : Int)
   ·rw [if_pos c3] at H
    have c3b0 : decide (x7_1 < (l0.length : Int)) = true := decide_eq_true c3
    clear c3
    by_cases c4 : 0 ≤ x7_1
    ·rw [if_pos c4] at H
     have c4b0 : decide (0 ≤ x7_1) = true := decide_eq_true c4
     clear c4
     replace H := Option.bind_eq_some_iff.mp H
     obtain ⟨t367, A50, H⟩ := H
     replace H : (if t367 = true then (if (((rd_T30 l0 x7_1).f1).size : Int) < x5_1 then (spec_RuleLets.l0 k1 l0 a1 x5_1 x6_1 (wrap64 (x7_1 + 1))) else (if (rd_T30 l0 x7_1).f0 = true then (spec_RuleLets.l0 k1 l0 a1 (((rd_T30 l0 x7_1).f1).size : Int) true (wrap64 (x7_1 + 1))) else (if (((rd_T30 l0 x7_1).f1).size : Int) = x5_1 then (spec_RuleLets.l0 k1 l0 a1 (((rd_T30 l0 x7_1).f1).size : Int) x6_1 (wrap64 (x7_1 + 1))) else (spec_RuleLets.l0 k1 l0 a1 (((rd_T30 l0 x7_1).f1).size : Int) false (wrap64 (x7_1 + 1)))))) else (spec_RuleLets.l0 k1 l0 a1 x5_1 x6_1 (wrap64 (x7_1 + 1)))) = some r := H
     have A5 := Aside0.mk A50
     clear A50
     by_cases c6 : t367 = true
     ·subst c6
      have H1 : (if (((rd_T30 l0 x7_1).f1).size : Int) < x5_1 then (spec_RuleLets.l0 k1 l0 a1 x5_1 x6_1 (wrap64 (x7_1 + 1))) else (if (rd_T30 l0 x7_1).f0 = true then (spec_RuleLets.l0 k1 l0 a1 (((rd_T30 l0 x7_1).f1).size : Int) true (wrap64 (x7_1 + 1))) else (if (((rd_T30 l0 x7_1).f1).size : Int) = x5_1 then (spec_RuleLets.l0 k1 l0 a1 (((rd_T30 l0 x7_1).f1).size : Int) x6_1 (wrap64 (x7_1 + 1))) else (spec_RuleLets.l0 k1 l0 a1 (((rd_T30 l0 x7_1).f1).size : Int) false (wrap64 (x7_1 + 1)))))) = some r := by rw [if_pos rfl] at H; exact H
      clear H
      have H := H1
      clear H1
      by_cases c7 : (((rd_T30 l0 x7_1).f1).size : Int) < x5_1
      ·rw [if_pos c7] at H
       have c7b0 : decide ((((rd_T30 l0 x7_1).f1).size : Int) < x5_1) = true := decide_eq_true c7
       clear c7
       have H' := Aside0.mk H
       clear H
       have p365 : 0 ≤ (x7_1 : Int) := of_decide_eq_true (by first | (with_reducible assumption) | assumption)
       have q365 : x7_1 < (l0.length : Int) := of_decide_eq_true (by first | (with_reducible assumption) | assumption)
       obtain ⟨ad365, e365, hx365_0, hx365_1⟩ := at_T30 HR0.out x7_1 p365 q365
       cases e365
       replace hx365_0 := (HB.out.cell (World.block_lt_of_cell? w _ hx365_0)).trans hx365_0
       replace hx365_1 := (HB.out.cell (World.block_lt_of_cell? w _ hx365_1)).trans hx365_1
       replace p365 := eq_true p365
       replace q365 := eq_true q365
       have p366 : 0 ≤ (x7_1 : Int) := of_decide_eq_true (by first | (with_reducible assumption) | assumption)
       have q366 : x7_1 < (l0.length : Int) := of_decide_eq_true (by first | (with_reducible assumption) | assumption)
       obtain ⟨ad366, e366, hx366_0, hx366_1⟩ := at_T30 HR0.out x7_1 p366 q366
       obtain rfl : ad365 = ad366 := (by injection e366)
       replace hx366_0 := (HB.out.cell (World.block_lt_of_cell? w _ hx366_0)).trans hx366_0
       replace hx366_1 := (HB.out.cell (World.block_lt_of_cell? w _ hx366_1)).trans hx366_1
       replace p366 := eq_true p366
       replace q366 := eq_true q366
       go_wp2_with (first | ((with_reducible refine gate_callee (f := 23) rfl ?_); refine goesL_ (some 27) rfl rfl Try.func23 (by kernel_rfl) rfl #[.string ((rd_T30 l0 x7_1).f1), .string a1] rfl (by (try simp only [List.map_toArray, List.map_cons, List.map_nil]); first | done | rfl | (simp only [List.length_drop, List.length_take]; rfl)) ?_; (with_reducible refine (spec_RuleHas.calls k1 ((rd_T30 l0 x7_1).f1) a1 true _ A5.out).mono ?_); rintro e w8 ⟨rfl, hb⟩; refine ⟨_, rfl, ?_⟩; have n0_ := Aside0.mk (below_step (by repeat (first | (with_reducible first | exact HB.out | apply below_alloc | apply pw_below_drewN | apply below_drew1) | exact HB.out)) hb); clear HB; have HB := n0_; clear n0_; (try clear hb); (try clear hb2); (try clear hk); (try clear hi)))
       go_roundg k1
       case measure => have := HK1.out; omega
       case rel => exact ⟨(x5_1), (x6_1), (wrap64 (x7_1 + 1)), (by first | rfl | (simp only [i64_w, i32_w]; done) | (simp only [aid_isEmpty, aid_isEmpty2]; done) | (simp; done) | (simp [*]; done)), (by first | rfl | (simp only [i64_w, i32_w]; done) | (simp only [aid_isEmpty, aid_isEmpty2]; done) | (simp; done) | (simp [*]; done)), (by first | rfl | (simp only [i64_w, i32_w]; done) | (simp only [aid_isEmpty, aid_isEmpty2]; done) | (simp; done) | (simp [*]; done)), H', ⟨by have := HK1.out; omega⟩, ⟨by repeat (first | (with_reducible first | exact HB.out | apply below_alloc | apply pw_below_drewN | apply below_drew1) | exact HB.out)⟩⟩
      ·rw [if_neg c7] at H
       have c7b0 : decide ((((rd_T30 l0 x7_1).f1).size : Int) < x5_1) = false := decide_eq_false c7
       clear c7
       obtain ⟨bq9, hbq9⟩ : ∃ b_ : Bool, b_ = ((rd_T30 l0 x7_1).f0) := ⟨_, rfl⟩
       replace H : (if bq9 = true then (spec_RuleLets.l0 k1 l0 a1 (((rd_T30 l0 x7_1).f1).size : Int) true (wrap64 (x7_1 + 1))) else (if (((rd_T30 l0 x7_1).f1).size : Int) = x5_1 then (spec_RuleLets.l0 k1 l0 a1 (((rd_T30 l0 x7_1).f1).size : Int) x6_1 (wrap64 (x7_1 + 1))) else (spec_RuleLets.l0 k1 l0 a1 (((rd_T30 l0 x7_1).f1).size : Int) false (wrap64 (x7_1 + 1))))) = some r := by rw [← hbq9] at H; exact H
       have Nbq9 := Aside0.mk hbq9
       clear hbq9
       by_cases c10 : bq9 = true
       ·subst c10
        have H1 : (spec_RuleLets.l0 k1 l0 a1 (((rd_T30 l0 x7_1).f1).size : Int) true (wrap64 (x7_1 + 1))) = some r := by rw [if_pos rfl] at H; exact H
        clear H
        have H := H1
        clear H1
        have H' := Aside0.mk H
        clear H
        have p365 : 0 ≤ (x7_1 : Int) := of_decide_eq_true (by first | (with_reducible assumption) | assumption)
        have q365 : x7_1 < (l0.length : Int) := of_decide_eq_true (by first | (with_reducible assumption) | assumption)
        obtain ⟨ad365, e365, hx365_0, hx365_1⟩ := at_T30 HR0.out x7_1 p365 q365
        (try rw [← Nbq9.out] at hx365_0)
        cases e365
        replace hx365_0 := (HB.out.cell (World.block_lt_of_cell? w _ hx365_0)).trans hx365_0
        replace hx365_1 := (HB.out.cell (World.block_lt_of_cell? w _ hx365_1)).trans hx365_1
        replace p365 := eq_true p365
        replace q365 := eq_true q365
        have p366 : 0 ≤ (x7_1 : Int) := of_decide_eq_true (by first | (with_reducible assumption) | assumption)
        have q366 : x7_1 < (l0.length : Int) := of_decide_eq_true (by first | (with_reducible assumption) | assumption)
        obtain ⟨ad366, e366, hx366_0, hx366_1⟩ := at_T30 HR0.out x7_1 p366 q366
        (try rw [← Nbq9.out] at hx366_0)
        obtain rfl : ad365 = ad366 := (by injection e366)
        replace hx366_0 := (HB.out.cell (World.block_lt_of_cell? w _ hx366_0)).trans hx366_0
        replace hx366_1 := (HB.out.cell (World.block_lt_of_cell? w _ hx366_1)).trans hx366_1
        replace p366 := eq_true p366
        replace q366 := eq_true q366
        go_wp2_with (first | ((with_reducible refine gate_callee (f := 23) rfl ?_); refine goesL_ (some 27) rfl rfl Try.func23 (by kernel_rfl) rfl #[.string ((rd_T30 l0 x7_1).f1), .string a1] rfl (by (try simp only [List.map_toArray, List.map_cons, List.map_nil]); first | done | rfl | (simp only [List.length_drop, List.length_take]; rfl)) ?_; (with_reducible refine (spec_RuleHas.calls k1 ((rd_T30 l0 x7_1).f1) a1 true _ A5.out).mono ?_); rintro e w11 ⟨rfl, hb⟩; refine ⟨_, rfl, ?_⟩; have n0_ := Aside0.mk (below_step (by repeat (first | (with_reducible first | exact HB.out | apply below_alloc | apply pw_below_drewN | apply below_drew1) | exact HB.out)) hb); clear HB; have HB := n0_; clear n0_; (try clear hb); (try clear hb2); (try clear hk); (try clear hi); have p368 : 0 ≤ (x7_1 : Int) := of_decide_eq_true (by first | (with_reducible assumption) | assumption); have q368 : x7_1 < (l0.length : Int) := of_decide_eq_true (by first | (with_reducible assumption) | assumption); obtain ⟨ad368, e368, hx368_0, hx368_1⟩ := at_T30 HR0.out x7_1 p368 q368; (try rw [← Nbq9.out] at hx368_0); obtain rfl : ad365 = ad368 := (by injection e368); replace hx368_0 := (HB.out.cell (World.block_lt_of_cell? w _ hx368_0)).trans hx368_0; replace hx368_1 := (HB.out.cell (World.block_lt_of_cell? w _ hx368_1)).trans hx368_1; replace p368 := eq_true p368; replace q368 := eq_true q368))
        go_roundg k1
        case measure => have := HK1.out; omega
        case rel => exact ⟨((((rd_T30 l0 x7_1).f1).size : Int)), (true), (wrap64 (x7_1 + 1)), (by first | rfl | (simp only [i64_w, i32_w]; done) | (simp only [aid_isEmpty, aid_isEmpty2]; done) | (simp; done) | (simp [*]; done)), (by first | rfl | (simp only [i64_w, i32_w]; done) | (simp only [aid_isEmpty, aid_isEmpty2]; done) | (simp; done) | (simp [*]; done)), (by first | rfl | (simp only [i64_w, i32_w]; done) | (simp only [aid_isEmpty, aid_isEmpty2]; done) | (simp; done) | (simp [*]; done)), H', ⟨by have := HK1.out; omega⟩, ⟨by repeat (first | (with_reducible first | exact HB.out | apply below_alloc | apply pw_below_drewN | apply below_drew1) | exact HB.out)⟩⟩
       ·replace c10 := Bool.eq_false_iff.mpr c10
        subst c10
        have H1 : (if (((rd_T30 l0 x7_1).f1).size : Int) = x5_1 then (spec_RuleLets.l0 k1 l0 a1 (((rd_T30 l0 x7_1).f1).size : Int) x6_1 (wrap64 (x7_1 + 1))) else (spec_RuleLets.l0 k1 l0 a1 (((rd_T30 l0 x7_1).f1).size : Int) false (wrap64 (x7_1 + 1)))) = some r := by rw [if_neg (show ¬ (false = true) by decide)] at H; exact H
        clear H
        have H := H1
        clear H1
        by_cases c12 : (((rd_T30 l0 x7_1).f1).size : Int) = x5_1
        ·rw [if_pos c12] at H
         have c12b0 : ((((rd_T30 l0 x7_1).f1).size : Int) == x5_1) = true := beq_iff_eq.mpr c12
         have c12b1 : ((((rd_T30 l0 x7_1).f1).size : Int) != x5_1) = false := bne_eq_false_iff_eq.mpr c12
         clear c12
         have H' := Aside0.mk H
         clear H
         have p365 : 0 ≤ (x7_1 : Int) := of_decide_eq_true (by first | (with_reducible assumption) | assumption)
         have q365 : x7_1 < (l0.length : Int) := of_decide_eq_true (by first | (with_reducible assumption) | assumption)
         obtain ⟨ad365, e365, hx365_0, hx365_1⟩ := at_T30 HR0.out x7_1 p365 q365
         (try rw [← Nbq9.out] at hx365_0)
         cases e365
         replace hx365_0 := (HB.out.cell (World.block_lt_of_cell? w _ hx365_0)).trans hx365_0
         replace hx365_1 := (HB.out.cell (World.block_lt_of_cell? w _ hx365_1)).trans hx365_1
         replace p365 := eq_true p365
         replace q365 := eq_true q365
         have p366 : 0 ≤ (x7_1 : Int) := of_decide_eq_true (by first | (with_reducible assumption) | assumption)
         have q366 : x7_1 < (l0.length : Int) := of_decide_eq_true (by first | (with_reducible assumption) | assumption)
         obtain ⟨ad366, e366, hx366_0, hx366_1⟩ := at_T30 HR0.out x7_1 p366 q366
         (try rw [← Nbq9.out] at hx366_0)
         obtain rfl : ad365 = ad366 := (by injection e366)
         replace hx366_0 := (HB.out.cell (World.block_lt_of_cell? w _ hx366_0)).trans hx366_0
         replace hx366_1 := (HB.out.cell (World.block_lt_of_cell? w _ hx366_1)).trans hx366_1
         replace p366 := eq_true p366
         replace q366 := eq_true q366
         go_wp2_with (first | ((with_reducible refine gate_callee (f := 23) rfl ?_); refine goesL_ (some 27) rfl rfl Try.func23 (by kernel_rfl) rfl #[.string ((rd_T30 l0 x7_1).f1), .string a1] rfl (by (try simp only [List.map_toArray, List.map_cons, List.map_nil]); first | done | rfl | (simp only [List.length_drop, List.length_take]; rfl)) ?_; (with_reducible refine (spec_RuleHas.calls k1 ((rd_T30 l0 x7_1).f1) a1 true _ A5.out).mono ?_); rintro e w13 ⟨rfl, hb⟩; refine ⟨_, rfl, ?_⟩; have n0_ := Aside0.mk (below_step (by repeat (first | (with_reducible first | exact HB.out | apply below_alloc | apply pw_below_drewN | apply below_drew1) | exact HB.out)) hb); clear HB; have HB := n0_; clear n0_; (try clear hb); (try clear hb2); (try clear hk); (try clear hi); have p368 : 0 ≤ (x7_1 : Int) := of_decide_eq_true (by first | (with_reducible assumption) | assumption); have q368 : x7_1 < (l0.length : Int) := of_decide_eq_true (by first | (with_reducible assumption) | assumption); obtain ⟨ad368, e368, hx368_0, hx368_1⟩ := at_T30 HR0.out x7_1 p368 q368; (try rw [← Nbq9.out] at hx368_0); obtain rfl : ad365 = ad368 := (by injection e368); replace hx368_0 := (HB.out.cell (World.block_lt_of_cell? w _ hx368_0)).trans hx368_0; replace hx368_1 := (HB.out.cell (World.block_lt_of_cell? w _ hx368_1)).trans hx368_1; replace p368 := eq_true p368; replace q368 := eq_true q368))
         go_roundg k1
         case measure => have := HK1.out; omega
         case rel => exact ⟨((((rd_T30 l0 x7_1).f1).size : Int)), (x6_1), (wrap64 (x7_1 + 1)), (by first | rfl | (simp only [i64_w, i32_w]; done) | (simp only [aid_isEmpty, aid_isEmpty2]; done) | (simp; done) | (simp [*]; done)), (by first | rfl | (simp only [i64_w, i32_w]; done) | (simp only [aid_isEmpty, aid_isEmpty2]; done) | (simp; done) | (simp [*]; done)), (by first | rfl | (simp only [i64_w, i32_w]; done) | (simp only [aid_isEmpty, aid_isEmpty2]; done) | (simp; done) | (simp [*]; done)), H', ⟨by have := HK1.out; omega⟩, ⟨by repeat (first | (with_reducible first | exact HB.out | apply below_alloc | apply pw_below_drewN | apply below_drew1) | exact HB.out)⟩⟩
        ·rw [if_neg c12] at H
         have c12b0 : ((((rd_T30 l0 x7_1).f1).size : Int) == x5_1) = false := beq_eq_false_iff_ne.mpr c12
         have c12b1 : ((((rd_T30 l0 x7_1).f1).size : Int) != x5_1) = true := bne_iff_ne.mpr c12
         have H' := Aside0.mk H
         clear H
         have p365 : 0 ≤ (x7_1 : Int) := of_decide_eq_true (by first | (with_reducible assumption) | assumption)
         have q365 : x7_1 < (l0.length : Int) := of_decide_eq_true (by first | (with_reducible assumption) | assumption)
         obtain ⟨ad365, e365, hx365_0, hx365_1⟩ := at_T30 HR0.out x7_1 p365 q365
         (try rw [← Nbq9.out] at hx365_0)
         cases e365
         replace hx365_0 := (HB.out.cell (World.block_lt_of_cell? w _ hx365_0)).trans hx365_0
         replace hx365_1 := (HB.out.cell (World.block_lt_of_cell? w _ hx365_1)).trans hx365_1
         replace p365 := eq_true p365
         replace q365 := eq_true q365
         have p366 : 0 ≤ (x7_1 : Int) := of_decide_eq_true (by first | (with_reducible assumption) | assumption)
         have q366 : x7_1 < (l0.length : Int) := of_decide_eq_true (by first | (with_reducible assumption) | assumption)
         obtain ⟨ad366, e366, hx366_0, hx366_1⟩ := at_T30 HR0.out x7_1 p366 q366
         (try rw [← Nbq9.out] at hx366_0)
         obtain rfl : ad365 = ad366 := (by injection e366)
         replace hx366_0 := (HB.out.cell (World.block_lt_of_cell? w _ hx366_0)).trans hx366_0
         replace hx366_1 := (HB.out.cell (World.block_lt_of_cell? w _ hx366_1)).trans hx366_1
         replace p366 := eq_true p366
         replace q366 := eq_true q366
         go_wp2_with (first | ((with_reducible refine gate_callee (f := 23) rfl ?_); refine goesL_ (some 27) rfl rfl Try.func23 (by kernel_rfl) rfl #[.string ((rd_T30 l0 x7_1).f1), .string a1] rfl (by (try simp only [List.map_toArray, List.map_cons, List.map_nil]); first | done | rfl | (simp only [List.length_drop, List.length_take]; rfl)) ?_; (with_reducible refine (spec_RuleHas.calls k1 ((rd_T30 l0 x7_1).f1) a1 true _ A5.out).mono ?_); rintro e w14 ⟨rfl, hb⟩; refine ⟨_, rfl, ?_⟩; have n0_ := Aside0.mk (below_step (by repeat (first | (with_reducible first | exact HB.out | apply below_alloc | apply pw_below_drewN | apply below_drew1) | exact HB.out)) hb); clear HB; have HB := n0_; clear n0_; (try clear hb); (try clear hb2); (try clear hk); (try clear hi); have p368 : 0 ≤ (x7_1 : Int) := of_decide_eq_true (by first | (with_reducible assumption) | assumption); have q368 : x7_1 < (l0.length : Int) := of_decide_eq_true (by first | (with_reducible assumption) | assumption); obtain ⟨ad368, e368, hx368_0, hx368_1⟩ := at_T30 HR0.out x7_1 p368 q368; (try rw [← Nbq9.out] at hx368_0); obtain rfl : ad365 = ad368 := (by injection e368); replace hx368_0 := (HB.out.cell (World.block_lt_of_cell? w _ hx368_0)).trans hx368_0; replace hx368_1 := (HB.out.cell (World.block_lt_of_cell? w _ hx368_1)).trans hx368_1; replace p368 := eq_true p368; replace q368 := eq_true q368))
         go_roundg k1
         case measure => have := HK1.out; omega
         case rel => exact ⟨((((rd_T30 l0 x7_1).f1).size : Int)), (false), (wrap64 (x7_1 + 1)), (by first | rfl | (simp only [i64_w, i32_w]; done) | (simp only [aid_isEmpty, aid_isEmpty2]; done) | (simp; done) | (simp [*]; done)), (by first | rfl | (simp only [i64_w, i32_w]; done) | (simp only [aid_isEmpty, aid_isEmpty2]; done) | (simp; done) | (simp [*]; done)), (by first | rfl | (simp only [i64_w, i32_w]; done) | (simp only [aid_isEmpty, aid_isEmpty2]; done) | (simp; done) | (simp [*]; done)), H', ⟨by have := HK1.out; omega⟩, ⟨by repeat (first | (with_reducible first | exact HB.out | apply below_alloc | apply pw_below_drewN | apply below_drew1) | exact HB.out)⟩⟩
     ·replace c6 := Bool.eq_false_iff.mpr c6
      subst c6
      have H1 : (spec_RuleLets.l0 k1 l0 a1 x5_1 x6_1 (wrap64 (x7_1 + 1))) = some r := by rw [if_neg (show ¬ (false = true) by decide)] at H; exact H
      clear H
      have H := H1
      clear H1
      have H' := Aside0.mk H
      clear H
      have p365 : 0 ≤ (x7_1 : Int) := of_decide_eq_true (by first | (with_reducible assumption) | assumption)
      have q365 : x7_1 < (l0.length : Int) := of_decide_eq_true (by first | (with_reducible assumption) | assumption)
      obtain ⟨ad365, e365, hx365_0, hx365_1⟩ := at_T30 HR0.out x7_1 p365 q365
      cases e365
      replace hx365_0 := (HB.out.cell (World.block_lt_of_cell? w _ hx365_0)).trans hx365_0
      replace hx365_1 := (HB.out.cell (World.block_lt_of_cell? w _ hx365_1)).trans hx365_1
      replace p365 := eq_true p365
      replace q365 := eq_true q365
      have p366 : 0 ≤ (x7_1 : Int) := of_decide_eq_true (by first | (with_reducible assumption) | assumption)
      have q366 : x7_1 < (l0.length : Int) := of_decide_eq_true (by first | (with_reducible assumption) | assumption)
      obtain ⟨ad366, e366, hx366_0, hx366_1⟩ := at_T30 HR0.out x7_1 p366 q366
      obtain rfl : ad365 = ad366 := (by injection e366)
      replace hx366_0 := (HB.out.cell (World.block_lt_of_cell? w _ hx366_0)).trans hx366_0
      replace hx366_1 := (HB.out.cell (World.block_lt_of_cell? w _ hx366_1)).trans hx366_1
      replace p366 := eq_true p366
      replace q366 := eq_true q366
      go_wp2_with (first | ((with_reducible refine gate_callee (f := 23) rfl ?_); refine goesL_ (some 27) rfl rfl Try.func23 (by kernel_rfl) rfl #[.string ((rd_T30 l0 x7_1).f1), .string a1] rfl (by (try simp only [List.map_toArray, List.map_cons, List.map_nil]); first | done | rfl | (simp only [List.length_drop, List.length_take]; rfl)) ?_; (with_reducible refine (spec_RuleHas.calls k1 ((rd_T30 l0 x7_1).f1) a1 false _ A5.out).mono ?_); rintro e w15 ⟨rfl, hb⟩; refine ⟨_, rfl, ?_⟩; have n0_ := Aside0.mk (below_step (by repeat (first | (with_reducible first | exact HB.out | apply below_alloc | apply pw_below_drewN | apply below_drew1) | exact HB.out)) hb); clear HB; have HB := n0_; clear n0_; (try clear hb); (try clear hb2); (try clear hk); (try clear hi)))
      go_roundg k1
      case measure => have := HK1.out; omega
      case rel => exact ⟨(x5_1), (x6_1), (wrap64 (x7_1 + 1)), (by first | rfl | (simp only [i64_w, i32_w]; done) | (simp only [aid_isEmpty, aid_isEmpty2]; done) | (simp; done) | (simp [*]; done)), (by first | rfl | (simp only [i64_w, i32_w]; done) | (simp only [aid_isEmpty, aid_isEmpty2]; done) | (simp; done) | (simp [*]; done)), (by first | rfl | (simp only [i64_w, i32_w]; done) | (simp only [aid_isEmpty, aid_isEmpty2]; done) | (simp; done) | (simp [*]; done)), H', ⟨by have := HK1.out; omega⟩, ⟨by repeat (first | (with_reducible first | exact HB.out | apply below_alloc | apply pw_below_drewN | apply below_drew1) | exact HB.out)⟩⟩
    ·rw [if_neg c4] at H
     exact absurd H (by simp)
   ·rw [if_neg c3] at H
    have c3b0 : decide (x7_1 < (l0.length : Int)) = false := decide_eq_false c3
    clear c3
    obtain rfl := Option.some.inj H
    go_wp2
    go_ret
    exact ⟨by first | rfl | (simp [errW_none, errW_some] <;> rfl) | (simp [*, errW_none, errW_some] <;> rfl), by repeat (first | (with_reducible first | exact HB.out | apply below_alloc | apply pw_below_drewN | apply below_drew1) | exact HB.out)⟩
end Go.Proofs.Ythojnmcnlgcbnaa.P
end
section
namespace Go.Proofs.Ythojnmcnlgcbnaa.P
open Go.RowKit Go.Proofs.YthojnmcnlgcbnaaW.PrintWords Go.Proofs.YthojnmcnlgcbnaaW.PrintLast Go.Proofs.YthojnmcnlgcbnaaW.PrintMore
attribute [local go_sem] max2_int min2_int max_two min_two max_three min_three max_four min_four
set_option linter.unusedVariables false
set_option linter.unusedSimpArgs false
def laws_FnLetsMore.j0 : Nat → List Int → List Int → Bool → Option (Bool)
 | 0, _, _, _ => none
 | k + 1, x0, x1, x19 => if x19 = true then (some true) else ((spec_DrawRuleLets.f k x0).bind fun bt369 => ((spec_DrawRuleHas.f k x1).bind fun bt373 => ((impl_RuleLets.f k bt369.1 bt369.2).bind fun t375 => ((spec_RuleLets.f k bt369.1 bt369.2).bind fun t376 => (if (t375 != t376) = true then (some false) else ((some (([] : List (S30)) : List (S30))).bind fun y377 => (if y377.length + bt369.1.length < 5864062014805 then ((some (y377 ++ bt369.1 : List (S30))).bind fun y380 => (if y380.length < 5864062014805 then ((impl_RuleLets.f k (y380 ++ [(⟨true, bt373.1⟩ : S30)]) bt369.2).bind fun t386 => ((some (([] : List (S30)) : List (S30))).bind fun y387 => (if y387.length + bt369.1.length < 5864062014805 then ((some (y387 ++ bt369.1 : List (S30))).bind fun y390 => (if y390.length < 5864062014805 then ((impl_RuleLets.f k (y390 ++ [(⟨false, bt373.1⟩ : S30)]) bt369.2).bind fun t396 => (if t375 = true then (if t386 = true then (some true) else (some false)) else (some (!t396)))) else (none))) else (none)))) else (none))) else (none))))))))
def laws_FnLetsMore.f (k : Nat) (l0 : List Int) (l1 : List Int) : Option (Bool) := if (l0.length : Int) > 1048576 then (laws_FnLetsMore.j0 k l0 l1 true) else (laws_FnLetsMore.j0 k l0 l1 (decide ((l1.length : Int) > 1048576)))
set_option maxHeartbeats 8000000 in
set_option maxRecDepth 100000 in
theorem laws_FnLetsMore.calls (k : Nat) (A0 : Option Addr) (c0 : Nat) (l0 : List Int) (A1 : Option Addr) (c1 : Nat) (l1 : List Int) (r : Bool) (w : World) (hr0 : Kd.C (Kd.int .u8) w A0 l0.length l0) (hc0 : l0.length ≤ c0) (hr1 : Kd.C (Kd.int .u8) w A1 l1.length l1) (hc1 : l1.length ≤ c1) (h : laws_FnLetsMore.f k l0 l1 = some r) :
  Calls Try.prog 3 #[.slice A0 l0.length c0, .slice A1 l1.length c1] w fun e w' => e = .returned (.bool r) ∧ Below w.heap.size w w' := by
 have hu30 := Try.underlying30
 have HR0 := Aside0.mk hr0
 have HC0 := Aside0.mk hc0
 clear hr0 hc0
 have HR1 := Aside0.mk hr1
 have HC1 := Aside0.mk hc1
 clear hr1 hc1
 have HB := Aside0.mk (Below.refl w.heap.size w)
 have H : (if (l0.length : Int) > 1048576 then (laws_FnLetsMore.j0 k l0 l1 true) else (laws_FnLetsMore.j0 k l0 l1 (decide ((l1.length : Int) > 1048576)))) = some r := h
 clear h
 have HC3 := Aside0.mk H
 clear H
 go_enter Try.func3, Try.ntmps3
 go_upto_region 1 with (fail)
 go_cut [19] (fun v19 wc => ∃ (kq : Nat) (x19_2 : Bool), v19 = .bool x19_2 ∧ Aside0 (laws_FnLetsMore.j0 kq l0 l1 x19_2 = some r) ∧ Aside0 (kq ≤ k) ∧ Aside0 (Below w.heap.size w wc))
 case first =>
  have H := HC3.out
  clear HC3
  by_cases c4 : (l0.length : Int) > 1048576
  ·rw [if_pos c4] at H
   have c4b0 : decide (1048576 < (l0.length : Int)) = true := decide_eq_true c4
   have c4b1 : decide (1048576 < l0.length) = true := decide_eq_true (by omega)
   clear c4
   (first | rw [c4b0] | (simp only [i64_w, i32_w]; rw [c4b0]) | skip)
   have H' := Aside0.mk H
   clear H
   go_wp2
   go_meet
   case rel => exact ⟨_, (true), (by first | rfl | (simp only [i64_w, i32_w]; done) | (simp only [aid_isEmpty, aid_isEmpty2]; done) | (simp; done) | (simp [*]; done)), H', ⟨by first | omega | exact Nat.le_refl _⟩, ⟨by repeat (first | (with_reducible first | exact HB.out | apply below_alloc | apply pw_below_drewN | apply below_drew1) | exact HB.out)⟩⟩
  ·rw [if_neg c4] at H
   have c4b0 : decide (1048576 < (l0.length : Int)) = false := decide_eq_false c4
   have c4b1 : decide (1048576 < l0.length) = false := decide_eq_false (by omega)
   clear c4
   (first | rw [c4b0] | (simp only [i64_w, i32_w]; rw [c4b0]) | skip)
   have H' := Aside0.mk H
   clear H
   go_wp2
   go_meet
   case rel => exact ⟨_, (decide ((l1.length : Int) > 1048576)), (by first | rfl | (simp only [i64_w, i32_w]; done) | (simp only [aid_isEmpty, aid_isEmpty2]; done) | (simp; done) | (simp [*]; done)), H', ⟨by first | omega | exact Nat.le_refl _⟩, ⟨by repeat (first | (with_reducible first | exact HB.out | apply below_alloc | apply pw_below_drewN | apply below_drew1) | exact HB.out)⟩⟩
 case rest =>
  clear HC3
  try clear c1
  try clear p2
  try clear c3
  try clear c4
  try clear c4b0
  try clear c4b1
  obtain ⟨kq, x19_2, rfl, HA, HJ2, HB⟩ := hcut
  cases kq with
  | zero => exact absurd HA.out (by simp [laws_FnLetsMore.j0])
  | succ kj2 =>
   have H := HA.out
   clear HA
   simp only [laws_FnLetsMore.j0] at H
   by_cases c5 : x19_2 = true
   ·subst c5
    have H1 : (some true) = some r := by rw [if_pos rfl] at H; exact H
    clear H
    have H := H1
    clear H1
    obtain rfl := Option.some.inj H
    go_wp2
    go_ret
    exact ⟨by first | rfl | (simp [errW_none, errW_some] <;> rfl) | (simp [*, errW_none, errW_some] <;> rfl), by repeat (first | (with_reducible first | exact HB.out | apply below_alloc | apply pw_below_drewN | apply below_drew1) | exact HB.out)⟩
   ·replace c5 := Bool.eq_false_iff.mpr c5
    subst c5
    have H1 : ((spec_DrawRuleLets.f kj2 l0).bind fun bt369 => ((spec_DrawRuleHas.f kj2 l1).bind fun bt373 => ((impl_RuleLets.f kj2 bt369.1 bt369.2).bind fun t375 => ((spec_RuleLets.f kj2 bt369.1 bt369.2).bind fun t376 => (if (t375 != t376) = true then (some false) else ((some (([] : List (S30)) : List (S30))).bind fun y377 => (if y377.length + bt369.1.length < 5864062014805 then ((some (y377 ++ bt369.1 : List (S30))).bind fun y380 => (if y380.length < 5864062014805 then ((impl_RuleLets.f kj2 (y380 ++ [(⟨true, bt373.1⟩ : S30)]) bt369.2).bind fun t386 => ((some (([] : List (S30)) : List (S30))).bind fun y387 => (if y387.length + bt369.1.length < 5864062014805 then ((some (y387 ++ bt369.1 : List (S30))).bind fun y390 => (if y390.length < 5864062014805 then ((impl_RuleLets.f kj2 (y390 ++ [(⟨false, bt373.1⟩ : S30)]) bt369.2).bind fun t396 => (if t375 = true then (if t386 = true then (some true) else (some false)) else (some (!t396)))) else (none))) else (none)))) else (none))) else (none)))))))) = some r := by rw [if_neg (show ¬ (false = true) by decide)] at H; exact H
    clear H
    have H := H1
    clear H1
    replace H := Option.bind_eq_some_iff.mp H
    obtain ⟨⟨t369, t370⟩, A60, H⟩ := H
    replace H : ((spec_DrawRuleHas.f kj2 l1).bind fun bt373 => ((impl_RuleLets.f kj2 t369 t370).bind fun t375 => ((spec_RuleLets.f kj2 t369 t370).bind fun t376 => (if (t375 != t376) = true then (some false) else ((some (([] : List (S30)) : List (S30))).bind fun y377 => (if y377.length + t369.length < 5864062014805 then ((some (y377 ++ t369 : List (S30))).bind fun y380 => (if y380.length < 5864062014805 then ((impl_RuleLets.f kj2 (y380 ++ [(⟨true, bt373.1⟩ : S30)]) t370).bind fun t386 => ((some (([] : List (S30)) : List (S30))).bind fun y387 => (if y387.length + t369.length < 5864062014805 then ((some (y387 ++ t369 : List (S30))).bind fun y390 => (if y390.length < 5864062014805 then ((impl_RuleLets.f kj2 (y390 ++ [(⟨false, bt373.1⟩ : S30)]) t370).bind fun t396 => (if t375 = true then (if t386 = true then (some true) else (some false)) else (some (!t396)))) else (none))) else (none)))) else (none))) else (none))))))) = some r := H
    have A6 := Aside0.mk A60
    clear A60
    replace H := Option.bind_eq_some_iff.mp H
    obtain ⟨⟨t373, t374⟩, A70, H⟩ := H
    replace H : ((impl_RuleLets.f kj2 t369 t370).bind fun t375 => ((spec_RuleLets.f kj2 t369 t370).bind fun t376 => (if (t375 != t376) = true then (some false) else ((some (([] : List (S30)) : List (S30))).bind fun y377 => (if y377.length + t369.length < 5864062014805 then ((some (y377 ++ t369 : List (S30))).bind fun y380 => (if y380.length < 5864062014805 then ((impl_RuleLets.f kj2 (y380 ++ [(⟨true, t373⟩ : S30)]) t370).bind fun t386 => ((some (([] : List (S30)) : List (S30))).bind fun y387 => (if y387.length + t369.length < 5864062014805 then ((some (y387 ++ t369 : List (S30))).bind fun y390 => (if y390.length < 5864062014805 then ((impl_RuleLets.f kj2 (y390 ++ [(⟨false, t373⟩ : S30)]) t370).bind fun t396 => (if t375 = true then (if t386 = true then (some true) else (some false)) else (some (!t396)))) else (none))) else (none)))) else (none))) else (none)))))) = some r := H
    have A7 := Aside0.mk A70
    clear A70
    replace H := Option.bind_eq_some_iff.mp H
    obtain ⟨t375, A80, H⟩ := H
    replace H : ((spec_RuleLets.f kj2 t369 t370).bind fun t376 => (if (t375 != t376) = true then (some false) else ((some (([] : List (S30)) : List (S30))).bind fun y377 => (if y377.length + t369.length < 5864062014805 then ((some (y377 ++ t369 : List (S30))).bind fun y380 => (if y380.length < 5864062014805 then ((impl_RuleLets.f kj2 (y380 ++ [(⟨true, t373⟩ : S30)]) t370).bind fun t386 => ((some (([] : List (S30)) : List (S30))).bind fun y387 => (if y387.length + t369.length < 5864062014805 then ((some (y387 ++ t369 : List (S30))).bind fun y390 => (if y390.length < 5864062014805 then ((impl_RuleLets.f kj2 (y390 ++ [(⟨false, t373⟩ : S30)]) t370).bind fun t396 => (if t375 = true then (if t386 = true then (some true) else (some false)) else (some (!t396)))) else (none))) else (none)))) else (none))) else (none))))) = some r := H
    have A8 := Aside0.mk A80
    clear A80
    replace H := Option.bind_eq_some_iff.mp H
    obtain ⟨t376, A90, H⟩ := H
    replace H : (if (t375 != t376) = true then (some false) else ((some (([] : List (S30)) : List (S30))).bind fun y377 => (if y377.length + t369.length < 5864062014805 then ((some (y377 ++ t369 : List (S30))).bind fun y380 => (if y380.length < 5864062014805 then ((impl_RuleLets.f kj2 (y380 ++ [(⟨true, t373⟩ : S30)]) t370).bind fun t386 => ((some (([] : List (S30)) : List (S30))).bind fun y387 => (if y387.length + t369.length < 5864062014805 then ((some (y387 ++ t369 : List (S30))).bind fun y390 => (if y390.length < 5864062014805 then ((impl_RuleLets.f kj2 (y390 ++ [(⟨false, t373⟩ : S30)]) t370).bind fun t396 => (if t375 = true then (if t386 = true then (some true) else (some false)) else (some (!t396)))) else (none))) else (none)))) else (none))) else (none)))) = some r := H
    have A9 := Aside0.mk A90
    clear A90
    by_cases c10 : (t375 != t376) = true
    ·rw [if_pos c10] at H
     have c10b0 : (t375 != t376) = true := c10
     (try (have c10b1 : decide (t375 = t376) = false := by simpa using c10))
     (try (have c10b2 : (t375 == t376) = false := by simpa using c10))
     (try (have c10b3 : ¬ (t375 = t376) := by simpa using c10))
     clear c10
     obtain rfl := Option.some.inj H
     go_wp2_with (first | ((with_reducible refine gate_callee (f := 5) rfl ?_); refine goesL_ (some 22) rfl rfl Try.func5 (by kernel_rfl) rfl #[.slice A0 l0.length c0] rfl (by (try simp only [List.map_toArray, List.map_cons, List.map_nil]); first | done | rfl | (simp only [List.length_drop, List.length_take]; rfl)) ?_; (with_reducible refine (spec_DrawRuleLets.calls kj2 _ _ l0 t369 t370 _ ?side1 ?side2 A6.out).mono ?_); (case side1 => repeat (first | exact (Kd.C_below HR0.out HB.out) | (with_reducible refine Kd.C_alloc ?_ _) | (with_reducible refine Kd.C_drewN ?_ _) | (with_reducible refine Kd.C_drew ?_))); (case side2 => exact HC0.out); rintro e w11 ⟨v371, rfl, ho0, hb⟩; refine ⟨_, rfl, ?_⟩; have n0_ := Aside0.mk (Kd.R_lower ho0 (below_size (by repeat (first | (with_reducible first | exact HB.out | apply below_alloc | apply pw_below_drewN | apply below_drew1) | exact HB.out)))); have n1_ := Aside0.mk (below_step (by repeat (first | (with_reducible first | exact HB.out | apply below_alloc | apply pw_below_drewN | apply below_drew1) | exact HB.out)) hb); clear HB; have HO372 := n0_; have HB := n1_; clear n0_ n1_; (try clear hb); (try clear hb2); (try clear hk); (try clear hi); (try clear ho0)) | ((with_reducible refine gate_callee (f := 6) rfl ?_); refine goesL_ (some 27) rfl rfl Try.func6 (by kernel_rfl) rfl #[.slice A1 l1.length c1] rfl (by (try simp only [List.map_toArray, List.map_cons, List.map_nil]); first | done | rfl | (simp only [List.length_drop, List.length_take]; rfl)) ?_; (with_reducible refine (spec_DrawRuleHas.calls kj2 _ _ l1 t373 t374 _ ?side1 ?side2 A7.out).mono ?_); (case side1 => repeat (first | exact (Kd.C_below HR1.out HB.out) | (with_reducible refine Kd.C_alloc ?_ _) | (with_reducible refine Kd.C_drewN ?_ _) | (with_reducible refine Kd.C_drew ?_))); (case side2 => exact HC1.out); rintro e w12 ⟨rfl, hb⟩; refine ⟨_, rfl, ?_⟩; have n0_ := Aside0.mk (Kd.R_below (by (with_reducible repeat (first | apply Kd.R_alloc | apply Kd.R_drewN | apply Kd.R_drew)); exact HO372.out) hb); have n1_ := Aside0.mk (below_step (by repeat (first | (with_reducible first | exact HB.out | apply below_alloc | apply pw_below_drewN | apply below_drew1) | exact HB.out)) hb); clear HO372; clear HB; have HO372 := n0_; have HB := n1_; clear n0_ n1_; (try clear hb); (try clear hb2); (try clear hk); (try clear hi); obtain ⟨Ao13, co13, eo13⟩ := Kd.R_slice HO372.out; subst eo13) | ((with_reducible refine gate_callee (f := 7) rfl ?_); refine goesL_ (some 32) rfl rfl Try.func7 (by kernel_rfl) rfl #[.slice Ao13 t369.length co13, .string t370] rfl (by (try simp only [List.map_toArray, List.map_cons, List.map_nil]); first | done | rfl | (simp only [List.length_drop, List.length_take]; rfl)) ?_; (with_reducible refine (impl_RuleLets.calls kj2 _ _ t369 t370 t375 _ ?side1 ?side2 A8.out).mono ?_); (case side1 => repeat (first | exact (Kd.R_reads' HO372.out).2.2 | (with_reducible refine Kd.C_alloc ?_ _) | (with_reducible refine Kd.C_drewN ?_ _) | (with_reducible refine Kd.C_drew ?_))); (case side2 => exact (Kd.R_reads' HO372.out).2.1); rintro e w14 ⟨rfl, hb⟩; refine ⟨_, rfl, ?_⟩; have n0_ := Aside0.mk (Kd.R_below (by (with_reducible repeat (first | apply Kd.R_alloc | apply Kd.R_drewN | apply Kd.R_drew)); exact HO372.out) hb); have n1_ := Aside0.mk (below_step (by repeat (first | (with_reducible first | exact HB.out | apply below_alloc | apply pw_below_drewN | apply below_drew1) | exact HB.out)) hb); clear HO372; clear HB; have HO372 := n0_; have HB := n1_; clear n0_ n1_; (try clear hb); (try clear hb2); (try clear hk); (try clear hi)) | ((with_reducible refine gate_callee (f := 8) rfl ?_); refine goesL_ (some 36) rfl rfl Try.func8 (by kernel_rfl) rfl #[.slice Ao13 t369.length co13, .string t370] rfl (by (try simp only [List.map_toArray, List.map_cons, List.map_nil]); first | done | rfl | (simp only [List.length_drop, List.length_take]; rfl)) ?_; (with_reducible refine (spec_RuleLets.calls kj2 _ _ t369 t370 t376 _ ?side1 ?side2 A9.out).mono ?_); (case side1 => repeat (first | exact (Kd.R_reads' HO372.out).2.2 | (with_reducible refine Kd.C_alloc ?_ _) | (with_reducible refine Kd.C_drewN ?_ _) | (with_reducible refine Kd.C_drew ?_))); (case side2 => exact (Kd.R_reads' HO372.out).2.1); rintro e w15 ⟨rfl, hb⟩; refine ⟨_, rfl, ?_⟩; have n0_ := Aside0.mk (Kd.R_below (by (with_reducible repeat (first | apply Kd.R_alloc | apply Kd.R_drewN | apply Kd.R_drew)); exact HO372.out) hb); have n1_ := Aside0.mk (below_step (by repeat (first | (with_reducible first | exact HB.out | apply below_alloc | apply pw_below_drewN | apply below_drew1) | exact HB.out)) hb); clear HO372; clear HB; have HO372 := n0_; have HB := n1_; clear n0_ n1_; (try clear hb); (try clear hb2); (try clear hk); (try clear hi)))
     go_ret
     exact ⟨by first | rfl | (simp [errW_none, errW_some] <;> rfl) | (simp [*, errW_none, errW_some] <;> rfl), by repeat (first | (with_reducible first | exact HB.out | apply below_alloc | apply pw_below_drewN | apply below_drew1) | exact HB.out)⟩
    ·rw [if_neg c10] at H
     have c10b0 : (t375 != t376) = false := by simpa using c10
     (try (have c10b1 : decide (t375 = t376) = true := by simpa using c10))
     (try (have c10b2 : (t375 == t376) = true := by simpa using c10))
     clear c10
     obtain ⟨y377, hy377⟩ : ∃ y_ : List (S30), y_ = (([] : List (S30))) := ⟨_, rfl⟩
     replace H : (if y377.length + t369.length < 5864062014805 then ((some (y377 ++ t369 : List (S30))).bind fun y380 => (if y380.length < 5864062014805 then ((impl_RuleLets.f kj2 (y380 ++ [(⟨true, t373⟩ : S30)]) t370).bind fun t386 => ((some (([] : List (S30)) : List (S30))).bind fun y387 => (if y387.length + t369.length < 5864062014805 then ((some (y387 ++ t369 : List (S30))).bind fun y390 => (if y390.length < 5864062014805 then ((impl_RuleLets.f kj2 (y390 ++ [(⟨false, t373⟩ : S30)]) t370).bind fun t396 => (if t375 = true then (if t386 = true then (some true) else (some false)) else (some (!t396)))) else (none))) else (none)))) else (none))) else (none)) = some r := by first | (rw [hy377]; with_reducible exact H) | (have H2_ := (Option.bind_some _ _).symm.trans H; rw [hy377]; with_reducible exact H2_) | (have H2_ := (Option.bind_some _ _).symm.trans H; with_reducible exact H2_) | with_reducible exact H | (rw [hy377]; exact H) | exact H
     have Ny377 := Aside0.mk hy377
     clear hy377
     by_cases c16 : y377.length + t369.length < 5864062014805
     ·rw [if_pos c16] at H
      have LMc16 := Aside0.mk c16
      clear c16
      obtain ⟨y380, hy380⟩ : ∃ y_ : List (S30), y_ = (y377 ++ t369) := ⟨_, rfl⟩
      replace H : (if y380.length < 5864062014805 then ((impl_RuleLets.f kj2 (y380 ++ [(⟨true, t373⟩ : S30)]) t370).bind fun t386 => ((some (([] : List (S30)) : List (S30))).bind fun y387 => (if y387.length + t369.length < 5864062014805 then ((some (y387 ++ t369 : List (S30))).bind fun y390 => (if y390.length < 5864062014805 then ((impl_RuleLets.f kj2 (y390 ++ [(⟨false, t373⟩ : S30)]) t370).bind fun t396 => (if t375 = true then (if t386 = true then (some true) else (some false)) else (some (!t396)))) else (none))) else (none)))) else (none)) = some r := by first | (rw [hy380]; with_reducible exact H) | (have H2_ := (Option.bind_some _ _).symm.trans H; rw [hy380]; with_reducible exact H2_) | (have H2_ := (Option.bind_some _ _).symm.trans H; with_reducible exact H2_) | with_reducible exact H | (rw [hy380]; exact H) | exact H
      have Ny380 := Aside0.mk hy380
      clear hy380
      by_cases c17 : y380.length < 5864062014805
      ·rw [if_pos c17] at H
       have LMc17 := Aside0.mk c17
       clear c17
       obtain ⟨y383, hy383⟩ : ∃ y_ : List (S30), y_ = (y380 ++ [(⟨true, t373⟩ : S30)]) := ⟨_, rfl⟩
       replace H : ((impl_RuleLets.f kj2 y383 t370).bind fun t386 => ((some (([] : List (S30)) : List (S30))).bind fun y387 => (if y387.length + t369.length < 5864062014805 then ((some (y387 ++ t369 : List (S30))).bind fun y390 => (if y390.length < 5864062014805 then ((impl_RuleLets.f kj2 (y390 ++ [(⟨false, t373⟩ : S30)]) t370).bind fun t396 => (if t375 = true then (if t386 = true then (some true) else (some false)) else (some (!t396)))) else (none))) else (none)))) = some r := by first | (rw [hy383]; with_reducible exact H) | (have H2_ := (Option.bind_some _ _).symm.trans H; rw [hy383]; with_reducible exact H2_) | (have H2_ := (Option.bind_some _ _).symm.trans H; with_reducible exact H2_) | with_reducible exact H | (rw [hy383]; exact H) | exact H
       have Ny383 := Aside0.mk hy383
       clear hy383
       replace H := Option.bind_eq_some_iff.mp H
       obtain ⟨t386, A180, H⟩ := H
       replace H : ((some (([] : List (S30)) : List (S30))).bind fun y387 => (if y387.length + t369.length < 5864062014805 then ((some (y387 ++ t369 : List (S30))).bind fun y390 => (if y390.length < 5864062014805 then ((impl_RuleLets.f kj2 (y390 ++ [(⟨false, t373⟩ : S30)]) t370).bind fun t396 => (if t375 = true then (if t386 = true then (some true) else (some false)) else (some (!t396)))) else (none))) else (none))) = some r := H
       have A18 := Aside0.mk A180
       clear A180
       obtain ⟨y387, hy387⟩ : ∃ y_ : List (S30), y_ = (([] : List (S30))) := ⟨_, rfl⟩
       replace H : (if y387.length + t369.length < 5864062014805 then ((some (y387 ++ t369 : List (S30))).bind fun y390 => (if y390.length < 5864062014805 then ((impl_RuleLets.f kj2 (y390 ++ [(⟨false, t373⟩ : S30)]) t370).bind fun t396 => (if t375 = true then (if t386 = true then (some true) else (some false)) else (some (!t396)))) else (none))) else (none)) = some r := by first | (rw [hy387]; with_reducible exact H) | (have H2_ := (Option.bind_some _ _).symm.trans H; rw [hy387]; with_reducible exact H2_) | (have H2_ := (Option.bind_some _ _).symm.trans H; with_reducible exact H2_) | with_reducible exact H | (rw [hy387]; exact H) | exact H
       have Ny387 := Aside0.mk hy387
       clear hy387
       by_cases c19 : y387.length + t369.length < 5864062014805
       ·rw [if_pos c19] at H
        have LMc19 := Aside0.mk c19
        clear c19
        obtain ⟨y390, hy390⟩ : ∃ y_ : List (S30), y_ = (y387 ++ t369) := ⟨_, rfl⟩
        replace H : (if y390.length < 5864062014805 then ((impl_RuleLets.f kj2 (y390 ++ [(⟨false, t373⟩ : S30)]) t370).bind fun t396 => (if t375 = true then (if t386 = true then (some true) else (some false)) else (some (!t396)))) else (none)) = some r := by first | (rw [hy390]; with_reducible exact H) | (have H2_ := (Option.bind_some _ _).symm.trans H; rw [hy390]; with_reducible exact H2_) | (have H2_ := (Option.bind_some _ _).symm.trans H; with_reducible exact H2_) | with_reducible exact H | (rw [hy390]; exact H) | exact H
        have Ny390 := Aside0.mk hy390
        clear hy390
        by_cases c20 : y390.length < 5864062014805
        ·rw [if_pos c20] at H
         have LMc20 := Aside0.mk c20
         clear c20
         obtain ⟨y393, hy393⟩ : ∃ y_ : List (S30), y_ = (y390 ++ [(⟨false, t373⟩ : S30)]) := ⟨_, rfl⟩
         replace H : ((impl_RuleLets.f kj2 y393 t370).bind fun t396 => (if t375 = true then (if t386 = true then (some true) else (some false)) else (some (!t396)))) = some r := by first | (rw [hy393]; with_reducible exact H) | (have H2_ := (Option.bind_some _ _).symm.trans H; rw [hy393]; with_reducible exact H2_) | (have H2_ := (Option.bind_some _ _).symm.trans H; with_reducible exact H2_) | with_reducible exact H | (rw [hy393]; exact H) | exact H
         have Ny393 := Aside0.mk hy393
         clear hy393
         replace H := Option.bind_eq_some_iff.mp H
         obtain ⟨t396, A210, H⟩ := H
         replace H : (if t375 = true then (if t386 = true then (some true) else (some false)) else (some (!t396))) = some r := H
         have A21 := Aside0.mk A210
         clear A210
         by_cases c22 : t375 = true
         ·subst c22
          have H1 : (if t386 = true then (some true) else (some false)) = some r := by rw [if_pos rfl] at H; exact H
          clear H
          have H := H1
          clear H1
          by_cases c23 : t386 = true
          ·subst c23
           have H1 : (some true) = some r := by rw [if_pos rfl] at H; exact H
           clear H
           have H := H1
           clear H1
           obtain rfl := Option.some.inj H
           go_wp2_with (first | ((with_reducible refine gate_callee (f := 5) rfl ?_); refine goesL_ (some 22) rfl rfl Try.func5 (by kernel_rfl) rfl #[.slice A0 l0.length c0] rfl (by (try simp only [List.map_toArray, List.map_cons, List.map_nil]); first | done | rfl | (simp only [List.length_drop, List.length_take]; rfl)) ?_; (with_reducible refine (spec_DrawRuleLets.calls kj2 _ _ l0 t369 t370 _ ?side1 ?side2 A6.out).mono ?_); (case side1 => repeat (first | exact (Kd.C_below HR0.out HB.out) | (with_reducible refine Kd.C_alloc ?_ _) | (with_reducible refine Kd.C_drewN ?_ _) | (with_reducible refine Kd.C_drew ?_))); (case side2 => exact HC0.out); rintro e w24 ⟨v371, rfl, ho0, hb⟩; refine ⟨_, rfl, ?_⟩; have n0_ := Aside0.mk (Kd.R_lower ho0 (below_size (by repeat (first | (with_reducible first | exact HB.out | apply below_alloc | apply pw_below_drewN | apply below_drew1) | exact HB.out)))); have n1_ := Aside0.mk (below_step (by repeat (first | (with_reducible first | exact HB.out | apply below_alloc | apply pw_below_drewN | apply below_drew1) | exact HB.out)) hb); clear HB; have HO372 := n0_; have HB := n1_; clear n0_ n1_; (try clear hb); (try clear hb2); (try clear hk); (try clear hi); (try clear ho0)) | ((with_reducible refine gate_callee (f := 6) rfl ?_); refine goesL_ (some 27) rfl rfl Try.func6 (by kernel_rfl) rfl #[.slice A1 l1.length c1] rfl (by (try simp only [List.map_toArray, List.map_cons, List.map_nil]); first | done | rfl | (simp only [List.length_drop, List.length_take]; rfl)) ?_; (with_reducible refine (spec_DrawRuleHas.calls kj2 _ _ l1 t373 t374 _ ?side1 ?side2 A7.out).mono ?_); (case side1 => repeat (first | exact (Kd.C_below HR1.out HB.out) | (with_reducible refine Kd.C_alloc ?_ _) | (with_reducible refine Kd.C_drewN ?_ _) | (with_reducible refine Kd.C_drew ?_))); (case side2 => exact HC1.out); rintro e w25 ⟨rfl, hb⟩; refine ⟨_, rfl, ?_⟩; have n0_ := Aside0.mk (Kd.R_below (by (with_reducible repeat (first | apply Kd.R_alloc | apply Kd.R_drewN | apply Kd.R_drew)); exact HO372.out) hb); have n1_ := Aside0.mk (below_step (by repeat (first | (with_reducible first | exact HB.out | apply below_alloc | apply pw_below_drewN | apply below_drew1) | exact HB.out)) hb); clear HO372; clear HB; have HO372 := n0_; have HB := n1_; clear n0_ n1_; (try clear hb); (try clear hb2); (try clear hk); (try clear hi); obtain ⟨Ao26, co26, eo26⟩ := Kd.R_slice HO372.out; subst eo26) | ((with_reducible refine gate_callee (f := 7) rfl ?_); refine goesL_ (some 32) rfl rfl Try.func7 (by kernel_rfl) rfl #[.slice Ao26 t369.length co26, .string t370] rfl (by (try simp only [List.map_toArray, List.map_cons, List.map_nil]); first | done | rfl | (simp only [List.length_drop, List.length_take]; rfl)) ?_; (with_reducible refine (impl_RuleLets.calls kj2 _ _ t369 t370 true _ ?side1 ?side2 A8.out).mono ?_); (case side1 => repeat (first | exact (Kd.R_reads' HO372.out).2.2 | (with_reducible refine Kd.C_alloc ?_ _) | (with_reducible refine Kd.C_drewN ?_ _) | (with_reducible refine Kd.C_drew ?_))); (case side2 => exact (Kd.R_reads' HO372.out).2.1); rintro e w27 ⟨rfl, hb⟩; refine ⟨_, rfl, ?_⟩; have n0_ := Aside0.mk (Kd.R_below (by (with_reducible repeat (first | apply Kd.R_alloc | apply Kd.R_drewN | apply Kd.R_drew)); exact HO372.out) hb); have n1_ := Aside0.mk (below_step (by repeat (first | (with_reducible first | exact HB.out | apply below_alloc | apply pw_below_drewN | apply below_drew1) | exact HB.out)) hb); clear HO372; clear HB; have HO372 := n0_; have HB := n1_; clear n0_ n1_; (try clear hb); (try clear hb2); (try clear hk); (try clear hi)) | ((with_reducible refine gate_callee (f := 8) rfl ?_); refine goesL_ (some 36) rfl rfl Try.func8 (by kernel_rfl) rfl #[.slice Ao26 t369.length co26, .string t370] rfl (by (try simp only [List.map_toArray, List.map_cons, List.map_nil]); first | done | rfl | (simp only [List.length_drop, List.length_take]; rfl)) ?_; (with_reducible refine (spec_RuleLets.calls kj2 _ _ t369 t370 t376 _ ?side1 ?side2 A9.out).mono ?_); (case side1 => repeat (first | exact (Kd.R_reads' HO372.out).2.2 | (with_reducible refine Kd.C_alloc ?_ _) | (with_reducible refine Kd.C_drewN ?_ _) | (with_reducible refine Kd.C_drew ?_))); (case side2 => exact (Kd.R_reads' HO372.out).2.1); rintro e w28 ⟨rfl, hb⟩; refine ⟨_, rfl, ?_⟩; have n0_ := Aside0.mk (Kd.R_below (by (with_reducible repeat (first | apply Kd.R_alloc | apply Kd.R_drewN | apply Kd.R_drew)); exact HO372.out) hb); have n1_ := Aside0.mk (below_step (by repeat (first | (with_reducible first | exact HB.out | apply below_alloc | apply pw_below_drewN | apply below_drew1) | exact HB.out)) hb); clear HO372; clear HB; have HO372 := n0_; have HB := n1_; clear n0_ n1_; (try clear hb); (try clear hb2); (try clear hk); (try clear hi)) | ((with_reducible refine gate_dst (N := 38) rfl ?_); (try (refine gate_guard (by rfl) ?_; dsimp only)); refine Kd.R_lit k30 _ 30 ?hg (N := 38) ?hd (xs := ([] : List (S30))) (inner := []) (ok := fun _ => True) (okp := fun _ => True) ?hr ?hp (fun _ hk => hk) trivial (Below.refl _ _) (Nat.le_refl _) (by simp) ?_; (case hd => rfl); (case hg => rfl); (case hr => first | (go_simp; done) | (go_simp; rfl)); (case hp => exact (Reps.none _ _)); intro v378 w29 ho30 hb hg_ hnew_; clear hg_ hnew_; (first | rw [← Ny377.out] at ho30 | (simp only [Int.reduceToNat] at ho30; rw [← Ny377.out] at ho30)); have n0_ := Aside0.mk (Kd.R_elder' (by (with_reducible repeat (first | apply Kd.R_alloc | apply Kd.R_drewN | apply Kd.R_drew)); exact HO372.out) (Kd.R_base ho30) hb); have n1_ := Aside0.mk (Kd.R_lower (Kd.R_new' ho30 (Kd.R_lt (by (with_reducible repeat (first | apply Kd.R_alloc | apply Kd.R_drewN | apply Kd.R_drew)); exact HO372.out))) (below_size (by repeat (first | (with_reducible first | exact HB.out | apply below_alloc | apply pw_below_drewN | apply below_drew1) | exact HB.out)))); have n2_ := Aside0.mk (below_step (by repeat (first | (with_reducible first | exact HB.out | apply below_alloc | apply pw_below_drewN | apply below_drew1) | exact HB.out)) hb); clear HO372; clear HB; have HO372 := n0_; have HO379 := n1_; have HB := n2_; clear n0_ n1_ n2_; clear hb ho30) | ((with_reducible refine gate_builtin (b := .append) (xs := #[.tmp 38, .tmp 39]) rfl ?_); (try (refine gate_guard (by rfl) ?_; dsimp only)); at_builtin; refine Kd.R_append_rows k30 (w0 := w) w.heap.size rfl (.tmp 38) (.tmp 39) 23 30 (.agg #[(.bool false), (.string ⟨#[]⟩)]) 24 rfl Try.underlying23 info30 rfl (by decide) (by omega) v378 y377 t369 _ _ _ (fun k_ => some k_ ≠ (.slice Ao26 t369.length co26 : Value).ownBlock) (fun _ => False) rfl rfl ?aO ?aR (fun _ _ h => h) (fun _ h => h.elim) ?aF ?aB ?aS ?aL ?_; (case aR => repeat (first | exact (Kd.R_reads' HO372.out).2.2 | (with_reducible refine Kd.C_alloc ?_ _) | (with_reducible refine Kd.C_drewN ?_ _) | (with_reducible refine Kd.C_drew ?_))); (case aB => exact (by repeat (first | (with_reducible first | exact HB.out | apply below_alloc | apply pw_below_drewN | apply below_drew1) | exact HB.out))); (case aF => exact (fun k_ hk => Kd.fresh' (Kd.R_lt (by (with_reducible repeat (first | apply Kd.R_alloc | apply Kd.R_drewN | apply Kd.R_drew)); exact HO372.out)) k_ hk)); (case aO => exact (by (with_reducible repeat (first | apply Kd.R_alloc | apply Kd.R_drewN | apply Kd.R_drew)); exact Kd.R_mono HO379.out (fun _ hk => hk.2))); (case aS => exact (below_size (by repeat (first | (with_reducible first | exact HB.out | apply below_alloc | apply pw_below_drewN | apply below_drew1) | exact HB.out)))); (case aL => have := LMc16.out; omega); intro v381 w31 ho hb hg hat; rw [← Ny380.out] at ho; have n0_ := Aside0.mk (Kd.R_after (ok := (fun _ => True)) (by (with_reducible repeat (first | apply Kd.R_alloc | apply Kd.R_drewN | apply Kd.R_drew)); exact HO372.out) hg hat); have n1_ := Aside0.mk (hb); have n2_ := Aside0.mk (ho); clear HO372; clear HB; clear HO379; have HO372 := n0_; have HB := n1_; have HO382 := n2_; clear n0_ n1_ n2_; clear ho hb hg hat) | ((with_reducible refine gate_builtin (b := .append) (xs := #[.tmp 40, .tmp 43]) rfl ?_); (try (refine gate_guard (by rfl) ?_; dsimp only)); at_builtin; refine Kd.R_append k30 (w0 := w) w.heap.size rfl (.tmp 40) (.tmp 43) 23 30 (.agg #[(.bool false), (.string ⟨#[]⟩)]) 24 rfl Try.underlying23 info30 rfl (by decide) (by omega) v381 y380 (⟨true, t373⟩ : S30) [.bool true, .string t373] (fun k_ => some k_ ≠ (.slice Ao26 t369.length co26 : Value).ownBlock) (fun _ => False) rfl rfl ?aP (fun _ hk => hk.elim) ?aF ?aO ?aB ?aS ?aL ?_; (case aP => exact k30_mkM _ _ _ (⟨true, t373⟩ : S30)); (case aB => exact (by repeat (first | (with_reducible first | exact HB.out | apply below_alloc | apply pw_below_drewN | apply below_drew1) | exact HB.out))); (case aF => exact (fun k_ hk => Kd.fresh' (Kd.R_lt (by (with_reducible repeat (first | apply Kd.R_alloc | apply Kd.R_drewN | apply Kd.R_drew)); exact HO372.out)) k_ hk)); (case aO => exact (by (with_reducible repeat (first | apply Kd.R_alloc | apply Kd.R_drewN | apply Kd.R_drew)); exact HO382.out)); (case aS => exact (below_size (by repeat (first | (with_reducible first | exact HB.out | apply below_alloc | apply pw_below_drewN | apply below_drew1) | exact HB.out)))); (case aL => have := LMc17.out; omega); intro v384 w32 ho hb hg hat; rw [← Ny383.out] at ho; have n0_ := Aside0.mk (Kd.R_after (ok := (fun _ => True)) (by (with_reducible repeat (first | apply Kd.R_alloc | apply Kd.R_drewN | apply Kd.R_drew)); exact HO372.out) hg hat); have n1_ := Aside0.mk (hb); have n2_ := Aside0.mk (ho); clear HO372; clear HB; clear HO382; have HO372 := n0_; have HB := n1_; have HO385 := n2_; clear n0_ n1_ n2_; clear ho hb hg hat; obtain ⟨Ao33, co33, eo33⟩ := Kd.R_slice HO385.out; subst eo33) | ((with_reducible refine gate_callee (f := 7) rfl ?_); refine goesL_ (some 46) rfl rfl Try.func7 (by kernel_rfl) rfl #[.slice Ao33 y383.length co33, .string t370] rfl (by (try simp only [List.map_toArray, List.map_cons, List.map_nil]); first | done | rfl | (simp only [List.length_drop, List.length_take]; rfl)) ?_; (with_reducible refine (impl_RuleLets.calls kj2 _ _ y383 t370 true _ ?side1 ?side2 A18.out).mono ?_); (case side1 => repeat (first | exact (Kd.R_reads' HO385.out).2.2 | (with_reducible refine Kd.C_alloc ?_ _) | (with_reducible refine Kd.C_drewN ?_ _) | (with_reducible refine Kd.C_drew ?_))); (case side2 => exact (Kd.R_reads' HO385.out).2.1); rintro e w34 ⟨rfl, hb⟩; refine ⟨_, rfl, ?_⟩; have n0_ := Aside0.mk (Kd.R_below (by (with_reducible repeat (first | apply Kd.R_alloc | apply Kd.R_drewN | apply Kd.R_drew)); exact HO372.out) hb); have n1_ := Aside0.mk (Kd.R_below (by (with_reducible repeat (first | apply Kd.R_alloc | apply Kd.R_drewN | apply Kd.R_drew)); exact HO385.out) hb); have n2_ := Aside0.mk (below_step (by repeat (first | (with_reducible first | exact HB.out | apply below_alloc | apply pw_below_drewN | apply below_drew1) | exact HB.out)) hb); clear HO372; clear HO385; clear HB; have HO372 := n0_; have HO385 := n1_; have HB := n2_; clear n0_ n1_ n2_; (try clear hb); (try clear hb2); (try clear hk); (try clear hi)) | ((with_reducible refine gate_dst (N := 47) rfl ?_); (try (refine gate_guard (by rfl) ?_; dsimp only)); refine Kd.R_lit k30 _ 30 ?hg (N := 47) ?hd (xs := ([] : List (S30))) (inner := []) (ok := fun _ => True) (okp := fun _ => True) ?hr ?hp (fun _ hk => hk) trivial (Below.refl _ _) (Nat.le_refl _) (by simp) ?_; (case hd => rfl); (case hg => rfl); (case hr => first | (go_simp; done) | (go_simp; rfl)); (case hp => exact (Reps.none _ _)); intro v388 w35 ho36 hb hg_ hnew_; clear hg_ hnew_; (first | rw [← Ny387.out] at ho36 | (simp only [Int.reduceToNat] at ho36; rw [← Ny387.out] at ho36)); have n0_ := Aside0.mk (Kd.R_elder' (by (with_reducible repeat (first | apply Kd.R_alloc | apply Kd.R_drewN | apply Kd.R_drew)); exact HO372.out) (Kd.R_base ho36) hb); have n1_ := Aside0.mk (Kd.R_elder' (by (with_reducible repeat (first | apply Kd.R_alloc | apply Kd.R_drewN | apply Kd.R_drew)); exact HO385.out) (Kd.R_base ho36) hb); have n2_ := Aside0.mk (Kd.R_lower (Kd.R_new' (Kd.R_new' ho36 (Kd.R_lt (by (with_reducible repeat (first | apply Kd.R_alloc | apply Kd.R_drewN | apply Kd.R_drew)); exact HO372.out))) (Kd.R_lt (by (with_reducible repeat (first | apply Kd.R_alloc | apply Kd.R_drewN | apply Kd.R_drew)); exact HO385.out))) (below_size (by repeat (first | (with_reducible first | exact HB.out | apply below_alloc | apply pw_below_drewN | apply below_drew1) | exact HB.out)))); have n3_ := Aside0.mk (below_step (by repeat (first | (with_reducible first | exact HB.out | apply below_alloc | apply pw_below_drewN | apply below_drew1) | exact HB.out)) hb); clear HO372; clear HO385; clear HB; have HO372 := n0_; have HO385 := n1_; have HO389 := n2_; have HB := n3_; clear n0_ n1_ n2_ n3_; clear hb ho36) | ((with_reducible refine gate_builtin (b := .append) (xs := #[.tmp 47, .tmp 48]) rfl ?_); (try (refine gate_guard (by rfl) ?_; dsimp only)); at_builtin; refine Kd.R_append_rows k30 (w0 := w) w.heap.size rfl (.tmp 47) (.tmp 48) 23 30 (.agg #[(.bool false), (.string ⟨#[]⟩)]) 24 rfl Try.underlying23 info30 rfl (by decide) (by omega) v388 y387 t369 _ _ _ (fun k_ => some k_ ≠ (.slice Ao26 t369.length co26 : Value).ownBlock ∧ some k_ ≠ (.slice Ao33 y383.length co33 : Value).ownBlock) (fun _ => False) rfl rfl ?aO ?aR (fun _ _ h => h) (fun _ h => h.elim) ?aF ?aB ?aS ?aL ?_; (case aR => repeat (first | exact (Kd.R_reads' HO372.out).2.2 | (with_reducible refine Kd.C_alloc ?_ _) | (with_reducible refine Kd.C_drewN ?_ _) | (with_reducible refine Kd.C_drew ?_))); (case aB => exact (by repeat (first | (with_reducible first | exact HB.out | apply below_alloc | apply pw_below_drewN | apply below_drew1) | exact HB.out))); (case aF => exact (fun k_ hk => ⟨Kd.fresh' (Kd.R_lt (by (with_reducible repeat (first | apply Kd.R_alloc | apply Kd.R_drewN | apply Kd.R_drew)); exact HO372.out)) k_ hk, Kd.fresh' (Kd.R_lt (by (with_reducible repeat (first | apply Kd.R_alloc | apply Kd.R_drewN | apply Kd.R_drew)); exact HO385.out)) k_ hk⟩)); (case aO => exact (by (with_reducible repeat (first | apply Kd.R_alloc | apply Kd.R_drewN | apply Kd.R_drew)); exact Kd.R_mono HO389.out (fun _ hk => ⟨hk.1.2, hk.2⟩))); (case aS => exact (below_size (by repeat (first | (with_reducible first | exact HB.out | apply below_alloc | apply pw_below_drewN | apply below_drew1) | exact HB.out)))); (case aL => have := LMc19.out; omega); intro v391 w37 ho hb hg hat; rw [← Ny390.out] at ho; have n0_ := Aside0.mk (Kd.R_after (ok := (fun k_ => some k_ ≠ (.slice Ao33 y383.length co33 : Value).ownBlock)) (by (with_reducible repeat (first | apply Kd.R_alloc | apply Kd.R_drewN | apply Kd.R_drew)); exact Kd.R_mono HO372.out (fun _ hk => ⟨hk.1.2, hk.2⟩)) hg hat); have n1_ := Aside0.mk (Kd.R_after (ok := (fun k_ => some k_ ≠ (.slice Ao26 t369.length co26 : Value).ownBlock)) (by (with_reducible repeat (first | apply Kd.R_alloc | apply Kd.R_drewN | apply Kd.R_drew)); exact HO385.out) hg hat); have n2_ := Aside0.mk (hb); have n3_ := Aside0.mk (ho); clear HO372; clear HO385; clear HB; clear HO389; have HO372 := n0_; have HO385 := n1_; have HB := n2_; have HO392 := n3_; clear n0_ n1_ n2_ n3_; clear ho hb hg hat) | ((with_reducible refine gate_builtin (b := .append) (xs := #[.tmp 49, .tmp 52]) rfl ?_); (try (refine gate_guard (by rfl) ?_; dsimp only)); at_builtin; refine Kd.R_append k30 (w0 := w) w.heap.size rfl (.tmp 49) (.tmp 52) 23 30 (.agg #[(.bool false), (.string ⟨#[]⟩)]) 24 rfl Try.underlying23 info30 rfl (by decide) (by omega) v391 y390 (⟨false, t373⟩ : S30) [.bool false, .string t373] (fun k_ => some k_ ≠ (.slice Ao26 t369.length co26 : Value).ownBlock ∧ some k_ ≠ (.slice Ao33 y383.length co33 : Value).ownBlock) (fun _ => False) rfl rfl ?aP (fun _ hk => hk.elim) ?aF ?aO ?aB ?aS ?aL ?_; (case aP => exact k30_mkM _ _ _ (⟨false, t373⟩ : S30)); (case aB => exact (by repeat (first | (with_reducible first | exact HB.out | apply below_alloc | apply pw_below_drewN | apply below_drew1) | exact HB.out))); (case aF => exact (fun k_ hk => ⟨Kd.fresh' (Kd.R_lt (by (with_reducible repeat (first | apply Kd.R_alloc | apply Kd.R_drewN | apply Kd.R_drew)); exact HO372.out)) k_ hk, Kd.fresh' (Kd.R_lt (by (with_reducible repeat (first | apply Kd.R_alloc | apply Kd.R_drewN | apply Kd.R_drew)); exact HO385.out)) k_ hk⟩)); (case aO => exact (by (with_reducible repeat (first | apply Kd.R_alloc | apply Kd.R_drewN | apply Kd.R_drew)); exact HO392.out)); (case aS => exact (below_size (by repeat (first | (with_reducible first | exact HB.out | apply below_alloc | apply pw_below_drewN | apply below_drew1) | exact HB.out)))); (case aL => have := LMc20.out; omega); intro v394 w38 ho hb hg hat; rw [← Ny393.out] at ho; have n0_ := Aside0.mk (Kd.R_after (ok := (fun k_ => some k_ ≠ (.slice Ao33 y383.length co33 : Value).ownBlock)) (by (with_reducible repeat (first | apply Kd.R_alloc | apply Kd.R_drewN | apply Kd.R_drew)); exact HO372.out) hg hat); have n1_ := Aside0.mk (Kd.R_after (ok := (fun k_ => some k_ ≠ (.slice Ao26 t369.length co26 : Value).ownBlock)) (by (with_reducible repeat (first | apply Kd.R_alloc | apply Kd.R_drewN | apply Kd.R_drew)); exact HO385.out) hg hat); have n2_ := Aside0.mk (hb); have n3_ := Aside0.mk (ho); clear HO372; clear HO385; clear HB; clear HO392; have HO372 := n0_; have HO385 := n1_; have HB := n2_; have HO395 := n3_; clear n0_ n1_ n2_ n3_; clear ho hb hg hat; obtain ⟨Ao39, co39, eo39⟩ := Kd.R_slice HO395.out; subst eo39) | ((with_reducible refine gate_callee (f := 7) rfl ?_); refine goesL_ (some 55) rfl rfl Try.func7 (by kernel_rfl) rfl #[.slice Ao39 y393.length co39, .string t370] rfl (by (try simp only [List.map_toArray, List.map_cons, List.map_nil]); first | done | rfl | (simp only [List.length_drop, List.length_take]; rfl)) ?_; (with_reducible refine (impl_RuleLets.calls kj2 _ _ y393 t370 t396 _ ?side1 ?side2 A21.out).mono ?_); (case side1 => repeat (first | exact (Kd.R_reads' HO395.out).2.2 | (with_reducible refine Kd.C_alloc ?_ _) | (with_reducible refine Kd.C_drewN ?_ _) | (with_reducible refine Kd.C_drew ?_))); (case side2 => exact (Kd.R_reads' HO395.out).2.1); rintro e w40 ⟨rfl, hb⟩; refine ⟨_, rfl, ?_⟩; have n0_ := Aside0.mk (Kd.R_below (by (with_reducible repeat (first | apply Kd.R_alloc | apply Kd.R_drewN | apply Kd.R_drew)); exact HO372.out) hb); have n1_ := Aside0.mk (Kd.R_below (by (with_reducible repeat (first | apply Kd.R_alloc | apply Kd.R_drewN | apply Kd.R_drew)); exact HO385.out) hb); have n2_ := Aside0.mk (Kd.R_below (by (with_reducible repeat (first | apply Kd.R_alloc | apply Kd.R_drewN | apply Kd.R_drew)); exact HO395.out) hb); have n3_ := Aside0.mk (below_step (by repeat (first | (with_reducible first | exact HB.out | apply below_alloc | apply pw_below_drewN | apply below_drew1) | exact HB.out)) hb); clear HO372; clear HO385; clear HO395; clear HB; have HO372 := n0_; have HO385 := n1_; have HO395 := n2_; have HB := n3_; clear n0_ n1_ n2_ n3_; (try clear hb); (try clear hb2); (try clear hk); (try clear hi)))
           go_ret
           exact ⟨by first | rfl | (simp [errW_none, errW_some] <;> rfl) | (simp [*, errW_none, errW_some] <;> rfl), by repeat (first | (with_reducible first | exact HB.out | apply below_alloc | apply pw_below_drewN | apply below_drew1) | exact HB.out)⟩
          ·replace c23 := Bool.eq_false_iff.mpr c23
           subst c23
           have H1 : (some false) = some r := by rw [if_neg (show ¬ (false = true) by decide)] at H; exact H
           clear H
           have H := H1
           clear H1
           obtain rfl := Option.some.inj H
           go_wp2_with (first | ((with_reducible refine gate_callee (f := 5) rfl ?_); refine goesL_ (some 22) rfl rfl Try.func5 (by kernel_rfl) rfl #[.slice A0 l0.length c0] rfl (by (try simp only [List.map_toArray, List.map_cons, List.map_nil]); first | done | rfl | (simp only [List.length_drop, List.length_take]; rfl)) ?_; (with_reducible refine (spec_DrawRuleLets.calls kj2 _ _ l0 t369 t370 _ ?side1 ?side2 A6.out).mono ?_); (case side1 => repeat (first | exact (Kd.C_below HR0.out HB.out) | (with_reducible refine Kd.C_alloc ?_ _) | (with_reducible refine Kd.C_drewN ?_ _) | (with_reducible refine Kd.C_drew ?_))); (case side2 => exact HC0.out); rintro e w41 ⟨v371, rfl, ho0, hb⟩; refine ⟨_, rfl, ?_⟩; have n0_ := Aside0.mk (Kd.R_lower ho0 (below_size (by repeat (first | (with_reducible first | exact HB.out | apply below_alloc | apply pw_below_drewN | apply below_drew1) | exact HB.out)))); have n1_ := Aside0.mk (below_step (by repeat (first | (with_reducible first | exact HB.out | apply below_alloc | apply pw_below_drewN | apply below_drew1) | exact HB.out)) hb); clear HB; have HO372 := n0_; have HB := n1_; clear n0_ n1_; (try clear hb); (try clear hb2); (try clear hk); (try clear hi); (try clear ho0)) | ((with_reducible refine gate_callee (f := 6) rfl ?_); refine goesL_ (some 27) rfl rfl Try.func6 (by kernel_rfl) rfl #[.slice A1 l1.length c1] rfl (by (try simp only [List.map_toArray, List.map_cons, List.map_nil]); first | done | rfl | (simp only [List.length_drop, List.length_take]; rfl)) ?_; (with_reducible refine (spec_DrawRuleHas.calls kj2 _ _ l1 t373 t374 _ ?side1 ?side2 A7.out).mono ?_); (case side1 => repeat (first | exact (Kd.C_below HR1.out HB.out) | (with_reducible refine Kd.C_alloc ?_ _) | (with_reducible refine Kd.C_drewN ?_ _) | (with_reducible refine Kd.C_drew ?_))); (case side2 => exact HC1.out); rintro e w42 ⟨rfl, hb⟩; refine ⟨_, rfl, ?_⟩; have n0_ := Aside0.mk (Kd.R_below (by (with_reducible repeat (first | apply Kd.R_alloc | apply Kd.R_drewN | apply Kd.R_drew)); exact HO372.out) hb); have n1_ := Aside0.mk (below_step (by repeat (first | (with_reducible first | exact HB.out | apply below_alloc | apply pw_below_drewN | apply below_drew1) | exact HB.out)) hb); clear HO372; clear HB; have HO372 := n0_; have HB := n1_; clear n0_ n1_; (try clear hb); (try clear hb2); (try clear hk); (try clear hi); obtain ⟨Ao43, co43, eo43⟩ := Kd.R_slice HO372.out; subst eo43) | ((with_reducible refine gate_callee (f := 7) rfl ?_); refine goesL_ (some 32) rfl rfl Try.func7 (by kernel_rfl) rfl #[.slice Ao43 t369.length co43, .string t370] rfl (by (try simp only [List.map_toArray, List.map_cons, List.map_nil]); first | done | rfl | (simp only [List.length_drop, List.length_take]; rfl)) ?_; (with_reducible refine (impl_RuleLets.calls kj2 _ _ t369 t370 true _ ?side1 ?side2 A8.out).mono ?_); (case side1 => repeat (first | exact (Kd.R_reads' HO372.out).2.2 | (with_reducible refine Kd.C_alloc ?_ _) | (with_reducible refine Kd.C_drewN ?_ _) | (with_reducible refine Kd.C_drew ?_))); (case side2 => exact (Kd.R_reads' HO372.out).2.1); rintro e w44 ⟨rfl, hb⟩; refine ⟨_, rfl, ?_⟩; have n0_ := Aside0.mk (Kd.R_below (by (with_reducible repeat (first | apply Kd.R_alloc | apply Kd.R_drewN | apply Kd.R_drew)); exact HO372.out) hb); have n1_ := Aside0.mk (below_step (by repeat (first | (with_reducible first | exact HB.out | apply below_alloc | apply pw_below_drewN | apply below_drew1) | exact HB.out)) hb); clear HO372; clear HB; have HO372 := n0_; have HB := n1_; clear n0_ n1_; (try clear hb); (try clear hb2); (try clear hk); (try clear hi)) | ((with_reducible refine gate_callee (f := 8) rfl ?_); refine goesL_ (some 36) rfl rfl Try.func8 (by kernel_rfl) rfl #[.slice Ao43 t369.length co43, .string t370] rfl (by (try simp only [List.map_toArray, List.map_cons, List.map_nil]); first | done | rfl | (simp only [List.length_drop, List.length_take]; rfl)) ?_; (with_reducible refine (spec_RuleLets.calls kj2 _ _ t369 t370 t376 _ ?side1 ?side2 A9.out).mono ?_); (case side1 => repeat (first | exact (Kd.R_reads' HO372.out).2.2 | (with_reducible refine Kd.C_alloc ?_ _) | (with_reducible refine Kd.C_drewN ?_ _) | (with_reducible refine Kd.C_drew ?_))); (case side2 => exact (Kd.R_reads' HO372.out).2.1); rintro e w45 ⟨rfl, hb⟩; refine ⟨_, rfl, ?_⟩; have n0_ := Aside0.mk (Kd.R_below (by (with_reducible repeat (first | apply Kd.R_alloc | apply Kd.R_drewN | apply Kd.R_drew)); exact HO372.out) hb); have n1_ := Aside0.mk (below_step (by repeat (first | (with_reducible first | exact HB.out | apply below_alloc | apply pw_below_drewN | apply below_drew1) | exact HB.out)) hb); clear HO372; clear HB; have HO372 := n0_; have HB := n1_; clear n0_ n1_; (try clear hb); (try clear hb2); (try clear hk); (try clear hi)) | ((with_reducible refine gate_dst (N := 38) rfl ?_); (try (refine gate_guard (by rfl) ?_; dsimp only)); refine Kd.R_lit k30 _ 30 ?hg (N := 38) ?hd (xs := ([] : List (S30))) (inner := []) (ok := fun _ => True) (okp := fun _ => True) ?hr ?hp (fun _ hk => hk) trivial (Below.refl _ _) (Nat.le_refl _) (by simp) ?_; (case hd => rfl); (case hg => rfl); (case hr => first | (go_simp; done) | (go_simp; rfl)); (case hp => exact (Reps.none _ _)); intro v378 w46 ho47 hb hg_ hnew_; clear hg_ hnew_; (first | rw [← Ny377.out] at ho47 | (simp only [Int.reduceToNat] at ho47; rw [← Ny377.out] at ho47)); have n0_ := Aside0.mk (Kd.R_elder' (by (with_reducible repeat (first | apply Kd.R_alloc | apply Kd.R_drewN | apply Kd.R_drew)); exact HO372.out) (Kd.R_base ho47) hb); have n1_ := Aside0.mk (Kd.R_lower (Kd.R_new' ho47 (Kd.R_lt (by (with_reducible repeat (first | apply Kd.R_alloc | apply Kd.R_drewN | apply Kd.R_drew)); exact HO372.out))) (below_size (by repeat (first | (with_reducible first | exact HB.out | apply below_alloc | apply pw_below_drewN | apply below_drew1) | exact HB.out)))); have n2_ := Aside0.mk (below_step (by repeat (first | (with_reducible first | exact HB.out | apply below_alloc | apply pw_below_drewN | apply below_drew1) | exact HB.out)) hb); clear HO372; clear HB; have HO372 := n0_; have HO379 := n1_; have HB := n2_; clear n0_ n1_ n2_; clear hb ho47) | ((with_reducible refine gate_builtin (b := .append) (xs := #[.tmp 38, .tmp 39]) rfl ?_); (try (refine gate_guard (by rfl) ?_; dsimp only)); at_builtin; refine Kd.R_append_rows k30 (w0 := w) w.heap.size rfl (.tmp 38) (.tmp 39) 23 30 (.agg #[(.bool false), (.string ⟨#[]⟩)]) 24 rfl Try.underlying23 info30 rfl (by decide) (by omega) v378 y377 t369 _ _ _ (fun k_ => some k_ ≠ (.slice Ao43 t369.length co43 : Value).ownBlock) (fun _ => False) rfl rfl ?aO ?aR (fun _ _ h => h) (fun _ h => h.elim) ?aF ?aB ?aS ?aL ?_; (case aR => repeat (first | exact (Kd.R_reads' HO372.out).2.2 | (with_reducible refine Kd.C_alloc ?_ _) | (with_reducible refine Kd.C_drewN ?_ _) | (with_reducible refine Kd.C_drew ?_))); (case aB => exact (by repeat (first | (with_reducible first | exact HB.out | apply below_alloc | apply pw_below_drewN | apply below_drew1) | exact HB.out))); (case aF => exact (fun k_ hk => Kd.fresh' (Kd.R_lt (by (with_reducible repeat (first | apply Kd.R_alloc | apply Kd.R_drewN | apply Kd.R_drew)); exact HO372.out)) k_ hk)); (case aO => exact (by (with_reducible repeat (first | apply Kd.R_alloc | apply Kd.R_drewN | apply Kd.R_drew)); exact Kd.R_mono HO379.out (fun _ hk => hk.2))); (case aS => exact (below_size (by repeat (first | (with_reducible first | exact HB.out | apply below_alloc | apply pw_below_drewN | apply below_drew1) | exact HB.out)))); (case aL => have := LMc16.out; omega); intro v381 w48 ho hb hg hat; rw [← Ny380.out] at ho; have n0_ := Aside0.mk (Kd.R_after (ok := (fun _ => True)) (by (with_reducible repeat (first | apply Kd.R_alloc | apply Kd.R_drewN | apply Kd.R_drew)); exact HO372.out) hg hat); have n1_ := Aside0.mk (hb); have n2_ := Aside0.mk (ho); clear HO372; clear HB; clear HO379; have HO372 := n0_; have HB := n1_; have HO382 := n2_; clear n0_ n1_ n2_; clear ho hb hg hat) | ((with_reducible refine gate_builtin (b := .append) (xs := #[.tmp 40, .tmp 43]) rfl ?_); (try (refine gate_guard (by rfl) ?_; dsimp only)); at_builtin; refine Kd.R_append k30 (w0 := w) w.heap.size rfl (.tmp 40) (.tmp 43) 23 30 (.agg #[(.bool false), (.string ⟨#[]⟩)]) 24 rfl Try.underlying23 info30 rfl (by decide) (by omega) v381 y380 (⟨true, t373⟩ : S30) [.bool true, .string t373] (fun k_ => some k_ ≠ (.slice Ao43 t369.length co43 : Value).ownBlock) (fun _ => False) rfl rfl ?aP (fun _ hk => hk.elim) ?aF ?aO ?aB ?aS ?aL ?_; (case aP => exact k30_mkM _ _ _ (⟨true, t373⟩ : S30)); (case aB => exact (by repeat (first | (with_reducible first | exact HB.out | apply below_alloc | apply pw_below_drewN | apply below_drew1) | exact HB.out))); (case aF => exact (fun k_ hk => Kd.fresh' (Kd.R_lt (by (with_reducible repeat (first | apply Kd.R_alloc | apply Kd.R_drewN | apply Kd.R_drew)); exact HO372.out)) k_ hk)); (case aO => exact (by (with_reducible repeat (first | apply Kd.R_alloc | apply Kd.R_drewN | apply Kd.R_drew)); exact HO382.out)); (case aS => exact (below_size (by repeat (first | (with_reducible first | exact HB.out | apply below_alloc | apply pw_below_drewN | apply below_drew1) | exact HB.out)))); (case aL => have := LMc17.out; omega); intro v384 w49 ho hb hg hat; rw [← Ny383.out] at ho; have n0_ := Aside0.mk (Kd.R_after (ok := (fun _ => True)) (by (with_reducible repeat (first | apply Kd.R_alloc | apply Kd.R_drewN | apply Kd.R_drew)); exact HO372.out) hg hat); have n1_ := Aside0.mk (hb); have n2_ := Aside0.mk (ho); clear HO372; clear HB; clear HO382; have HO372 := n0_; have HB := n1_; have HO385 := n2_; clear n0_ n1_ n2_; clear ho hb hg hat; obtain ⟨Ao50, co50, eo50⟩ := Kd.R_slice HO385.out; subst eo50) | ((with_reducible refine gate_callee (f := 7) rfl ?_); refine goesL_ (some 46) rfl rfl Try.func7 (by kernel_rfl) rfl #[.slice Ao50 y383.length co50, .string t370] rfl (by (try simp only [List.map_toArray, List.map_cons, List.map_nil]); first | done | rfl | (simp only [List.length_drop, List.length_take]; rfl)) ?_; (with_reducible refine (impl_RuleLets.calls kj2 _ _ y383 t370 false _ ?side1 ?side2 A18.out).mono ?_); (case side1 => repeat (first | exact (Kd.R_reads' HO385.out).2.2 | (with_reducible refine Kd.C_alloc ?_ _) | (with_reducible refine Kd.C_drewN ?_ _) | (with_reducible refine Kd.C_drew ?_))); (case side2 => exact (Kd.R_reads' HO385.out).2.1); rintro e w51 ⟨rfl, hb⟩; refine ⟨_, rfl, ?_⟩; have n0_ := Aside0.mk (Kd.R_below (by (with_reducible repeat (first | apply Kd.R_alloc | apply Kd.R_drewN | apply Kd.R_drew)); exact HO372.out) hb); have n1_ := Aside0.mk (Kd.R_below (by (with_reducible repeat (first | apply Kd.R_alloc | apply Kd.R_drewN | apply Kd.R_drew)); exact HO385.out) hb); have n2_ := Aside0.mk (below_step (by repeat (first | (with_reducible first | exact HB.out | apply below_alloc | apply pw_below_drewN | apply below_drew1) | exact HB.out)) hb); clear HO372; clear HO385; clear HB; have HO372 := n0_; have HO385 := n1_; have HB := n2_; clear n0_ n1_ n2_; (try clear hb); (try clear hb2); (try clear hk); (try clear hi)) | ((with_reducible refine gate_dst (N := 47) rfl ?_); (try (refine gate_guard (by rfl) ?_; dsimp only)); refine Kd.R_lit k30 _ 30 ?hg (N := 47) ?hd (xs := ([] : List (S30))) (inner := []) (ok := fun _ => True) (okp := fun _ => True) ?hr ?hp (fun _ hk => hk) trivial (Below.refl _ _) (Nat.le_refl _) (by simp) ?_; (case hd => rfl); (case hg => rfl); (case hr => first | (go_simp; done) | (go_simp; rfl)); (case hp => exact (Reps.none _ _)); intro v388 w52 ho53 hb hg_ hnew_; clear hg_ hnew_; (first | rw [← Ny387.out] at ho53 | (simp only [Int.reduceToNat] at ho53; rw [← Ny387.out] at ho53)); have n0_ := Aside0.mk (Kd.R_elder' (by (with_reducible repeat (first | apply Kd.R_alloc | apply Kd.R_drewN | apply Kd.R_drew)); exact HO372.out) (Kd.R_base ho53) hb); have n1_ := Aside0.mk (Kd.R_elder' (by (with_reducible repeat (first | apply Kd.R_alloc | apply Kd.R_drewN | apply Kd.R_drew)); exact HO385.out) (Kd.R_base ho53) hb); have n2_ := Aside0.mk (Kd.R_lower (Kd.R_new' (Kd.R_new' ho53 (Kd.R_lt (by (with_reducible repeat (first | apply Kd.R_alloc | apply Kd.R_drewN | apply Kd.R_drew)); exact HO372.out))) (Kd.R_lt (by (with_reducible repeat (first | apply Kd.R_alloc | apply Kd.R_drewN | apply Kd.R_drew)); exact HO385.out))) (below_size (by repeat (first | (with_reducible first | exact HB.out | apply below_alloc | apply pw_below_drewN | apply below_drew1) | exact HB.out)))); have n3_ := Aside0.mk (below_step (by repeat (first | (with_reducible first | exact HB.out | apply below_alloc | apply pw_below_drewN | apply below_drew1) | exact HB.out)) hb); clear HO372; clear HO385; clear HB; have HO372 := n0_; have HO385 := n1_; have HO389 := n2_; have HB := n3_; clear n0_ n1_ n2_ n3_; clear hb ho53) | ((with_reducible refine gate_builtin (b := .append) (xs := #[.tmp 47, .tmp 48]) rfl ?_); (try (refine gate_guard (by rfl) ?_; dsimp only)); at_builtin; refine Kd.R_append_rows k30 (w0 := w) w.heap.size rfl (.tmp 47) (.tmp 48) 23 30 (.agg #[(.bool false), (.string ⟨#[]⟩)]) 24 rfl Try.underlying23 info30 rfl (by decide) (by omega) v388 y387 t369 _ _ _ (fun k_ => some k_ ≠ (.slice Ao43 t369.length co43 : Value).ownBlock ∧ some k_ ≠ (.slice Ao50 y383.length co50 : Value).ownBlock) (fun _ => False) rfl rfl ?aO ?aR (fun _ _ h => h) (fun _ h => h.elim) ?aF ?aB ?aS ?aL ?_; (case aR => repeat (first | exact (Kd.R_reads' HO372.out).2.2 | (with_reducible refine Kd.C_alloc ?_ _) | (with_reducible refine Kd.C_drewN ?_ _) | (with_reducible refine Kd.C_drew ?_))); (case aB => exact (by repeat (first | (with_reducible first | exact HB.out | apply below_alloc | apply pw_below_drewN | apply below_drew1) | exact HB.out))); (case aF => exact (fun k_ hk => ⟨Kd.fresh' (Kd.R_lt (by (with_reducible repeat (first | apply Kd.R_alloc | apply Kd.R_drewN | apply Kd.R_drew)); exact HO372.out)) k_ hk, Kd.fresh' (Kd.R_lt (by (with_reducible repeat (first | apply Kd.R_alloc | apply Kd.R_drewN | apply Kd.R_drew)); exact HO385.out)) k_ hk⟩)); (case aO => exact (by (with_reducible repeat (first | apply Kd.R_alloc | apply Kd.R_drewN | apply Kd.R_drew)); exact Kd.R_mono HO389.out (fun _ hk => ⟨hk.1.2, hk.2⟩))); (case aS => exact (below_size (by repeat (first | (with_reducible first | exact HB.out | apply below_alloc | apply pw_below_drewN | apply below_drew1) | exact HB.out)))); (case aL => have := LMc19.out; omega); intro v391 w54 ho hb hg hat; rw [← Ny390.out] at ho; have n0_ := Aside0.mk (Kd.R_after (ok := (fun k_ => some k_ ≠ (.slice Ao50 y383.length co50 : Value).ownBlock)) (by (with_reducible repeat (first | apply Kd.R_alloc | apply Kd.R_drewN | apply Kd.R_drew)); exact Kd.R_mono HO372.out (fun _ hk => ⟨hk.1.2, hk.2⟩)) hg hat); have n1_ := Aside0.mk (Kd.R_after (ok := (fun k_ => some k_ ≠ (.slice Ao43 t369.length co43 : Value).ownBlock)) (by (with_reducible repeat (first | apply Kd.R_alloc | apply Kd.R_drewN | apply Kd.R_drew)); exact HO385.out) hg hat); have n2_ := Aside0.mk (hb); have n3_ := Aside0.mk (ho); clear HO372; clear HO385; clear HB; clear HO389; have HO372 := n0_; have HO385 := n1_; have HB := n2_; have HO392 := n3_; clear n0_ n1_ n2_ n3_; clear ho hb hg hat) | ((with_reducible refine gate_builtin (b := .append) (xs := #[.tmp 49, .tmp 52]) rfl ?_); (try (refine gate_guard (by rfl) ?_; dsimp only)); at_builtin; refine Kd.R_append k30 (w0 := w) w.heap.size rfl (.tmp 49) (.tmp 52) 23 30 (.agg #[(.bool false), (.string ⟨#[]⟩)]) 24 rfl Try.underlying23 info30 rfl (by decide) (by omega) v391 y390 (⟨false, t373⟩ : S30) [.bool false, .string t373] (fun k_ => some k_ ≠ (.slice Ao43 t369.length co43 : Value).ownBlock ∧ some k_ ≠ (.slice Ao50 y383.length co50 : Value).ownBlock) (fun _ => False) rfl rfl ?aP (fun _ hk => hk.elim) ?aF ?aO ?aB ?aS ?aL ?_; (case aP => exact k30_mkM _ _ _ (⟨false, t373⟩ : S30)); (case aB => exact (by repeat (first | (with_reducible first | exact HB.out | apply below_alloc | apply pw_below_drewN | apply below_drew1) | exact HB.out))); (case aF => exact (fun k_ hk => ⟨Kd.fresh' (Kd.R_lt (by (with_reducible repeat (first | apply Kd.R_alloc | apply Kd.R_drewN | apply Kd.R_drew)); exact HO372.out)) k_ hk, Kd.fresh' (Kd.R_lt (by (with_reducible repeat (first | apply Kd.R_alloc | apply Kd.R_drewN | apply Kd.R_drew)); exact HO385.out)) k_ hk⟩)); (case aO => exact (by (with_reducible repeat (first | apply Kd.R_alloc | apply Kd.R_drewN | apply Kd.R_drew)); exact HO392.out)); (case aS => exact (below_size (by repeat (first | (with_reducible first | exact HB.out | apply below_alloc | apply pw_below_drewN | apply below_drew1) | exact HB.out)))); (case aL => have := LMc20.out; omega); intro v394 w55 ho hb hg hat; rw [← Ny393.out] at ho; have n0_ := Aside0.mk (Kd.R_after (ok := (fun k_ => some k_ ≠ (.slice Ao50 y383.length co50 : Value).ownBlock)) (by (with_reducible repeat (first | apply Kd.R_alloc | apply Kd.R_drewN | apply Kd.R_drew)); exact HO372.out) hg hat); have n1_ := Aside0.mk (Kd.R_after (ok := (fun k_ => some k_ ≠ (.slice Ao43 t369.length co43 : Value).ownBlock)) (by (with_reducible repeat (first | apply Kd.R_alloc | apply Kd.R_drewN | apply Kd.R_drew)); exact HO385.out) hg hat); have n2_ := Aside0.mk (hb); have n3_ := Aside0.mk (ho); clear HO372; clear HO385; clear HB; clear HO392; have HO372 := n0_; have HO385 := n1_; have HB := n2_; have HO395 := n3_; clear n0_ n1_ n2_ n3_; clear ho hb hg hat; obtain ⟨Ao56, co56, eo56⟩ := Kd.R_slice HO395.out; subst eo56) | ((with_reducible refine gate_callee (f := 7) rfl ?_); refine goesL_ (some 55) rfl rfl Try.func7 (by kernel_rfl) rfl #[.slice Ao56 y393.length co56, .string t370] rfl (by (try simp only [List.map_toArray, List.map_cons, List.map_nil]); first | done | rfl | (simp only [List.length_drop, List.length_take]; rfl)) ?_; (with_reducible refine (impl_RuleLets.calls kj2 _ _ y393 t370 t396 _ ?side1 ?side2 A21.out).mono ?_); (case side1 => repeat (first | exact (Kd.R_reads' HO395.out).2.2 | (with_reducible refine Kd.C_alloc ?_ _) | (with_reducible refine Kd.C_drewN ?_ _) | (with_reducible refine Kd.C_drew ?_))); (case side2 => exact (Kd.R_reads' HO395.out).2.1); rintro e w57 ⟨rfl, hb⟩; refine ⟨_, rfl, ?_⟩; have n0_ := Aside0.mk (Kd.R_below (by (with_reducible repeat (first | apply Kd.R_alloc | apply Kd.R_drewN | apply Kd.R_drew)); exact HO372.out) hb); have n1_ := Aside0.mk (Kd.R_below (by (with_reducible repeat (first | apply Kd.R_alloc | apply Kd.R_drewN | apply Kd.R_drew)); exact HO385.out) hb); have n2_ := Aside0.mk (Kd.R_below (by (with_reducible repeat (first | apply Kd.R_alloc | apply Kd.R_drewN | apply Kd.R_drew)); exact HO395.out) hb); have n3_ := Aside0.mk (below_step (by repeat (first | (with_reducible first | exact HB.out | apply below_alloc | apply pw_below_drewN | apply below_drew1) | exact HB.out)) hb); clear HO372; clear HO385; clear HO395; clear HB; have HO372 := n0_; have HO385 := n1_; have HO395 := n2_; have HB := n3_; clear n0_ n1_ n2_ n3_; (try clear hb); (try clear hb2); (try clear hk); (try clear hi)))
           go_ret
           exact ⟨by first | rfl | (simp [errW_none, errW_some] <;> rfl) | (simp [*, errW_none, errW_some] <;> rfl), by repeat (first | (with_reducible first | exact HB.out | apply below_alloc | apply pw_below_drewN | apply below_drew1) | exact HB.out)⟩
         ·replace c22 := Bool.eq_false_iff.mpr c22
          subst c22
          have H1 : (some (!t396)) = some r := by rw [if_neg (show ¬ (false = true) by decide)] at H; exact H
          clear H
          have H := H1
          clear H1
          obtain rfl := Option.some.inj H
          go_wp2_with (first | ((with_reducible refine gate_callee (f := 5) rfl ?_); refine goesL_ (some 22) rfl rfl Try.func5 (by kernel_rfl) rfl #[.slice A0 l0.length c0] rfl (by (try simp only [List.map_toArray, List.map_cons, List.map_nil]); first | done | rfl | (simp only [List.length_drop, List.length_take]; rfl)) ?_; (with_reducible refine (spec_DrawRuleLets.calls kj2 _ _ l0 t369 t370 _ ?side1 ?side2 A6.out).mono ?_); (case side1 => repeat (first | exact (Kd.C_below HR0.out HB.out) | (with_reducible refine Kd.C_alloc ?_ _) | (with_reducible refine Kd.C_drewN ?_ _) | (with_reducible refine Kd.C_drew ?_))); (case side2 => exact HC0.out); rintro e w58 ⟨v371, rfl, ho0, hb⟩; refine ⟨_, rfl, ?_⟩; have n0_ := Aside0.mk (Kd.R_lower ho0 (below_size (by repeat (first | (with_reducible first | exact HB.out | apply below_alloc | apply pw_below_drewN | apply below_drew1) | exact HB.out)))); have n1_ := Aside0.mk (below_step (by repeat (first | (with_reducible first | exact HB.out | apply below_alloc | apply pw_below_drewN | apply below_drew1) | exact HB.out)) hb); clear HB; have HO372 := n0_; have HB := n1_; clear n0_ n1_; (try clear hb); (try clear hb2); (try clear hk); (try clear hi); (try clear ho0)) | ((with_reducible refine gate_callee (f := 6) rfl ?_); refine goesL_ (some 27) rfl rfl Try.func6 (by kernel_rfl) rfl #[.slice A1 l1.length c1] rfl (by (try simp only [List.map_toArray, List.map_cons, List.map_nil]); first | done | rfl | (simp only [List.length_drop, List.length_take]; rfl)) ?_; (with_reducible refine (spec_DrawRuleHas.calls kj2 _ _ l1 t373 t374 _ ?side1 ?side2 A7.out).mono ?_); (case side1 => repeat (first | exact (Kd.C_below HR1.out HB.out) | (with_reducible refine Kd.C_alloc ?_ _) | (with_reducible refine Kd.C_drewN ?_ _) | (with_reducible refine Kd.C_drew ?_))); (case side2 => exact HC1.out); rintro e w59 ⟨rfl, hb⟩; refine ⟨_, rfl, ?_⟩; have n0_ := Aside0.mk (Kd.R_below (by (with_reducible repeat (first | apply Kd.R_alloc | apply Kd.R_drewN | apply Kd.R_drew)); exact HO372.out) hb); have n1_ := Aside0.mk (below_step (by repeat (first | (with_reducible first | exact HB.out | apply below_alloc | apply pw_below_drewN | apply below_drew1) | exact HB.out)) hb); clear HO372; clear HB; have HO372 := n0_; have HB := n1_; clear n0_ n1_; (try clear hb); (try clear hb2); (try clear hk); (try clear hi); obtain ⟨Ao60, co60, eo60⟩ := Kd.R_slice HO372.out; subst eo60) | ((with_reducible refine gate_callee (f := 7) rfl ?_); refine goesL_ (some 32) rfl rfl Try.func7 (by kernel_rfl) rfl #[.slice Ao60 t369.length co60, .string t370] rfl (by (try simp only [List.map_toArray, List.map_cons, List.map_nil]); first | done | rfl | (simp only [List.length_drop, List.length_take]; rfl)) ?_; (with_reducible refine (impl_RuleLets.calls kj2 _ _ t369 t370 false _ ?side1 ?side2 A8.out).mono ?_); (case side1 => repeat (first | exact (Kd.R_reads' HO372.out).2.2 | (with_reducible refine Kd.C_alloc ?_ _) | (with_reducible refine Kd.C_drewN ?_ _) | (with_reducible refine Kd.C_drew ?_))); (case side2 => exact (Kd.R_reads' HO372.out).2.1); rintro e w61 ⟨rfl, hb⟩; refine ⟨_, rfl, ?_⟩; have n0_ := Aside0.mk (Kd.R_below (by (with_reducible repeat (first | apply Kd.R_alloc | apply Kd.R_drewN | apply Kd.R_drew)); exact HO372.out) hb); have n1_ := Aside0.mk (below_step (by repeat (first | (with_reducible first | exact HB.out | apply below_alloc | apply pw_below_drewN | apply below_drew1) | exact HB.out)) hb); clear HO372; clear HB; have HO372 := n0_; have HB := n1_; clear n0_ n1_; (try clear hb); (try clear hb2); (try clear hk); (try clear hi)) | ((with_reducible refine gate_callee (f := 8) rfl ?_); refine goesL_ (some 36) rfl rfl Try.func8 (by kernel_rfl) rfl #[.slice Ao60 t369.length co60, .string t370] rfl (by (try simp only [List.map_toArray, List.map_cons, List.map_nil]); first | done | rfl | (simp only [List.length_drop, List.length_take]; rfl)) ?_; (with_reducible refine (spec_RuleLets.calls kj2 _ _ t369 t370 t376 _ ?side1 ?side2 A9.out).mono ?_); (case side1 => repeat (first | exact (Kd.R_reads' HO372.out).2.2 | (with_reducible refine Kd.C_alloc ?_ _) | (with_reducible refine Kd.C_drewN ?_ _) | (with_reducible refine Kd.C_drew ?_))); (case side2 => exact (Kd.R_reads' HO372.out).2.1); rintro e w62 ⟨rfl, hb⟩; refine ⟨_, rfl, ?_⟩; have n0_ := Aside0.mk (Kd.R_below (by (with_reducible repeat (first | apply Kd.R_alloc | apply Kd.R_drewN | apply Kd.R_drew)); exact HO372.out) hb); have n1_ := Aside0.mk (below_step (by repeat (first | (with_reducible first | exact HB.out | apply below_alloc | apply pw_below_drewN | apply below_drew1) | exact HB.out)) hb); clear HO372; clear HB; have HO372 := n0_; have HB := n1_; clear n0_ n1_; (try clear hb); (try clear hb2); (try clear hk); (try clear hi)) | ((with_reducible refine gate_dst (N := 38) rfl ?_); (try (refine gate_guard (by rfl) ?_; dsimp only)); refine Kd.R_lit k30 _ 30 ?hg (N := 38) ?hd (xs := ([] : List (S30))) (inner := []) (ok := fun _ => True) (okp := fun _ => True) ?hr ?hp (fun _ hk => hk) trivial (Below.refl _ _) (Nat.le_refl _) (by simp) ?_; (case hd => rfl); (case hg => rfl); (case hr => first | (go_simp; done) | (go_simp; rfl)); (case hp => exact (Reps.none _ _)); intro v378 w63 ho64 hb hg_ hnew_; clear hg_ hnew_; (first | rw [← Ny377.out] at ho64 | (simp only [Int.reduceToNat] at ho64; rw [← Ny377.out] at ho64)); have n0_ := Aside0.mk (Kd.R_elder' (by (with_reducible repeat (first | apply Kd.R_alloc | apply Kd.R_drewN | apply Kd.R_drew)); exact HO372.out) (Kd.R_base ho64) hb); have n1_ := Aside0.mk (Kd.R_lower (Kd.R_new' ho64 (Kd.R_lt (by (with_reducible repeat (first | apply Kd.R_alloc | apply Kd.R_drewN | apply Kd.R_drew)); exact HO372.out))) (below_size (by repeat (first | (with_reducible first | exact HB.out | apply below_alloc | apply pw_below_drewN | apply below_drew1) | exact HB.out)))); have n2_ := Aside0.mk (below_step (by repeat (first | (with_reducible first | exact HB.out | apply below_alloc | apply pw_below_drewN | apply below_drew1) | exact HB.out)) hb); clear HO372; clear HB; have HO372 := n0_; have HO379 := n1_; have HB := n2_; clear n0_ n1_ n2_; clear hb ho64) | ((with_reducible refine gate_builtin (b := .append) (xs := #[.tmp 38, .tmp 39]) rfl ?_); (try (refine gate_guard (by rfl) ?_; dsimp only)); at_builtin; refine Kd.R_append_rows k30 (w0 := w) w.heap.size rfl (.tmp 38) (.tmp 39) 23 30 (.agg #[(.bool false), (.string ⟨#[]⟩)]) 24 rfl Try.underlying23 info30 rfl (by decide) (by omega) v378 y377 t369 _ _ _ (fun k_ => some k_ ≠ (.slice Ao60 t369.length co60 : Value).ownBlock) (fun _ => False) rfl rfl ?aO ?aR (fun _ _ h => h) (fun _ h => h.elim) ?aF ?aB ?aS ?aL ?_; (case aR => repeat (first | exact (Kd.R_reads' HO372.out).2.2 | (with_reducible refine Kd.C_alloc ?_ _) | (with_reducible refine Kd.C_drewN ?_ _) | (with_reducible refine Kd.C_drew ?_))); (case aB => exact (by repeat (first | (with_reducible first | exact HB.out | apply below_alloc | apply pw_below_drewN | apply below_drew1) | exact HB.out))); (case aF => exact (fun k_ hk => Kd.fresh' (Kd.R_lt (by (with_reducible repeat (first | apply Kd.R_alloc | apply Kd.R_drewN | apply Kd.R_drew)); exact HO372.out)) k_ hk)); (case aO => exact (by (with_reducible repeat (first | apply Kd.R_alloc | apply Kd.R_drewN | apply Kd.R_drew)); exact Kd.R_mono HO379.out (fun _ hk => hk.2))); (case aS => exact (below_size (by repeat (first | (with_reducible first | exact HB.out | apply below_alloc | apply pw_below_drewN | apply below_drew1) | exact HB.out)))); (case aL => have := LMc16.out; omega); intro v381 w65 ho hb hg hat; rw [← Ny380.out] at ho; have n0_ := Aside0.mk (Kd.R_after (ok := (fun _ => True)) (by (with_reducible repeat (first | apply Kd.R_alloc | apply Kd.R_drewN | apply Kd.R_drew)); exact HO372.out) hg hat); have n1_ := Aside0.mk (hb); have n2_ := Aside0.mk (ho); clear HO372; clear HB; clear HO379; have HO372 := n0_; have HB := n1_; have HO382 := n2_; clear n0_ n1_ n2_; clear ho hb hg hat) | ((with_reducible refine gate_builtin (b := .append) (xs := #[.tmp 40, .tmp 43]) rfl ?_); (try (refine gate_guard (by rfl) ?_; dsimp only)); at_builtin; refine Kd.R_append k30 (w0 := w) w.heap.size rfl (.tmp 40) (.tmp 43) 23 30 (.agg #[(.bool false), (.string ⟨#[]⟩)]) 24 rfl Try.underlying23 info30 rfl (by decide) (by omega) v381 y380 (⟨true, t373⟩ : S30) [.bool true, .string t373] (fun k_ => some k_ ≠ (.slice Ao60 t369.length co60 : Value).ownBlock) (fun _ => False) rfl rfl ?aP (fun _ hk => hk.elim) ?aF ?aO ?aB ?aS ?aL ?_; (case aP => exact k30_mkM _ _ _ (⟨true, t373⟩ : S30)); (case aB => exact (by repeat (first | (with_reducible first | exact HB.out | apply below_alloc | apply pw_below_drewN | apply below_drew1) | exact HB.out))); (case aF => exact (fun k_ hk => Kd.fresh' (Kd.R_lt (by (with_reducible repeat (first | apply Kd.R_alloc | apply Kd.R_drewN | apply Kd.R_drew)); exact HO372.out)) k_ hk)); (case aO => exact (by (with_reducible repeat (first | apply Kd.R_alloc | apply Kd.R_drewN | apply Kd.R_drew)); exact HO382.out)); (case aS => exact (below_size (by repeat (first | (with_reducible first | exact HB.out | apply below_alloc | apply pw_below_drewN | apply below_drew1) | exact HB.out)))); (case aL => have := LMc17.out; omega); intro v384 w66 ho hb hg hat; rw [← Ny383.out] at ho; have n0_ := Aside0.mk (Kd.R_after (ok := (fun _ => True)) (by (with_reducible repeat (first | apply Kd.R_alloc | apply Kd.R_drewN | apply Kd.R_drew)); exact HO372.out) hg hat); have n1_ := Aside0.mk (hb); have n2_ := Aside0.mk (ho); clear HO372; clear HB; clear HO382; have HO372 := n0_; have HB := n1_; have HO385 := n2_; clear n0_ n1_ n2_; clear ho hb hg hat; obtain ⟨Ao67, co67, eo67⟩ := Kd.R_slice HO385.out; subst eo67) | ((with_reducible refine gate_callee (f := 7) rfl ?_); refine goesL_ (some 46) rfl rfl Try.func7 (by kernel_rfl) rfl #[.slice Ao67 y383.length co67, .string t370] rfl (by (try simp only [List.map_toArray, List.map_cons, List.map_nil]); first | done | rfl | (simp only [List.length_drop, List.length_take]; rfl)) ?_; (with_reducible refine (impl_RuleLets.calls kj2 _ _ y383 t370 t386 _ ?side1 ?side2 A18.out).mono ?_); (case side1 => repeat (first | exact (Kd.R_reads' HO385.out).2.2 | (with_reducible refine Kd.C_alloc ?_ _) | (with_reducible refine Kd.C_drewN ?_ _) | (with_reducible refine Kd.C_drew ?_))); (case side2 => exact (Kd.R_reads' HO385.out).2.1); rintro e w68 ⟨rfl, hb⟩; refine ⟨_, rfl, ?_⟩; have n0_ := Aside0.mk (Kd.R_below (by (with_reducible repeat (first | apply Kd.R_alloc | apply Kd.R_drewN | apply Kd.R_drew)); exact HO372.out) hb); have n1_ := Aside0.mk (Kd.R_below (by (with_reducible repeat (first | apply Kd.R_alloc | apply Kd.R_drewN | apply Kd.R_drew)); exact HO385.out) hb); have n2_ := Aside0.mk (below_step (by repeat (first | (with_reducible first | exact HB.out | apply below_alloc | apply pw_below_drewN | apply below_drew1) | exact HB.out)) hb); clear HO372; clear HO385; clear HB; have HO372 := n0_; have HO385 := n1_; have HB := n2_; clear n0_ n1_ n2_; (try clear hb); (try clear hb2); (try clear hk); (try clear hi)) | ((with_reducible refine gate_dst (N := 47) rfl ?_); (try (refine gate_guard (by rfl) ?_; dsimp only)); refine Kd.R_lit k30 _ 30 ?hg (N := 47) ?hd (xs := ([] : List (S30))) (inner := []) (ok := fun _ => True) (okp := fun _ => True) ?hr ?hp (fun _ hk => hk) trivial (Below.refl _ _) (Nat.le_refl _) (by simp) ?_; (case hd => rfl); (case hg => rfl); (case hr => first | (go_simp; done) | (go_simp; rfl)); (case hp => exact (Reps.none _ _)); intro v388 w69 ho70 hb hg_ hnew_; clear hg_ hnew_; (first | rw [← Ny387.out] at ho70 | (simp only [Int.reduceToNat] at ho70; rw [← Ny387.out] at ho70)); have n0_ := Aside0.mk (Kd.R_elder' (by (with_reducible repeat (first | apply Kd.R_alloc | apply Kd.R_drewN | apply Kd.R_drew)); exact HO372.out) (Kd.R_base ho70) hb); have n1_ := Aside0.mk (Kd.R_elder' (by (with_reducible repeat (first | apply Kd.R_alloc | apply Kd.R_drewN | apply Kd.R_drew)); exact HO385.out) (Kd.R_base ho70) hb); have n2_ := Aside0.mk (Kd.R_lower (Kd.R_new' (Kd.R_new' ho70 (Kd.R_lt (by (with_reducible repeat (first | apply Kd.R_alloc | apply Kd.R_drewN | apply Kd.R_drew)); exact HO372.out))) (Kd.R_lt (by (with_reducible repeat (first | apply Kd.R_alloc | apply Kd.R_drewN | apply Kd.R_drew)); exact HO385.out))) (below_size (by repeat (first | (with_reducible first | exact HB.out | apply below_alloc | apply pw_below_drewN | apply below_drew1) | exact HB.out)))); have n3_ := Aside0.mk (below_step (by repeat (first | (with_reducible first | exact HB.out | apply below_alloc | apply pw_below_drewN | apply below_drew1) | exact HB.out)) hb); clear HO372; clear HO385; clear HB; have HO372 := n0_; have HO385 := n1_; have HO389 := n2_; have HB := n3_; clear n0_ n1_ n2_ n3_; clear hb ho70) | ((with_reducible refine gate_builtin (b := .append) (xs := #[.tmp 47, .tmp 48]) rfl ?_); (try (refine gate_guard (by rfl) ?_; dsimp only)); at_builtin; refine Kd.R_append_rows k30 (w0 := w) w.heap.size rfl (.tmp 47) (.tmp 48) 23 30 (.agg #[(.bool false), (.string ⟨#[]⟩)]) 24 rfl Try.underlying23 info30 rfl (by decide) (by omega) v388 y387 t369 _ _ _ (fun k_ => some k_ ≠ (.slice Ao60 t369.length co60 : Value).ownBlock ∧ some k_ ≠ (.slice Ao67 y383.length co67 : Value).ownBlock) (fun _ => False) rfl rfl ?aO ?aR (fun _ _ h => h) (fun _ h => h.elim) ?aF ?aB ?aS ?aL ?_; (case aR => repeat (first | exact (Kd.R_reads' HO372.out).2.2 | (with_reducible refine Kd.C_alloc ?_ _) | (with_reducible refine Kd.C_drewN ?_ _) | (with_reducible refine Kd.C_drew ?_))); (case aB => exact (by repeat (first | (with_reducible first | exact HB.out | apply below_alloc | apply pw_below_drewN | apply below_drew1) | exact HB.out))); (case aF => exact (fun k_ hk => ⟨Kd.fresh' (Kd.R_lt (by (with_reducible repeat (first | apply Kd.R_alloc | apply Kd.R_drewN | apply Kd.R_drew)); exact HO372.out)) k_ hk, Kd.fresh' (Kd.R_lt (by (with_reducible repeat (first | apply Kd.R_alloc | apply Kd.R_drewN | apply Kd.R_drew)); exact HO385.out)) k_ hk⟩)); (case aO => exact (by (with_reducible repeat (first | apply Kd.R_alloc | apply Kd.R_drewN | apply Kd.R_drew)); exact Kd.R_mono HO389.out (fun _ hk => ⟨hk.1.2, hk.2⟩))); (case aS => exact (below_size (by repeat (first | (with_reducible first | exact HB.out | apply below_alloc | apply pw_below_drewN | apply below_drew1) | exact HB.out)))); (case aL => have := LMc19.out; omega); intro v391 w71 ho hb hg hat; rw [← Ny390.out] at ho; have n0_ := Aside0.mk (Kd.R_after (ok := (fun k_ => some k_ ≠ (.slice Ao67 y383.length co67 : Value).ownBlock)) (by (with_reducible repeat (first | apply Kd.R_alloc | apply Kd.R_drewN | apply Kd.R_drew)); exact Kd.R_mono HO372.out (fun _ hk => ⟨hk.1.2, hk.2⟩)) hg hat); have n1_ := Aside0.mk (Kd.R_after (ok := (fun k_ => some k_ ≠ (.slice Ao60 t369.length co60 : Value).ownBlock)) (by (with_reducible repeat (first | apply Kd.R_alloc | apply Kd.R_drewN | apply Kd.R_drew)); exact HO385.out) hg hat); have n2_ := Aside0.mk (hb); have n3_ := Aside0.mk (ho); clear HO372; clear HO385; clear HB; clear HO389; have HO372 := n0_; have HO385 := n1_; have HB := n2_; have HO392 := n3_; clear n0_ n1_ n2_ n3_; clear ho hb hg hat) | ((with_reducible refine gate_builtin (b := .append) (xs := #[.tmp 49, .tmp 52]) rfl ?_); (try (refine gate_guard (by rfl) ?_; dsimp only)); at_builtin; refine Kd.R_append k30 (w0 := w) w.heap.size rfl (.tmp 49) (.tmp 52) 23 30 (.agg #[(.bool false), (.string ⟨#[]⟩)]) 24 rfl Try.underlying23 info30 rfl (by decide) (by omega) v391 y390 (⟨false, t373⟩ : S30) [.bool false, .string t373] (fun k_ => some k_ ≠ (.slice Ao60 t369.length co60 : Value).ownBlock ∧ some k_ ≠ (.slice Ao67 y383.length co67 : Value).ownBlock) (fun _ => False) rfl rfl ?aP (fun _ hk => hk.elim) ?aF ?aO ?aB ?aS ?aL ?_; (case aP => exact k30_mkM _ _ _ (⟨false, t373⟩ : S30)); (case aB => exact (by repeat (first | (with_reducible first | exact HB.out | apply below_alloc | apply pw_below_drewN | apply below_drew1) | exact HB.out))); (case aF => exact (fun k_ hk => ⟨Kd.fresh' (Kd.R_lt (by (with_reducible repeat (first | apply Kd.R_alloc | apply Kd.R_drewN | apply Kd.R_drew)); exact HO372.out)) k_ hk, Kd.fresh' (Kd.R_lt (by (with_reducible repeat (first | apply Kd.R_alloc | apply Kd.R_drewN | apply Kd.R_drew)); exact HO385.out)) k_ hk⟩)); (case aO => exact (by (with_reducible repeat (first | apply Kd.R_alloc | apply Kd.R_drewN | apply Kd.R_drew)); exact HO392.out)); (case aS => exact (below_size (by repeat (first | (with_reducible first | exact HB.out | apply below_alloc | apply pw_below_drewN | apply below_drew1) | exact HB.out)))); (case aL => have := LMc20.out; omega); intro v394 w72 ho hb hg hat; rw [← Ny393.out] at ho; have n0_ := Aside0.mk (Kd.R_after (ok := (fun k_ => some k_ ≠ (.slice Ao67 y383.length co67 : Value).ownBlock)) (by (with_reducible repeat (first | apply Kd.R_alloc | apply Kd.R_drewN | apply Kd.R_drew)); exact HO372.out) hg hat); have n1_ := Aside0.mk (Kd.R_after (ok := (fun k_ => some k_ ≠ (.slice Ao60 t369.length co60 : Value).ownBlock)) (by (with_reducible repeat (first | apply Kd.R_alloc | apply Kd.R_drewN | apply Kd.R_drew)); exact HO385.out) hg hat); have n2_ := Aside0.mk (hb); have n3_ := Aside0.mk (ho); clear HO372; clear HO385; clear HB; clear HO392; have HO372 := n0_; have HO385 := n1_; have HB := n2_; have HO395 := n3_; clear n0_ n1_ n2_ n3_; clear ho hb hg hat; obtain ⟨Ao73, co73, eo73⟩ := Kd.R_slice HO395.out; subst eo73) | ((with_reducible refine gate_callee (f := 7) rfl ?_); refine goesL_ (some 55) rfl rfl Try.func7 (by kernel_rfl) rfl #[.slice Ao73 y393.length co73, .string t370] rfl (by (try simp only [List.map_toArray, List.map_cons, List.map_nil]); first | done | rfl | (simp only [List.length_drop, List.length_take]; rfl)) ?_; (with_reducible refine (impl_RuleLets.calls kj2 _ _ y393 t370 t396 _ ?side1 ?side2 A21.out).mono ?_); (case side1 => repeat (first | exact (Kd.R_reads' HO395.out).2.2 | (with_reducible refine Kd.C_alloc ?_ _) | (with_reducible refine Kd.C_drewN ?_ _) | (with_reducible refine Kd.C_drew ?_))); (case side2 => exact (Kd.R_reads' HO395.out).2.1); rintro e w74 ⟨rfl, hb⟩; refine ⟨_, rfl, ?_⟩; have n0_ := Aside0.mk (Kd.R_below (by (with_reducible repeat (first | apply Kd.R_alloc | apply Kd.R_drewN | apply Kd.R_drew)); exact HO372.out) hb); have n1_ := Aside0.mk (Kd.R_below (by (with_reducible repeat (first | apply Kd.R_alloc | apply Kd.R_drewN | apply Kd.R_drew)); exact HO385.out) hb); have n2_ := Aside0.mk (Kd.R_below (by (with_reducible repeat (first | apply Kd.R_alloc | apply Kd.R_drewN | apply Kd.R_drew)); exact HO395.out) hb); have n3_ := Aside0.mk (below_step (by repeat (first | (with_reducible first | exact HB.out | apply below_alloc | apply pw_below_drewN | apply below_drew1) | exact HB.out)) hb); clear HO372; clear HO385; clear HO395; clear HB; have HO372 := n0_; have HO385 := n1_; have HO395 := n2_; have HB := n3_; clear n0_ n1_ n2_ n3_; (try clear hb); (try clear hb2); (try clear hk); (try clear hi)))
          go_ret
          exact ⟨by first | rfl | (simp [errW_none, errW_some] <;> rfl) | (simp [*, errW_none, errW_some] <;> rfl), by repeat (first | (with_reducible first | exact HB.out | apply below_alloc | apply pw_below_drewN | apply below_drew1) | exact HB.out)⟩
        ·rw [if_neg c20] at H
         exact absurd H (by simp)
       ·rw [if_neg c19] at H
        exact absurd H (by simp)
      ·rw [if_neg c17] at H
       exact absurd H (by simp)
     ·rw [if_neg c16] at H
      exact absurd H (by simp)
def laws_FnLetsMore.Pure : Prop := ∀ (l0 : List Int) (l1 : List Int), l0.length ≤ maxLen → l0.length * 1 ≤ 140737488351232 → (∀ x ∈ l0, (Lit.int .u8 x).wf = true) → l1.length ≤ maxLen → l1.length * 1 ≤ 140737488351232 → (∀ x ∈ l1, (Lit.int .u8 x).wf = true) → ∃ k, laws_FnLetsMore.f k l0 l1 = some true
theorem laws_FnLetsMore.walk (P : laws_FnLetsMore.Pure) (a0 : Option Addr) (len0 cap0 : Nat) (z0 : List Int) (a1 : Option Addr) (len1 cap1 : Nat) (z1 : List Int) (w : World) (w0 : (a0 = none ∧ len0 = 0 ∧ cap0 = 0 ∧ z0 = []) ∨ ∃ x, a0 = some x ∧ len0 ≤ cap0 ∧ cap0 ≤ maxLen ∧ z0.length = cap0 ∧ (∀ i, i < z0.length → w.cell? (x.add i) = some (.int .u8 (z0.getD i 0))) ∧ ∀ n ∈ z0, (Lit.int .u8 n).wf = true) (y0 : len0 * 1 ≤ 140737488351232) (w1 : (a1 = none ∧ len1 = 0 ∧ cap1 = 0 ∧ z1 = []) ∨ ∃ x, a1 = some x ∧ len1 ≤ cap1 ∧ cap1 ≤ maxLen ∧ z1.length = cap1 ∧ (∀ i, i < z1.length → w.cell? (x.add i) = some (.int .u8 (z1.getD i 0))) ∧ ∀ n ∈ z1, (Lit.int .u8 n).wf = true) (y1 : len1 * 1 ≤ 140737488351232) :
  Calls Try.prog 3 #[.slice a0 len0 cap0, .slice a1 len1 cap1] w fun e w' => e = .returned (.bool true) ∧ Below w.heap.size w w' := by
 obtain ⟨l0, rfl, hr0, hm0, hw0, hc0⟩ := ReadsInt.ofRowC w0
 obtain ⟨l1, rfl, hr1, hm1, hw1, hc1⟩ := ReadsInt.ofRowC w1
 obtain ⟨k, h⟩ := P l0 l1 hm0 y0 hw0 hm1 y1 hw1
 refine (laws_FnLetsMore.calls k _ _ l0 _ _ l1 true w (Kd.C_of_reads (d := (0 : Int)) (h1 := fun _ => rfl) hr0) hc0 (Kd.C_of_reads (d := (0 : Int)) (h1 := fun _ => rfl) hr1) hc1 h).mono ?_
 rintro e w' ⟨rfl, hd⟩
 exact ⟨rfl, hd⟩
end Go.Proofs.Ythojnmcnlgcbnaa.P
end
section
namespace Go.Proofs.Ythojnmcnlgcbnaa.Ad
open Go.RowKit Go.Proofs.Ythojnmcnlgcbnaa.P Go.Proofs.YthojnmcnlgcbnaaW.PrintWords Go.Proofs.YthojnmcnlgcbnaaW.PrintLast Go.Proofs.YthojnmcnlgcbnaaW.PrintMore Go.Proofs.Ythojnmcnlgcbnaa.B
set_option linter.unusedVariables false
set_option linter.unusedSimpArgs false
def cutL (c : UInt8) : List UInt8 → List UInt8 × List UInt8 × Bool
 | [] => ([], [], false)
 | x :: xs => if x = c then ([], xs, true) else (x :: (cutL c xs).1, (cutL c xs).2)
theorem cutL_false {c : UInt8} : ∀ {l : List UInt8}, (cutL c l).2.2 = false → (cutL c l).1 = l ∧ (cutL c l).2.1 = []
 | [], _ => by simp [cutL]
 | x :: xs, h => by
  unfold cutL at h ⊢
  by_cases e : x = c
  ·rw [if_pos e] at h; cases h
  ·rw [if_neg e] at h ⊢
   have := cutL_false (l := xs) h
   exact ⟨by rw [this.1], this.2⟩
theorem cutL_true {c : UInt8} : ∀ {l : List UInt8}, (cutL c l).2.2 = true → l = (cutL c l).1 ++ c :: (cutL c l).2.1
 | [], h => by simp [cutL] at h
 | x :: xs, h => by
  unfold cutL at h ⊢
  by_cases e : x = c
  ·rw [if_pos e, e]; rfl
  ·rw [if_neg e] at h ⊢
   have := cutL_true (l := xs) h
   show x :: xs = x :: ((cutL c xs).1 ++ c :: (cutL c xs).2.1)
   rw [← this]
theorem cutL_not {c : UInt8} : ∀ {l : List UInt8}, c ∉ (cutL c l).1
 | [] => by simp [cutL]
 | x :: xs => by
  unfold cutL
  by_cases e : x = c
  ·rw [if_pos e]; simp
  ·rw [if_neg e]
   have := cutL_not (c := c) (l := xs)
   simp [Ne.symm e, this]
theorem cutL_len {c : UInt8} : ∀ (l : List UInt8), (cutL c l).1.length + (cutL c l).2.1.length ≤ l.length ∧ ((cutL c l).2.2 = true → (cutL c l).1.length + (cutL c l).2.1.length + 1 = l.length)
 | [] => by simp [cutL]
 | x :: xs => by
  unfold cutL
  by_cases e : x = c
  ·rw [if_pos e]; simp
  ·rw [if_neg e]
   have := cutL_len (c := c) xs
   simp only [List.length_cons]
   exact ⟨by omega, fun h => by have := this.2 h; omega⟩
theorem bt_at {s : ByteArray} {i : Nat} {c : UInt8} {l : List UInt8} (h : (L s).drop i = c :: l) : i < s.size ∧ bt s i = (c.toNat : Int) ∧ (L s).drop (i + 1) = l := by
 have hl : i < (L s).length := by
  rcases Nat.lt_or_ge i (L s).length with h' | h'
  ·exact h'
  ·rw [List.drop_eq_nil_of_le h'] at h; cases h
 have hd : (L s).drop i = (L s)[i] :: (L s).drop (i + 1) := List.drop_eq_getElem_cons hl
 rw [h] at hd
 injection hd with h1 h2
 refine ⟨by rw [← L_size]; exact hl, ?_, h2.symm⟩
 rw [bt_L, List.getD_eq_getElem?_getD, List.getElem?_eq_getElem hl, ← h1]
 rfl
theorem bt_end {s : ByteArray} {i : Nat} (h : (L s).drop i = []) : s.size ≤ i := by
 rw [← L_size]; exact List.drop_eq_nil_iff.1 h
theorem u8_eq {a b : UInt8} : ((a.toNat : Int) = (b.toNat : Int)) ↔ a = b := by
 constructor
 ·intro h; exact UInt8.toNat_inj.1 (by omega)
 ·intro h; rw [h]
def cutB (c : UInt8) (s : ByteArray) : ByteArray × ByteArray × Bool := (ofL (cutL c (L s)).1, ofL (cutL c (L s)).2.1, (cutL c (L s)).2.2)
theorem cut_l (s : ByteArray) (c : UInt8) (hs : s.size ≤ 140737488351232) : ∀ (l : List UInt8) (i : Nat), (L s).drop i = l →
  Ev (fun k => spec_l1Cut.l0 k s (c.toNat : Int) (i : Int)) (ofL ((L s).take i ++ (cutL c l).1), ofL (cutL c l).2.1, (cutL c l).2.2)
 | [], i, h => by
  have := bt_end h
  have n1 : ¬ ((i : Int) < (s.size : Int)) := by omega
  refine Ev_succ ?_
  simp only [spec_l1Cut.l0, n1, if_false]
  have e : (L s).take i = L s := List.take_of_length_le (by rw [L_size]; omega)
  simp only [cutL, e, List.append_nil, of_L]
  exact Ev.now _
 | x :: xs, i, h => by
  obtain ⟨hi, hb, hd⟩ := bt_at h
  refine Ev_succ ?_
  have e1 : wrap64 ((i : Int) + 1) = ((i + 1 : Nat) : Int) := by rw [w64 (by omega) (by omega)]; rfl
  have f1 : (i : Int) < (s.size : Int) := by omega
  have f2 : (0 : Int) ≤ (i : Int) := by omega
  have f3 : (i : Int) ≤ (s.size : Int) := by omega
  have f4 : (0 : Int) ≤ ((i + 1 : Nat) : Int) := by omega
  have f5 : ((i + 1 : Nat) : Int) ≤ (s.size : Int) := by omega
  simp only [spec_l1Cut.l0, e1, f1, f2, f3, f4, f5, if_true, hb, u8_eq]
  unfold cutL
  by_cases e : x = c
  ·simp only [e, if_true]
   have a1 : s.extract 0 ((i : Int)).toNat = ofL ((L s).take i ++ []) := by
    apply L_inj; rw [L_ext, L_of]; simp
   have a2 : s.extract ((((i + 1 : Nat) : Int))).toNat s.size = ofL xs := by
    apply L_inj; rw [L_ext, L_of, Int.toNat_natCast, hd, List.take_of_length_le]
    rw [← hd, List.length_drop, L_size]; omega
   rw [a1, a2]
   exact Ev.now _
  ·simp only [e, if_false]
   have := cut_l s c hs xs (i + 1) hd
   have ht : (L s).take (i + 1) ++ (cutL c xs).1 = (L s).take i ++ (x :: (cutL c xs).1) := by
    have hl : i < (L s).length := by rw [L_size]; exact hi
    have : (L s)[i] = x := by
     have hd2 : (L s).drop i = (L s)[i] :: (L s).drop (i + 1) := List.drop_eq_getElem_cons hl
     rw [h] at hd2
     injection hd2 with h1 h2
     exact h1.symm
    rw [List.take_succ_eq_append_getElem hl, this]
    simp
   rw [ht] at this
   exact this
theorem cut_ev (s : ByteArray) (c : UInt8) (hs : s.size ≤ 140737488351232) : Ev (fun k => spec_l1Cut.f k s (c.toNat : Int)) (cutB c s) := by
 have := cut_l s c hs (L s) 0 rfl
 simp only [List.take_zero, List.nil_append] at this
 exact this
def splitN (c : UInt8) : Nat → List UInt8 → List (List UInt8)
 | 0, l => [l]
 | n + 1, l => (cutL c l).1 :: (if (cutL c l).2.2 = true then splitN c n (cutL c l).2.1 else [])
def splitL (c : UInt8) (l : List UInt8) : List (List UInt8) := splitN c (l.length + 1) l
theorem splitN_eq (c : UInt8) : ∀ (n m : Nat) (l : List UInt8), l.length < n → l.length < m → splitN c n l = splitN c m l
 | 0, _, l, h, _ => absurd h (by omega)
 | _ + 1, 0, l, _, h => absurd h (by omega)
 | n + 1, m + 1, l, h1, h2 => by
  simp only [splitN]
  by_cases e : (cutL c l).2.2 = true
  ·have := (cutL_len (c := c) l).2 e
   rw [if_pos e, if_pos e, splitN_eq c n m _ (by omega) (by omega)]
  ·rw [if_neg e, if_neg e]
theorem splitL_eq (c : UInt8) (l : List UInt8) : splitL c l = (cutL c l).1 :: (if (cutL c l).2.2 = true then splitL c (cutL c l).2.1 else []) := by
 unfold splitL
 rw [splitN]
 by_cases e : (cutL c l).2.2 = true
 ·have := (cutL_len (c := c) l).2 e
  rw [if_pos e, if_pos e, splitN_eq c _ ((cutL c l).2.1.length + 1) _ (by omega) (by omega)]
 ·rw [if_neg e, if_neg e]
theorem splitN_len (c : UInt8) : ∀ (n : Nat) (l : List UInt8), (splitN c n l).length ≤ l.length + 1
 | 0, l => by simp [splitN]
 | n + 1, l => by
  simp only [splitN]
  by_cases e : (cutL c l).2.2 = true
  ·have := (cutL_len (c := c) l).2 e
   have ih := splitN_len c n (cutL c l).2.1
   rw [if_pos e]; simp only [List.length_cons]; omega
  ·rw [if_neg e]; simp
theorem splitL_len (c : UInt8) (l : List UInt8) : (splitL c l).length ≤ l.length + 1 := splitN_len c _ l
theorem splitN_mem (c : UInt8) : ∀ (n : Nat) (l p : List UInt8), p ∈ splitN c n l → p.length ≤ l.length
 | 0, l, p, h => by simp [splitN] at h; rw [h]; exact Nat.le_refl _
 | n + 1, l, p, h => by
  simp only [splitN, List.mem_cons] at h
  have hc := (cutL_len (c := c) l).1
  rcases h with h | h
  ·rw [h]; omega
  ·by_cases e : (cutL c l).2.2 = true
   ·rw [if_pos e] at h
    have := splitN_mem c n _ p h
    omega
   ·rw [if_neg e] at h; cases h
theorem splitL_mem (c : UInt8) (l p : List UInt8) (h : p ∈ splitL c l) : p.length ≤ l.length := splitN_mem c _ l p h
theorem split_l (c : UInt8) (n : Nat) : ∀ (s : ByteArray) (acc : List ByteArray), s.size < n → s.size ≤ 1000000000 → acc.length + s.size ≤ 2000000000 →
  Ev (fun k => spec_l1Split.l0 k (c.toNat : Int) acc s true) (acc ++ (splitL c (L s)).map ofL) := by
 induction n with
 | zero => intro s acc h; exact absurd h (by omega)
 | succ n ih =>
  intro s acc h h1 h2
  refine Ev_succ ?_
  simp only [spec_l1Split.l0, if_true]
  refine Ev.bind (cut_ev s c (by omega)) ?_
  have g1 : acc.length < 8796093022208 := by omega
  simp only [g1, if_true]
  rw [splitL_eq]
  have hl := cutL_len (c := c) (L s)
  rw [L_size] at hl
  by_cases e : (cutL c (L s)).2.2 = true
  ·have e' : (cutB c s).2.2 = true := e
   have hz : (ofL (cutL c (L s)).2.1).size = (cutL c (L s)).2.1.length := ofL_size _
   have := hl.2 e
   have ih' := ih (ofL (cutL c (L s)).2.1) (acc ++ [ofL (cutL c (L s)).1]) (by omega) (by omega) (by simp only [List.length_append, List.length_singleton]; omega)
   rw [if_pos e]
   simp only [cutB, e]
   rw [L_of] at ih'
   simpa using ih'
  ·have e' : (cutL c (L s)).2.2 = false := by simpa using e
   rw [if_neg e]
   simp only [cutB, e']
   refine Ev_succ ?_
   simp only [spec_l1Split.l0]
   simp
   exact Ev.now _
theorem split_ev (s : ByteArray) (c : UInt8) (hs : s.size ≤ 1000000000) : Ev (fun k => spec_l1Split.f k s (c.toNat : Int)) ((splitL c (L s)).map ofL) := by
 have := split_l c (s.size + 1) s [] (by omega) hs (by simp; omega)
 rw [List.nil_append] at this
 exact this
end Go.Proofs.Ythojnmcnlgcbnaa.Ad
end
section
namespace Go.Proofs.Ythojnmcnlgcbnaa.Ad
open Go.RowKit Go.Proofs.YthojnmcnlgcbnaaW.PrintWords Go.Proofs.Ythojnmcnlgcbnaa.B
set_option linter.unusedVariables false
set_option linter.unusedSimpArgs false
def nx (s : List UInt8) (P : Nat → Bool) (c : UInt8) : Nat → Bool
 | 0 => c == 42 && P 0
 | j + 1 => if c = 42 then P (j + 1) || nx s P c j else P j && (decide (j < s.length) && s.getD j 0 == c)
def fin0 (s : List UInt8) (ends : Bool) (P : Nat → Bool) : Bool := if ends then P s.length else (List.range (s.length + 1)).any P
def dp (s : List UInt8) (ends : Bool) (b : List UInt8) : Bool := fin0 s ends (b.foldl (nx s) (fun j => j == 0))
def fnd (s q : List UInt8) : Nat → Nat → Option Nat
 | 0, _ => none
 | d + 1, i => if i + q.length ≤ s.length then (if (s.drop i).take q.length = q then some i else fnd s q d (i + 1)) else none
def gr (s : List UInt8) (ends : Bool) : List (List UInt8) → Nat → Bool
 | [], a => !ends || a == s.length
 | q :: qs, a => if ends = true ∧ qs = [] then decide (a + q.length ≤ s.length) && s.drop (s.length - q.length) == q else
   match fnd s q (s.length + 1 - a) a with
   | none => false
   | some k => gr s ends qs (k + q.length)
def hasG (s : List UInt8) (ends : Bool) (b : List UInt8) : Bool := match splitL 42 b with
 | [] => false
 | q :: qs => decide (q.length ≤ s.length) && s.take q.length == q && gr s ends qs q.length
theorem nx_star (s : List UInt8) (P : Nat → Bool) : ∀ j, nx s P 42 j = true ↔ ∃ i, i ≤ j ∧ P i = true
 | 0 => by simp [nx]
 | j + 1 => by
  simp only [nx, if_true, Bool.or_eq_true, nx_star s P j]
  constructor
  ·rintro (h | ⟨i, h1, h2⟩)
   ·exact ⟨j + 1, Nat.le_refl _, h⟩
   ·exact ⟨i, by omega, h2⟩
  ·rintro ⟨i, h1, h2⟩
   by_cases e : i = j + 1
   ·subst e; exact Or.inl h2
   ·exact Or.inr ⟨i, by omega, h2⟩
theorem nx_byte (s : List UInt8) (P : Nat → Bool) (c : UInt8) (hc : c ≠ 42) : ∀ j, nx s P c j = true ↔ ∃ i, j = i + 1 ∧ P i = true ∧ i < s.length ∧ s.getD i 0 = c
 | 0 => by simp [nx, hc]
 | j + 1 => by
  simp only [nx, if_neg hc, Bool.and_eq_true, decide_eq_true_eq, beq_iff_eq]
  constructor
  ·rintro ⟨h1, h2, h3⟩; exact ⟨j, rfl, h1, h2, h3⟩
  ·rintro ⟨i, h0, h1, h2, h3⟩
   obtain rfl : i = j := by omega
   exact ⟨h1, h2, h3⟩
def At (s q : List UInt8) (k : Nat) : Prop := k + q.length ≤ s.length ∧ (s.drop k).take q.length = q
theorem at_cons {s q : List UInt8} {c : UInt8} {k : Nat} : At s (c :: q) k ↔ (k < s.length ∧ s.getD k 0 = c) ∧ At s q (k + 1) := by
 unfold At
 simp only [List.length_cons]
 rcases Nat.lt_or_ge k s.length with h | h
 ·have hd : s.drop k = s[k] :: s.drop (k + 1) := List.drop_eq_getElem_cons h
  rw [hd, List.take_succ_cons, List.cons.injEq, List.getD_eq_getElem?_getD, List.getElem?_eq_getElem h, Option.getD_some]
  constructor
  ·rintro ⟨h1, h2, h3⟩; exact ⟨⟨h, h2⟩, by omega, h3⟩
  ·rintro ⟨⟨_, h2⟩, h1, h3⟩; exact ⟨by omega, h2, h3⟩
 ·constructor
  ·rintro ⟨h1, _⟩; omega
  ·rintro ⟨⟨h1, _⟩, _⟩; omega
theorem fold_seg (s : List UInt8) : ∀ (q : List UInt8) (P : Nat → Bool), (42 : UInt8) ∉ q → ∀ j, j ≤ s.length →
  (q.foldl (nx s) P j = true ↔ ∃ k, P k = true ∧ j = k + q.length ∧ At s q k)
 | [], P, _, j, hj => by
  simp only [List.foldl_nil, List.length_nil, Nat.add_zero]
  constructor
  ·intro h; exact ⟨j, h, rfl, by simpa [At] using hj⟩
  ·rintro ⟨k, h, rfl, _⟩; exact h
 | c :: q, P, h, j, hj => by
  have hc : c ≠ 42 := fun e => h (by rw [e]; exact List.mem_cons_self)
  have hq : (42 : UInt8) ∉ q := fun e => h (List.mem_cons_of_mem _ e)
  rw [List.foldl_cons, fold_seg s q _ hq j hj]
  constructor
  ·rintro ⟨k, h1, h2, h3⟩
   obtain ⟨i, rfl, p1, p2, p3⟩ := (nx_byte s P c hc k).1 h1
   exact ⟨i, p1, by rw [List.length_cons]; omega, at_cons.2 ⟨⟨p2, p3⟩, h3⟩⟩
  ·rintro ⟨k, h1, h2, h3⟩
   obtain ⟨⟨p2, p3⟩, h4⟩ := at_cons.1 h3
   exact ⟨k + 1, (nx_byte s P c hc _).2 ⟨k, rfl, h1, p2, p3⟩, by rw [List.length_cons] at h2; omega, h4⟩
theorem fnd_none {s q : List UInt8} : ∀ (d i : Nat), s.length + 1 ≤ i + d → (fnd s q d i = none ↔ ∀ k, i ≤ k → ¬ At s q k)
 | 0, i, h => by
  simp only [fnd, true_iff]
  rintro k hk ⟨h1, _⟩; omega
 | d + 1, i, h => by
  simp only [fnd]
  by_cases h1 : i + q.length ≤ s.length
  ·rw [if_pos h1]
   by_cases h2 : (s.drop i).take q.length = q
   ·rw [if_pos h2]
    simp only [reduceCtorEq, false_iff]
    exact fun hh => hh i (Nat.le_refl _) ⟨h1, h2⟩
   ·rw [if_neg h2, fnd_none d (i + 1) (by omega)]
    constructor
    ·intro hh k hk ha
     by_cases e : k = i
     ·subst e; exact h2 ha.2
     ·exact hh k (by omega) ha
    ·intro hh k hk; exact hh k (by omega)
  ·rw [if_neg h1]
   simp only [true_iff]
   rintro k hk ⟨h3, _⟩; omega
theorem fnd_some {s q : List UInt8} : ∀ (d i k : Nat), fnd s q d i = some k → i ≤ k ∧ At s q k ∧ ∀ m, i ≤ m → At s q m → k ≤ m
 | 0, i, k, h => by simp [fnd] at h
 | d + 1, i, k, h => by
  simp only [fnd] at h
  by_cases h1 : i + q.length ≤ s.length
  ·rw [if_pos h1] at h
   by_cases h2 : (s.drop i).take q.length = q
   ·rw [if_pos h2] at h
    injection h with h; subst h
    exact ⟨Nat.le_refl _, ⟨h1, h2⟩, fun m hm _ => hm⟩
   ·rw [if_neg h2] at h
    obtain ⟨a, b, c⟩ := fnd_some d (i + 1) k h
    refine ⟨by omega, b, fun m hm ha => ?_⟩
    by_cases e : m = i
    ·subst e; exact absurd ha.2 h2
    ·exact c m (by omega) ha
  ·rw [if_neg h1] at h; cases h
theorem fold_none (s : List UInt8) : ∀ (b : List UInt8) (P : Nat → Bool), (∀ j, j ≤ s.length → P j = false) → ∀ j, j ≤ s.length → b.foldl (nx s) P j = false
 | [], P, h, j, hj => h j hj
 | c :: b, P, h, j, hj => by
  rw [List.foldl_cons]
  refine fold_none s b _ (fun i hi => ?_) j hj
  by_cases hc : c = 42
  ·subst hc
   rw [← Bool.not_eq_true, nx_star]
   rintro ⟨m, h1, h2⟩
   rw [h m (by omega)] at h2; cases h2
  ·rw [← Bool.not_eq_true, nx_byte s P c hc]
   rintro ⟨m, h1, h2, _⟩
   rw [h m (by omega)] at h2; cases h2
theorem fin0_none {s : List UInt8} {ends : Bool} {P : Nat → Bool} (h : ∀ j, j ≤ s.length → P j = false) : fin0 s ends P = false := by
 unfold fin0
 cases ends
 ·rw [if_neg (by simp), List.any_eq_false]
  intro j hj
  rw [List.mem_range] at hj
  rw [h j (by omega)]; simp
 ·rw [if_pos rfl]; exact h _ (Nat.le_refl _)
theorem fin0_any {s : List UInt8} {P : Nat → Bool} : fin0 s false P = true ↔ ∃ j, j ≤ s.length ∧ P j = true := by
 unfold fin0
 rw [if_neg (by simp), List.any_eq_true]
 constructor
 ·rintro ⟨j, h1, h2⟩; exact ⟨j, by have := List.mem_range.1 h1; omega, h2⟩
 ·rintro ⟨j, h1, h2⟩; exact ⟨j, List.mem_range.2 (by omega), h2⟩
theorem splitL_ne (c : UInt8) (b : List UInt8) : splitL c b ≠ [] := by rw [splitL_eq]; simp
theorem dp_gr (s : List UInt8) (ends : Bool) (n : Nat) : ∀ (b : List UInt8) (P : Nat → Bool) (a : Nat), b.length < n → a ≤ s.length → (∀ j, j ≤ s.length → (P j = true ↔ a ≤ j)) →
  fin0 s ends (b.foldl (nx s) P) = gr s ends (splitL 42 b) a := by
 induction n with
 | zero => intro b P a h; omega
 | succ n ih =>
  intro b P a hb ha hP
  have hn := cutL_not (c := 42) (l := b)
  rw [splitL_eq]
  generalize hh : (cutL 42 b).1 = h at hn ⊢
  by_cases e : (cutL 42 b).2.2 = true
  ·have hl := (cutL_len (c := 42) b).2 e
   have hb' := cutL_true e
   rw [if_pos e]
   rw [hh] at hb' hl
   generalize (cutL 42 b).2.1 = t at hb' hl ⊢
   have e2 : ¬ (ends = true ∧ splitL 42 t = []) := fun hx => splitL_ne _ _ hx.2
   rw [gr, if_neg e2, hb', List.foldl_append, List.foldl_cons]
   cases hf : fnd s h (s.length + 1 - a) a with
   | none =>
    have := (fnd_none _ _ (by omega)).1 hf
    refine fin0_none (fun j hj => fold_none s t _ (fun i hi => ?_) j hj)
    rw [← Bool.not_eq_true, nx_star]
    rintro ⟨m, h1, h2⟩
    obtain ⟨k, p1, p2, p3⟩ := (fold_seg s h P hn m (by omega)).1 h2
    have hk : k ≤ s.length := by have := p3.1; omega
    exact this k ((hP k hk).1 p1) p3
   | some k =>
    obtain ⟨f1, f2, f3⟩ := fnd_some _ _ _ hf
    have hk := f2.1
    refine ih t _ (k + h.length) (by omega) hk (fun j hj => ?_)
    rw [nx_star]
    constructor
    ·rintro ⟨m, h1, h2⟩
     obtain ⟨i, p1, p2, p3⟩ := (fold_seg s h P hn m (by omega)).1 h2
     have hi : i ≤ s.length := by have := p3.1; omega
     have := f3 i ((hP i hi).1 p1) p3
     omega
    ·intro hj2
     refine ⟨k + h.length, hj2, (fold_seg s h P hn _ hk).2 ⟨k, (hP k (by omega)).2 f1, rfl, f2⟩⟩
  ·have e' : (cutL 42 b).2.2 = false := by simpa using e
   rw [if_neg e]
   have hb' := (cutL_false e').1
   rw [hh] at hb'
   subst hb'
   rw [gr]
   cases ends with
   | true =>
    rw [if_pos ⟨rfl, rfl⟩]
    unfold fin0
    rw [if_pos rfl, Bool.eq_iff_iff, fold_seg s h P hn _ (Nat.le_refl _)]
    simp only [Bool.and_eq_true, decide_eq_true_eq, beq_iff_eq]
    constructor
    ·rintro ⟨k, p1, p2, p3⟩
     have hk : k ≤ s.length := by have := p3.1; omega
     refine ⟨by have := (hP k hk).1 p1; omega, ?_⟩
     have e1 : s.length - h.length = k := by omega
     rw [e1]
     have := p3.2
     rw [List.take_of_length_le (by rw [List.length_drop]; omega)] at this
     exact this
    ·rintro ⟨h1, h2⟩
     refine ⟨s.length - h.length, (hP _ (by omega)).2 (by omega), by omega, by omega, ?_⟩
     rw [List.take_of_length_le (by rw [List.length_drop]; omega)]
     exact h2
   | false =>
    rw [if_neg (by simp), Bool.eq_iff_iff, fin0_any]
    cases hf : fnd s h (s.length + 1 - a) a with
    | none =>
     have := (fnd_none _ _ (by omega)).1 hf
     simp only [Bool.false_eq_true, iff_false]
     rintro ⟨j, hj, h2⟩
     obtain ⟨k, p1, p2, p3⟩ := (fold_seg s h P hn j hj).1 h2
     have hk : k ≤ s.length := by have := p3.1; omega
     exact this k ((hP k hk).1 p1) p3
    | some k =>
     obtain ⟨f1, f2, f3⟩ := fnd_some _ _ _ hf
     have hk := f2.1
     simp only [gr, Bool.not_false, Bool.true_or, iff_true]
     exact ⟨k + h.length, hk, (fold_seg s h P hn _ hk).2 ⟨k, (hP k (by omega)).2 f1, rfl, f2⟩⟩
theorem dp_has (s : List UInt8) (ends : Bool) (b : List UInt8) : dp s ends b = hasG s ends b := by
 unfold dp hasG
 have hn := cutL_not (c := 42) (l := b)
 rw [splitL_eq]
 generalize hh : (cutL 42 b).1 = h at hn ⊢
 have seg := fold_seg s h (fun j => j == 0) hn
 have seg' : ∀ j, j ≤ s.length → (h.foldl (nx s) (fun j => j == 0) j = true ↔ j = h.length ∧ At s h 0) := by
  intro j hj
  rw [seg j hj]
  constructor
  ·rintro ⟨k, p1, p2, p3⟩
   obtain rfl : k = 0 := by simpa using p1
   exact ⟨by omega, p3⟩
  ·rintro ⟨p1, p2⟩; exact ⟨0, rfl, by omega, p2⟩
 have at0 : At s h 0 ↔ (decide (h.length ≤ s.length) && s.take h.length == h) = true := by
  unfold At
  simp
 by_cases e : (cutL 42 b).2.2 = true
 ·have hl := (cutL_len (c := 42) b).2 e
  have hb' := cutL_true e
  rw [if_pos e]
  rw [hh] at hb' hl
  generalize (cutL 42 b).2.1 = t at hb' hl ⊢
  rw [hb', List.foldl_append, List.foldl_cons]
  show _ = (decide (h.length ≤ s.length) && s.take h.length == h && gr s ends (splitL 42 t) h.length)
  by_cases ha : At s h 0
  ·rw [at0.1 ha, Bool.true_and]
   refine dp_gr s ends (t.length + 1) t _ h.length (by omega) (by have := ha.1; omega) (fun j hj => ?_)
   rw [nx_star]
   constructor
   ·rintro ⟨m, h1, h2⟩
    have := (seg' m (by omega)).1 h2
    omega
   ·intro h1
    exact ⟨h.length, h1, (seg' _ (by omega)).2 ⟨rfl, ha⟩⟩
  ·have : (decide (h.length ≤ s.length) && s.take h.length == h) = false := by
    rw [← Bool.not_eq_true]; exact fun x => ha (at0.2 x)
   rw [this, Bool.false_and]
   refine fin0_none (fun j hj => fold_none s t _ (fun i hi => ?_) j hj)
   rw [← Bool.not_eq_true, nx_star]
   rintro ⟨m, h1, h2⟩
   exact ha ((seg' m (by omega)).1 h2).2
 ·have e' : (cutL 42 b).2.2 = false := by simpa using e
  rw [if_neg e]
  have hb' := (cutL_false e').1
  rw [hh] at hb'
  subst hb'
  show _ = (decide (h.length ≤ s.length) && s.take h.length == h && gr s ends [] h.length)
  simp only [gr]
  by_cases ha : At s h 0
  ·rw [at0.1 ha, Bool.true_and]
   have hl : h.length ≤ s.length := by have := ha.1; omega
   cases ends with
   | true =>
    unfold fin0
    rw [if_pos rfl, Bool.eq_iff_iff, seg' _ (Nat.le_refl _)]
    simp only [Bool.not_true, Bool.false_or, beq_iff_eq]
    exact ⟨fun x => x.1.symm, fun x => ⟨x.symm, ha⟩⟩
   | false =>
    simp only [Bool.not_false, Bool.true_or]
    rw [fin0_any]
    exact ⟨h.length, hl, (seg' _ hl).2 ⟨rfl, ha⟩⟩
  ·have : (decide (h.length ≤ s.length) && s.take h.length == h) = false := by
    rw [← Bool.not_eq_true]; exact fun x => ha (at0.2 x)
   rw [this, Bool.false_and]
   refine fin0_none (fun j hj => ?_)
   rw [← Bool.not_eq_true, seg' j hj]
   exact fun x => ha x.2
end Go.Proofs.Ythojnmcnlgcbnaa.Ad
end
section
namespace Go.Proofs.Ythojnmcnlgcbnaa.Ad
open Go.RowKit Go.Proofs.Ythojnmcnlgcbnaa.P Go.Proofs.YthojnmcnlgcbnaaW.PrintWords Go.Proofs.YthojnmcnlgcbnaaW.PrintLast Go.Proofs.YthojnmcnlgcbnaaW.PrintMore Go.Proofs.Ythojnmcnlgcbnaa.B
set_option linter.unusedVariables false
set_option linter.unusedSimpArgs false
theorem hex_all : ∀ n : Nat, n < 256 → spec_l1Hex.f 2 (n : Int) = some (match hexN (UInt8.ofNat n) with | some x => (x : Int) | none => -1) := by decide +kernel
theorem plain_all : ∀ n : Nat, n < 256 → spec_l1Plain.f (n : Int) = some (plainB (UInt8.ofNat n)) := by decide +kernel
theorem sign_all : ∀ n : Nat, n < 256 → (spec_l1Sign.f (n : Int)).map L = some [37, fig (n / 16), fig (n % 16)] := by decide +kernel
theorem of_toNat (c : UInt8) : UInt8.ofNat c.toNat = c := UInt8.ofNat_toNat
theorem hex_ev (c : UInt8) : Ev (fun k => spec_l1Hex.f k (c.toNat : Int)) (match hexN c with | some x => (x : Int) | none => -1) := by
 refine Ev.of (fun k => spec_l1Hex.mono _ k) (k := 2) ?_
 have := hex_all c.toNat c.toNat_lt
 rwa [of_toNat] at this
theorem sign_f (n : Nat) (h : n < 256) : spec_l1Sign.f (n : Int) = some (ofL [37, fig (n / 16), fig (n % 16)]) := by
 have := sign_all n h
 obtain ⟨s, hs, e⟩ := Option.map_eq_some_iff.1 this
 rw [hs, ← e, of_L]
theorem nums_one (n : Nat) (h : n < 256) : strOfNums [(n : Int) % 256] = ofL [UInt8.ofNat n] := by
 unfold strOfNums ofL
 simp only [List.map_cons, List.map_nil, ByteArray.mk.injEq]
 congr 2
 rw [show ((n : Int) % 256) = (n : Int) from by omega]
 simp
theorem enc_ev (s acc : ByteArray) (i n : Nat) (h : n < 256) (hi : i < 1000000) (ha : acc.size ≤ 1000000) {r : ByteArray × Bool}
  (H : Ev (fun k => spec_EscNorm.l0 k s (acc ++ ofL (encN n)) (i + 1 : Nat)) r) : Ev (fun k => spec_EscNorm.j2 k s acc (i : Int) (n : Int)) r := by
 refine Ev.step (fun k => ?_) H
 have hw : wrap64 ((i : Int) + 1) = ((i + 1 : Nat) : Int) := by rw [w64 (by omega) (by omega)]; omega
 simp only [spec_EscNorm.j2]
 rw [show ((n : Int) % 256) = (n : Int) from by omega, plain_all n h]
 simp only [Option.bind_some]
 by_cases hp : plainB (UInt8.ofNat n) = true
 ·have e := nums_one n h
  rw [show ((n : Int) % 256) = (n : Int) from by omega] at e
  have he : encN n = [UInt8.ofNat n] := by unfold encN; rw [if_pos hp]
  have hz := ofL_size [UInt8.ofNat n]
  rw [if_pos hp, e, if_pos (by simp at hz; omega), hw, he]
 ·have he : encN n = [37, fig (n / 16), fig (n % 16)] := by unfold encN; rw [if_neg hp]
  rw [if_neg hp, sign_f n h]
  simp only [Option.bind_some]
  have hz := ofL_size [37, fig (n / 16), fig (n % 16)]
  rw [if_pos (by simp at hz; omega), hw, he]
theorem drop_at {l : List UInt8} {i : Nat} (h : i < l.length) : l.drop i = l[i] :: l.drop (i + 1) := List.drop_eq_getElem_cons h
theorem bt_get (s : ByteArray) (i : Nat) (h : i < (L s).length) : bt s i = (((L s)[i]).toNat : Int) := by
 rw [bt_L, List.getD_eq_getElem?_getD, List.getElem?_eq_getElem h]; rfl
theorem app_nil (a : ByteArray) : a ++ ofL [] = a := by apply L_inj; rw [L_app, L_of, List.append_nil]
def escR (acc : ByteArray) (o : Option (List UInt8)) : ByteArray × Bool := match o with
 | some r => (acc ++ ofL r, true)
 | none => (⟨#[]⟩, false)
theorem escR_map (acc : ByteArray) (x : List UInt8) (o : Option (List UInt8)) : escR acc (o.map (x ++ ·)) = escR (acc ++ ofL x) o := by
 cases o with
 | none => rfl
 | some r => simp only [escR, Option.map_some, ofL_app, ByteArray.append_assoc]
theorem esc_l (s : ByteArray) (hs : s.size ≤ 60) (n : Nat) : ∀ (i : Nat) (acc : ByteArray), i ≤ s.size → s.size - i ≤ n → acc.size ≤ 3 * i →
  Ev (fun k => spec_EscNorm.l0 k s acc (i : Int)) (escR acc (esc ((L s).drop i))) := by
 have hL := L_size s
 induction n with
 | zero =>
  intro i acc hi hn ha
  refine Ev.of (fun k => spec_EscNorm.mono_l k |>.1 _ _ _) (k := 1) ?_
  simp only [spec_EscNorm.l0]
  rw [if_neg (by omega), List.drop_eq_nil_of_le (by omega)]
  simp only [esc, escR]
  rw [app_nil]
 | succ n ih =>
  intro i acc hi hn ha
  by_cases hlt : i < s.size
  ·have hlt' : i < (L s).length := by omega
   rw [drop_at hlt']
   have hb := bt_get s i hlt'
   by_cases hc : (L s)[i] = 37
   ·have hb37 : bt s i = 37 := by rw [hb, hc]; rfl
    have w2 : wrap64 ((i : Int) + 2) = ((i + 2 : Nat) : Int) := by rw [w64 (by omega) (by omega)]; omega
    have w1 : wrap64 ((i : Int) + 1) = ((i + 1 : Nat) : Int) := by rw [w64 (by omega) (by omega)]; omega
    rw [hc]
    by_cases h2 : i + 2 < s.size
    ·have g1 : i + 1 < (L s).length := by omega
     have g2 : i + 2 < (L s).length := by omega
     rw [drop_at g1, drop_at g2]
     have b1 := bt_get s (i + 1) g1
     have b2 := bt_get s (i + 2) g2
     have q1 := hex_ev (L s)[i + 1]
     have q2 := hex_ev (L s)[i + 2]
     have l1 := @hexN_lt (L s)[i + 1]
     have l2 := @hexN_lt (L s)[i + 2]
     generalize (L s)[i + 1] = ca at b1 q1 l1 ⊢
     generalize (L s)[i + 2] = cb at b2 q2 l2 ⊢
     have e3 : i + 2 + 1 = i + 3 := rfl
     have bad : Ev (fun k => spec_EscNorm.j1 k s acc (i : Int) true) ((⟨#[]⟩ : ByteArray), false) :=
      Ev.of (fun k => spec_EscNorm.mono_l k |>.2.2 _ _ _ _) (k := 1) (by simp [spec_EscNorm.j1])
     refine Ev.step (f := fun k => (spec_l1Hex.f k (ca.toNat : Int)).bind fun t => if t < 0 then spec_EscNorm.j1 k s acc (i : Int) true else (spec_l1Hex.f k (cb.toNat : Int)).bind fun t2 => spec_EscNorm.j1 k s acc (i : Int) (decide (t2 < 0))) (fun k => ?_) ?_
     ·simp only [spec_EscNorm.l0]
      rw [if_pos (by omega), if_pos (by omega), if_pos hb37, w2, w1, if_neg (by omega), if_pos (by omega), if_pos (by omega), b1]
      congr 1
      funext t
      by_cases ht : t < 0
      ·rw [if_pos ht, if_pos ht]
      ·rw [if_neg ht, if_neg ht, if_pos (by omega), if_pos (by omega), b2]
     ·refine Ev.bind q1 ?_
      cases ha' : hexN ca with
      | none =>
       rw [esc_bad1 _ _ ha']
       simp only [show ((-1 : Int) < 0) from by omega, if_true]
       exact bad
      | some x =>
       have hx := l1 ha'
       simp only [show ¬ ((x : Int) < 0) from by omega, if_false]
       refine Ev.bind q2 ?_
       cases hb' : hexN cb with
       | none =>
        rw [esc_bad2 _ _ hb']
        simp only [show decide ((-1 : Int) < 0) = true from by decide]
        exact bad
       | some y =>
        have hy := l2 hb'
        simp only [show decide ((y : Int) < 0) = false from by simp]
        rw [ha'] at q1
        rw [hb'] at q2
        refine Ev.step (f := fun k => (spec_l1Hex.f k (ca.toNat : Int)).bind fun t => (spec_l1Hex.f k (cb.toNat : Int)).bind fun t2 => spec_EscNorm.j2 k s acc ((i + 2 : Nat) : Int) (wrap64 (wrap64 (t * 16) + t2))) (fun k => ?_) ?_
        ·simp only [spec_EscNorm.j1]
         rw [if_neg (by simp), w1, w2, if_pos (by omega), if_pos (by omega), b1]
         congr 1
         funext t
         rw [if_pos (by omega), if_pos (by omega), b2]
        ·refine Ev.bind q1 (Ev.bind q2 ?_)
         rw [esc_sign _ ha' hb']
         rw [show wrap64 (wrap64 ((x : Int) * 16) + (y : Int)) = ((x * 16 + y : Nat) : Int) from by rw [w64 (n := (x : Int) * 16) (by omega) (by omega), w64 (by omega) (by omega)]; omega]
         refine enc_ev s acc (i + 2) (x * 16 + y) (by omega) (by omega) (by omega) ?_
         rw [escR_map]
         exact ih (i + 2 + 1) _ (by omega) (by omega) (by have z := ofL_size (encN (x * 16 + y)); have := encN_len (x * 16 + y); rw [ByteArray.size_append]; omega)
    ·rw [esc_short (by rw [List.length_drop]; omega)]
     refine Ev.of (fun k => spec_EscNorm.mono_l k |>.1 _ _ _) (k := 2) ?_
     simp only [spec_EscNorm.l0, spec_EscNorm.j1]
     rw [if_pos (by omega), if_pos (by omega), if_pos hb37, w2, if_pos (by omega)]
     rfl
   ·have hb37 : ¬ bt s i = 37 := by
     rw [hb]
     intro e
     exact hc (UInt8.toNat_inj.1 (by have : (37 : UInt8).toNat = 37 := rfl; omega))
    rw [esc_plain _ hc]
    have hlt8 := (L s)[i].toNat_lt
    refine Ev.step (f := fun k => spec_EscNorm.j2 k s acc (i : Int) (((L s)[i].toNat : Nat) : Int)) (fun k => ?_) ?_
    ·simp only [spec_EscNorm.l0]
     rw [if_pos (by omega), if_pos (by omega), if_neg hb37, hb, w64 (by omega) (by omega)]
    ·refine enc_ev s acc i _ (by omega) (by omega) (by omega) ?_
     rw [escR_map]
     exact ih (i + 1) _ (by omega) (by omega) (by have z := ofL_size (encN (L s)[i].toNat); have := encN_len (L s)[i].toNat; rw [ByteArray.size_append]; omega)
  ·refine Ev.of (fun k => spec_EscNorm.mono_l k |>.1 _ _ _) (k := 1) ?_
   simp only [spec_EscNorm.l0]
   rw [if_neg (by omega), List.drop_eq_nil_of_le (by omega)]
   simp only [esc, escR]
   rw [app_nil]
theorem escNorm_ev (s : ByteArray) : Ev (fun k => spec_EscNorm.f k s) (escNorm s) := by
 unfold spec_EscNorm.f escNorm
 by_cases h : s.size > 60
 ·simp only [show ((s.size : Int) > 60) from by omega, if_true, h]
  exact Ev.now _
 ·simp only [show ¬ ((s.size : Int) > 60) from by omega, if_false, h]
  have := esc_l s (by omega) s.size 0 ⟨#[]⟩ (by omega) (by omega) (Nat.le_refl 0)
  simp only [List.drop_zero] at this
  have e : escR (⟨#[]⟩ : ByteArray) (esc (L s)) = escO (esc (L s)) := by
   unfold escR escO
   cases esc (L s) with
   | none => rfl
   | some r => simp only [Prod.mk.injEq, and_true]; apply L_inj; rw [L_app]; rfl
  rw [← e]
  exact this
theorem norm_ev (s : ByteArray) : Ev (fun k => spec_l1Norm.f k s) (isNorm s) := by
 unfold spec_l1Norm.f isNorm
 refine Ev.bind (escNorm_ev s) ?_
 by_cases h : (escNorm s).2 = true
 ·simp only [h, if_true, Bool.true_and]
  exact Ev.now _
 ·simp only [h, if_false, Bool.false_and]
  exact Ev.now _
end Go.Proofs.Ythojnmcnlgcbnaa.Ad
end
section
namespace Go.Proofs.Ythojnmcnlgcbnaa.Ad
open Go.RowKit Go.Proofs.Ythojnmcnlgcbnaa.P Go.Proofs.YthojnmcnlgcbnaaW.PrintWords Go.Proofs.YthojnmcnlgcbnaaW.PrintLast Go.Proofs.YthojnmcnlgcbnaaW.PrintMore Go.Proofs.Ythojnmcnlgcbnaa.B
set_option linter.unusedVariables false
set_option linter.unusedSimpArgs false
def endsD (p : ByteArray) : Bool := (L p).getLast? == some 36
def bodyD (p : ByteArray) : ByteArray := if endsD p = true then p.extract 0 (p.size - 1) else p
theorem L_last {p : ByteArray} (h : 1 ≤ p.size) : ∃ l c, L p = l ++ [c] ∧ l.length + 1 = p.size := by
 have hl := L_size p
 have hn : L p ≠ [] := fun e => by rw [e] at hl; simp at hl; omega
 refine ⟨(L p).dropLast, (L p).getLast hn, (List.dropLast_concat_getLast hn).symm, ?_⟩
 rw [List.length_dropLast]; omega
theorem sz36 : (⟨#[36]⟩ : ByteArray).size = 1 := rfl
theorem suf_f (p : ByteArray) (hp : p.size ≤ 140737488351232) : stringslite_HasSuffix.f p (⟨#[36]⟩ : ByteArray) = some (endsD p) := by
 unfold stringslite_HasSuffix.f endsD
 rw [sz36]
 by_cases h : 1 ≤ p.size
 ·obtain ⟨l, c, e, hl⟩ := L_last h
  have w : wrap64 ((p.size : Int) - ((1 : Nat) : Int)) = ((p.size - 1 : Nat) : Int) := by rw [w64 (by omega) (by omega)]; omega
  rw [w, if_pos (by omega), if_pos (by omega), if_pos (by omega), Int.toNat_natCast, Lib.toList_data]
  have x : L (p.extract (p.size - 1) p.size) = [c] := by
   have hz : p.size - l.length = 1 := by omega
   rw [L_ext, e, List.drop_append, show p.size - 1 = l.length from by omega, hz]
   simp
  show some ((p.extract (p.size - 1) p.size).data.toList == _) = _
  rw [show (p.extract (p.size - 1) p.size).data.toList = [c] from x, e]
  simp [Lib.toList_data]
 ·rw [if_neg (by omega)]
  have : L p = [] := List.length_eq_zero_iff.1 (by rw [L_size]; omega)
  rw [this]; rfl
theorem ends_size {p : ByteArray} (h : endsD p = true) : 1 ≤ p.size := by
 rcases Nat.lt_or_ge p.size 1 with h' | h'
 ·have : L p = [] := List.length_eq_zero_iff.1 (by rw [L_size]; omega)
  unfold endsD at h; rw [this] at h; cases h
 ·exact h'
theorem trim_f (p : ByteArray) (hp : p.size ≤ 140737488351232) : strings_TrimSuffix.f p (⟨#[36]⟩ : ByteArray) = some (bodyD p) := by
 simp only [strings_TrimSuffix.f, stringslite_TrimSuffix.f, suf_f p hp, Option.bind_some, bodyD, sz36]
 by_cases h : endsD p = true
 ·have := ends_size h
  have w : wrap64 ((p.size : Int) - ((1 : Nat) : Int)) = ((p.size - 1 : Nat) : Int) := by rw [w64 (by omega) (by omega)]; omega
  rw [if_pos h, if_pos h, w, if_pos (by omega), if_pos (by omega), Int.toNat_natCast]; rfl
 ·rw [if_neg h, if_neg h]; rfl
theorem body_size (p : ByteArray) : (bodyD p).size ≤ p.size := by
 unfold bodyD
 split
 ·rw [ByteArray.size_extract]; omega
 ·exact Nat.le_refl _
def patB (c : UInt8) : Bool := plainB c || c == 47 || c == 42 || c == 63 || c == 37 || (decide (65 ≤ c.toNat) && decide (c.toNat ≤ 70))
theorem pat_all : ∀ n : Nat, n < 256 → impl_isPatternByte.f (n : Int) = some (patB (UInt8.ofNat n)) := by decide +kernel
theorem pat_f (c : UInt8) : impl_isPatternByte.f (c.toNat : Int) = some (patB c) := by
 have := pat_all c.toNat c.toNat_lt
 rwa [of_toNat] at this
def okL : List UInt8 → Bool
 | [] => true
 | c :: r => (patB c || (c == 36 && r.isEmpty)) && okL r
theorem okL_app (c : UInt8) : ∀ l : List UInt8, okL (l ++ [c]) = (l.all patB && (patB c || c == 36))
 | [] => by simp [okL]
 | x :: l => by
  simp only [List.cons_append, okL, okL_app c l, List.all_cons]
  cases l <;> simp [Bool.and_assoc]
theorem body_ok (p : ByteArray) : (L (bodyD p)).all patB = okL (L p) := by
 by_cases h0 : 1 ≤ p.size
 ·obtain ⟨l, c, e, hl⟩ := L_last h0
  have he : endsD p = (c == 36) := by unfold endsD; rw [e]; simp
  rw [e, okL_app]
  unfold bodyD
  rw [he]
  by_cases h : c = 36
  ·subst h
   rw [if_pos (by simp), L_ext, e, show p.size - 1 - 0 = l.length from by omega]
   simp
  ·have h' : (c == 36) = false := by simpa using h
   rw [h', if_neg (by simp), e, Bool.or_false]
   simp
 ·have : L p = [] := List.length_eq_zero_iff.1 (by rw [L_size]; omega)
  have h1 : endsD p = false := by unfold endsD; rw [this]; rfl
  unfold bodyD
  rw [h1, if_neg (by simp), this]; rfl
def ruleOk (p : ByteArray) : Bool := decide (1 ≤ p.size) && decide (p.size ≤ 16) && (bt p 0 == 47) && okL (L p)
theorem ok_impl_l (s : ByteArray) (hs : s.size ≤ 1000000) : ∀ (l : List UInt8) (i : Nat), (L s).drop i = l → Ev (fun k => impl_RuleOk.l0 k s (i : Int)) (l.all patB)
 | [], i, h => by
  have := bt_end h
  have n1 : ¬ ((i : Int) < (s.size : Int)) := by omega
  refine Ev_succ ?_
  simp only [impl_RuleOk.l0, n1, if_false]
  exact Ev.now _
 | x :: xs, i, h => by
  obtain ⟨hi, hb, hd⟩ := bt_at h
  have e1 : wrap64 ((i : Int) + 1) = ((i + 1 : Nat) : Int) := by rw [w64 (by omega) (by omega)]; rfl
  have f1 : (i : Int) < (s.size : Int) := by omega
  have f2 : (0 : Int) ≤ (i : Int) := by omega
  refine Ev_succ ?_
  simp only [impl_RuleOk.l0, e1, f1, f2, if_true, hb, pat_f, Option.bind_some, List.all_cons]
  by_cases e : patB x = true
  ·simp only [e, if_true, Bool.true_and]
   exact ok_impl_l s hs xs (i + 1) hd
  ·simp only [e, if_false, Bool.not_eq_true] at e ⊢
   simp only [e, Bool.false_and, Bool.false_eq_true, if_false]
   exact Ev.now _
theorem ruleOk_impl (p : ByteArray) (hp : p.size ≤ 140737488351232) : Ev (fun k => impl_RuleOk.f k p) (ruleOk p) := by
 unfold impl_RuleOk.f ruleOk
 by_cases h1 : p.size < 1
 ·have n1 : (p.size : Int) < 1 := by omega
  have n2 : ¬ 1 ≤ p.size := by omega
  simp only [n1, if_true, n2, decide_false, Bool.false_and]
  refine Ev_succ ?_
  simp only [impl_RuleOk.j0, if_true]
  exact Ev.now _
 ·have n1 : ¬ (p.size : Int) < 1 := by omega
  have n1' : 1 ≤ p.size := by omega
  by_cases h2 : p.size ≤ 16
  ·have n2 : ¬ (p.size : Int) > 16 := by omega
   have n3 : (0 : Int) < (p.size : Int) := by omega
   simp only [n1, n2, n3, n1', h2, if_true, if_false, decide_true, Bool.true_and]
   refine Ev_succ ?_
   by_cases h3 : bt p 0 = 47
   ·simp only [impl_RuleOk.j0, h3, bne_self_eq_false, Bool.false_eq_true, if_false, beq_self_eq_true, Bool.true_and, trim_f p hp, Option.bind_some]
    have := ok_impl_l (bodyD p) (by have := body_size p; omega) _ 0 rfl
    rw [List.drop_zero, body_ok] at this
    exact this
   ·have h4 : (bt p 0 != 47) = true := by simpa using h3
    have h5 : (bt p 0 == 47) = false := by simpa using h3
    simp only [impl_RuleOk.j0, h4, h5, if_true, Bool.false_and]
    exact Ev.now _
  ·have n2 : (p.size : Int) > 16 := by omega
   simp only [n1, n2, n1', h2, if_true, if_false, decide_true, decide_false, Bool.true_and, Bool.false_and]
   refine Ev_succ ?_
   simp only [impl_RuleOk.j0, if_true]
   exact Ev.now _
theorem plain_f (c : UInt8) : spec_l1Plain.f (c.toNat : Int) = some (plainB c) := by
 have := plain_all c.toNat c.toNat_lt
 rwa [of_toNat] at this
theorem ok_spec_l (s : ByteArray) (hs : s.size ≤ 1000000) : ∀ (l : List UInt8) (i : Nat), (L s).drop i = l → Ev (fun k => spec_RuleOk.l0 k s (i : Int)) (okL l)
 | [], i, h => by
  have := bt_end h
  have n1 : ¬ ((i : Int) < (s.size : Int)) := by omega
  refine Ev_succ ?_
  simp only [spec_RuleOk.l0, n1, if_false]
  exact Ev.now _
 | x :: xs, i, h => by
  obtain ⟨hi, hb, hd⟩ := bt_at h
  have e1 : wrap64 ((i : Int) + 1) = ((i + 1 : Nat) : Int) := by rw [w64 (by omega) (by omega)]; rfl
  have e2 : wrap64 ((s.size : Int) - 1) = (s.size : Int) - 1 := w64 (by omega) (by omega)
  have f1 : (i : Int) < (s.size : Int) := by omega
  have f2 : (0 : Int) ≤ (i : Int) := by omega
  have hx : xs.length + (i + 1) = s.size := by rw [← L_size, ← hd, List.length_drop]; rw [L_size]; omega
  have hE : xs.isEmpty = decide ((i : Int) = (s.size : Int) - 1) := by
   cases xs with
   | nil => simp at hx ⊢; omega
   | cons y ys => simp at hx ⊢; omega
  have ih := ok_spec_l s hs xs (i + 1) hd
  have c1 : ((x.toNat : Int) = 47) ↔ (x == 47) = true := by rw [beq_iff_eq]; exact u8_eq (b := 47)
  have c2 : ((x.toNat : Int) = 42) ↔ (x == 42) = true := by rw [beq_iff_eq]; exact u8_eq (b := 42)
  have c3 : ((x.toNat : Int) = 63) ↔ (x == 63) = true := by rw [beq_iff_eq]; exact u8_eq (b := 63)
  have c4 : ((x.toNat : Int) = 37) ↔ (x == 37) = true := by rw [beq_iff_eq]; exact u8_eq (b := 37)
  have c5 : ((x.toNat : Int) = 36) ↔ (x == 36) = true := by rw [beq_iff_eq]; exact u8_eq (b := 36)
  have c6 : ((x.toNat : Int) ≥ 65) ↔ (decide (65 ≤ x.toNat)) = true := by rw [decide_eq_true_eq]; omega
  have c7 : ((x.toNat : Int) ≤ 70) ↔ (decide (x.toNat ≤ 70)) = true := by rw [decide_eq_true_eq]; omega
  have c8 : ((i : Int) = (s.size : Int) - 1) ↔ xs.isEmpty = true := by rw [hE, decide_eq_true_eq]
  refine Ev_succ ?_
  simp only [spec_RuleOk.l0, e1, e2, f1, f2, if_true, hb, plain_f, Option.bind_some, okL, patB, c1, c2, c3, c4, c5, c6, c7, c8]
  have yes : Ev (fun k => spec_RuleOk.l0 k s ((i + 1 : Nat) : Int)) (true && okL xs) := by rw [Bool.true_and]; exact ih
  have no : Ev (fun k => some false) (false && okL xs) := by rw [Bool.false_and]; exact Ev.now _
  cases plainB x
  ·cases (x == 47)
   ·cases (x == 42)
    ·cases (x == 63)
     ·cases (x == 37)
      ·cases (x == 36) <;> cases xs.isEmpty <;> cases decide (65 ≤ x.toNat) <;> cases decide (x.toNat ≤ 70) <;> first | exact yes | exact no
      ·exact yes
     ·exact yes
    ·exact yes
   ·exact yes
  ·exact yes
theorem ruleOk_spec (p : ByteArray) : Ev (fun k => spec_RuleOk.f k p) (ruleOk p) := by
 unfold spec_RuleOk.f ruleOk
 by_cases h2 : p.size ≤ 16
 ·have n2 : ¬ (p.size : Int) > 16 := by omega
  by_cases h1 : p.size = 0
  ·have z := toList_nil.2 h1
   have n1 : ¬ 1 ≤ p.size := by omega
   simp only [n2, if_false, z, if_true, n1, decide_false, Bool.false_and]
   refine Ev_succ ?_
   simp only [spec_RuleOk.j0, if_true]
   exact Ev.now _
  ·have z : ¬ p.toList = [] := fun e => h1 (toList_nil.1 e)
   have n1 : 1 ≤ p.size := by omega
   have n3 : (0 : Int) < (p.size : Int) := by omega
   simp only [n2, n1, n3, z, h2, if_true, if_false, decide_true, Bool.true_and]
   refine Ev_succ ?_
   by_cases h3 : bt p 0 = 47
   ·simp only [spec_RuleOk.j0, h3, bne_self_eq_false, Bool.false_eq_true, if_false, beq_self_eq_true, Bool.true_and]
    have := ok_spec_l p (by omega) _ 0 rfl
    rw [List.drop_zero] at this
    exact this
   ·have h4 : (bt p 0 != 47) = true := by simpa using h3
    have h5 : (bt p 0 == 47) = false := by simpa using h3
    simp only [spec_RuleOk.j0, h4, h5, if_true, Bool.false_and]
    exact Ev.now _
 ·have n2 : (p.size : Int) > 16 := by omega
  simp only [n2, h2, if_true, decide_false, Bool.and_false, Bool.false_and]
  refine Ev_succ ?_
  simp only [spec_RuleOk.j0, if_true]
  exact Ev.now _
end Go.Proofs.Ythojnmcnlgcbnaa.Ad
end
section
namespace Go.Proofs.Ythojnmcnlgcbnaa.Ad
open Go.RowKit Go.Proofs.Ythojnmcnlgcbnaa.P Go.Proofs.YthojnmcnlgcbnaaW.PrintWords Go.Proofs.YthojnmcnlgcbnaaW.PrintLast Go.Proofs.YthojnmcnlgcbnaaW.PrintMore Go.Proofs.Ythojnmcnlgcbnaa.B
set_option linter.unusedVariables false
set_option linter.unusedSimpArgs false
def ruleHas (p s : ByteArray) : Bool := ruleOk p && decide (s.size ≤ 60) && dp (L s) (endsD p) (L (bodyD p))
structure Rp (s : ByteArray) (P : Nat → Bool) (l : List Bool) : Prop where
 len : l.length = s.size + 1
 at_ : ∀ j, j ≤ s.size → l.getD j false = P j
theorem rd_nat (l : List Bool) (j : Nat) : rdOf false l (j : Int) = l.getD j false := by unfold rdOf; rw [Int.toNat_natCast]
theorem getD_set (l : List Bool) (i j : Nat) (v : Bool) (hi : i < l.length) : (l.set i v).getD j false = if j = i then v else l.getD j false := by
 rw [List.getD_eq_getElem?_getD, List.getD_eq_getElem?_getD, List.getElem?_set]
 by_cases e : i = j
 ·subst e; simp [hi]
 ·rw [if_neg e, if_neg (Ne.symm e)]
theorem has_in (s b : ByteArray) (ends : Bool) (i : Nat) (c : UInt8) (P : Nat → Bool) (hs : s.size ≤ 60) (hi : i < b.size) (hc : bt b (i : Int) = (c.toNat : Int)) (l : List Bool) (hl : Rp s P l) {r : Bool}
  (H : ∀ x, Rp s (nx (L s) P c) x → Ev (fun k => impl_RuleHas.l0 k s b ends x (wrap64 ((i : Int) + 1))) r) (d : Nat) :
  ∀ (j : Nat) (x : List Bool), j + d = s.size + 1 → x.length = s.size + 1 → (∀ m, m < j → x.getD m false = nx (L s) P c m) →
  Ev (fun k => impl_RuleHas.l1 k s b ends l (i : Int) x ((s.size + 1 : Nat) : Int) (j : Int)) r := by
 induction d with
 | zero =>
  intro j x hj hx hm
  have n1 : ¬ ((j : Int) < ((s.size + 1 : Nat) : Int)) := by omega
  refine Ev_succ ?_
  simp only [impl_RuleHas.l1, n1, if_false]
  exact H x ⟨hx, fun m h => hm m (by omega)⟩
 | succ d ih =>
  intro j x hj hx hm
  have f1 : (j : Int) < ((s.size + 1 : Nat) : Int) := by omega
  have f2 : (0 : Int) ≤ (i : Int) := by omega
  have f3 : (i : Int) < (b.size : Int) := by omega
  have f4 : (0 : Int) ≤ (j : Int) := by omega
  have f5 : (j : Int) < (l.length : Int) := by rw [hl.len]; exact f1
  have f6 : (j : Int) < (x.length : Int) := by rw [hx]; exact f1
  have e1 : wrap64 ((j : Int) + 1) = ((j + 1 : Nat) : Int) := by rw [w64 (by omega) (by omega)]; rfl
  have step : ∀ v, v = nx (L s) P c j → Ev (fun k => impl_RuleHas.l1 k s b ends l (i : Int) (x.set ((j : Int)).toNat v) ((s.size + 1 : Nat) : Int) ((j + 1 : Nat) : Int)) r := by
   intro v hv
   refine ih (j + 1) _ (by omega) (by rw [List.length_set]; exact hx) (fun m hlt => ?_)
   rw [Int.toNat_natCast, getD_set _ _ _ _ (by omega)]
   by_cases e : m = j
   ·rw [if_pos e, hv, e]
   ·rw [if_neg e]; exact hm m (by omega)
  have hP : rdOf false l (j : Int) = P j := by rw [rd_nat]; exact hl.at_ j (by omega)
  have c42 : ((c.toNat : Int) = 42) ↔ c = 42 := u8_eq (b := 42)
  refine Ev_succ ?_
  simp only [impl_RuleHas.l1, f1, f2, f3, f4, f5, f6, if_true, hc, c42, e1, hP]
  cases j with
  | zero =>
   have g1 : ¬ ((((0 : Nat) : Int)) > 0) := by omega
   simp only [g1, if_false]
   by_cases e : c = 42
   ·simp only [e, if_true]
    by_cases e2 : P 0 = true
    ·simp only [e2, if_true]
     exact step true (by simp [nx, e, e2])
    ·simp only [e2, if_false]
     exact step false (by simp [nx, e, e2])
   ·simp only [e, if_false]
    exact step false (by simp [nx, e])
  | succ j =>
   have g1 : ((j + 1 : Nat) : Int) > 0 := by omega
   have g2 : wrap64 (((j + 1 : Nat) : Int) - 1) = (j : Int) := by rw [w64 (by omega) (by omega)]; omega
   have g3 : (0 : Int) ≤ (j : Int) := by omega
   have g4 : (j : Int) < (x.length : Int) := by omega
   have g5 : (j : Int) < (l.length : Int) := by omega
   have g6 : (j : Int) < (s.size : Int) := by omega
   have hP' : rdOf false l (j : Int) = P j := by rw [rd_nat]; exact hl.at_ j (by omega)
   have hX : rdOf false x (j : Int) = nx (L s) P c j := by rw [rd_nat]; exact hm j (by omega)
   have hb : (bt s (j : Int) == (c.toNat : Int)) = ((L s).getD j 0 == c) := by
    rw [bt_L, Bool.eq_iff_iff, beq_iff_eq, beq_iff_eq]; exact u8_eq
   have hj' : j < (L s).length := by rw [L_size]; omega
   simp only [g1, g2, g3, g4, g5, g6, if_true, hP', hX, hb]
   by_cases e : c = 42
   ·simp only [e, if_true]
    by_cases e2 : P (j + 1) = true
    ·simp only [e2, if_true]
     exact step true (by simp [nx, e, e2])
    ·simp only [e2, if_false]
     rw [e] at step
     exact step _ (by simp [nx, e2])
   ·simp only [e, if_false]
    by_cases e2 : P j = true
    ·simp only [e2, if_true]
     exact step _ (by simp only [nx, if_neg e, e2, hj', decide_true, Bool.true_and])
    ·simp only [e2, if_false]
     exact step false (by simp [nx, if_neg e, e2])
theorem index_l (l : List Bool) (hl : l.length ≤ 1000) (d : Nat) : ∀ i : Nat, i + d = l.length →
  ∃ t : Int, Ev (fun k => slices_Index_bool_bool.l0 k l true (l.length : Int) (i : Int)) t ∧ (t ≥ 0 ↔ ∃ j, i ≤ j ∧ j < l.length ∧ l.getD j false = true) := by
 induction d with
 | zero =>
  intro i hi
  have n1 : ¬ ((i : Int) < (l.length : Int)) := by omega
  refine ⟨-1, Ev_succ ?_, ?_⟩
  ·simp only [slices_Index_bool_bool.l0, n1, if_false]; exact Ev.now _
  ·constructor
   ·intro h; omega
   ·rintro ⟨j, h1, h2, _⟩; omega
 | succ d ih =>
  intro i hi
  have f1 : (i : Int) < (l.length : Int) := by omega
  have f2 : (0 : Int) ≤ (i : Int) := by omega
  have e1 : wrap64 ((i : Int) + 1) = ((i + 1 : Nat) : Int) := by rw [w64 (by omega) (by omega)]; rfl
  by_cases h : l.getD i false = true
  ·refine ⟨(i : Int), Ev_succ ?_, ?_⟩
   ·simp only [slices_Index_bool_bool.l0, f1, f2, if_true, rd_nat, h, beq_self_eq_true]; exact Ev.now _
   ·exact ⟨fun _ => ⟨i, Nat.le_refl _, by omega, h⟩, fun _ => by omega⟩
  ·obtain ⟨t, h1, h2⟩ := ih (i + 1) (by omega)
   have h' : l.getD i false = false := by simpa using h
   refine ⟨t, Ev_succ ?_, ?_⟩
   ·simp only [slices_Index_bool_bool.l0, f1, f2, if_true, rd_nat, h', e1]
    simpa using h1
   ·rw [h2]
    constructor
    ·rintro ⟨j, p1, p2, p3⟩; exact ⟨j, by omega, p2, p3⟩
    ·rintro ⟨j, p1, p2, p3⟩
     by_cases e : j = i
     ·subst e; exact absurd p3 h
     ·exact ⟨j, by omega, p2, p3⟩
theorem has_out (s b : ByteArray) (ends : Bool) (hs : s.size ≤ 60) (hb : b.size ≤ 1000) : ∀ (q : List UInt8) (i : Nat) (P : Nat → Bool) (l : List Bool), (L b).drop i = q → Rp s P l →
  Ev (fun k => impl_RuleHas.l0 k s b ends l (i : Int)) (fin0 (L s) ends (q.foldl (nx (L s)) P))
 | [], i, P, l, h, hl => by
  have := bt_end h
  have n1 : ¬ ((i : Int) < (b.size : Int)) := by omega
  refine Ev_succ ?_
  simp only [impl_RuleHas.l0, n1, if_false, List.foldl_nil]
  cases ends with
  | true =>
   have f1 : (0 : Int) ≤ (s.size : Int) := by omega
   have f2 : (s.size : Int) < (l.length : Int) := by rw [hl.len]; omega
   have : rdOf false l (s.size : Int) = P s.size := by rw [rd_nat]; exact hl.at_ _ (Nat.le_refl _)
   simp only [f1, f2, if_true, this, fin0, L_size]
   exact Ev.now _
  | false =>
   obtain ⟨t, h1, h2⟩ := index_l l (by rw [hl.len]; omega) l.length 0 (by omega)
   simp only [Bool.false_eq_true, if_false]
   have hc : Ev (fun k => slices_Contains_bool_bool.f k l true) (decide (t ≥ 0)) := by
    unfold slices_Contains_bool_bool.f slices_Index_bool_bool.f
    exact Ev.bind h1 (Ev.now _)
   have e : decide (t ≥ 0) = fin0 (L s) false P := by
    rw [Bool.eq_iff_iff, decide_eq_true_eq, h2, fin0_any, L_size, hl.len]
    constructor
    ·rintro ⟨j, _, p2, p3⟩; exact ⟨j, by omega, by rw [← hl.at_ j (by omega)]; exact p3⟩
    ·rintro ⟨j, p2, p3⟩; exact ⟨j, by omega, by omega, by rw [hl.at_ j (by omega)]; exact p3⟩
   rw [← e]
   exact Ev.bind hc (Ev.now _)
 | c :: q, i, P, l, h, hl => by
  obtain ⟨hi, hc, hd⟩ := bt_at h
  have f1 : (i : Int) < (b.size : Int) := by omega
  have w1 : wrap64 ((s.size : Int) + 1) = ((s.size + 1 : Nat) : Int) := by rw [w64 (by omega) (by omega)]; rfl
  have f2 : (0 : Int) ≤ ((s.size + 1 : Nat) : Int) := by omega
  have f3 : s.size + 1 ≤ 281474976710656 := by omega
  have e1 : wrap64 ((i : Int) + 1) = ((i + 1 : Nat) : Int) := by rw [w64 (by omega) (by omega)]; rfl
  refine Ev_succ ?_
  simp only [impl_RuleHas.l0, f1, w1, f2, Int.toNat_natCast, f3, if_true, Option.bind_some, List.length_replicate]
  refine has_in s b ends i c P hs hi hc l hl (fun x hx => ?_) (s.size + 1) 0 _ (by omega) (by rw [List.length_replicate]) (fun m hm => absurd hm (by omega))
  rw [e1]
  exact has_out s b ends hs hb q (i + 1) _ x hd hx
theorem has_impl (p s : ByteArray) (hp : p.size ≤ 140737488351232) (hs : s.size ≤ 140737488351232) : Ev (fun k => impl_RuleHas.f k p s) (ruleHas p s) := by
 unfold impl_RuleHas.f ruleHas
 refine Ev.bind (ruleOk_impl p hp) ?_
 by_cases h : ruleOk p = true
 ·simp only [h, if_true, Bool.true_and]
  refine Ev_succ ?_
  by_cases h2 : s.size ≤ 60
  ·have hp16 : p.size ≤ 16 := by
    unfold ruleOk at h
    simp only [Bool.and_eq_true, decide_eq_true_eq] at h
    exact h.1.1.2
   have n2 : ¬ ((s.size : Int) > 60) := by omega
   have w1 : wrap64 ((s.size : Int) + 1) = ((s.size + 1 : Nat) : Int) := by rw [w64 (by omega) (by omega)]; rfl
   have f2 : (0 : Int) ≤ ((s.size + 1 : Nat) : Int) := by omega
   have f3 : s.size + 1 ≤ 281474976710656 := by omega
   have f4 : (0 : Int) < ((s.size + 1 : Nat) : Int) := by omega
   have cut : strings_CutSuffix.f p (⟨#[36]⟩ : ByteArray) = some (bodyD p, endsD p) := by
    simp only [strings_CutSuffix.f, stringslite_CutSuffix.f, suf_f p hp, Option.bind_some, bodyD, sz36]
    by_cases h : endsD p = true
    ·have := ends_size h
     have w : wrap64 ((p.size : Int) - ((1 : Nat) : Int)) = ((p.size - 1 : Nat) : Int) := by rw [w64 (by omega) (by omega)]; omega
     rw [if_pos h, if_pos h, w, if_pos (by omega), if_pos (by omega), Int.toNat_natCast, h]; rfl
    ·have h' : endsD p = false := by simpa using h
     rw [if_neg h, if_neg h, h']; rfl
   simp only [impl_RuleHas.j0, n2, decide_false, Bool.false_eq_true, if_false, cut, Option.bind_some, w1, f2, Int.toNat_natCast, f3, if_true, List.length_replicate, f4, h2, decide_true, Bool.true_and]
   refine has_out s (bodyD p) (endsD p) h2 (by have := body_size p; omega) (L (bodyD p)) 0 _ _ rfl ⟨by rw [List.length_set, List.length_replicate], fun j hj => ?_⟩
   rw [show (0 : Int).toNat = 0 from rfl, getD_set _ _ _ _ (by rw [List.length_replicate]; omega)]
   by_cases e : j = 0
   ·subst e; rfl
   ·rw [if_neg e, List.getD_eq_getElem?_getD, List.getElem?_replicate, if_pos (by omega)]
    simp [e]
  ·have n2 : (s.size : Int) > 60 := by omega
   simp only [impl_RuleHas.j0, n2, decide_true, if_true, h2, decide_false, Bool.false_and]
   exact Ev.now _
 ·have h' : ruleOk p = false := by simpa using h
  simp only [h', Bool.false_eq_true, if_false, Bool.false_and]
  refine Ev_succ ?_
  simp only [impl_RuleHas.j0, if_true]
  exact Ev.now _
def fndI (o : Option Nat) : Int := match o with
 | some k => (k : Int)
 | none => -1
theorem find_l (s q : ByteArray) (hs : s.size ≤ 1000) (hq : q.size ≤ 1000) : ∀ (d i : Nat), i ≤ 100000 → s.size + 1 ≤ i + d → Ev (fun k => spec_l2Find.l0 k s q (i : Int)) (fndI (fnd (L s) (L q) d i)) := by
 intro d
 induction d with
 | zero =>
  intro i hb hd
  have w : wrap64 ((i : Int) + (q.size : Int)) = ((i + q.size : Nat) : Int) := by rw [w64 (by omega) (by omega)]; rfl
  have n1 : ¬ (((i + q.size : Nat) : Int) ≤ (s.size : Int)) := by omega
  refine Ev_succ ?_
  simp only [spec_l2Find.l0, w, n1, if_false, fnd, fndI]
  exact Ev.now _
 | succ d ih =>
  intro i hb hd
  have w : wrap64 ((i : Int) + (q.size : Int)) = ((i + q.size : Nat) : Int) := by rw [w64 (by omega) (by omega)]; rfl
  have e1 : wrap64 ((i : Int) + 1) = ((i + 1 : Nat) : Int) := by rw [w64 (by omega) (by omega)]; rfl
  have f2 : (0 : Int) ≤ (i : Int) := by omega
  have f3 : (i : Int) ≤ ((i + q.size : Nat) : Int) := by omega
  refine Ev_succ ?_
  simp only [fnd, L_size]
  by_cases h1 : i + q.size ≤ s.size
  ·have n1 : ((i + q.size : Nat) : Int) ≤ (s.size : Int) := by omega
   have hx : ((s.extract i (i + q.size)).toList = q.toList) ↔ (((L s).drop i).take q.size = L q) := by
    rw [toList_inj]
    constructor
    ·intro h
     have := congrArg L h
     rw [L_ext, show i + q.size - i = q.size from by omega] at this
     exact this
    ·intro h
     apply L_inj
     rw [L_ext, show i + q.size - i = q.size from by omega]
     exact h
   simp only [spec_l2Find.l0, w, e1, n1, f2, f3, if_true, Int.toNat_natCast, hx, h1]
   by_cases h2 : ((L s).drop i).take q.size = L q
   ·simp only [h2, if_true, fndI]; exact Ev.now _
   ·simp only [h2, if_false]
    exact ih (i + 1) (by omega) (by omega)
  ·have n1 : ¬ (((i + q.size : Nat) : Int) ≤ (s.size : Int)) := by omega
   simp only [spec_l2Find.l0, w, n1, if_false, h1, fndI]
   exact Ev.now _
theorem rd_map (ps : List (List UInt8)) (i : Nat) (h : i < ps.length) : rdOf ByteArray.empty (ps.map ofL) (i : Int) = ofL ps[i] := by
 unfold rdOf
 rw [Int.toNat_natCast, List.getD_eq_getElem?_getD, List.getElem?_map, List.getElem?_eq_getElem h]; rfl
theorem gr_l (s : ByteArray) (hs : s.size ≤ 1000) (ends : Bool) (ps : List (List UInt8)) (hl : ps.length ≤ 1000) (hp : ∀ p ∈ ps, p.length ≤ 1000) : ∀ (d i a : Nat), i + d = ps.length → a ≤ s.size →
  Ev (fun k => spec_l2Has.l0 k s ends (ps.map ofL) (a : Int) (i : Int)) (gr (L s) ends (ps.drop i) a) := by
 intro d
 induction d with
 | zero =>
  intro i a hi ha
  have n1 : ¬ ((i : Int) < (((ps.map ofL).length : Nat) : Int)) := by rw [List.length_map]; omega
  rw [List.drop_eq_nil_of_le (by omega)]
  refine Ev_succ ?_
  simp only [spec_l2Has.l0, n1, if_false, gr, L_size]
  cases ends
  ·simp only [Bool.false_eq_true, if_false, Bool.not_false, Bool.true_or]; exact Ev.now _
  ·simp only [if_true, Bool.not_true, Bool.false_or]
   have : ((a : Int) == (s.size : Int)) = (a == s.size) := by
    rw [Bool.eq_iff_iff, beq_iff_eq, beq_iff_eq]; omega
   rw [this]
   exact Ev.now _
 | succ d ih =>
  intro i a hi ha
  have hi' : i < ps.length := by omega
  have f1 : (i : Int) < (((ps.map ofL).length : Nat) : Int) := by rw [List.length_map]; omega
  have f2 : (0 : Int) ≤ (i : Int) := by omega
  have w1 : wrap64 ((((ps.map ofL).length : Nat) : Int) - 1) = ((ps.length : Int) - 1) := by rw [List.length_map, w64 (by omega) (by omega)]
  have e1 : wrap64 ((i : Int) + 1) = ((i + 1 : Nat) : Int) := by rw [w64 (by omega) (by omega)]; rfl
  have hr := rd_map ps i hi'
  have hm : ps[i].length ≤ 1000 := hp _ (List.getElem_mem hi')
  have hz : (ofL ps[i]).size = ps[i].length := ofL_size _
  rw [List.drop_eq_getElem_cons hi']
  generalize ps[i] = q at hr hm hz ⊢
  simp only [gr]
  have go : ∀ x, x = false → Ev (fun k => spec_l2Has.j3 k s ends (ps.map ofL) (a : Int) (i : Int) x) (match fnd (L s) q ((L s).length + 1 - a) a with
    | none => false
    | some k => gr (L s) ends (ps.drop (i + 1)) (k + q.length)) := by
   rintro _ rfl
   refine Ev_succ ?_
   simp only [spec_l2Has.j3, Bool.false_eq_true, if_false, f1, f2, if_true, hr, e1]
   have hf := find_l s (ofL q) hs (by omega) ((L s).length + 1 - a) a (by omega) (by rw [L_size]; omega)
   rw [L_of] at hf
   cases ho : fnd (L s) q ((L s).length + 1 - a) a with
   | none =>
    rw [ho] at hf
    refine Ev.bind hf ?_
    simp only [fndI, show ((-1 : Int) < 0) from by omega, if_true]
    exact Ev.now _
   | some k =>
    rw [ho] at hf
    have hk := (fnd_some _ _ _ ho).2.1.1
    rw [L_size] at hk
    refine Ev.bind hf ?_
    have n1 : ¬ ((k : Int) < 0) := by omega
    have w2 : wrap64 ((k : Int) + ((ofL q).size : Int)) = ((k + q.length : Nat) : Int) := by rw [hz, w64 (by omega) (by omega)]; rfl
    simp only [fndI, n1, if_false, w2]
    exact ih (i + 1) (k + q.length) (by omega) hk
  refine Ev_succ ?_
  simp only [spec_l2Has.l0, f1, if_true, w1]
  by_cases he : ends = true ∧ ps.drop (i + 1) = []
  ·obtain ⟨rfl, hn⟩ := he
   have : ps.length ≤ i + 1 := List.drop_eq_nil_iff.1 hn
   have hx : ((i : Int) == (ps.length : Int) - 1) = true := by rw [beq_iff_eq]; omega
   simp only [hx, hn, if_true, and_self]
   refine Ev_succ ?_
   have w2 : wrap64 ((s.size : Int) - ((ofL q).size : Int)) = (s.size : Int) - (q.length : Int) := by rw [hz, w64 (by omega) (by omega)]
   simp only [spec_l2Has.j3, if_true, f1, f2, hr, w2]
   by_cases h1 : a + q.length ≤ s.size
   ·have g1 : (s.size : Int) - (q.length : Int) ≥ (a : Int) := by omega
    have g2 : (0 : Int) ≤ (s.size : Int) - (q.length : Int) := by omega
    have g3 : (s.size : Int) - (q.length : Int) ≤ (s.size : Int) := by omega
    have g4 : ((s.size : Int) - (q.length : Int)).toNat = s.size - q.length := by omega
    have hx : ((s.extract (s.size - q.length) s.size).toList == (ofL q).toList) = ((L s).drop (s.size - q.length) == q) := by
     rw [Bool.eq_iff_iff, beq_iff_eq, beq_iff_eq, toList_inj]
     have e : L (s.extract (s.size - q.length) s.size) = (L s).drop (s.size - q.length) := by
      rw [L_ext, List.take_of_length_le]
      rw [List.length_drop, L_size]; omega
     constructor
     ·intro h
      have := congrArg L h
      rw [e, L_of] at this
      exact this
     ·intro h
      apply L_inj
      rw [e, L_of]; exact h
    simp only [g1, g2, g3, g4, if_true, hx, L_size, h1, decide_true, Bool.true_and]
    exact Ev.now _
   ·have g1 : ¬ ((s.size : Int) - (q.length : Int) ≥ (a : Int)) := by omega
    simp only [g1, if_false, L_size, h1, decide_false, Bool.false_and]
    exact Ev.now _
  ·rw [if_neg he]
   cases ends with
   | false => exact go false rfl
   | true =>
    have hn : ps.drop (i + 1) ≠ [] := fun h => he ⟨rfl, h⟩
    have : ¬ ps.length ≤ i + 1 := fun h => hn (List.drop_eq_nil_iff.2 h)
    have hx : ((i : Int) == (ps.length : Int) - 1) = false := by
     rw [← Bool.not_eq_true, beq_iff_eq]; omega
    simp only [if_true]
    exact go _ hx
theorem l2Has_ev (p s : ByteArray) (h1 : 1 ≤ p.size) (hp : p.size ≤ 16) (hs : s.size ≤ 60) : Ev (fun k => spec_l2Has.f k p s) (hasG (L s) (endsD p) (L (bodyD p))) := by
 have j : ∀ (b : ByteArray) (e : Bool), b.size ≤ 16 → Ev (fun k => spec_l2Has.j0 k b s e) (hasG (L s) e (L b)) := by
  intro b e hb
  refine Ev_succ ?_
  simp only [spec_l2Has.j0]
  refine Ev.bind (split_ev b 42 (by omega)) ?_
  have hlen := splitL_len 42 (L b)
  have hmem := splitL_mem 42 (L b)
  rw [L_size] at hlen hmem
  unfold hasG
  cases hsp : splitL 42 (L b) with
  | nil => exact absurd hsp (splitL_ne _ _)
  | cons q qs =>
   rw [hsp] at hlen hmem
   have hq : q.length ≤ b.size := hmem q List.mem_cons_self
   have r0 : rdOf ByteArray.empty ((q :: qs).map ofL) 0 = ofL q := rfl
   have l0 : (0 : Int) < ((((q :: qs).map ofL).length : Nat) : Int) := by rw [List.length_map, List.length_cons]; omega
   have hz : (ofL q).size = q.length := ofL_size q
   simp only [l0, if_true, r0, hz]
   by_cases hc : q.length ≤ s.size
   ·have n1 : ¬ ((q.length : Int) > (s.size : Int)) := by omega
    have n2 : (0 : Int) ≤ (q.length : Int) := by omega
    have n3 : (q.length : Int) ≤ (s.size : Int) := by omega
    have hx : ((s.extract 0 q.length).toList != (ofL q).toList) = !((L s).take q.length == q) := by
     rw [bne]
     congr 1
     rw [Bool.eq_iff_iff, beq_iff_eq, beq_iff_eq, toList_inj]
     constructor
     ·intro h
      have := congrArg L h
      rw [L_ext, L_of] at this
      simpa using this
     ·intro h
      apply L_inj
      rw [L_ext, L_of]; simpa using h
    simp only [n1, n2, n3, if_true, if_false, Int.toNat_natCast, hx, L_size, hc, decide_true, Bool.true_and]
    refine Ev_succ ?_
    simp only [spec_l2Has.j1]
    by_cases he : ((L s).take q.length == q) = true
    ·simp only [he, Bool.not_true, Bool.false_eq_true, if_false, Bool.true_and]
     exact gr_l s (by omega) e (q :: qs) (by omega) (fun p hp => by have := hmem p hp; omega) qs.length 1 q.length (by rw [List.length_cons]; omega) hc
    ·have he' : ((L s).take q.length == q) = false := by simpa using he
     simp only [he', Bool.not_false, if_true, Bool.false_and]
     exact Ev.now _
   ·have n1 : (q.length : Int) > (s.size : Int) := by omega
    simp only [n1, if_true, L_size, hc, decide_false, Bool.false_and]
    refine Ev_succ ?_
    simp only [spec_l2Has.j1, if_true]
    exact Ev.now _
 obtain ⟨l, c, e, hl⟩ := L_last h1
 have he : endsD p = (c == 36) := by unfold endsD; rw [e]; simp
 have w : wrap64 ((p.size : Int) - 1) = ((p.size - 1 : Nat) : Int) := by rw [w64 (by omega) (by omega)]; omega
 have hb : bt p ((p.size - 1 : Nat) : Int) = (c.toNat : Int) := by
  rw [bt_L, e, List.getD_eq_getElem?_getD, show p.size - 1 = l.length from by omega]
  simp
 have f1 : (0 : Int) ≤ ((p.size - 1 : Nat) : Int) := by omega
 have f2 : ((p.size - 1 : Nat) : Int) < (p.size : Int) := by omega
 have f3 : ((p.size - 1 : Nat) : Int) ≤ (p.size : Int) := by omega
 have c36 : ((c.toNat : Int) = 36) ↔ c = 36 := u8_eq (b := 36)
 have c36b : ((c.toNat : Int) == 36) = (c == 36) := by rw [Bool.eq_iff_iff, beq_iff_eq, beq_iff_eq, c36]
 unfold spec_l2Has.f bodyD
 simp only [w, f1, f2, f3, if_true, hb, c36, c36b, he, Int.toNat_natCast]
 by_cases hc : c = 36
 ·have hc' : (c == 36) = true := by simpa using hc
  simp only [hc', if_true, hc]
  have := j (p.extract 0 (p.size - 1)) true (by rw [ByteArray.size_extract]; omega)
  simpa using this
 ·have hc' : (c == 36) = false := by simpa using hc
  simp only [hc', hc, Bool.false_eq_true, if_false]
  exact j p false hp
theorem has_spec (p s : ByteArray) : Ev (fun k => spec_RuleHas.f k p s) (ruleHas p s) := by
 unfold spec_RuleHas.f ruleHas
 refine Ev.bind (ruleOk_spec p) ?_
 by_cases h : ruleOk p = true
 ·have h' := h
  unfold ruleOk at h'
  simp only [Bool.and_eq_true, decide_eq_true_eq] at h'
  simp only [h, if_true, Bool.true_and]
  by_cases h2 : s.size ≤ 60
  ·have n2 : (s.size : Int) ≤ 60 := by omega
   simp only [n2, if_true, h2, decide_true, Bool.true_and, dp_has]
   exact Ev.bind (l2Has_ev p s h'.1.1.1 h'.1.1.2 h2) (Ev.now _)
  ·have n2 : ¬ ((s.size : Int) ≤ 60) := by omega
   simp only [n2, if_false, h2, decide_false, Bool.false_and]
   exact Ev.now _
 ·have h' : ruleOk p = false := by simpa using h
  simp only [h', Bool.false_eq_true, if_false, Bool.false_and]
  exact Ev.now _
theorem has_size {p s : ByteArray} (h : ruleHas p s = true) : 1 ≤ p.size := by
 unfold ruleHas ruleOk at h
 simp only [Bool.and_eq_true, decide_eq_true_eq] at h
 exact h.1.1.1.1.1
end Go.Proofs.Ythojnmcnlgcbnaa.Ad
end
section
namespace Go.Proofs.Ythojnmcnlgcbnaa.Ad
open Go.RowKit Go.Proofs.Ythojnmcnlgcbnaa.P Go.Proofs.YthojnmcnlgcbnaaW.PrintWords Go.Proofs.YthojnmcnlgcbnaaW.PrintLast Go.Proofs.YthojnmcnlgcbnaaW.PrintMore Go.Proofs.Ythojnmcnlgcbnaa.B
set_option linter.unusedVariables false
set_option linter.unusedSimpArgs false
abbrev SR := S30
def letStep (s : ByteArray) (st : Nat × Bool) (r : SR) : Nat × Bool :=
 if ruleHas r.f1 s = true then (if r.f1.size > st.1 then (r.f1.size, r.f0) else if r.f1.size = st.1 then (st.1, st.2 || r.f0) else st) else st
theorem letStep_le {s : ByteArray} {st : Nat × Bool} {r : SR} (h : st.1 ≤ 1000000) (hz : r.f1.size ≤ 1000000) : (letStep s st r).1 ≤ 1000000 := by
 unfold letStep
 split
 ·split
  ·exact hz
  ·split
   ·exact h
   ·exact h
 ·exact h
def lets (rs : List SR) (s : ByteArray) : Bool := (rs.foldl (letStep s) (0, true)).2
theorem rdR {l : List SR} {i : Nat} (h : i < l.length) : rd_T30 l (i : Int) = l[i] := by
 unfold rd_T30
 rw [List.getD_eq_getElem?_getD, Int.toNat_natCast, List.getElem?_eq_getElem h]; rfl
theorem lets_impl_l (rs : List SR) (s : ByteArray) (hs : s.size ≤ 140737488351232) (hl : rs.length ≤ 1000000) (hp : ∀ r ∈ rs, r.f1.size ≤ 1000000) (d : Nat) : ∀ (i : Nat) (st : Nat × Bool), i + d = rs.length → st.1 ≤ 1000000 →
  Ev (fun k => impl_RuleLets.l0 k s (st.1 : Int) st.2 rs (rs.length : Int) (i : Int)) ((rs.drop i).foldl (letStep s) st).2 := by
 induction d with
 | zero =>
  intro i st hi hb
  have n1 : ¬ ((i : Int) < (rs.length : Int)) := by omega
  rw [List.drop_eq_nil_of_le (by omega)]
  refine Ev_succ ?_
  simp only [impl_RuleLets.l0, n1, if_false]
  exact Ev.now _
 | succ d ih =>
  intro i st hi hb
  have hi' : i < rs.length := by omega
  have f1 : (i : Int) < (rs.length : Int) := by omega
  have f2 : (0 : Int) ≤ (i : Int) := by omega
  have e1 : wrap64 ((i : Int) + 1) = ((i + 1 : Nat) : Int) := by rw [w64 (by omega) (by omega)]; rfl
  have hr := rdR hi'
  have hz := hp rs[i] (List.getElem_mem hi')
  rw [List.drop_eq_getElem_cons hi', List.foldl_cons]
  generalize rs[i] = r at hr hz ⊢
  have ih' := ih (i + 1) (letStep s st r) (by omega) (letStep_le hb hz)
  refine Ev_succ ?_
  simp only [impl_RuleLets.l0, f1, f2, if_true, hr, e1]
  refine Ev.bind (has_impl r.f1 s (by omega) hs) ?_
  unfold letStep at ih' ⊢
  by_cases h1 : ruleHas r.f1 s = true
  ·simp only [h1, if_true] at ih' ⊢
   by_cases h2 : r.f1.size > st.1
   ·have n2 : (r.f1.size : Int) > (st.1 : Int) := by omega
    simp only [h2, n2, if_true] at ih' ⊢
    exact ih'
   ·have n2 : ¬ (r.f1.size : Int) > (st.1 : Int) := by omega
    simp only [h2, n2, if_false] at ih' ⊢
    by_cases h3 : r.f1.size = st.1
    ·have n3 : (r.f1.size : Int) = (st.1 : Int) := by omega
     simp only [h3, n3, if_true] at ih' ⊢
     by_cases h4 : st.2 = true
     ·simp only [h4, if_true, Bool.true_or] at ih' ⊢
      exact ih'
     ·have h5 : st.2 = false := by simpa using h4
      simp only [h5, Bool.false_eq_true, if_false, Bool.false_or] at ih' ⊢
      exact ih'
    ·have n3 : ¬ (r.f1.size : Int) = (st.1 : Int) := by omega
     simp only [h3, n3, if_false] at ih' ⊢
     exact ih'
  ·simp only [h1, if_false] at ih' ⊢
   exact ih'
theorem lets_impl (rs : List SR) (s : ByteArray) (hs : s.size ≤ 140737488351232) (hl : rs.length ≤ 1000000) (hp : ∀ r ∈ rs, r.f1.size ≤ 1000000) : Ev (fun k => impl_RuleLets.f k rs s) (lets rs s) :=
 lets_impl_l rs s hs hl hp rs.length 0 (0, true) (by omega) (by simp)
theorem lets_spec_l (rs : List SR) (s : ByteArray) (hl : rs.length ≤ 1000000) (hp : ∀ r ∈ rs, r.f1.size ≤ 1000000) (d : Nat) : ∀ (i : Nat) (st : Nat × Bool) (best : Int), i + d = rs.length → ((st = (0, true) ∧ best = -1) ∨ (1 ≤ st.1 ∧ best = (st.1 : Int))) →
  Ev (fun k => spec_RuleLets.l0 k rs s best st.2 (i : Int)) ((rs.drop i).foldl (letStep s) st).2 := by
 induction d with
 | zero =>
  intro i st best hi hb
  have n1 : ¬ ((i : Int) < (rs.length : Int)) := by omega
  rw [List.drop_eq_nil_of_le (by omega)]
  refine Ev_succ ?_
  simp only [spec_RuleLets.l0, n1, if_false]
  exact Ev.now _
 | succ d ih =>
  intro i st best hi hb
  have hi' : i < rs.length := by omega
  have f1 : (i : Int) < (rs.length : Int) := by omega
  have f2 : (0 : Int) ≤ (i : Int) := by omega
  have e1 : wrap64 ((i : Int) + 1) = ((i + 1 : Nat) : Int) := by rw [w64 (by omega) (by omega)]; rfl
  have hr := rdR hi'
  have hz := hp rs[i] (List.getElem_mem hi')
  rw [List.drop_eq_getElem_cons hi', List.foldl_cons]
  generalize rs[i] = r at hr hz ⊢
  refine Ev_succ ?_
  simp only [spec_RuleLets.l0, f1, f2, if_true, hr, e1]
  refine Ev.bind (has_spec r.f1 s) ?_
  unfold letStep
  by_cases h1 : ruleHas r.f1 s = true
  ·have h0 := has_size h1
   simp only [h1, if_true]
   rcases hb with ⟨rfl, rfl⟩ | ⟨hb1, rfl⟩
   ·have n1 : ¬ (r.f1.size : Int) < -1 := by omega
    have n2 : ¬ (r.f1.size : Int) = -1 := by omega
    have n3 : r.f1.size > 0 := by omega
    simp only [n1, n2, n3, if_true, if_false]
    by_cases h4 : r.f0 = true
    ·simp only [h4, if_true]
     exact ih (i + 1) (r.f1.size, true) _ (by omega) (Or.inr ⟨h0, rfl⟩)
    ·have h5 : r.f0 = false := by simpa using h4
     simp only [h5, Bool.false_eq_true, if_false]
     exact ih (i + 1) (r.f1.size, false) _ (by omega) (Or.inr ⟨h0, rfl⟩)
   ·by_cases h2 : r.f1.size > st.1
    ·have n1 : ¬ (r.f1.size : Int) < (st.1 : Int) := by omega
     have n2 : ¬ (r.f1.size : Int) = (st.1 : Int) := by omega
     simp only [h2, n1, n2, if_true, if_false]
     by_cases h4 : r.f0 = true
     ·simp only [h4, if_true]
      exact ih (i + 1) (r.f1.size, true) _ (by omega) (Or.inr ⟨h0, rfl⟩)
     ·have h5 : r.f0 = false := by simpa using h4
      simp only [h5, Bool.false_eq_true, if_false]
      exact ih (i + 1) (r.f1.size, false) _ (by omega) (Or.inr ⟨h0, rfl⟩)
    ·by_cases h3 : r.f1.size = st.1
     ·have n1 : ¬ (r.f1.size : Int) < (st.1 : Int) := by omega
      have n2 : (r.f1.size : Int) = (st.1 : Int) := by omega
      simp only [h2, h3, if_true, if_false, n1, n2, show ¬ ((st.1 : Int) < (st.1 : Int)) from by omega, show ¬ (st.1 > st.1) from by omega]
      by_cases h4 : r.f0 = true
      ·simp only [h4, if_true, Bool.or_true]
       exact ih (i + 1) (st.1, true) _ (by omega) (Or.inr ⟨hb1, rfl⟩)
      ·have h5 : r.f0 = false := by simpa using h4
       simp only [h5, Bool.false_eq_true, if_false, Bool.or_false]
       exact ih (i + 1) (st.1, st.2) _ (by omega) (Or.inr ⟨hb1, rfl⟩)
     ·have n1 : (r.f1.size : Int) < (st.1 : Int) := by omega
      simp only [h2, h3, if_true, if_false, n1]
      exact ih (i + 1) st _ (by omega) (Or.inr ⟨hb1, rfl⟩)
  ·simp only [h1, if_false]
   exact ih (i + 1) st best (by omega) hb
theorem lets_spec (rs : List SR) (s : ByteArray) (hl : rs.length ≤ 1000000) (hp : ∀ r ∈ rs, r.f1.size ≤ 1000000) : Ev (fun k => spec_RuleLets.f k rs s) (lets rs s) :=
 lets_spec_l rs s hl hp rs.length 0 (0, true) (-1) (by omega) (Or.inl ⟨rfl, rfl⟩)
theorem lets_more (rs : List SR) (p s : ByteArray) (h : lets rs s = true) : lets (rs ++ [⟨true, p⟩]) s = true := by
 unfold lets at h ⊢
 rw [List.foldl_append, List.foldl_cons, List.foldl_nil]
 generalize rs.foldl (letStep s) (0, true) = st at h ⊢
 unfold letStep
 split
 ·split
  ·rfl
  ·split
   ·simp
   ·exact h
 ·exact h
theorem lets_bar (rs : List SR) (p s : ByteArray) (h : lets rs s = false) : lets (rs ++ [⟨false, p⟩]) s = false := by
 unfold lets at h ⊢
 rw [List.foldl_append, List.foldl_cons, List.foldl_nil]
 generalize rs.foldl (letStep s) (0, true) = st at h ⊢
 unfold letStep
 split
 ·split
  ·rfl
  ·split
   ·simp [h]
   ·exact h
 ·exact h
end Go.Proofs.Ythojnmcnlgcbnaa.Ad
end
section
namespace Go.Proofs.Ythojnmcnlgcbnaa.Ad
open Go.RowKit Go.Proofs.YthojnmcnlgcbnaaW.PrintWords Go.Proofs.Ythojnmcnlgcbnaa.B
set_option linter.unusedVariables false
set_option linter.unusedSimpArgs false
abbrev A5 := ByteArray × List ByteArray × Bool × ByteArray × Bool
def none5 : A5 := ((⟨#[]⟩ : ByteArray), ([] : List ByteArray), false, (⟨#[]⟩ : ByteArray), false)
def escAll : List ByteArray → Option (List ByteArray)
 | [] => some []
 | q :: qs => if (escNorm q).2 = true then (escAll qs).map ((escNorm q).1 :: ·) else none
def clean1 (acc : List ByteArray) (p : ByteArray) : List ByteArray :=
 if p.toList = [] then acc else if p.toList = [46] then acc else if p.toList = [46, 46] then acc.take (acc.length - 1) else acc ++ [p]
def pathClean (ps : List ByteArray) : List ByteArray := ps.foldl clean1 []
def wayO (house : ByteArray) (base : List ByteArray) (way : ByteArray) : A5 :=
 match escAll ((splitL 47 (L (cutB 63 way).1)).map ofL) with
 | none => none5
 | some ps => if (escNorm (cutB 63 way).2.1).2 = true then (if addrOk house (pathClean (base ++ ps)) (cutB 63 way).2.2 (escNorm (cutB 63 way).2.1).1 = true then (house, pathClean (base ++ ps), (cutB 63 way).2.2, (escNorm (cutB 63 way).2.1).1, true) else none5) else none5
def houseL : List UInt8 → List UInt8 × List UInt8
 | [] => ([], [])
 | x :: xs => if x = 47 ∨ x = 63 then ([], x :: xs) else (x :: (houseL xs).1, (houseL xs).2)
def wholeO (rest : ByteArray) : A5 := wayO (smallB (ofL (houseL (L rest)).1)) [] (ofL (houseL (L rest)).2)
def readO (raw : ByteArray) : A5 :=
 if raw.size > 60 then none5 else if (cutB 35 raw).1.size < 2 then none5 else if (L (cutB 35 raw).1).take 2 = [47, 47] then wholeO ((cutB 35 raw).1.extract 2 (cutB 35 raw).1.size) else none5
def Fine (a : A5) : Prop := a = none5 ∨ (a.2.2.2.2 = true ∧ addrOk a.1 a.2.1 a.2.2.1 a.2.2.2.1 = true)
theorem fine_none : Fine none5 := Or.inl rfl
theorem fine_way (h : ByteArray) (b : List ByteArray) (w : ByteArray) : Fine (wayO h b w) := by
 unfold wayO
 split
 ·exact fine_none
 ·split
  ·split
   ·rename_i hh
    exact Or.inr ⟨rfl, hh⟩
   ·exact fine_none
  ·exact fine_none
theorem fine_read (raw : ByteArray) : Fine (readO raw) := by
 unfold readO
 split
 ·exact fine_none
 ·split
  ·exact fine_none
  ·split
   ·exact fine_way _ _ _
   ·exact fine_none
theorem isHouse_size {s : ByteArray} (h : isHouse s = true) : s.size ≤ 5 := by
 unfold isHouse at h
 simp only [Bool.and_eq_true, decide_eq_true_eq] at h
 exact h.1.2
theorem clean1_mem {acc : List ByteArray} {p x : ByteArray} (h : x ∈ clean1 acc p) : x ∈ acc ∨ x = p := by
 unfold clean1 at h
 split at h
 ·exact Or.inl h
 ·split at h
  ·exact Or.inl h
  ·split at h
   ·exact Or.inl (List.mem_of_mem_take h)
   ·rcases List.mem_append.1 h with h | h
    ·exact Or.inl h
    ·exact Or.inr (List.mem_singleton.1 h)
theorem clean1_len (acc : List ByteArray) (p : ByteArray) : (clean1 acc p).length ≤ acc.length + 1 := by
 unfold clean1
 split
 ·omega
 ·split
  ·omega
  ·split
   ·rw [List.length_take]; omega
   ·simp
theorem cleanF_mem : ∀ {ps acc : List ByteArray} {x : ByteArray}, x ∈ ps.foldl clean1 acc → x ∈ acc ∨ x ∈ ps
 | [], acc, x, h => Or.inl h
 | p :: ps, acc, x, h => by
  rw [List.foldl_cons] at h
  rcases cleanF_mem h with h | h
  ·rcases clean1_mem h with h | h
   ·exact Or.inl h
   ·exact Or.inr (by rw [h]; exact List.mem_cons_self)
  ·exact Or.inr (List.mem_cons_of_mem _ h)
theorem cleanF_len : ∀ (ps acc : List ByteArray), (ps.foldl clean1 acc).length ≤ acc.length + ps.length
 | [], acc => by simp
 | p :: ps, acc => by
  rw [List.foldl_cons]
  have := cleanF_len ps (clean1 acc p)
  have := clean1_len acc p
  simp only [List.length_cons]; omega
end Go.Proofs.Ythojnmcnlgcbnaa.Ad
end
section
namespace Go.Proofs.Ythojnmcnlgcbnaa.Ad
open Go.RowKit Go.Proofs.Ythojnmcnlgcbnaa.P Go.Proofs.YthojnmcnlgcbnaaW.PrintWords Go.Proofs.YthojnmcnlgcbnaaW.PrintLast Go.Proofs.YthojnmcnlgcbnaaW.PrintMore Go.Proofs.Ythojnmcnlgcbnaa.B
set_option linter.unusedVariables false
set_option linter.unusedSimpArgs false
theorem spec_house_l (s : ByteArray) (hs : s.size ≤ 140737488351232) (d : Nat) : ∀ (k : Nat) (i : Nat), i + d = s.size → d < k →
  spec_l1House.l0 k s (i : Int) = some (smallFrom s d i && (decide (1 ≤ s.size) && decide (s.size ≤ 5))) := by
 induction d with
 | zero =>
  intro k i h hk
  obtain ⟨k, rfl⟩ : ∃ m, k = m + 1 := ⟨k - 1, by omega⟩
  simp only [spec_l1House.l0, smallFrom, spec_l6In.f]
  rw [if_neg (by omega)]
  by_cases h1 : 1 ≤ s.size
  ·rw [if_pos (by omega)]; simp [h1]; omega
  ·rw [if_neg (by omega)]; simp [h1]
 | succ d ih =>
  intro k i h hk
  obtain ⟨k, rfl⟩ : ∃ m, k = m + 1 := ⟨k - 1, by omega⟩
  simp only [spec_l1House.l0, smallFrom]
  rw [if_pos (by omega), if_pos (by omega)]
  by_cases h1 : bt s i < 97
  ·rw [if_pos h1, if_pos h1]; rfl
  ·rw [if_neg h1, if_neg h1]
   by_cases h2 : bt s i > 122
   ·rw [if_pos h2, if_pos h2]; rfl
   ·rw [if_neg h2, if_neg h2, w64 (by omega) (by omega)]
    exact ih k (i + 1) (by omega) (by omega)
theorem house_ev (s : ByteArray) (hs : s.size ≤ 140737488351232) : Ev (fun k => spec_l1House.f k s) (isHouse s) := by
 refine Ev.of (fun k => spec_l1House.mono _ k) (k := s.size + 1) ?_
 unfold spec_l1House.f
 have := spec_house_l s hs s.size (s.size + 1) 0 (by omega) (by omega)
 rw [show ((0 : Nat) : Int) = 0 from rfl] at this
 rw [this]
 unfold isHouse isSmall
 cases smallFrom s s.size 0 <;> simp
theorem rd_at {l : List ByteArray} {i : Nat} (h : i < l.length) : rdOf ByteArray.empty l (i : Int) = l[i] := by
 unfold rdOf
 rw [List.getD_eq_getElem?_getD, Int.toNat_natCast, List.getElem?_eq_getElem h]
 rfl
structure Parts (ps : List ByteArray) : Prop where
 few : ps.length ≤ 1000
 short : ∀ p ∈ ps, p.size ≤ 1048576
def fin (asks : Bool) (ask b : ByteArray) : ByteArray := if asks = true then (b ++ ⟨#[63]⟩) ++ ask else b
theorem path_end (acc house : ByteArray) (parts : List ByteArray) (asks : Bool) (ask : ByteArray) (i : Nat) (hi : i = parts.length) (ha : acc.size ≤ 2000000000) (hq : ask.size ≤ 1048576) :
  Ev (fun k => spec_l1Path.l0 k acc (i : Int) house parts asks ask) (fin asks ask acc) := by
 refine Ev.of (fun k => spec_l1Path.mono_l k _ _ _ _ _ _) (k := 1) ?_
 simp only [spec_l1Path.l0, fin]
 rw [if_neg (by omega)]
 by_cases h : asks = true
 ·rw [if_pos h, if_pos h, if_pos (by omega), if_pos (by omega)]
 ·rw [if_neg h, if_neg h]
theorem path_l (house : ByteArray) (parts : List ByteArray) (asks : Bool) (ask : ByteArray) (hP : Parts parts) (hq : ask.size ≤ 1048576) (d : Nat) : ∀ (i : Nat) (acc : ByteArray), i + d = parts.length → 1 ≤ i → (acc.size : Int) ≤ 1 + (i : Int) * 1048577 →
  Ev (fun k => spec_l1Path.l0 k acc (i : Int) house parts asks ask) (fin asks ask ((parts.drop i).foldl (fun a q => (a ++ ⟨#[47]⟩) ++ q) acc)) := by
 have hf := hP.few
 induction d with
 | zero =>
  intro i acc hi _ ha
  rw [List.drop_eq_nil_of_le (by omega)]
  exact path_end acc house parts asks ask i (by omega) (by omega) hq
 | succ d ih =>
  intro i acc hi h1 ha
  have hlt : i < parts.length := by omega
  have hz := hP.short parts[i] (List.getElem_mem hlt)
  rw [List.drop_eq_getElem_cons hlt, List.foldl_cons]
  have h47 : (⟨#[47]⟩ : ByteArray).size = 1 := rfl
  have hsz : ((acc ++ (⟨#[47]⟩ : ByteArray)) ++ parts[i]).size = acc.size + 1 + parts[i].size := by rw [ByteArray.size_append, ByteArray.size_append, h47]
  have f1 : (i : Int) < (parts.length : Int) := by omega
  have f2 : (i : Int) > 0 := by omega
  have f3 : acc.size + 1 ≤ 9223372036854775807 := by omega
  have f4 : 0 ≤ (i : Int) := by omega
  have f5 : acc.size + 1 + parts[i].size ≤ 9223372036854775807 := by omega
  have hw : wrap64 ((i : Int) + 1) = ((i + 1 : Nat) : Int) := by rw [w64 (by omega) (by omega)]; omega
  have h := ih (i + 1) ((acc ++ (⟨#[47]⟩ : ByteArray)) ++ parts[i]) (by omega) (by omega) (by rw [hsz]; omega)
  refine Ev.step (fun k => ?_) h
  simp only [spec_l1Path.l0]
  rw [if_pos f1, if_pos f2, if_pos f3, if_pos f4, rd_at hlt, if_pos f5, hw]
theorem path_ev (house : ByteArray) (parts : List ByteArray) (asks : Bool) (ask : ByteArray) (hP : Parts parts) (hq : ask.size ≤ 1048576) :
  Ev (fun k => spec_l1Path.f k house parts asks ask) (pathB parts asks ask) := by
 unfold spec_l1Path.f
 match parts, hP with
 | [], hP =>
  have := path_end ⟨#[47]⟩ house [] asks ask 0 rfl (by decide) hq
  exact this
 | p :: r, hP =>
  have hz := hP.short p List.mem_cons_self
  have hs : ((⟨#[47]⟩ : ByteArray) ++ p).size = 1 + p.size := by rw [ByteArray.size_append]; rfl
  refine Ev.step (fun k => ?_) (path_l house (p :: r) asks ask hP hq r.length 1 ((⟨#[47]⟩ : ByteArray) ++ p) (by simp; omega) (by omega) (by omega))
  have h47 : (⟨#[47]⟩ : ByteArray).size = 1 := rfl
  have hr0 : rdOf ByteArray.empty (p :: r) 0 = p := rfl
  simp only [spec_l1Path.l0]
  have f1 : (0 : Int) < ((p :: r).length : Int) := by simp only [List.length_cons]; omega
  have f5 : (⟨#[47]⟩ : ByteArray).size + p.size ≤ 9223372036854775807 := by omega
  rw [if_pos f1, if_neg (by omega), if_pos (by omega), hr0, if_pos f5, w64 (by omega) (by omega)]
  rfl
theorem path_size (parts : List ByteArray) (asks : Bool) (ask : ByteArray) (hP : Parts parts) (hq : ask.size ≤ 1048576) : (pathB parts asks ask).size ≤ 2000000000 := by
 have hf := hP.few
 have hb : ((body parts).size : Int) ≤ 1 + (parts.length : Int) * 1048577 := by
  match parts, hP with
  | [], _ => simp [body]; decide
  | p :: r, hP =>
   have key : ∀ (r : List ByteArray) (acc : ByteArray), (∀ q ∈ r, q.size ≤ 1048576) → ((r.foldl (fun a q => (a ++ ⟨#[47]⟩) ++ q) acc).size : Int) ≤ (acc.size : Int) + (r.length : Int) * 1048577 := by
    intro r
    induction r with
    | nil => intro acc _; simp
    | cons q r ih =>
     intro acc h
     have := ih ((acc ++ ⟨#[47]⟩) ++ q) (fun x hx => h x (List.mem_cons_of_mem _ hx))
     have hq := h q List.mem_cons_self
     have h47 : (⟨#[47]⟩ : ByteArray).size = 1 := rfl
     rw [List.foldl_cons]
     rw [ByteArray.size_append, ByteArray.size_append] at this
     simp only [List.length_cons]
     omega
   have := key r ((⟨#[47]⟩ : ByteArray) ++ p) (fun x hx => hP.short x (List.mem_cons_of_mem _ hx))
   have hz := hP.short p List.mem_cons_self
   have hs : ((⟨#[47]⟩ : ByteArray) ++ p).size = 1 + p.size := by rw [ByteArray.size_append]; rfl
   simp only [body, List.length_cons]
   omega
 unfold pathB
 have h63 : (⟨#[63]⟩ : ByteArray).size = 1 := rfl
 split
 ·rw [ByteArray.size_append, ByteArray.size_append]; omega
 ·omega
theorem text_ev (house : ByteArray) (parts : List ByteArray) (asks : Bool) (ask : ByteArray) (hP : Parts parts) (hq : ask.size ≤ 1048576) (hh : house.size ≤ 1048576) :
  Ev (fun k => spec_l1Text.f k house parts asks ask) (textB house parts asks ask) := by
 unfold spec_l1Text.f
 have hz := path_size parts asks ask hP hq
 simp only [show 2 + house.size ≤ 9223372036854775807 from by omega, if_true]
 refine Ev.bind (path_ev house parts asks ask hP hq) ?_
 simp only [show 2 + house.size + (pathB parts asks ask).size ≤ 9223372036854775807 from by omega, if_true]
 exact Ev.now _
theorem ok_l (house : ByteArray) (parts : List ByteArray) (asks : Bool) (ask : ByteArray) (hP : Parts parts) (hq : ask.size ≤ 1048576) (hh : house.size ≤ 1048576) (d : Nat) : ∀ (i : Nat), i + d = parts.length →
  Ev (fun k => spec_AddrOk.l0 k (i : Int) house parts asks ask) ((parts.drop i).all partOk && decide ((textB house parts asks ask).size ≤ 60)) := by
 have hf := hP.few
 induction d with
 | zero =>
  intro i hi
  rw [List.drop_eq_nil_of_le (by omega)]
  simp only [List.all_nil, Bool.true_and]
  refine Ev.step (f := fun k => (spec_l1Text.f k house parts asks ask).bind fun t => some (decide ((t.size : Int) ≤ 60))) (fun k => ?_) (Ev.bind (text_ev house parts asks ask hP hq hh) ?_)
  ·simp only [spec_AddrOk.l0]
   rw [if_neg (by omega)]
  ·have e : decide (((textB house parts asks ask).size : Int) ≤ 60) = decide ((textB house parts asks ask).size ≤ 60) := by rw [Bool.eq_iff_iff]; simp; omega
   rw [e]
   exact Ev.now _
 | succ d ih =>
  intro i hi
  have hlt : i < parts.length := by omega
  rw [List.drop_eq_getElem_cons hlt, List.all_cons]
  refine Ev.step (f := fun k => (spec_l1Norm.f k parts[i]).bind fun t => if t = true then (if parts[i].toList = [] then some false else if parts[i].toList = [46] then some false else if parts[i].toList = [46, 46] then some false else spec_AddrOk.l0 k ((i + 1 : Nat) : Int) house parts asks ask) else some false) (fun k => ?_) (Ev.bind (norm_ev parts[i]) ?_)
  ·simp only [spec_AddrOk.l0]
   rw [if_pos (by omega), if_pos (by omega), rd_at hlt, w64 (by omega) (by omega)]
   rfl
  ·by_cases h1 : isNorm parts[i] = true
   ·by_cases h2 : parts[i].toList = []
    ·simp only [h1, h2, if_true]
     rw [show partOk parts[i] = false from by simp [partOk, h2]]
     exact Ev.now _
    ·by_cases h3 : parts[i].toList = [46]
     ·simp only [h1, h3, if_true]
      rw [show partOk parts[i] = false from by simp [partOk, h3]]
      exact Ev.now _
     ·by_cases h4 : parts[i].toList = [46, 46]
      ·simp only [h1, h4, if_true]
       rw [show partOk parts[i] = false from by simp [partOk, h4]]
       exact Ev.now _
      ·simp only [h1, h2, h3, h4, if_true, if_false]
       rw [show partOk parts[i] = true from by simp [partOk, h1, h2, h3, h4], Bool.true_and]
       exact ih (i + 1) (by omega)
   ·simp only [h1, if_false]
    rw [show partOk parts[i] = false from by simp [partOk, h1]]
    exact Ev.now _
theorem addrOk_ev (house : ByteArray) (parts : List ByteArray) (asks : Bool) (ask : ByteArray) (hP : Parts parts) (hq : ask.size ≤ 1048576) (hh : house.size ≤ 1048576) :
  Ev (fun k => spec_AddrOk.f k house parts asks ask) (addrOk house parts asks ask) := by
 have hf := hP.few
 have bad : ∀ r, r = false → Ev (fun k => spec_AddrOk.j0 k true house parts asks ask) r := fun r hr => by
  subst hr
  exact Ev.of (fun k => spec_AddrOk.mono_l k |>.1 _ _ _ _ _) (k := 1) (by simp [spec_AddrOk.j0])
 have good : Ev (fun k => spec_AddrOk.j0 k false house parts asks ask) (parts.all partOk && decide ((textB house parts asks ask).size ≤ 60)) := by
  refine Ev.step (fun k => ?_) (by simpa using ok_l house parts asks ask hP hq hh parts.length 0 (by omega))
  simp [spec_AddrOk.j0]
 unfold spec_AddrOk.f
 refine Ev.bind (house_ev house (by omega)) ?_
 by_cases h1 : isHouse house = true
 ·simp only [h1, if_true]
  by_cases h2 : parts.length ≤ 5
  ·simp only [show ¬ ((parts.length : Int) > 5) from by omega, if_false]
   refine Ev.bind (norm_ev ask) ?_
   by_cases h3 : isNorm ask = true
   ·simp only [h3, if_true]
    by_cases h4 : asks = true
    ·simp only [h4, if_true]
     rw [h4] at good
     rw [show addrOk house parts true ask = (parts.all partOk && decide ((textB house parts true ask).size ≤ 60)) from by simp [addrOk, h1, h2, h3]]
     exact good
    ·rw [show (fun k => if asks = true then spec_AddrOk.j0 k false house parts asks ask else spec_AddrOk.j0 k (ask.toList != []) house parts asks ask) = (fun k => spec_AddrOk.j0 k (ask.toList != []) house parts asks ask) from by funext k; rw [if_neg h4]]
     by_cases h5 : ask.toList = []
     ·obtain rfl : asks = false := by simpa using h4
      simp only [h5, bne_self_eq_false, Bool.false_eq_true, if_false]
      rw [show addrOk house parts false ask = (parts.all partOk && decide ((textB house parts false ask).size ≤ 60)) from by simp [addrOk, h1, h2, h3, h5]]
      exact good
     ·rw [show (ask.toList != ([] : List UInt8)) = true from by simp [h5]]
      exact bad _ (by simp [addrOk, h4, h5])
   ·simp only [h3, if_false]
    exact bad _ (by simp [addrOk, h3])
  ·simp only [show (parts.length : Int) > 5 from by omega, if_true]
   exact bad _ (by simp [addrOk, h2])
 ·simp only [h1, if_false]
  exact bad _ (by simp [addrOk, h1])
theorem addrText_ev (house : ByteArray) (parts : List ByteArray) (asks : Bool) (ask : ByteArray) (hP : Parts parts) (hq : ask.size ≤ 1048576) (hh : house.size ≤ 1048576) :
  Ev (fun k => spec_AddrText.f k house parts asks ask) (addrText house parts asks ask) := by
 unfold spec_AddrText.f addrText
 refine Ev.bind (addrOk_ev house parts asks ask hP hq hh) ?_
 by_cases h : addrOk house parts asks ask = true
 ·simp only [h, if_true]
  exact Ev.bind (text_ev house parts asks ask hP hq hh) (Ev.now _)
 ·simp only [h, if_false]
  exact Ev.now _
end Go.Proofs.Ythojnmcnlgcbnaa.Ad
end
section
namespace Go.Proofs.Ythojnmcnlgcbnaa.Ad
open Go.RowKit Go.Proofs.Ythojnmcnlgcbnaa.P Go.Proofs.YthojnmcnlgcbnaaW.PrintWords Go.Proofs.YthojnmcnlgcbnaaW.PrintLast Go.Proofs.YthojnmcnlgcbnaaW.PrintMore Go.Proofs.Ythojnmcnlgcbnaa.B
set_option linter.unusedVariables false
set_option linter.unusedSimpArgs false
theorem fine_parts {a : A5} (h : Fine a) : Parts a.2.1 ∧ a.1.size ≤ 60 ∧ a.2.2.2.1.size ≤ 60 := by
 rcases h with rfl | ⟨_, h⟩
 ·exact ⟨⟨by simp [none5], by simp [none5]⟩, Nat.zero_le _, Nat.zero_le _⟩
 ·unfold addrOk at h
  simp only [Bool.and_eq_true, decide_eq_true_eq] at h
  obtain ⟨⟨⟨⟨⟨h1, h2⟩, h3⟩, h4⟩, h5⟩, h6⟩ := h
  refine ⟨⟨by omega, fun p hp => ?_⟩, ?_, ?_⟩
  ·have := List.all_eq_true.1 h5 p hp
   unfold partOk at this
   simp only [Bool.and_eq_true] at this
   have := isNorm_size this.1.1.1
   omega
  ·have := isHouse_size h1; omega
  ·exact isNorm_size h3
theorem addrPath_ev (house : ByteArray) (parts : List ByteArray) (asks : Bool) (ask : ByteArray) (hP : Parts parts) (hq : ask.size ≤ 1048576) (hh : house.size ≤ 1048576) :
  Ev (fun k => spec_AddrPath.f k house parts asks ask) (addrPath house parts asks ask) := by
 unfold spec_AddrPath.f addrPath
 refine Ev.bind (addrOk_ev house parts asks ask hP hq hh) ?_
 by_cases h : addrOk house parts asks ask = true
 ·simp only [h, if_true]
  exact Ev.bind (path_ev house parts asks ask hP hq) (Ev.now _)
 ·simp only [h, if_false]
  exact Ev.now _
theorem clean_l (ps : List ByteArray) (hl : ps.length ≤ 1000000) (d : Nat) : ∀ (i : Nat) (acc : List ByteArray), i + d = ps.length → acc.length ≤ i →
  Ev (fun k => spec_PathClean.l0 k ps acc (i : Int)) ((ps.drop i).foldl clean1 acc) := by
 induction d with
 | zero =>
  intro i acc hi ha
  have n1 : ¬ ((i : Int) < (ps.length : Int)) := by omega
  rw [List.drop_eq_nil_of_le (by omega)]
  refine Ev_succ ?_
  simp only [spec_PathClean.l0, n1, if_false]
  exact Ev.now _
 | succ d ih =>
  intro i acc hi ha
  have hi' : i < ps.length := by omega
  have f1 : (i : Int) < (ps.length : Int) := by omega
  have f2 : (0 : Int) ≤ (i : Int) := by omega
  have e1 : wrap64 ((i : Int) + 1) = ((i + 1 : Nat) : Int) := by rw [w64 (by omega) (by omega)]; rfl
  have hr := rd_at hi'
  rw [List.drop_eq_getElem_cons hi', List.foldl_cons]
  generalize ps[i] = p at hr ⊢
  have hc := clean1_len acc p
  have ih' := ih (i + 1) (clean1 acc p) (by omega) (by omega)
  refine Ev_succ ?_
  simp only [spec_PathClean.l0, f1, f2, if_true, hr]
  unfold clean1 at ih' ⊢
  by_cases h1 : p.toList = []
  ·simp only [h1, if_true] at ih' ⊢
   refine Ev_succ ?_
   simp only [spec_PathClean.j1, if_true, e1]
   exact ih'
  ·simp only [h1, if_false] at ih' ⊢
   refine Ev_succ ?_
   by_cases h2 : p.toList = [46]
   ·simp only [h2, if_true] at ih' ⊢
    simp only [spec_PathClean.j1, beq_self_eq_true, if_true, e1]
    exact ih'
   ·have h2' : (p.toList == [46]) = false := by simpa using h2
    simp only [h2, if_false] at ih' ⊢
    simp only [spec_PathClean.j1, h2', Bool.false_eq_true, if_false, f1, f2, if_true, hr, e1]
    by_cases h3 : p.toList = [46, 46]
    ·have m : mx (wrap64 ((acc.length : Int) - 1)) 0 = ((acc.length - 1 : Nat) : Int) := by
      rw [w64 (by omega) (by omega)]; unfold mx; split <;> omega
     have g1 : (0 : Int) ≤ ((acc.length - 1 : Nat) : Int) := by omega
     have g2 : ((acc.length - 1 : Nat) : Int) ≤ (acc.length : Int) := by omega
     simp only [h3, if_true] at ih' ⊢
     simp only [m, g1, g2, if_true, Int.toNat_natCast]
     exact ih'
    ·have g3 : acc.length < 8796093022208 := by omega
     simp only [h3, if_false] at ih' ⊢
     simp only [g3, if_true]
     exact ih'
theorem clean_ev (ps : List ByteArray) (hl : ps.length ≤ 1000000) : Ev (fun k => spec_PathClean.f k ps) (pathClean ps) :=
 clean_l ps hl ps.length 0 [] (by omega) (by simp)
def wayE (house : ByteArray) (asks : Bool) (ask : ByteArray) (ps : List ByteArray) : A5 :=
 if (escNorm ask).2 = true then (if addrOk house (pathClean ps) asks (escNorm ask).1 = true then (house, pathClean ps, asks, (escNorm ask).1, true) else none5) else none5
theorem way_l (house ask : ByteArray) (asks : Bool) (base : List ByteArray) (b0 : Bool) (a0 : ByteArray) (hh : house.size ≤ 100000) (ls : List ByteArray) (hl : ls.length ≤ 900) (d : Nat) :
  ∀ (i : Nat) (acc : List ByteArray), i + d = ls.length → acc.length ≤ i + 50 → (∀ p ∈ acc, p.size ≤ 1048576) →
  Ev (fun k => spec_l1Way.l0 k ask asks acc ls (i : Int) house base b0 a0) (match escAll (ls.drop i) with | none => none5 | some ps => wayE house asks ask (acc ++ ps)) := by
 induction d with
 | zero =>
  intro i acc hi ha hp
  have n1 : ¬ ((i : Int) < (ls.length : Int)) := by omega
  rw [List.drop_eq_nil_of_le (by omega)]
  refine Ev_succ ?_
  simp only [spec_l1Way.l0, n1, if_false, escAll, List.append_nil]
  refine Ev.bind (escNorm_ev ask) (Ev.bind (clean_ev acc (by omega)) ?_)
  have hz := escNorm_size ask
  unfold wayE
  by_cases h1 : (escNorm ask).2 = true
  ·simp only [h1, if_true]
   have hP : Parts (pathClean acc) := ⟨by have := cleanF_len acc []; unfold pathClean; simp only [List.length_nil] at this; omega, fun p hq => by
    rcases cleanF_mem hq with h | h
    ·cases h
    ·exact hp p h⟩
   refine Ev.bind (addrOk_ev house (pathClean acc) asks (escNorm ask).1 hP (by omega) (by omega)) ?_
   by_cases h2 : addrOk house (pathClean acc) asks (escNorm ask).1 = true
   ·simp only [h2, if_true]; exact Ev.now _
   ·simp only [h2, if_false]; exact Ev.now _
  ·simp only [h1, if_false]; exact Ev.now _
 | succ d ih =>
  intro i acc hi ha hp
  have hi' : i < ls.length := by omega
  have f1 : (i : Int) < (ls.length : Int) := by omega
  have f2 : (0 : Int) ≤ (i : Int) := by omega
  have e1 : wrap64 ((i : Int) + 1) = ((i + 1 : Nat) : Int) := by rw [w64 (by omega) (by omega)]; rfl
  have hr := rd_at hi'
  rw [List.drop_eq_getElem_cons hi']
  generalize ls[i] = p at hr ⊢
  have hz := escNorm_size p
  refine Ev_succ ?_
  simp only [spec_l1Way.l0, f1, f2, if_true, hr, e1]
  refine Ev.bind (escNorm_ev p) ?_
  unfold escAll
  by_cases h1 : (escNorm p).2 = true
  ·have g3 : acc.length < 8796093022208 := by omega
   simp only [h1, if_true, g3]
   have ih' := ih (i + 1) (acc ++ [(escNorm p).1]) (by omega) (by simp; omega) (fun x hx => by
    rcases List.mem_append.1 hx with h | h
    ·exact hp x h
    ·rw [List.mem_singleton.1 h]; omega)
   cases he : escAll (ls.drop (i + 1)) with
   | none => rw [he] at ih'; exact ih'
   | some ps =>
    rw [he] at ih'
    simp only [Option.map_some]
    simpa using ih'
  ·simp only [h1, if_false]; exact Ev.now _
theorem cutB_size (c : UInt8) (s : ByteArray) : (cutB c s).1.size ≤ s.size ∧ (cutB c s).2.1.size ≤ s.size := by
 have := (cutL_len (c := c) (L s)).1
 rw [L_size] at this
 unfold cutB
 constructor
 ·show (ofL _).size ≤ _; rw [ofL_size]; omega
 ·show (ofL _).size ≤ _; rw [ofL_size]; omega
theorem way_ev (house : ByteArray) (base : List ByteArray) (b0 : Bool) (a0 way : ByteArray) (hh : house.size ≤ 100000) (hb : base.length ≤ 50) (hp : ∀ p ∈ base, p.size ≤ 1048576) (hw : way.size ≤ 800) :
  Ev (fun k => spec_l1Way.f k house base b0 a0 way) (wayO house base way) := by
 unfold spec_l1Way.f wayO
 refine Ev.bind (cut_ev way 63 (by omega)) ?_
 have hc := cutB_size 63 way
 have g : ([] : List ByteArray).length + base.length < 8796093022208 := by simp; omega
 simp only [Option.bind_some, g, if_true, List.nil_append]
 refine Ev.bind (split_ev (cutB 63 way).1 47 (by omega)) ?_
 have hl := splitL_len 47 (L (cutB 63 way).1)
 rw [L_size] at hl
 have := way_l house (cutB 63 way).2.1 (cutB 63 way).2.2 base b0 a0 hh ((splitL 47 (L (cutB 63 way).1)).map ofL) (by rw [List.length_map]; omega) _ 0 base (Nat.zero_add _) (by omega) hp
 rw [List.drop_zero] at this
 exact this
theorem house_l (s h : ByteArray) (hs : s.size ≤ 800) : ∀ (l : List UInt8) (i : Nat), (L s).drop i = l → h = s →
  Ev (fun k => spec_l1Whole.l0 k s h (⟨#[]⟩ : ByteArray) (i : Int)) (wayO (smallB (ofL ((L s).take i ++ (houseL l).1))) [] (ofL (houseL l).2))
 | [], i, h', e => by
  have := bt_end h'
  have n1 : ¬ ((i : Int) < (s.size : Int)) := by omega
  have eq : (L s).take i = L s := List.take_of_length_le (by rw [L_size]; omega)
  subst e
  refine Ev_succ ?_
  simp only [spec_l1Whole.l0, n1, if_false, houseL, eq, List.append_nil, of_L, spec_l1Small.f, show h.size ≤ 140737488351232 from by omega, if_true, Option.bind_some]
  refine Ev.bind (way_ev (smallB h) [] false _ _ (by unfold smallB; rw [ofL_size, List.length_map, L_size]; omega) (by simp) (by simp) (by decide)) ?_
  exact Ev.now _
 | x :: xs, i, h', e => by
  obtain ⟨hi, hb, hd⟩ := bt_at h'
  have e1 : wrap64 ((i : Int) + 1) = ((i + 1 : Nat) : Int) := by rw [w64 (by omega) (by omega)]; rfl
  have f1 : (i : Int) < (s.size : Int) := by omega
  have f2 : (0 : Int) ≤ (i : Int) := by omega
  have f3 : (i : Int) ≤ (s.size : Int) := by omega
  have c1 : ((x.toNat : Int) = 47) ↔ x = 47 := u8_eq (b := 47)
  have c2 : ((x.toNat : Int) = 63) ↔ x = 63 := u8_eq (b := 63)
  have x1 : s.extract 0 i = ofL ((L s).take i) := by apply L_inj; rw [L_ext, L_of]; simp
  have x2 : s.extract i s.size = ofL (x :: xs) := by
   apply L_inj; rw [L_ext, L_of, h', List.take_of_length_le]
   rw [← h', List.length_drop, L_size]; omega
  have z1 : (ofL ((L s).take i)).size ≤ 800 := by rw [ofL_size, List.length_take, L_size]; omega
  have z2 : (ofL (x :: xs)).size ≤ 800 := by rw [ofL_size, ← h', List.length_drop, L_size]; omega
  have fin : Ev (fun k => (spec_l1Way.f k (smallB (ofL ((L s).take i))) ([] : List ByteArray) false (⟨#[]⟩ : ByteArray) (ofL (x :: xs))).bind fun bt204 => (some (bt204.1, bt204.2.1, bt204.2.2.1, bt204.2.2.2.1, bt204.2.2.2.2))) (wayO (smallB (ofL ((L s).take i ++ []))) [] (ofL (x :: xs))) := by
   rw [List.append_nil]
   refine Ev.bind (way_ev _ [] false _ _ (by unfold smallB; rw [ofL_size, List.length_map, L_size]; omega) (by simp) (by simp) z2) ?_
   exact Ev.now _
  refine Ev_succ ?_
  simp only [spec_l1Whole.l0, f1, f2, f3, if_true, hb, c1, c2, e1, Int.toNat_natCast, x1, x2, spec_l1Small.f, show (ofL ((L s).take i)).size ≤ 140737488351232 from by omega, Option.bind_some]
  unfold houseL
  by_cases h1 : x = 47
  ·simp only [h1, if_true, true_or]
   rw [h1] at fin
   exact fin
  ·by_cases h2 : x = 63
   ·simp only [h1, h2, if_true, if_false, or_true, show ¬ ((63 : UInt8) = 47) from by decide]
    rw [h2] at fin
    exact fin
   ·simp only [h1, h2, if_false, or_self]
    have := house_l s h hs xs (i + 1) hd e
    have ht : (L s).take (i + 1) ++ (houseL xs).1 = (L s).take i ++ (x :: (houseL xs).1) := by
     have hl : i < (L s).length := by rw [L_size]; exact hi
     have : (L s)[i] = x := by
      have hd2 : (L s).drop i = (L s)[i] :: (L s).drop (i + 1) := List.drop_eq_getElem_cons hl
      rw [h'] at hd2
      injection hd2 with h1 h2
      exact h1.symm
     rw [List.take_succ_eq_append_getElem hl, this]
     simp
    rw [ht] at this
    exact this
theorem whole_ev (s : ByteArray) (hs : s.size ≤ 800) : Ev (fun k => spec_l1Whole.f k s) (wholeO s) := by
 have := house_l s s hs (L s) 0 rfl rfl
 simp only [List.take_zero, List.nil_append] at this
 exact this
theorem read_ev (raw : ByteArray) (hs : raw.size ≤ 140737488351232) : Ev (fun k => spec_AddrRead.f k raw) (readO raw) := by
 unfold spec_AddrRead.f readO
 refine Ev.bind (cut_ev raw 35 hs) ?_
 have hc := (cutB_size 35 raw).1
 generalize (cutB 35 raw).1 = c at hc ⊢
 by_cases h1 : raw.size > 60
 ·have n1 : (raw.size : Int) > 60 := by omega
  simp only [n1, h1, if_true]; exact Ev.now _
 ·have n1 : ¬ (raw.size : Int) > 60 := by omega
  simp only [n1, h1, if_false]
  by_cases h2 : c.size < 2
  ·have n2 : (c.size : Int) < 2 := by omega
   simp only [n2, h2, if_true]; exact Ev.now _
  ·have n2 : ¬ (c.size : Int) < 2 := by omega
   have n3 : (2 : Int) ≤ (c.size : Int) := by omega
   have hx : ((c.extract 0 2).toList = [47, 47]) ↔ ((L c).take 2 = [47, 47]) := by
    rw [Lib.toList_data]
    show L (c.extract 0 2) = _ ↔ _
    rw [L_ext]; simp
   simp only [n2, h2, n3, if_true, if_false, show (0 : Int) ≤ 2 from by omega, hx]
   by_cases h3 : (L c).take 2 = [47, 47]
   ·simp only [h3, if_true]
    have hz : (c.extract 2 c.size).size ≤ 800 := by rw [ByteArray.size_extract]; omega
    generalize c.extract 2 c.size = z at hz ⊢
    exact Ev.bind (whole_ev z hz) (Ev.now _)
   ·simp only [h3, if_false]; exact Ev.now _
theorem pathB_size {a : A5} (h : Fine a) : (addrPath a.1 a.2.1 a.2.2.1 a.2.2.2.1).size ≤ 60 := by
 unfold addrPath
 split
 ·rename_i h
  simp only [addrOk, Bool.and_eq_true, decide_eq_true_eq] at h
  have := h.2
  unfold textB at this
  rw [ByteArray.size_append] at this
  omega
 ·exact Nat.zero_le _
end Go.Proofs.Ythojnmcnlgcbnaa.Ad
end
section
namespace Go.Proofs.Ythojnmcnlgcbnaa.Draw
open Go.RowKit Go.Proofs.Ythojnmcnlgcbnaa.P Go.Proofs.YthojnmcnlgcbnaaW.PrintWords Go.Proofs.YthojnmcnlgcbnaaW.PrintLast Go.Proofs.YthojnmcnlgcbnaaW.PrintMore Go.Proofs.Ythojnmcnlgcbnaa.B
set_option linter.unusedVariables false
set_option linter.unusedSimpArgs false
structure Code (b : List Int) : Prop where
 byte : ∀ x ∈ b, 0 ≤ x ∧ x ≤ 255
 short : b.length ≤ 2000
theorem open_some (l0 : List Int) (hw : ∀ x ∈ l0, (Lit.int .u8 x).wf = true) : ∃ b, spec_l6Open.f l0 = some (b, 0) ∧ Code b := by
 unfold spec_l6Open.f
 by_cases h : (l0.length : Int) > 2000
 ·rw [if_pos h, if_pos (by omega)]
  exact ⟨_, rfl, fun x hx => wf_u8 (hw x (List.mem_of_mem_take hx)), by rw [List.length_take]; omega⟩
 ·rw [if_neg h]
  exact ⟨_, rfl, fun x hx => wf_u8 (hw x hx), by omega⟩
theorem pick_one {b : List Int} (hc : Code b) (k : Nat) (p n : Int) (hp : 0 ≤ p) (hp2 : p ≤ 1000000000000) :
  ∃ v, spec_l6Rd_pick.f (k + 1) b p n = some (v, p + 1) ∧ 0 ≤ v ∧ (1 ≤ n → v < n) := by
 have hl := hc.short
 have e1 : wrap64 (p + 1) = p + 1 := w64 (by omega) (by omega)
 have e2 : wrap64 (p + 1 - 1) = p := by rw [w64 (by omega) (by omega)]; omega
 unfold spec_l6Rd_pick.f
 rw [e1]
 by_cases h1 : n < 1
 ·rw [if_pos h1]
  exact ⟨0, by simp [spec_l6Rd_pick.j0], by omega, by omega⟩
 ·rw [if_neg h1]
  simp only [spec_l6Rd_pick.j0, e2]
  by_cases h2 : (b.length : Int) = 0
  ·rw [if_pos (by simpa using h2)]
   exact ⟨0, rfl, by omega, by omega⟩
  ·rw [if_neg (by simpa using h2)]
   by_cases h3 : p < (b.length : Int)
   ·rw [if_pos h3, if_pos hp, if_neg (by omega)]
    have hr := rd_byte hc.byte p
    rw [w64 (by omega) (by omega)]
    exact ⟨_, rfl, (tmod_nn hr.1 (by omega)).1, fun _ => (tmod_nn hr.1 (by omega)).2⟩
   ·rw [if_neg h3, if_neg h2]
    have hq := tmod_nn (a := p) (b := (b.length : Int)) hp (by omega)
    have ew1 : wrap64 (p * 7) = p * 7 := w64 (by omega) (by omega)
    have ew2 : wrap64 (p * 7 + 3) = p * 7 + 3 := w64 (by omega) (by omega)
    have hq2 := tmod_nn (a := p * 7 + 3) (b := (b.length : Int)) (by omega) (by omega)
    rw [if_pos hq.1, if_pos hq.2, ew1, ew2, if_pos hq2.1, if_pos hq2.2, if_neg (by omega)]
    have r1 := rd_byte hc.byte (Int.tmod p (b.length : Int))
    have r2 := rd_byte hc.byte (Int.tmod (p * 7 + 3) (b.length : Int))
    generalize rd b (Int.tmod p (b.length : Int)) = a1 at r1 ⊢
    generalize rd b (Int.tmod (p * 7 + 3) (b.length : Int)) = a2 at r2 ⊢
    have r3 := tdiv_nn (a := p) (b := (b.length : Int)) hp (by omega)
    generalize Int.tdiv p (b.length : Int) = q at r3 ⊢
    have s1 : wrap64 a1 = a1 := w64 (by omega) (by omega)
    have s2 : wrap64 a2 = a2 := w64 (by omega) (by omega)
    have s3 : wrap64 (a1 * 131) = a1 * 131 := w64 (by omega) (by omega)
    have s4 : wrap64 (a2 * 1117) = a2 * 1117 := w64 (by omega) (by omega)
    have s5 : wrap64 (p * 29) = p * 29 := w64 (by omega) (by omega)
    have s6 : wrap64 q = q := w64 (by omega) (by omega)
    have s7 : wrap64 (q * 53) = q * 53 := w64 (by omega) (by omega)
    have s8 : wrap64 (a1 * 131 + a2 * 1117) = a1 * 131 + a2 * 1117 := w64 (by omega) (by omega)
    have s9 : wrap64 (a1 * 131 + a2 * 1117 + p * 29) = a1 * 131 + a2 * 1117 + p * 29 := w64 (by omega) (by omega)
    have s10 : wrap64 (a1 * 131 + a2 * 1117 + p * 29 + q * 53) = a1 * 131 + a2 * 1117 + p * 29 + q * 53 := w64 (by omega) (by omega)
    simp only [s1, s2, s3, s4, s5, s6, s7, s8, s9, s10]
    have hX0 : 0 ≤ a1 * 131 + a2 * 1117 + p * 29 + q * 53 := by omega
    have hX1 : a1 * 131 + a2 * 1117 + p * 29 + q * 53 < 2 ^ 62 := by omega
    generalize a1 * 131 + a2 * 1117 + p * 29 + q * 53 = X at hX0 hX1 ⊢
    have d := tdiv_nn (a := X) (b := 64) hX0 (by omega)
    have s11 : wrap64 (Int.tdiv X 64) = Int.tdiv X 64 := w64 (by omega) (by omega)
    rw [s11]
    have z := xor_nn hX0 hX1 d.1 (by omega)
    exact ⟨_, rfl, (tmod_nn z.1 (by omega)).1, fun _ => (tmod_nn z.1 (by omega)).2⟩
theorem pick_ev {b : List Int} (hc : Code b) (p n : Int) (hp : 0 ≤ p) (hp2 : p ≤ 1000000000000) :
  ∃ v, Ev (fun k => spec_l6Rd_pick.f k b p n) (v, p + 1) ∧ 0 ≤ v ∧ (1 ≤ n → v < n) := by
 obtain ⟨v, h, h0, h1⟩ := pick_one hc 0 p n hp hp2
 exact ⟨v, Ev.of (fun k => spec_l6Rd_pick.mono _ _ _ k) h, h0, h1⟩
end Go.Proofs.Ythojnmcnlgcbnaa.Draw
end
section
namespace Go.Proofs.Ythojnmcnlgcbnaa.Draw
open Go.RowKit Go.Proofs.Ythojnmcnlgcbnaa.P Go.Proofs.YthojnmcnlgcbnaaW.PrintWords Go.Proofs.YthojnmcnlgcbnaaW.PrintLast Go.Proofs.YthojnmcnlgcbnaaW.PrintMore Go.Proofs.Ythojnmcnlgcbnaa.B
set_option linter.unusedVariables false
set_option linter.unusedSimpArgs false
theorem of_ev {b : List Int} (hc : Code b) (p : Int) (l : List ByteArray) (hl : l ≠ []) (hl2 : (l.length : Int) < 1000000) (hp : 0 ≤ p) (hp2 : p ≤ 1000000000000) :
  ∃ s, Ev (fun k => spec_l6Rd_of.f k b p l) (s, p + 1) ∧ s ∈ l := by
 have hpos : 0 < l.length := List.length_pos_iff.2 hl
 obtain ⟨v, h, h0, h1⟩ := pick_ev hc p (l.length : Int) hp hp2
 have hv := h1 (by omega)
 refine ⟨rdOf ByteArray.empty l v, Ev.bind h ?_, ?_⟩
 ·simp only [h0, hv, if_true]
  exact Ev.now _
 ·unfold rdOf
  have hlt : v.toNat < l.length := by omega
  rw [List.getD_eq_getElem?_getD, List.getElem?_eq_getElem hlt]
  exact List.getElem_mem hlt
end Go.Proofs.Ythojnmcnlgcbnaa.Draw
end
section
namespace Go.Proofs.Ythojnmcnlgcbnaa.Draw
open Go.RowKit Go.Proofs.Ythojnmcnlgcbnaa.P Go.Proofs.YthojnmcnlgcbnaaW.PrintWords Go.Proofs.YthojnmcnlgcbnaaW.PrintLast Go.Proofs.YthojnmcnlgcbnaaW.PrintMore Go.Proofs.Ythojnmcnlgcbnaa.B Go.Proofs.Ythojnmcnlgcbnaa.Ad
set_option linter.unusedVariables false
set_option linter.unusedSimpArgs false
theorem of_sz {b : List Int} (hc : Code b) (p : Int) (l : List ByteArray) (N : Nat) (hp : 0 ≤ p) (hp2 : p ≤ 1000000000000)
  (hl : decide (0 < l.length ∧ l.length < 1000000) = true) (hN : (l.all fun s => decide (s.size ≤ N)) = true) :
  ∃ s, Ev (fun k => spec_l6Rd_of.f k b p l) (s, p + 1) ∧ s.size ≤ N := by
 have h := of_decide_eq_true hl
 obtain ⟨s, h1, h2⟩ := of_ev hc p l (List.length_pos_iff.1 h.1) (by omega) hp hp2
 exact ⟨s, h1, of_decide_eq_true (List.all_eq_true.1 hN s h2)⟩
theorem addr_l {b : List Int} (hc : Code b) (house : ByteArray) (hh : house.size ≤ 3) (d : Nat) : ∀ (p : Int) (parts : List ByteArray), 0 ≤ p → p + d ≤ 100000000000 → (∀ q ∈ parts, q.size ≤ 6) → parts.length + d ≤ 5 →
  ∃ s p', Ev (fun k => spec_l71Addr.l0 k (d : Int) b p house parts false ⟨#[]⟩) (s, p') ∧ s.size ≤ 60 ∧ p ≤ p' ∧ p' ≤ p + d + 2 := by
 induction d with
 | zero =>
  intro p parts h0 h1 hs hl
  have hP : Parts parts := ⟨by omega, fun q hq => by have := hs q hq; omega⟩
  obtain ⟨v, hv, _, _⟩ := pick_ev hc p 8 h0 (by omega)
  by_cases hv0 : v = 0
  ·obtain ⟨ask, ha, hz⟩ := of_sz hc (p + 1) ([(⟨#[]⟩ : ByteArray), (⟨#[97]⟩ : ByteArray), (⟨#[98, 37, 51, 68]⟩ : ByteArray)] : List ByteArray) 4 (by omega) (by omega) (by decide) (by decide)
   refine ⟨addrText house parts true ask, p + 1 + 1, Ev.step (f := fun k => (spec_l6Rd_pick.f k b p 8).bind fun bt => if bt.1 = 0 then ((spec_l6Rd_of.f k b bt.2 ([(⟨#[]⟩ : ByteArray), (⟨#[97]⟩ : ByteArray), (⟨#[98, 37, 51, 68]⟩ : ByteArray)] : List ByteArray)).bind fun b2 => (spec_AddrText.f k house parts true b2.1).bind fun t => some (t, b2.2)) else (spec_AddrText.f k house parts false ⟨#[]⟩).bind fun t => some (t, bt.2)) (fun k => ?_) (Ev.bind hv ?_), addrText_size _ _ _ _, by omega, by omega⟩
   ·simp only [spec_l71Addr.l0]
    rw [if_neg (by omega)]
   ·simp only [hv0, if_true]
    exact Ev.bind ha (Ev.bind (addrText_ev house parts true ask hP (by omega) (by omega)) (Ev.now _))
  ·refine ⟨addrText house parts false ⟨#[]⟩, p + 1, Ev.step (f := fun k => (spec_l6Rd_pick.f k b p 8).bind fun bt => if bt.1 = 0 then ((spec_l6Rd_of.f k b bt.2 ([(⟨#[]⟩ : ByteArray), (⟨#[97]⟩ : ByteArray), (⟨#[98, 37, 51, 68]⟩ : ByteArray)] : List ByteArray)).bind fun b2 => (spec_AddrText.f k house parts true b2.1).bind fun t => some (t, b2.2)) else (spec_AddrText.f k house parts false ⟨#[]⟩).bind fun t => some (t, bt.2)) (fun k => ?_) (Ev.bind hv ?_), addrText_size _ _ _ _, by omega, by omega⟩
   ·simp only [spec_l71Addr.l0]
    rw [if_neg (by omega)]
   ·simp only [hv0, if_false]
    exact Ev.bind (addrText_ev house parts false ⟨#[]⟩ hP (by decide) (by omega)) (Ev.now _)
 | succ d ih =>
  intro p parts h0 h1 hs hl
  obtain ⟨q, hq, hz⟩ := of_sz hc p ([(⟨#[97]⟩ : ByteArray), (⟨#[98]⟩ : ByteArray), (⟨#[99]⟩ : ByteArray), (⟨#[110, 111, 116, 105, 99, 101]⟩ : ByteArray)] : List ByteArray) 6 h0 (by omega) (by decide) (by decide)
  obtain ⟨s, p', h, h2, h3, h4⟩ := ih (p + 1) (parts ++ [q]) (by omega) (by omega) (fun x hx => by
   rcases List.mem_append.1 hx with hx | hx
   ·exact hs x hx
   ·rw [List.mem_singleton.1 hx]; exact hz) (by simp; omega)
  refine ⟨s, p', Ev.step (f := fun k => (spec_l6Rd_of.f k b p ([(⟨#[97]⟩ : ByteArray), (⟨#[98]⟩ : ByteArray), (⟨#[99]⟩ : ByteArray), (⟨#[110, 111, 116, 105, 99, 101]⟩ : ByteArray)] : List ByteArray)).bind fun bt => spec_l71Addr.l0 k (d : Int) b bt.2 house (parts ++ [bt.1]) false ⟨#[]⟩) (fun k => ?_) (Ev.bind hq h), h2, by omega, by omega⟩
  simp only [spec_l71Addr.l0]
  rw [if_pos (by omega), show wrap64 (((d + 1 : Nat) : Int) - 1) = (d : Int) from by rw [w64 (by omega) (by omega)]; omega]
  congr 1
  funext bt
  rw [if_pos (by omega)]
theorem addr_ev {b : List Int} (hc : Code b) (p : Int) (h0 : 0 ≤ p) (h1 : p ≤ 10000000000) : ∃ s p', Ev (fun k => spec_l71Addr.f k b p) (s, p') ∧ s.size ≤ 60 ∧ p ≤ p' ∧ p' ≤ p + 10 := by
 obtain ⟨v, hv, v0, v1⟩ := pick_ev hc p 4 h0 (by omega)
 have v2 := v1 (by omega)
 obtain ⟨n, hn, n0, n1⟩ := pick_ev hc (p + 1) 3 (by omega) (by omega)
 have n2 := n1 (by omega)
 obtain ⟨m, rfl⟩ := Int.eq_ofNat_of_zero_le n0
 have hh : (rdOf ByteArray.empty ([(⟨#[97, 98]⟩ : ByteArray), (⟨#[99, 100]⟩ : ByteArray), (⟨#[101]⟩ : ByteArray), (⟨#[102, 111, 120]⟩ : ByteArray)] : List ByteArray) v).size ≤ 3 := by
  obtain rfl | rfl | rfl | rfl : v = 0 ∨ v = 1 ∨ v = 2 ∨ v = 3 := by omega
  all_goals decide
 obtain ⟨s, p', h, h2, h3, h4⟩ := addr_l hc _ hh m (p + 1 + 1) [] (by omega) (by omega) (by simp) (by simp; omega)
 refine ⟨s, p', ?_, h2, by omega, by omega⟩
 unfold spec_l71Addr.f spec_l71Houses.f
 simp only [Option.bind_some]
 refine Ev.bind hv ?_
 simp only [v0, show v < (([(⟨#[97, 98]⟩ : ByteArray), (⟨#[99, 100]⟩ : ByteArray), (⟨#[101]⟩ : ByteArray), (⟨#[102, 111, 120]⟩ : ByteArray)] : List ByteArray).length : Int) from by simp; omega, if_true]
 exact Ev.bind hn h
end Go.Proofs.Ythojnmcnlgcbnaa.Draw
end
section
namespace Go.Proofs.Ythojnmcnlgcbnaa.Draw
open Go.RowKit Go.Proofs.Ythojnmcnlgcbnaa.P Go.Proofs.YthojnmcnlgcbnaaW.PrintWords Go.Proofs.YthojnmcnlgcbnaaW.PrintLast Go.Proofs.YthojnmcnlgcbnaaW.PrintMore Go.Proofs.Ythojnmcnlgcbnaa.B Go.Proofs.Ythojnmcnlgcbnaa.Ad
set_option linter.unusedVariables false
set_option linter.unusedSimpArgs false
abbrev SRd := S30
theorem rule_ev {b : List Int} (hc : Code b) (p : Int) (h0 : 0 ≤ p) (h1 : p ≤ 10000000000) : ∃ s, Ev (fun k => spec_l71Rule.f k b p) (s, p + 1) ∧ s.size ≤ 7 := by
 obtain ⟨s, hs, hz⟩ := of_sz hc p (([(⟨#[47]⟩ : ByteArray), (⟨#[47, 97]⟩ : ByteArray), (⟨#[47, 98]⟩ : ByteArray), (⟨#[47, 97, 47]⟩ : ByteArray), (⟨#[47, 42, 98]⟩ : ByteArray), (⟨#[47, 97, 36]⟩ : ByteArray), (⟨#[47, 99]⟩ : ByteArray), (⟨#[47, 42, 63]⟩ : ByteArray), (⟨#[47, 97, 47, 98]⟩ : ByteArray), (⟨#[47, 42, 47, 98, 36]⟩ : ByteArray), (⟨#[47, 36]⟩ : ByteArray), (⟨#[47, 98, 42, 99]⟩ : ByteArray), (⟨#[47, 110, 111, 116, 105, 99, 101]⟩ : ByteArray), (⟨#[47, 42]⟩ : ByteArray)] : List ByteArray)) 7 h0 (by omega) (by decide) (by decide)
 exact ⟨s, Ev.bind hs (Ev.now _), hz⟩
theorem rules_l {b : List Int} (hc : Code b) (d : Nat) : ∀ (p : Int) (rs : List SRd), 0 ≤ p → p + 2 * d ≤ 10000000000 → rs.length + d ≤ 1000 → (∀ r ∈ rs, r.f1.size ≤ 7) →
  ∃ x p', Ev (fun k => spec_l71Rules.l0 k rs (d : Int) b p) (x, p') ∧ x.length ≤ rs.length + d ∧ (∀ r ∈ x, r.f1.size ≤ 7) ∧ p ≤ p' ∧ p' ≤ p + 2 * d := by
 induction d with
 | zero =>
  intro p rs h0 h1 h2 h3
  refine ⟨rs, p, Ev_succ ?_, by omega, h3, by omega, by omega⟩
  have n1 : ¬ (((0 : Nat) : Int) > 0) := by omega
  simp only [spec_l71Rules.l0, n1, if_false]
  exact Ev.now _
 | succ d ih =>
  intro p rs h0 h1 h2 h3
  obtain ⟨v, hv, _, _⟩ := pick_ev hc p 2 h0 (by omega)
  obtain ⟨s, hs, hz⟩ := rule_ev hc (p + 1) (by omega) (by omega)
  obtain ⟨x, p', hx, g1, g2, g3, g4⟩ := ih (p + 1 + 1) (rs ++ [⟨(v == 0), s⟩]) (by omega) (by omega) (by simp; omega) (fun r hr => by
   rcases List.mem_append.1 hr with h | h
   ·exact h3 r h
   ·rw [List.mem_singleton.1 h]; exact hz)
  refine ⟨x, p', Ev_succ ?_, by simp only [List.length_append, List.length_singleton] at g1; omega, g2, by omega, by omega⟩
  have n1 : (((d + 1 : Nat) : Int) > 0) := by omega
  have e1 : wrap64 (((d + 1 : Nat) : Int) - 1) = (d : Int) := by rw [w64 (by omega) (by omega)]; omega
  have n2 : rs.length < 5864062014805 := by omega
  simp only [spec_l71Rules.l0, n1, if_true, e1, n2]
  exact Ev.bind hv (Ev.bind hs hx)
theorem rules_ev {b : List Int} (hc : Code b) (p : Int) (h0 : 0 ≤ p) (h1 : p ≤ 1000000000) : ∃ x p', Ev (fun k => spec_l71Rules.f k b p) (x, p') ∧ x.length ≤ 4 ∧ (∀ r ∈ x, r.f1.size ≤ 7) ∧ p ≤ p' ∧ p' ≤ p + 20 := by
 obtain ⟨v, hv, v0, v1⟩ := pick_ev hc p 5 h0 (by omega)
 have v2 := v1 (by omega)
 obtain ⟨m, rfl⟩ := Int.eq_ofNat_of_zero_le v0
 obtain ⟨x, p', hx, g1, g2, g3, g4⟩ := rules_l hc m (p + 1) [] (by omega) (by omega) (by simp; omega) (by simp)
 exact ⟨x, p', Ev.bind hv hx, by simp only [List.length_nil] at g1; omega, g2, by omega, by omega⟩
end Go.Proofs.Ythojnmcnlgcbnaa.Draw
end
section
namespace Go.Proofs.Ythojnmcnlgcbnaa.Pure
open Go.RowKit Go.Proofs.Ythojnmcnlgcbnaa.P Go.Proofs.YthojnmcnlgcbnaaW.PrintWords Go.Proofs.YthojnmcnlgcbnaaW.PrintLast Go.Proofs.Ythojnmcnlgcbnaa.Ad Go.Proofs.Ythojnmcnlgcbnaa.Draw Go.Proofs.Ythojnmcnlgcbnaa.B
set_option linter.unusedSimpArgs false
set_option linter.unusedVariables false
theorem drawLets_ev (l0 : List Int) (hw : ∀ x ∈ l0, (Lit.int .u8 x).wf = true) : ∃ rs s, Ev (fun k => spec_DrawRuleLets.f k l0) (rs, s) ∧ rs.length ≤ 4 ∧ (∀ r ∈ rs, r.f1.size ≤ 7) ∧ s.size ≤ 60 := by
 obtain ⟨b, hb, hc⟩ := open_some l0 hw
 obtain ⟨x, p1, h1, g1, g2, g3, g4⟩ := rules_ev hc 0 (by omega) (by omega)
 obtain ⟨t, p2, h2, z2, _, _⟩ := addr_ev hc p1 (by omega) (by omega)
 have hf := fine_read t
 obtain ⟨hP, hh, hq⟩ := fine_parts hf
 refine ⟨x, addrPath (readO t).1 (readO t).2.1 (readO t).2.2.1 (readO t).2.2.2.1, ?_, g1, g2, pathB_size hf⟩
 unfold spec_DrawRuleLets.f
 simp only [hb, Option.bind_some]
 refine Ev.bind h1 (Ev.bind h2 (Ev.bind (read_ev t (by omega)) ?_))
 exact Ev.bind (addrPath_ev _ _ _ _ hP (by omega) (by omega)) (Ev.now _)
theorem drawHas_ev (l0 : List Int) (hw : ∀ x ∈ l0, (Lit.int .u8 x).wf = true) : ∃ p s, Ev (fun k => spec_DrawRuleHas.f k l0) (p, s) ∧ p.size ≤ 100 := by
 obtain ⟨b, hb, hc⟩ := open_some l0 hw
 obtain ⟨r, h1, z1⟩ := rule_ev hc 0 (by omega) (by omega)
 obtain ⟨v, hv, _, _⟩ := pick_ev hc (0 + 1) 12 (by omega) (by omega)
 have j0 : ∀ q : ByteArray, q.size ≤ 7 → ∃ p s, Ev (fun k => spec_DrawRuleHas.j0 k q b (0 + 1 + 1)) (p, s) ∧ p.size ≤ 100 := by
  intro q hz
  obtain ⟨t, p2, h2, z2, z3, z4⟩ := addr_ev hc (0 + 1 + 1) (by omega) (by omega)
  have hf := fine_read t
  obtain ⟨hP, hh, hq⟩ := fine_parts hf
  have ha := addrPath_ev (readO t).1 (readO t).2.1 (readO t).2.2.1 (readO t).2.2.2.1 hP (by omega) (by omega)
  have hs := pathB_size hf
  generalize addrPath (readO t).1 (readO t).2.1 (readO t).2.2.1 (readO t).2.2.2.1 = s at ha hs
  obtain ⟨u, hu, _, _⟩ := pick_ev hc p2 2 (by omega) (by omega)
  have no : ∃ p s', Ev (fun k => spec_DrawRuleHas.j1 k q s false b (p2 + 1)) (p, s') ∧ p.size ≤ 100 := by
   refine ⟨q, s, Ev_succ ?_, by omega⟩
   simp only [spec_DrawRuleHas.j1, Bool.false_eq_true, if_false]
   exact Ev.now _
  have j1 : ∀ e : Bool, (e = true → s.size ≠ 0) → ∃ p s', Ev (fun k => spec_DrawRuleHas.j1 k q s e b (p2 + 1)) (p, s') ∧ p.size ≤ 100 := by
   intro e he
   cases e with
   | false => exact no
   | true =>
    have hn := he rfl
    obtain ⟨w, hw, w0, w1⟩ := pick_ev hc (p2 + 1) (mn (s.size : Int) 14) (by omega) (by omega)
    have hm : 1 ≤ mn (s.size : Int) 14 ∧ mn (s.size : Int) 14 ≤ (s.size : Int) ∧ mn (s.size : Int) 14 ≤ 14 := by unfold mn; split <;> omega
    have w2 := w1 hm.1
    obtain ⟨a, ha, za⟩ := of_sz hc (p2 + 1 + 1) (([(⟨#[]⟩ : ByteArray), (⟨#[]⟩ : ByteArray), (⟨#[42]⟩ : ByteArray), (⟨#[36]⟩ : ByteArray)] : List ByteArray)) 1 (by omega) (by omega) (by decide) (by decide)
    have ew : wrap64 (1 + w) = 1 + w := w64 (by omega) (by omega)
    have zx : (s.extract 0 (1 + w).toNat).size ≤ 60 := by rw [ByteArray.size_extract]; omega
    refine ⟨s.extract 0 (1 + w).toNat ++ a, s, Ev_succ ?_, by rw [ByteArray.size_append]; omega⟩
    simp only [spec_DrawRuleHas.j1, if_true]
    refine Ev.bind hw ?_
    simp only [ew, show (0 : Int) ≤ 1 + w from by omega, show 1 + w ≤ (s.size : Int) from by omega, if_true]
    refine Ev.bind ha ?_
    simp only [show (s.extract 0 (1 + w).toNat).size + a.size ≤ 9223372036854775807 from by omega, if_true]
    exact Ev.now _
  by_cases h0 : u = 0
  ·obtain ⟨p, s', hx, hz'⟩ := j1 (s.toList != ([] : List UInt8)) (fun h e => by
    have := toList_nil.2 e
    rw [this] at h; cases h)
   refine ⟨p, s', Ev_succ ?_, hz'⟩
   simp only [spec_DrawRuleHas.j0]
   refine Ev.bind h2 (Ev.bind (read_ev t (by omega)) (Ev.bind ha (Ev.bind hu ?_)))
   simp only [h0, if_true]
   exact hx
  ·obtain ⟨p, s', hx, hz'⟩ := no
   refine ⟨p, s', Ev_succ ?_, hz'⟩
   simp only [spec_DrawRuleHas.j0]
   refine Ev.bind h2 (Ev.bind (read_ev t (by omega)) (Ev.bind ha (Ev.bind hu ?_)))
   simp only [h0, if_false]
   exact hx
 by_cases h0 : v = 0
 ·obtain ⟨p, s, hx, hz⟩ := j0 (⟨#[97]⟩ : ByteArray) (by decide)
  refine ⟨p, s, ?_, hz⟩
  unfold spec_DrawRuleHas.f
  simp only [hb, Option.bind_some]
  refine Ev.bind h1 (Ev.bind hv ?_)
  simp only [h0, if_true]
  exact hx
 ·obtain ⟨p, s, hx, hz⟩ := j0 r z1
  refine ⟨p, s, ?_, hz⟩
  unfold spec_DrawRuleHas.f
  simp only [hb, Option.bind_some]
  refine Ev.bind h1 (Ev.bind hv ?_)
  simp only [h0, if_false]
  exact hx
theorem FnLetsMore : laws_FnLetsMore.Pure := by
 intro l0 l1 hm hz hw hm1 hz1 hw1
 refine Ev.rounds ?_
 have big : Ev (fun k => laws_FnLetsMore.j0 k l0 l1 true) true := by
  refine Ev_succ ?_
  simp only [laws_FnLetsMore.j0, if_true]
  exact Ev.now _
 unfold laws_FnLetsMore.f
 by_cases h : (l0.length : Int) > 1048576
 ·simp only [h, if_true]; exact big
 simp only [h, if_false]
 by_cases h' : (l1.length : Int) > 1048576
 ·simp only [h', decide_true]; exact big
 simp only [h', decide_false]
 refine Ev_succ ?_
 simp only [laws_FnLetsMore.j0, Bool.false_eq_true, if_false]
 obtain ⟨rs, s, hd, g1, g2, g3⟩ := drawLets_ev l0 hw
 obtain ⟨p, s', hd', z⟩ := drawHas_ev l1 hw1
 have more : ∀ y : Bool, ∀ r ∈ rs ++ [⟨y, p⟩], r.f1.size ≤ 1000000 := by
  intro y r hr
  rcases List.mem_append.1 hr with h | h
  ·have := g2 r h; omega
  ·rw [List.mem_singleton.1 h]; show p.size ≤ 1000000; omega
 have i0 := lets_impl rs s (by omega) (by omega) (fun r hr => by have := g2 r hr; omega)
 have s0 := lets_spec rs s (by omega) (fun r hr => by have := g2 r hr; omega)
 have i1 := lets_impl (rs ++ [⟨true, p⟩]) s (by omega) (by simp; omega) (more true)
 have i2 := lets_impl (rs ++ [⟨false, p⟩]) s (by omega) (by simp; omega) (more false)
 refine Ev.bind hd (Ev.bind hd' (Ev.bind i0 (Ev.bind s0 ?_)))
 have n1 : ([] : List S30).length + rs.length < 5864062014805 := by simp; omega
 have n2 : rs.length < 5864062014805 := by omega
 simp only [bne_self_eq_false, Bool.false_eq_true, if_false, Option.bind_some, n1, n2, if_true, List.nil_append]
 refine Ev.bind i1 (Ev.bind i2 ?_)
 by_cases hl : lets rs s = true
 ·have := lets_more rs p s hl
  simp only [hl, this, if_true]
  exact Ev.now _
 ·have hl' : lets rs s = false := by simpa using hl
  have := lets_bar rs p s hl'
  simp only [hl', this, Bool.false_eq_true, if_false, Bool.not_false]
  exact Ev.now _
end Go.Proofs.Ythojnmcnlgcbnaa.Pure
end
section
namespace Go.Proofs.YthojnmcnlgcbnaaW.PrintWords
open Go.ChangeShapes Go.WideShapes
theorem sized_ints {H : Type} {enc : TypeId × Value → H} {P : Program} {W : World} {base : Nat} {spare : Nat → Bool} {held : Bool} {t e : TypeId} {k : IntKind} {a : Option Addr} {len cap : Nat} {d : DataW H} {ps : List MemPlace} {ts : List TypeId} {ds : List (DataW H)} {j : Nat}
  (hsz : (DataW.weightsEach P ts ds).all (· ≤ reachBytes) = true) (ht : ts[j]? = some t) (hd : ds[j]? = some d) (hu : P.underlying t = some (.slice e)) (he : P.underlying e = some (.int k)) (hc : P.cellsOf e = 1) {B : Nat} (hB : P.bytesOf e = B)
  (h : DataW.Trod enc P W base spare held t (.slice a len cap) d ps) : len * B ≤ 140737488351232 := by
 obtain ⟨fuel, hf⟩ := h
 rcases open_ints hu he hc hf with ⟨hcs, _⟩ | ⟨x, l, c, zs, hcs, _, hl, _, hz, hx, _, _⟩
 ·simp [Value.cells] at hcs
  obtain ⟨rfl, rfl, rfl⟩ := hcs
  simp
 ·simp [Value.cells] at hcs
  obtain ⟨rfl, rfl, rfl⟩ := hcs
  obtain ⟨hx, _⟩ := Prod.mk.inj hx
  subst hx
  have z := sized_slice hsz ht hd hu
  rw [hB] at z
  have hl2 : len ≤ zs.length := by
   rw [hz]
   split
   ·exact hl
   ·exact Nat.le_refl _
  have h1 : (lits (H := H) k (zs.take len)).length + (lits (H := H) k (zs.drop len)).length = zs.length := by
   simp [lits]
   omega
  rw [h1] at z
  exact Nat.le_trans (Nat.mul_le_mul_right _ hl2) z
end Go.Proofs.YthojnmcnlgcbnaaW.PrintWords
end
section
namespace Go.Proofs.Ythojnmcnlgcbnaa.fnLetsMore
open Go.ChangeShapes Go.WideShapes Go.ChangeAt Go.RowKit
open Go.ChangeMaps (open_string shut_string)
set_option linter.unusedVariables false
theorem own : ownKnob Try.prog.godebug = none := by kernel_rfl
theorem laidOut : laidOutB Try.prog = true := by kernel_rfl
def IsRow (k : IntKind) (w : World) (a : Option Addr) (len cap : Nat) (zs : List Int) : Prop :=
 (a = none ∧ len = 0 ∧ cap = 0 ∧ zs = []) ∨
 ∃ x, a = some x ∧ len ≤ cap ∧ cap ≤ maxLen ∧ zs.length = cap ∧ (∀ i, i < zs.length → w.cell? (x.add i) = some (.int k (zs.getD i 0))) ∧ ∀ n ∈ zs, (Lit.int k n).wf = true
set_option maxRecDepth 100000 in
theorem lifted (os : Os) (started : os.Started) (H : Type) (enc : TypeId × Value → H) :
  ReturnsInHanded {} Try.checked os 3 .any (Rows.fnLetsMoreSpec.pre6 enc Try.prog Try.f3 Rows.fnLetsMoreRow.domain false) (Rows.fnLetsMoreSpec.post enc Try.prog Try.f3 false true false false) := by
 refine returnsInHanded_of_change_sized (C := Try.checked) own started (by kernel_rfl) Try.func3
  (ChangeSpec.witness6 (enc := enc) (C := Try.checked) false ⟨#[], #[.slice none 0 0, .slice none 0 0], []⟩ 8 (by kernel_rfl) (by kernel_rfl) (by kernel_rfl) (by kernel_rfl)) ?_
 intro W base args ds gs before hval0 hW hcnd hsz0 _
 have hsz : (DataW.weightsEach Try.prog (Try.f3.params.toList ++ Rows.fnLetsMoreSpec.plain.varTypes Try.prog) (ds ++ gs)).all (· ≤ reachBytes) = true := hsz0
 have hval : ∀ (j : Nat) t v, Try.f3.params[j]? = some t → args[j]? = some v → Value.okWide Try.prog W .any base t v := hval0
 have hW' := hW
 obtain ⟨p, q, hA0, hV, rfl, hfz, hnd⟩ := hW
 have hA : DataW.TrodAll enc Try.prog W 0 (fun _ => true) true Try.f3.params.toList args.toList ds p := hA0
 rw [Try.params3] at hA hval hsz
 obtain ⟨v0, vs0, d0, ds0, p0, q0, hargs, rfl, rfl, h0, r0⟩ := trodAll_cons hA
 obtain ⟨v1, vs1, d1, ds1, p1, q1, rfl, rfl, rfl, h1, r1⟩ := trodAll_cons r0
 obtain ⟨rfl, rfl, rfl⟩ := trodAll_nil r1
 obtain rfl : args = #[v0, v1] := by cases args; simp_all
 obtain ⟨rfl, rfl⟩ := trodVars_none hV
 obtain ⟨a0, len0, cap0, rfl⟩ := okWide_slice Try.underlying22 (hval 0 22 v0 rfl rfl)
 have k0 := h0
 have lt0 : ∀ x ∈ p0, x.block < W.heap.size := by obtain ⟨m, hm⟩ := k0; exact DataW.trod_lt m _ _ _ hm
 obtain ⟨z0, w0⟩ : ∃ zs, IsRow .u8 W a0 len0 cap0 zs := by
  obtain ⟨fuel, hf⟩ := h0
  rcases open_ints Try.underlying22 Try.underlying5 (by kernel_rfl) hf with ⟨hcs, _⟩ | ⟨x, l, c, zs, hcs, _, hl, hm, hz, _, hcell, hwz⟩
  ·simp [Value.cells] at hcs
   obtain ⟨rfl, rfl, rfl⟩ := hcs
   exact ⟨[], .inl ⟨rfl, rfl, rfl, rfl⟩⟩
  ·simp [Value.cells] at hcs
   obtain ⟨rfl, rfl, rfl⟩ := hcs
   exact ⟨zs, .inr ⟨_, rfl, hl, hm, by simpa using hz, hcell, hwz⟩⟩
 have y0 : len0 * 1 ≤ 140737488351232 := YthojnmcnlgcbnaaW.PrintWords.sized_ints hsz (j := 0) (t := 22) rfl rfl Try.underlying22 Try.underlying5 (by kernel_rfl) (by kernel_rfl) h0
 obtain ⟨a1, len1, cap1, rfl⟩ := okWide_slice Try.underlying22 (hval 1 22 v1 rfl rfl)
 have k1 := h1
 have lt1 : ∀ x ∈ p1, x.block < W.heap.size := by obtain ⟨m, hm⟩ := k1; exact DataW.trod_lt m _ _ _ hm
 obtain ⟨z1, w1⟩ : ∃ zs, IsRow .u8 W a1 len1 cap1 zs := by
  obtain ⟨fuel, hf⟩ := h1
  rcases open_ints Try.underlying22 Try.underlying5 (by kernel_rfl) hf with ⟨hcs, _⟩ | ⟨x, l, c, zs, hcs, _, hl, hm, hz, _, hcell, hwz⟩
  ·simp [Value.cells] at hcs
   obtain ⟨rfl, rfl, rfl⟩ := hcs
   exact ⟨[], .inl ⟨rfl, rfl, rfl, rfl⟩⟩
  ·simp [Value.cells] at hcs
   obtain ⟨rfl, rfl, rfl⟩ := hcs
   exact ⟨zs, .inr ⟨_, rfl, hl, hm, by simpa using hz, hcell, hwz⟩⟩
 have y1 : len1 * 1 ≤ 140737488351232 := YthojnmcnlgcbnaaW.PrintWords.sized_ints hsz (j := 1) (t := 22) rfl rfl Try.underlying22 Try.underlying5 (by kernel_rfl) (by kernel_rfl) h1
 clear hA0 hval0 hsz0 hsz
 refine (P.laws_FnLetsMore.walk Pure.FnLetsMore a0 len0 cap0 z0 a1 len1 cap1 z1 W w0 y0 w1 y1).mono fun e W' ⟨he, bel⟩ => ?_
 subst he
 exact ⟨_, rfl, _, _, _, [], _, [], hW', trodAll_mk1 (shut_bool Try.underlying4 _), (trodAll_cons_mk (Below.trod laidOut (by kernel_rfl) (of_decide_eq_true (by kernel_rfl)) k0 bel lt0) (trodAll_cons_mk (Below.trod laidOut (by kernel_rfl) (of_decide_eq_true (by kernel_rfl)) k1 bel lt1) trodAll_mk0)), rfl, bel.frame _, fun h => by cases h⟩
theorem over : Rows.fnLetsMoreRow.holds Try.pinned (OpenSpec.ofChange Rows.fnLetsMoreSpec) :=
 OpenClaim.holds_of_wide 3 Try.f3 rfl rfl rfl rfl rfl rfl rfl ⟨rfl, rfl, rfl, rfl, rfl⟩ rfl rfl rfl rfl rfl (by kernel_rfl) Try.func3 (by kernel_rfl)
  (of_decide_eq_true (by kernel_rfl)) (by unfold Func.isWrapper; first | (rw [if_pos (by decide +kernel)]; kernel_rfl) | (rw [if_neg (by decide +kernel)]; exact ⟨rfl, rfl⟩))
  (fun os started H enc _ => lifted os started H enc)
theorem proved : Rows.FnLetsMoreSaid := over
#print axioms proved
end Go.Proofs.Ythojnmcnlgcbnaa.fnLetsMore
namespace Go.Proofs.Ythojnmcnlgcbnaa
theorem fnLetsMore_holds : Rows.FnLetsMoreSaid := fnLetsMore.proved
end Go.Proofs.Ythojnmcnlgcbnaa
end
