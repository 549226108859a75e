/- FnExactWorldFrom holds of the given program at every input: the program's WorldFrom returns what the reference's returns. No condition. -/
import Derived.Test.YtpnedbnpnekahaaGreatDoorZFnExactWorldFromb
import Derived.Test.YtpnedbnpnekahaaGreatDoorZFnExactWorldFromc
import Derived.Test.YtpnedbnpnekahaaGreatDoorZFnExactWorldFromd
import Derived.Test.YtpnedbnpnekahaaGreatDoorZFnExactWorldFrome
import Derived.Lib.IndexAny
import Derived.SizedLaws
import Derived.ChangeSlices
import Derived.Test.YtpnedbnpnekahaaGreatDoorRows
import Derived.Test.YtpnedbnpnekahaaGreatDoorCards
import Derived.Test.YtpnedbnpnekahaaGreatDoorTie
import Derived.LaidMore
import Derived.Lay
import Derived.SevenTiedAt
import Derived.Stop.Joined
import Derived.Lib.SmallJoins
import Derived.WalkKit
import Derived.ProofKit
import Derived.OpenShut
import Derived.ShutString
import Derived.ChangeOld
import Derived.Below

section
namespace Go.Proofs.YtpnedbnpnekahaaGreatDoor.P
open Go.RowKit Go.Proofs.YtpnedbnpnekahaaGreatDoorW.PrintWords Go.Proofs.YtpnedbnpnekahaaGreatDoorW.PrintLast Go.Proofs.YtpnedbnpnekahaaGreatDoorW.PrintMore
attribute [local go_sem] max2_int min2_int max_two min_two max_three min_three max_four min_four
set_option linter.unusedVariables false
set_option linter.unusedSimpArgs false
def laws_FnExactWorldFrom.j0 : Nat → List (S35) → ByteArray → List ByteArray → List ByteArray → Bool → Option (Bool)
 | 0, _, _, _, _, _ => none
 | k + 1, x0, x1, x6, x8, x49 => if x49 = true then (some false) else ((laws_markStringS.f k x8 1).bind fun bt692 => ((laws_heldStringS.f k bt692.2 1).bind fun t694 => (if t694 < 0 then (some false) else (if t694 = bt692.1 then ((laws_toPageS.f k x0).bind fun t695 => ((impl_WorldFrom.f k t695 x1).bind fun t698 => ((laws_eqStringS.f k t698 x6).bind fun t701 => (if t701 = true then ((laws_heldStringS.f k bt692.2 1).bind fun t702 => (if t702 < 0 then (some false) else (if t702 = bt692.1 then (some true) else (some false)))) else (some false))))) else (some false)))))
def laws_FnExactWorldFrom.f (k : Nat) (l0 : List (S35)) (a1 : ByteArray) : Option (Bool) := if (a1.size : Int) > 1048576 then (some true) else ((laws_szPageS.f k l0 1048576).bind fun t671 => (if t671 < 0 then (some true) else ((laws_toPageS.f k l0).bind fun t672 => ((spec_WorldFrom.f k t672 a1).bind fun t675 => ((laws_toPageS.f k l0).bind fun t678 => ((impl_WorldFrom.f k t678 a1).bind fun t681 => ((laws_eqStringS.f k t681 t675).bind fun t684 => (if t684 = true then ((laws_toPageS.f k l0).bind fun t685 => ((laws_eqPageS.f k t678 t685).bind fun t688 => (if t688 = true then ((laws_markPageS.f k t678 1).bind fun bt689 => (if bt689.1 < 0 then (laws_FnExactWorldFrom.j0 k l0 a1 t675 t681 true) else ((laws_eqStringS.f k t681 t675).bind fun t691 => (laws_FnExactWorldFrom.j0 k l0 a1 t675 t681 (!t691))))) else (some false)))) else (some false)))))))))
set_option maxHeartbeats 8000000 in
set_option maxRecDepth 100000 in
theorem laws_FnExactWorldFrom.calls (k : Nat) (A0 : Option Addr) (c0 : Nat) (l0 : List (S35)) (a1 : ByteArray) (r : Bool) (w : World) (hr0 : Kd.C k35 w A0 l0.length l0) (hc0 : l0.length ≤ c0) (h : laws_FnExactWorldFrom.f k l0 a1 = some r) :
  Calls Tryz.prog 3 #[.slice A0 l0.length c0, .string a1] w fun e w' => e = .returned (.bool r) ∧ Below w.heap.size w w' := by
 have HR0 := Aside0.mk hr0;have HC0 := Aside0.mk hc0;clear hr0 hc0;have HB := Aside0.mk (Below.refl w.heap.size w);have H : (if (a1.size : Int) > 1048576 then (some true) else ((laws_szPageS.f k l0 1048576).bind fun t671 => (if t671 < 0 then (some true) else ((laws_toPageS.f k l0).bind fun t672 => ((spec_WorldFrom.f k t672 a1).bind fun t675 => ((laws_toPageS.f k l0).bind fun t678 => ((impl_WorldFrom.f k t678 a1).bind fun t681 => ((laws_eqStringS.f k t681 t675).bind fun t684 => (if t684 = true then ((laws_toPageS.f k l0).bind fun t685 => ((laws_eqPageS.f k t678 t685).bind fun t688 => (if t688 = true then ((laws_markPageS.f k t678 1).bind fun bt689 => (if bt689.1 < 0 then (laws_FnExactWorldFrom.j0 k l0 a1 t675 t681 true) else ((laws_eqStringS.f k t681 t675).bind fun t691 => (laws_FnExactWorldFrom.j0 k l0 a1 t675 t681 (!t691))))) else (some false)))) else (some false)))))))))) = some r := h;clear h;by_cases c3 : (a1.size : Int) > 1048576
 ·rw [if_pos c3] at H
  have c3b0 : decide (1048576 < (a1.size : Int)) = true := decide_eq_true c3;have c3b1 : decide (1048576 < a1.size) = true := decide_eq_true (by omega);clear c3;obtain rfl := Option.some.inj H;go_enter Tryz.func3, Tryz.ntmps3;go_wp2
  go_ret
  exact ⟨zz1, (zz0 HB)⟩
 ·rw [if_neg c3] at H
  have c3b0 : decide (1048576 < (a1.size : Int)) = false := decide_eq_false c3;have c3b1 : decide (1048576 < a1.size) = false := decide_eq_false (by omega);clear c3;replace H := bindA H;obtain ⟨t671, A4, H⟩ := H;by_cases c5 : t671 < 0
  ·rw [if_pos c5] at H
   have c5b0 : decide (t671 < 0) = true := decide_eq_true c5;clear c5;obtain rfl := Option.some.inj H;go_enter Tryz.func3, Tryz.ntmps3;go_wp2_with (first | ((with_reducible refine gate_callee (f := 4) rfl ?_); refine gsL (some 18) Tryz.func4 #[.slice A0 l0.length c0, .int .i64 1048576] ?_; (with_reducible refine (laws_szPageS.calls k _ _ l0 1048576 t671 _ ?side1 ?side2 A4.out).mono ?_); (case side1 => exact (zz59 HR0)); (case side2 => exact HC0.out); rintro e w6 ⟨rfl, hb⟩; refine ⟨_, rfl, ?_⟩; replace HB := Aside0.mk (below_step (zz0 HB) hb); (try clear hb)))
   go_ret
   exact ⟨zz1, (zz0 HB)⟩
  ·rw [if_neg c5] at H
   have c5b0 : decide (t671 < 0) = false := decide_eq_false c5;clear c5;replace H := bindA H;obtain ⟨t672, A7, H⟩ := H;replace H := bindA H;obtain ⟨t675, A8, H⟩ := H;replace H := bindA H;obtain ⟨t678, A9, H⟩ := H;replace H := bindA H;obtain ⟨t681, A10, H⟩ := H;replace H := bindA H;obtain ⟨t684, A11, H⟩ := H;by_cases c12 : t684 = true
   ·subst c12
    rw [if_pos rfl] at H;replace H := bindA H;obtain ⟨t685, A13, H⟩ := H;replace H := bindA H;obtain ⟨t688, A14, H⟩ := H;by_cases c15 : t688 = true
    ·subst c15
     rw [if_pos rfl] at H;replace H := bindA H;obtain ⟨⟨t689, t690⟩, A16, H⟩ := H;try dsimp -simprocs only at H
     have HC17 := Aside0.mk H;clear H;go_enter Tryz.func3, Tryz.ntmps3;go_upto_region 16 with (first | ((with_reducible refine gate_callee (f := 4) rfl ?_); refine gsL (some 18) Tryz.func4 #[.slice A0 l0.length c0, .int .i64 1048576] ?_; (with_reducible refine (laws_szPageS.calls k _ _ l0 1048576 t671 _ ?side1 ?side2 A4.out).mono ?_); (case side1 => exact (zz59 HR0)); (case side2 => exact HC0.out); rintro e w18 ⟨rfl, hb⟩; refine ⟨_, rfl, ?_⟩; replace HB := Aside0.mk (below_step (zz0 HB) hb); (try clear hb)) | ((with_reducible refine gate_callee (f := 6) rfl ?_); refine gsL (some 22) Tryz.func6 #[.slice A0 l0.length c0] ?_; (with_reducible refine (laws_toPageS.calls k _ _ l0 t672 _ ?side1 ?side2 A7.out).mono ?_); (case side1 => exact (zz24 HR0 HB)); (case side2 => exact HC0.out); rintro e w19 ⟨v673, rfl, ho0, hb⟩; refine ⟨_, rfl, ?_⟩; have HO674 := Aside0.mk (Kd.R_lower ho0 (below_size (zz0 HB))); replace HB := Aside0.mk (below_step (zz0 HB) hb); (try clear hb ho0); obtain ⟨Ao20, co20, eo20⟩ := Kd.R_slice HO674.out; subst eo20) | ((with_reducible refine gate_callee (f := 5) rfl ?_); refine gsL (some 24) Tryz.func5 #[.slice Ao20 t672.length co20, .string a1] ?_; (with_reducible refine (spec_WorldFrom.calls k _ _ t672 a1 t675 _ ?side1 ?side2 A8.out).mono ?_); (case side1 => exact (zz39 HO674)); (case side2 => exact (Kd.R_reads' HO674.out).2.1); rintro e w21 ⟨v676, rfl, ho0, hb⟩; refine ⟨_, rfl, ?_⟩; replace HO674 := Aside0.mk (Kd.R_below (zz28 HO674) hb); have HO677 := Aside0.mk (Kd.R_lower ho0 (below_size (zz0 HB))); replace HB := Aside0.mk (below_step (zz0 HB) hb); (try clear hb ho0)) | ((with_reducible refine gate_callee (f := 6) rfl ?_); refine gsL (some 26) Tryz.func6 #[.slice A0 l0.length c0] ?_; (with_reducible refine (laws_toPageS.calls k _ _ l0 t678 _ ?side1 ?side2 A9.out).mono ?_); (case side1 => exact (zz24 HR0 HB)); (case side2 => exact HC0.out); rintro e w22 ⟨v679, rfl, ho0, hb⟩; refine ⟨_, rfl, ?_⟩; replace HO677 := Aside0.mk (Kd.R_below (zz28 HO677) hb); have HO680 := Aside0.mk (Kd.R_lower (Kd.R_new' ho0 (Kd.R_lt (zz28 HO674))) (below_size (zz0 HB))); replace HO674 := Aside0.mk (Kd.R_elder' (zz28 HO674) (Kd.R_base ho0) hb); replace HB := Aside0.mk (below_step (zz0 HB) hb); (try clear hb ho0); obtain ⟨Ao23, co23, eo23⟩ := Kd.R_slice HO680.out; subst eo23) | ((with_reducible refine gate_callee (f := 7) rfl ?_); refine gsL (some 29) Tryz.func7 #[.slice Ao23 t678.length co23, .string a1] ?_; (with_reducible refine (impl_WorldFrom.calls k _ _ t678 a1 t681 _ ?side1 ?side2 A10.out).mono ?_); (case side1 => exact (zz39 HO680)); (case side2 => exact (Kd.R_reads' HO680.out).2.1); rintro e w24 ⟨v682, rfl, ho0, hb⟩; refine ⟨_, rfl, ?_⟩; replace HO674 := Aside0.mk (Kd.R_below (zz28 HO674) hb); replace HO680 := Aside0.mk (Kd.R_below (zz28 HO680) hb); have HO683 := Aside0.mk (Kd.R_lower (Kd.R_new' ho0 (Kd.R_lt (zz28 HO677))) (below_size (zz0 HB))); replace HO677 := Aside0.mk (Kd.R_elder' (zz28 HO677) (Kd.R_base ho0) hb); replace HB := Aside0.mk (below_step (zz0 HB) hb); (try clear hb ho0); obtain ⟨Ao25, co25, eo25⟩ := Kd.R_slice HO683.out; subst eo25; obtain ⟨Ao26, co26, eo26⟩ := Kd.R_slice HO677.out; subst eo26) | ((with_reducible refine gate_callee (f := 8) rfl ?_); refine gsL (some 32) Tryz.func8 #[.slice Ao25 t681.length co25, .slice Ao26 t675.length co26] ?_; (with_reducible refine (laws_eqStringS.calls k _ _ t681 _ _ t675 true _ ?side1 ?side2 ?side3 ?side4 A11.out).mono ?_); (case side1 => exact (zz39 HO683)); (case side2 => exact (Kd.R_reads' HO683.out).2.1); (case side3 => exact (zz39 HO677)); (case side4 => exact (Kd.R_reads' HO677.out).2.1); rintro e w' ⟨rfl, ⟨nd, rfl⟩⟩; refine ⟨_, rfl, ?_⟩) | ((with_reducible refine gate_callee (f := 6) rfl ?_); refine gsL (some 36) Tryz.func6 #[.slice A0 l0.length c0] ?_; (with_reducible refine (laws_toPageS.calls k _ _ l0 t685 _ ?side1 ?side2 A13.out).mono ?_); (case side1 => exact (zz189 HR0)); (case side2 => exact HC0.out); rintro e w27 ⟨v686, rfl, ho0, hb⟩; refine ⟨_, rfl, ?_⟩; replace HO677 := Aside0.mk (Kd.R_below (zz28 HO677) hb); replace HO683 := Aside0.mk (Kd.R_below (zz28 HO683) hb); have HO687 := Aside0.mk (Kd.R_lower (Kd.R_new' (Kd.R_new' ho0 (Kd.R_lt (zz28 HO674))) (Kd.R_lt (zz28 HO680))) (below_size (zz0 HB))); replace HO674 := Aside0.mk (Kd.R_elder' (zz28 HO674) (Kd.R_base ho0) hb); replace HO680 := Aside0.mk (Kd.R_elder' (zz28 HO680) (Kd.R_base ho0) hb); replace HB := Aside0.mk (below_step (zz0 HB) hb); (try clear hb ho0); obtain ⟨Ao28, co28, eo28⟩ := Kd.R_slice HO687.out; subst eo28) | ((with_reducible refine gate_callee (f := 9) rfl ?_); refine gsL (some 37) Tryz.func9 #[.slice Ao23 t678.length co23, .slice Ao28 t685.length co28] ?_; (with_reducible refine (laws_eqPageS.calls k _ _ t678 _ _ t685 true _ ?side1 ?side2 ?side3 ?side4 A14.out).mono ?_); (case side1 => exact (zz39 HO680)); (case side2 => exact (Kd.R_reads' HO680.out).2.1); (case side3 => exact (zz39 HO687)); (case side4 => exact (Kd.R_reads' HO687.out).2.1); rintro e w29 ⟨rfl, hb⟩; refine ⟨_, rfl, ?_⟩; replace HO674 := Aside0.mk (Kd.R_below (zz28 HO674) hb); replace HO677 := Aside0.mk (Kd.R_below (zz28 HO677) hb); replace HO680 := Aside0.mk (Kd.R_below (zz28 HO680) hb); replace HO683 := Aside0.mk (Kd.R_below (zz28 HO683) hb); replace HO687 := Aside0.mk (Kd.R_below (zz28 HO687) hb); replace HB := Aside0.mk (below_step (zz0 HB) hb); (try clear hb)) | ((with_reducible refine gate_callee (f := 10) rfl ?_); refine gsL (some 41) Tryz.func10 #[.slice Ao23 t678.length co23, .int .i64 1] ?_; (with_reducible refine (laws_markPageS.calls k (fun k_ => some k_ = (.slice Ao23 t678.length co23 : Value).ownBlock) (.slice Ao23 t678.length co23) t678 1 t689 t690 w _ ?side1 ?side2 A16.out).mono ?_); (case side1 => exact (zz0 HB)); (case side2 => exact Kd.R_tight rfl HO680.out); rintro e w30 ⟨rfl, hy0, hb, hkp⟩; refine ⟨_, rfl, ?_⟩; replace HO674 := Aside0.mk (Kd.R_mono (ok' := fun k_ => some k_ ≠ (.slice Ao23 t678.length co23 : Value).ownBlock ∧ some k_ ≠ (.slice Ao28 t685.length co28 : Value).ownBlock) (Kd.R_keptB (HO674.out) hkp (fun k_ hk_ hs_ => by first | exact (hk_.1.2) hs_ | (first | exact hk_.1 hs_ | exact hk_.2 hs_ | exact hk_.1.1 hs_ | exact hk_.2.1 hs_ | exact hk_.2.2 hs_ | exact hk_.1.2 hs_ | exact hk_.1.1.1 hs_ | exact hk_.2.2.2 hs_ | exact hk_.1.1.2 hs_ | exact hk_.1.2.2 hs_ | exact hk_.2.2.1 hs_ | exact hk_.1.2.1 hs_ | exact hk_.2.2.2.2 hs_ | exact hk_.1.1.1.2 hs_ | exact hk_.1.1.2.1 hs_ | exact hk_.2.2.2.1 hs_ | exact hk_.1.2.2.2 hs_ | exact hk_.1.2.2.1 hs_ | exact hk_.1.1.1.1 hs_ | exact hk_.1.1.2.2 hs_ | exact hk_.1.1.1.2.1 hs_ | exact hk_.2.2.2.2.1 hs_ | exact hk_.1.2.2.2.1 hs_ | exact hk_.1.1.1.1.2 hs_ | exact hk_.1.1.1.1.1 hs_ | exact hk_.1.1.2.2.1 hs_ | exact hk_.1.1.2.2.2 hs_ | exact hk_.1.1.1.2.2 hs_ | exact hk_.1.2.2.2.2 hs_ | exact hk_.1.1.1.1.1.1 hs_ | exact hk_.1.1.1.1.2.1 hs_ | exact hk_.1.2.2.2.2.1 hs_ | exact hk_.1.1.1.2.2.1 hs_ | exact hk_.1.1.2.2.2.1 hs_ | exact hk_.1.1.1.2.2.2 hs_ | exact hk_.1.1.2.2.2.2 hs_ | exact hk_.1.1.1.1.1.2 hs_ | exact hk_.1.1.1.1.2.2 hs_ | exact hk_.1.1.1.1.2.2.2 hs_ | exact hk_.1.1.1.1.1.2.2 hs_ | exact hk_.1.1.1.2.2.2.1 hs_ | exact hk_.1.1.1.2.2.2.2 hs_ | exact hk_.1.1.2.2.2.2.1 hs_ | exact hk_.1.1.1.1.2.2.1 hs_ | exact hk_.1.1.1.1.1.2.1 hs_ | exact hk_.1.1.1.2.2.2.2.1 hs_ | exact hk_.1.1.1.1.1.2.2.2 hs_ | exact hk_.1.1.1.1.2.2.2.2 hs_ | exact hk_.1.1.1.1.1.2.2.1 hs_ | exact hk_.1.1.1.1.2.2.2.1 hs_ | exact hk_.1.1.1.1.1.2.2.2.2 hs_ | exact hk_.1.1.1.1.1.2.2.2.1 hs_ | exact hk_.1.1.1.1.2.2.2.2.1 hs_ | exact hk_.1.1.1.1.1.2.2.2.2.1 hs_))) (fun k_ hk_ => by first | exact ⟨hk_.1.1.2, hk_.1.2⟩ | (refine ⟨?_, ?_⟩ <;> (first | exact hk_.1 | exact hk_.2 | exact hk_.1.1 | exact hk_.2.1 | exact hk_.2.2 | exact hk_.1.2 | exact hk_.1.1.1 | exact hk_.2.2.2 | exact hk_.1.1.2 | exact hk_.1.2.2 | exact hk_.2.2.1 | exact hk_.1.2.1 | exact hk_.2.2.2.2 | exact hk_.1.1.1.2 | exact hk_.1.1.2.1 | exact hk_.2.2.2.1 | exact hk_.1.2.2.2 | exact hk_.1.2.2.1 | exact hk_.1.1.1.1 | exact hk_.1.1.2.2 | exact hk_.1.1.1.2.1 | exact hk_.2.2.2.2.1 | exact hk_.1.2.2.2.1 | exact hk_.1.1.1.1.2 | exact hk_.1.1.1.1.1 | exact hk_.1.1.2.2.1 | exact hk_.1.1.2.2.2 | exact hk_.1.1.1.2.2 | exact hk_.1.2.2.2.2 | exact hk_.1.1.1.1.1.1 | exact hk_.1.1.1.1.2.1 | exact hk_.1.2.2.2.2.1 | exact hk_.1.1.1.2.2.1 | exact hk_.1.1.2.2.2.1 | exact hk_.1.1.1.2.2.2 | exact hk_.1.1.2.2.2.2 | exact hk_.1.1.1.1.1.2 | exact hk_.1.1.1.1.2.2 | exact hk_.1.1.1.1.2.2.2 | exact hk_.1.1.1.1.1.2.2 | exact hk_.1.1.1.2.2.2.1 | exact hk_.1.1.1.2.2.2.2 | exact hk_.1.1.2.2.2.2.1 | exact hk_.1.1.1.1.2.2.1 | exact hk_.1.1.1.1.1.2.1 | exact hk_.1.1.1.2.2.2.2.1 | exact hk_.1.1.1.1.1.2.2.2 | exact hk_.1.1.1.1.2.2.2.2 | exact hk_.1.1.1.1.1.2.2.1 | exact hk_.1.1.1.1.2.2.2.1 | exact hk_.1.1.1.1.1.2.2.2.2 | exact hk_.1.1.1.1.1.2.2.2.1 | exact hk_.1.1.1.1.2.2.2.2.1 | exact hk_.1.1.1.1.1.2.2.2.2.1)))); replace HO677 := Aside0.mk (Kd.R_mono (ok' := fun k_ => some k_ ≠ (.slice Ao25 t681.length co25 : Value).ownBlock) (Kd.R_keptB ((Kd.R_apart' HO677.out (Kd.R_typed HO680.out) (by decide))) hkp (fun k_ hk_ hs_ => by first | exact (hk_.2) hs_ | (first | exact hk_.1 hs_ | exact hk_.2 hs_ | exact hk_.1.1 hs_ | exact hk_.2.1 hs_ | exact hk_.2.2 hs_ | exact hk_.1.2 hs_ | exact hk_.1.1.1 hs_ | exact hk_.2.2.2 hs_ | exact hk_.1.1.2 hs_ | exact hk_.1.2.2 hs_ | exact hk_.2.2.1 hs_ | exact hk_.1.2.1 hs_ | exact hk_.2.2.2.2 hs_ | exact hk_.1.1.1.2 hs_ | exact hk_.1.1.2.1 hs_ | exact hk_.2.2.2.1 hs_ | exact hk_.1.2.2.2 hs_ | exact hk_.1.2.2.1 hs_ | exact hk_.1.1.1.1 hs_ | exact hk_.1.1.2.2 hs_ | exact hk_.1.1.1.2.1 hs_ | exact hk_.2.2.2.2.1 hs_ | exact hk_.1.2.2.2.1 hs_ | exact hk_.1.1.1.1.2 hs_ | exact hk_.1.1.1.1.1 hs_ | exact hk_.1.1.2.2.1 hs_ | exact hk_.1.1.2.2.2 hs_ | exact hk_.1.1.1.2.2 hs_ | exact hk_.1.2.2.2.2 hs_ | exact hk_.1.1.1.1.1.1 hs_ | exact hk_.1.1.1.1.2.1 hs_ | exact hk_.1.2.2.2.2.1 hs_ | exact hk_.1.1.1.2.2.1 hs_ | exact hk_.1.1.2.2.2.1 hs_ | exact hk_.1.1.1.2.2.2 hs_ | exact hk_.1.1.2.2.2.2 hs_ | exact hk_.1.1.1.1.1.2 hs_ | exact hk_.1.1.1.1.2.2 hs_ | exact hk_.1.1.1.1.2.2.2 hs_ | exact hk_.1.1.1.1.1.2.2 hs_ | exact hk_.1.1.1.2.2.2.1 hs_ | exact hk_.1.1.1.2.2.2.2 hs_ | exact hk_.1.1.2.2.2.2.1 hs_ | exact hk_.1.1.1.1.2.2.1 hs_ | exact hk_.1.1.1.1.1.2.1 hs_ | exact hk_.1.1.1.2.2.2.2.1 hs_ | exact hk_.1.1.1.1.1.2.2.2 hs_ | exact hk_.1.1.1.1.2.2.2.2 hs_ | exact hk_.1.1.1.1.1.2.2.1 hs_ | exact hk_.1.1.1.1.2.2.2.1 hs_ | exact hk_.1.1.1.1.1.2.2.2.2 hs_ | exact hk_.1.1.1.1.1.2.2.2.1 hs_ | exact hk_.1.1.1.1.2.2.2.2.1 hs_ | exact hk_.1.1.1.1.1.2.2.2.2.1 hs_))) (fun k_ hk_ => hk_.1.1.2)); replace HO683 := Aside0.mk (Kd.R_mono (ok' := fun k_ => some k_ ≠ (.slice Ao26 t675.length co26 : Value).ownBlock) (Kd.R_keptB ((Kd.R_apart' HO683.out (Kd.R_typed HO680.out) (by decide))) hkp (fun k_ hk_ hs_ => by first | exact (hk_.2) hs_ | (first | exact hk_.1 hs_ | exact hk_.2 hs_ | exact hk_.1.1 hs_ | exact hk_.2.1 hs_ | exact hk_.2.2 hs_ | exact hk_.1.2 hs_ | exact hk_.1.1.1 hs_ | exact hk_.2.2.2 hs_ | exact hk_.1.1.2 hs_ | exact hk_.1.2.2 hs_ | exact hk_.2.2.1 hs_ | exact hk_.1.2.1 hs_ | exact hk_.2.2.2.2 hs_ | exact hk_.1.1.1.2 hs_ | exact hk_.1.1.2.1 hs_ | exact hk_.2.2.2.1 hs_ | exact hk_.1.2.2.2 hs_ | exact hk_.1.2.2.1 hs_ | exact hk_.1.1.1.1 hs_ | exact hk_.1.1.2.2 hs_ | exact hk_.1.1.1.2.1 hs_ | exact hk_.2.2.2.2.1 hs_ | exact hk_.1.2.2.2.1 hs_ | exact hk_.1.1.1.1.2 hs_ | exact hk_.1.1.1.1.1 hs_ | exact hk_.1.1.2.2.1 hs_ | exact hk_.1.1.2.2.2 hs_ | exact hk_.1.1.1.2.2 hs_ | exact hk_.1.2.2.2.2 hs_ | exact hk_.1.1.1.1.1.1 hs_ | exact hk_.1.1.1.1.2.1 hs_ | exact hk_.1.2.2.2.2.1 hs_ | exact hk_.1.1.1.2.2.1 hs_ | exact hk_.1.1.2.2.2.1 hs_ | exact hk_.1.1.1.2.2.2 hs_ | exact hk_.1.1.2.2.2.2 hs_ | exact hk_.1.1.1.1.1.2 hs_ | exact hk_.1.1.1.1.2.2 hs_ | exact hk_.1.1.1.1.2.2.2 hs_ | exact hk_.1.1.1.1.1.2.2 hs_ | exact hk_.1.1.1.2.2.2.1 hs_ | exact hk_.1.1.1.2.2.2.2 hs_ | exact hk_.1.1.2.2.2.2.1 hs_ | exact hk_.1.1.1.1.2.2.1 hs_ | exact hk_.1.1.1.1.1.2.1 hs_ | exact hk_.1.1.1.2.2.2.2.1 hs_ | exact hk_.1.1.1.1.1.2.2.2 hs_ | exact hk_.1.1.1.1.2.2.2.2 hs_ | exact hk_.1.1.1.1.1.2.2.1 hs_ | exact hk_.1.1.1.1.2.2.2.1 hs_ | exact hk_.1.1.1.1.1.2.2.2.2 hs_ | exact hk_.1.1.1.1.1.2.2.2.1 hs_ | exact hk_.1.1.1.1.2.2.2.2.1 hs_ | exact hk_.1.1.1.1.1.2.2.2.2.1 hs_))) (fun k_ hk_ => hk_.1.1.2)); replace HO680 := Aside0.mk (Kd.R_reok rfl hy0 (fun k_ e_ => HO680.out.1 k_ e_)); replace HO687 := Aside0.mk (Kd.R_mono (ok' := fun k_ => some k_ ≠ (.slice Ao20 t672.length co20 : Value).ownBlock ∧ some k_ ≠ (.slice Ao23 t678.length co23 : Value).ownBlock) (Kd.R_keptB (HO687.out) hkp (fun k_ hk_ hs_ => by first | exact (hk_.2) hs_ | (first | exact hk_.1 hs_ | exact hk_.2 hs_ | exact hk_.1.1 hs_ | exact hk_.2.1 hs_ | exact hk_.2.2 hs_ | exact hk_.1.2 hs_ | exact hk_.1.1.1 hs_ | exact hk_.2.2.2 hs_ | exact hk_.1.1.2 hs_ | exact hk_.1.2.2 hs_ | exact hk_.2.2.1 hs_ | exact hk_.1.2.1 hs_ | exact hk_.2.2.2.2 hs_ | exact hk_.1.1.1.2 hs_ | exact hk_.1.1.2.1 hs_ | exact hk_.2.2.2.1 hs_ | exact hk_.1.2.2.2 hs_ | exact hk_.1.2.2.1 hs_ | exact hk_.1.1.1.1 hs_ | exact hk_.1.1.2.2 hs_ | exact hk_.1.1.1.2.1 hs_ | exact hk_.2.2.2.2.1 hs_ | exact hk_.1.2.2.2.1 hs_ | exact hk_.1.1.1.1.2 hs_ | exact hk_.1.1.1.1.1 hs_ | exact hk_.1.1.2.2.1 hs_ | exact hk_.1.1.2.2.2 hs_ | exact hk_.1.1.1.2.2 hs_ | exact hk_.1.2.2.2.2 hs_ | exact hk_.1.1.1.1.1.1 hs_ | exact hk_.1.1.1.1.2.1 hs_ | exact hk_.1.2.2.2.2.1 hs_ | exact hk_.1.1.1.2.2.1 hs_ | exact hk_.1.1.2.2.2.1 hs_ | exact hk_.1.1.1.2.2.2 hs_ | exact hk_.1.1.2.2.2.2 hs_ | exact hk_.1.1.1.1.1.2 hs_ | exact hk_.1.1.1.1.2.2 hs_ | exact hk_.1.1.1.1.2.2.2 hs_ | exact hk_.1.1.1.1.1.2.2 hs_ | exact hk_.1.1.1.2.2.2.1 hs_ | exact hk_.1.1.1.2.2.2.2 hs_ | exact hk_.1.1.2.2.2.2.1 hs_ | exact hk_.1.1.1.1.2.2.1 hs_ | exact hk_.1.1.1.1.1.2.1 hs_ | exact hk_.1.1.1.2.2.2.2.1 hs_ | exact hk_.1.1.1.1.1.2.2.2 hs_ | exact hk_.1.1.1.1.2.2.2.2 hs_ | exact hk_.1.1.1.1.1.2.2.1 hs_ | exact hk_.1.1.1.1.2.2.2.1 hs_ | exact hk_.1.1.1.1.1.2.2.2.2 hs_ | exact hk_.1.1.1.1.1.2.2.2.1 hs_ | exact hk_.1.1.1.1.2.2.2.2.1 hs_ | exact hk_.1.1.1.1.1.2.2.2.2.1 hs_))) (fun k_ hk_ => by first | exact ⟨hk_.1.1.2, hk_.1.2⟩ | (refine ⟨?_, ?_⟩ <;> (first | exact hk_.1 | exact hk_.2 | exact hk_.1.1 | exact hk_.2.1 | exact hk_.2.2 | exact hk_.1.2 | exact hk_.1.1.1 | exact hk_.2.2.2 | exact hk_.1.1.2 | exact hk_.1.2.2 | exact hk_.2.2.1 | exact hk_.1.2.1 | exact hk_.2.2.2.2 | exact hk_.1.1.1.2 | exact hk_.1.1.2.1 | exact hk_.2.2.2.1 | exact hk_.1.2.2.2 | exact hk_.1.2.2.1 | exact hk_.1.1.1.1 | exact hk_.1.1.2.2 | exact hk_.1.1.1.2.1 | exact hk_.2.2.2.2.1 | exact hk_.1.2.2.2.1 | exact hk_.1.1.1.1.2 | exact hk_.1.1.1.1.1 | exact hk_.1.1.2.2.1 | exact hk_.1.1.2.2.2 | exact hk_.1.1.1.2.2 | exact hk_.1.2.2.2.2 | exact hk_.1.1.1.1.1.1 | exact hk_.1.1.1.1.2.1 | exact hk_.1.2.2.2.2.1 | exact hk_.1.1.1.2.2.1 | exact hk_.1.1.2.2.2.1 | exact hk_.1.1.1.2.2.2 | exact hk_.1.1.2.2.2.2 | exact hk_.1.1.1.1.1.2 | exact hk_.1.1.1.1.2.2 | exact hk_.1.1.1.1.2.2.2 | exact hk_.1.1.1.1.1.2.2 | exact hk_.1.1.1.2.2.2.1 | exact hk_.1.1.1.2.2.2.2 | exact hk_.1.1.2.2.2.2.1 | exact hk_.1.1.1.1.2.2.1 | exact hk_.1.1.1.1.1.2.1 | exact hk_.1.1.1.2.2.2.2.1 | exact hk_.1.1.1.1.1.2.2.2 | exact hk_.1.1.1.1.2.2.2.2 | exact hk_.1.1.1.1.1.2.2.1 | exact hk_.1.1.1.1.2.2.2.1 | exact hk_.1.1.1.1.1.2.2.2.2 | exact hk_.1.1.1.1.1.2.2.2.1 | exact hk_.1.1.1.1.2.2.2.2.1 | exact hk_.1.1.1.1.1.2.2.2.2.1)))); replace HB := Aside0.mk (hb); (try clear hb)))
     (try simp only [Act.put, List.setIfInBounds_toArray, List.set_cons_zero, List.set_cons_succ])
     go_cut [49] (fun v49 wc => ∃ (kq : Nat) (x49_16 : Bool), v49 = .bool x49_16 ∧ Aside0 (laws_FnExactWorldFrom.j0 kq l0 a1 t675 t681 x49_16 = some r) ∧ Aside0 (kq ≤ k) ∧ Aside0 (Kd.R Kd.string 9 wc w.heap.size (fun k_ => some k_ ≠ ((.slice Ao25 t681.length co25) : Value).ownBlock) (.slice Ao26 t675.length co26) t675) ∧ Aside0 (Kd.R Kd.string 9 wc w.heap.size (fun k_ => some k_ ≠ ((.slice Ao26 t675.length co26) : Value).ownBlock) (.slice Ao25 t681.length co25) t681) ∧ Aside0 (Below w.heap.size w wc))
     case first =>
      have H := HC17.out;clear HC17;by_cases c31 : t689 < 0
      ·rw [if_pos c31] at H
       have c31b0 : decide (t689 < 0) = true := decide_eq_true c31;clear c31;(first | rw [c31b0] | (simp only [i64_w, i32_w]; rw [c31b0]) | skip)
       have H' := Aside0.mk H;clear H;go_wp2
       go_meet
       case rel => exact ⟨_, (true), zz3, H', ⟨zz9⟩, ⟨(zz28 HO677)⟩, ⟨(zz28 HO683)⟩, ⟨(zz0 HB)⟩⟩
      ·rw [if_neg c31] at H
       have c31b0 : decide (t689 < 0) = false := decide_eq_false c31;clear c31;(first | rw [c31b0] | (simp only [i64_w, i32_w]; rw [c31b0]) | skip)
       replace H := bindA H;obtain ⟨t691, A32, H⟩ := H;have H' := Aside0.mk H;clear H;go_wp2_with (first | (go_at_call 8; (with_reducible refine (laws_eqStringS.calls k _ _ t681 _ _ t675 t691 _ ?side1 ?side2 ?side3 ?side4 A32.out).mono ?_); (case side1 => exact (zz39 HO683)); (case side2 => exact (Kd.R_reads' HO683.out).2.1); (case side3 => exact (zz39 HO677)); (case side4 => exact (Kd.R_reads' HO677.out).2.1); rintro e w' ⟨rfl, ⟨nd, rfl⟩⟩))
       go_meet
       case rel => exact ⟨_, (!t691), zz3, H', ⟨zz9⟩, ⟨(zz28 HO677)⟩, ⟨(zz28 HO683)⟩, ⟨(zz0 HB)⟩⟩
     case rest =>
      clear HC17;obtain ⟨kq, x49_16, rfl, HA, HJ16, HO_6, HO_8, HB⟩ := hcut;cases kq with
      | zero => exact absurd HA.out (by simp [laws_FnExactWorldFrom.j0])
      | succ kj16 =>
       have H := HA.out;clear HA;simp only [laws_FnExactWorldFrom.j0] at H
       by_cases c33 : x49_16 = true
       ·subst c33
        rw [if_pos rfl] at H;obtain rfl := Option.some.inj H;go_wp2
        go_ret
        exact ⟨zz1, (zz0 HB)⟩
       ·replace c33 := Bool.eq_false_iff.mpr c33
        subst c33;rw [if_neg (show ¬ (false = true) by decide)] at H;replace H := bindA H;obtain ⟨⟨t692, t693⟩, A34, H⟩ := H;try dsimp -simprocs only at H
        replace H := bindA H;obtain ⟨t694, A35, H⟩ := H;by_cases c36 : t694 < 0
        ·rw [if_pos c36] at H
         have c36b0 : decide (t694 < 0) = true := decide_eq_true c36;clear c36;obtain rfl := Option.some.inj H;go_wp2_with (first | ((with_reducible refine gate_callee (f := 11) rfl ?_); refine gsL (some 52) Tryz.func11 #[.slice Ao25 t681.length co25, .int .i64 1] ?_; (with_reducible refine (laws_markStringS.calls kj16 (fun k_ => some k_ = (.slice Ao25 t681.length co25 : Value).ownBlock) (.slice Ao25 t681.length co25) t681 1 t692 t693 w _ ?side1 ?side2 A34.out).mono ?_); (case side1 => exact (zz0 HB)); (case side2 => exact Kd.R_tight rfl HO_8.out); rintro e w37 ⟨rfl, hy0, hb, hkp⟩; refine ⟨_, rfl, ?_⟩; replace HO_6 := Aside0.mk (Kd.R_mono (ok' := fun k_ => some k_ ≠ (.slice Ao25 t681.length co25 : Value).ownBlock) (Kd.R_keptB (HO_6.out) hkp (fun k_ hk_ hs_ => (hk_) hs_)) (fun k_ hk_ => hk_.1)); replace HO_8 := Aside0.mk (Kd.R_reok rfl hy0 (fun k_ e_ => HO_8.out.1 k_ e_)); replace HB := Aside0.mk (hb); (try clear hb)) | ((with_reducible refine gate_callee (f := 12) rfl ?_); refine goesL_ (some 55) rfl rfl Tryz.func12 (by kernel_rfl) rfl #[.slice Ao25 t693.length co25, .int .i64 1] rfl (zz191 HO_8) ?_; (with_reducible refine (laws_heldStringS.calls kj16 _ _ t693 1 t694 _ ?side1 ?side2 A35.out).mono ?_); (case side1 => exact (zz39 HO_8)); (case side2 => exact (zz192 HO_8)); rintro e w38 ⟨rfl, hb⟩; refine ⟨_, rfl, ?_⟩; replace HO_6 := Aside0.mk (Kd.R_below (zz28 HO_6) hb); replace HO_8 := Aside0.mk (Kd.R_below (zz28 HO_8) hb); replace HB := Aside0.mk (below_step (zz0 HB) hb); (try clear hb)))
         go_ret
         exact ⟨zz1, (zz0 HB)⟩
        ·rw [if_neg c36] at H
         have c36b0 : decide (t694 < 0) = false := decide_eq_false c36;clear c36;by_cases c39 : t694 = t692
         ·rw [if_pos c39] at H
          have c39b0 : (t694 == t692) = true := beq_iff_eq.mpr c39;have c39b1 : (t694 != t692) = false := bne_eq_false_iff_eq.mpr c39;clear c39;replace H := bindA H;obtain ⟨t695, A40, H⟩ := H;replace H := bindA H;obtain ⟨t698, A41, H⟩ := H;replace H := bindA H;obtain ⟨t701, A42, H⟩ := H;by_cases c43 : t701 = true
          ·subst c43
           rw [if_pos rfl] at H;replace H := bindA H;obtain ⟨t702, A44, H⟩ := H;by_cases c45 : t702 < 0
           ·rw [if_pos c45] at H
            have c45b0 : decide (t702 < 0) = true := decide_eq_true c45;clear c45;obtain rfl := Option.some.inj H;go_wp2_with (first | ((with_reducible refine gate_callee (f := 11) rfl ?_); refine gsL (some 52) Tryz.func11 #[.slice Ao25 t681.length co25, .int .i64 1] ?_; (with_reducible refine (laws_markStringS.calls kj16 (fun k_ => some k_ = (.slice Ao25 t681.length co25 : Value).ownBlock) (.slice Ao25 t681.length co25) t681 1 t692 t693 w _ ?side1 ?side2 A34.out).mono ?_); (case side1 => exact (zz0 HB)); (case side2 => exact Kd.R_tight rfl HO_8.out); rintro e w46 ⟨rfl, hy0, hb, hkp⟩; refine ⟨_, rfl, ?_⟩; replace HO_6 := Aside0.mk (Kd.R_mono (ok' := fun k_ => some k_ ≠ (.slice Ao25 t681.length co25 : Value).ownBlock) (Kd.R_keptB (HO_6.out) hkp (fun k_ hk_ hs_ => (hk_) hs_)) (fun k_ hk_ => hk_.1)); replace HO_8 := Aside0.mk (Kd.R_reok rfl hy0 (fun k_ e_ => HO_8.out.1 k_ e_)); replace HB := Aside0.mk (hb); (try clear hb)) | ((with_reducible refine gate_callee (f := 12) rfl ?_); refine goesL_ (some 55) rfl rfl Tryz.func12 (by kernel_rfl) rfl #[.slice Ao25 t693.length co25, .int .i64 1] rfl (zz191 HO_8) ?_; (with_reducible refine (laws_heldStringS.calls kj16 _ _ t693 1 t694 _ ?side1 ?side2 A35.out).mono ?_); (case side1 => exact (zz39 HO_8)); (case side2 => exact (zz192 HO_8)); rintro e w47 ⟨rfl, hb⟩; refine ⟨_, rfl, ?_⟩; replace HO_6 := Aside0.mk (Kd.R_below (zz28 HO_6) hb); replace HO_8 := Aside0.mk (Kd.R_below (zz28 HO_8) hb); replace HB := Aside0.mk (below_step (zz0 HB) hb); (try clear hb)) | ((with_reducible refine gate_callee (f := 6) rfl ?_); refine gsL (some 62) Tryz.func6 #[.slice A0 l0.length c0] ?_; (with_reducible refine (laws_toPageS.calls kj16 _ _ l0 t695 _ ?side1 ?side2 A40.out).mono ?_); (case side1 => exact (zz24 HR0 HB)); (case side2 => exact HC0.out); rintro e w48 ⟨v696, rfl, ho0, hb⟩; refine ⟨_, rfl, ?_⟩; replace HO_6 := Aside0.mk (Kd.R_below (zz28 HO_6) hb); replace HO_8 := Aside0.mk (Kd.R_below (zz28 HO_8) hb); have HO697 := Aside0.mk (Kd.R_lower ho0 (below_size (zz0 HB))); replace HB := Aside0.mk (below_step (zz0 HB) hb); (try clear hb ho0); obtain ⟨Ao49, co49, eo49⟩ := Kd.R_slice HO697.out; subst eo49) | ((with_reducible refine gate_callee (f := 7) rfl ?_); refine gsL (some 64) Tryz.func7 #[.slice Ao49 t695.length co49, .string a1] ?_; (with_reducible refine (impl_WorldFrom.calls kj16 _ _ t695 a1 t698 _ ?side1 ?side2 A41.out).mono ?_); (case side1 => exact (zz39 HO697)); (case side2 => exact (Kd.R_reads' HO697.out).2.1); rintro e w50 ⟨v699, rfl, ho0, hb⟩; refine ⟨_, rfl, ?_⟩; replace HO697 := Aside0.mk (Kd.R_below (zz28 HO697) hb); have HO700 := Aside0.mk (Kd.R_lower (Kd.R_new' (Kd.R_new' ho0 (Kd.R_lt (zz28 HO_6))) (Kd.R_lt (zz28 HO_8))) (below_size (zz0 HB))); replace HO_6 := Aside0.mk (Kd.R_elder' (zz28 HO_6) (Kd.R_base ho0) hb); replace HO_8 := Aside0.mk (Kd.R_elder' (zz28 HO_8) (Kd.R_base ho0) hb); replace HB := Aside0.mk (below_step (zz0 HB) hb); (try clear hb ho0); obtain ⟨Ao51, co51, eo51⟩ := Kd.R_slice HO700.out; subst eo51) | ((with_reducible refine gate_callee (f := 8) rfl ?_); refine gsL (some 67) Tryz.func8 #[.slice Ao51 t698.length co51, .slice Ao26 t675.length co26] ?_; (with_reducible refine (laws_eqStringS.calls kj16 _ _ t698 _ _ t675 true _ ?side1 ?side2 ?side3 ?side4 A42.out).mono ?_); (case side1 => exact (zz39 HO700)); (case side2 => exact (Kd.R_reads' HO700.out).2.1); (case side3 => exact (zz39 HO_6)); (case side4 => exact (Kd.R_reads' HO_6.out).2.1); rintro e w' ⟨rfl, ⟨nd, rfl⟩⟩; refine ⟨_, rfl, ?_⟩) | ((with_reducible refine gate_callee (f := 12) rfl ?_); refine goesL_ (some 71) rfl rfl Tryz.func12 (by kernel_rfl) rfl #[.slice Ao25 t693.length co25, .int .i64 1] rfl (zz191 HO_8) ?_; (with_reducible refine (laws_heldStringS.calls kj16 _ _ t693 1 t702 _ ?side1 ?side2 A44.out).mono ?_); (case side1 => exact (zz39 HO_8)); (case side2 => exact (zz192 HO_8)); rintro e w52 ⟨rfl, hb⟩; refine ⟨_, rfl, ?_⟩; replace HO_6 := Aside0.mk (Kd.R_below (zz28 HO_6) hb); replace HO_8 := Aside0.mk (Kd.R_below (zz28 HO_8) hb); replace HO697 := Aside0.mk (Kd.R_below (zz28 HO697) hb); replace HO700 := Aside0.mk (Kd.R_below (zz28 HO700) hb); replace HB := Aside0.mk (below_step (zz0 HB) hb); (try clear hb)))
            go_ret
            exact ⟨zz1, (zz0 HB)⟩
           ·rw [if_neg c45] at H
            have c45b0 : decide (t702 < 0) = false := decide_eq_false c45;clear c45;by_cases c53 : t702 = t692
            ·rw [if_pos c53] at H
             have c53b0 : (t702 == t692) = true := beq_iff_eq.mpr c53;have c53b1 : (t702 != t692) = false := bne_eq_false_iff_eq.mpr c53;clear c53;obtain rfl := Option.some.inj H;go_wp2_with (first | ((with_reducible refine gate_callee (f := 11) rfl ?_); refine gsL (some 52) Tryz.func11 #[.slice Ao25 t681.length co25, .int .i64 1] ?_; (with_reducible refine (laws_markStringS.calls kj16 (fun k_ => some k_ = (.slice Ao25 t681.length co25 : Value).ownBlock) (.slice Ao25 t681.length co25) t681 1 t692 t693 w _ ?side1 ?side2 A34.out).mono ?_); (case side1 => exact (zz0 HB)); (case side2 => exact Kd.R_tight rfl HO_8.out); rintro e w54 ⟨rfl, hy0, hb, hkp⟩; refine ⟨_, rfl, ?_⟩; replace HO_6 := Aside0.mk (Kd.R_mono (ok' := fun k_ => some k_ ≠ (.slice Ao25 t681.length co25 : Value).ownBlock) (Kd.R_keptB (HO_6.out) hkp (fun k_ hk_ hs_ => (hk_) hs_)) (fun k_ hk_ => hk_.1)); replace HO_8 := Aside0.mk (Kd.R_reok rfl hy0 (fun k_ e_ => HO_8.out.1 k_ e_)); replace HB := Aside0.mk (hb); (try clear hb)) | ((with_reducible refine gate_callee (f := 12) rfl ?_); refine goesL_ (some 55) rfl rfl Tryz.func12 (by kernel_rfl) rfl #[.slice Ao25 t693.length co25, .int .i64 1] rfl (zz191 HO_8) ?_; (with_reducible refine (laws_heldStringS.calls kj16 _ _ t693 1 t694 _ ?side1 ?side2 A35.out).mono ?_); (case side1 => exact (zz39 HO_8)); (case side2 => exact (zz192 HO_8)); rintro e w55 ⟨rfl, hb⟩; refine ⟨_, rfl, ?_⟩; replace HO_6 := Aside0.mk (Kd.R_below (zz28 HO_6) hb); replace HO_8 := Aside0.mk (Kd.R_below (zz28 HO_8) hb); replace HB := Aside0.mk (below_step (zz0 HB) hb); (try clear hb)) | ((with_reducible refine gate_callee (f := 6) rfl ?_); refine gsL (some 62) Tryz.func6 #[.slice A0 l0.length c0] ?_; (with_reducible refine (laws_toPageS.calls kj16 _ _ l0 t695 _ ?side1 ?side2 A40.out).mono ?_); (case side1 => exact (zz24 HR0 HB)); (case side2 => exact HC0.out); rintro e w56 ⟨v696, rfl, ho0, hb⟩; refine ⟨_, rfl, ?_⟩; replace HO_6 := Aside0.mk (Kd.R_below (zz28 HO_6) hb); replace HO_8 := Aside0.mk (Kd.R_below (zz28 HO_8) hb); have HO697 := Aside0.mk (Kd.R_lower ho0 (below_size (zz0 HB))); replace HB := Aside0.mk (below_step (zz0 HB) hb); (try clear hb ho0); obtain ⟨Ao57, co57, eo57⟩ := Kd.R_slice HO697.out; subst eo57) | ((with_reducible refine gate_callee (f := 7) rfl ?_); refine gsL (some 64) Tryz.func7 #[.slice Ao57 t695.length co57, .string a1] ?_; (with_reducible refine (impl_WorldFrom.calls kj16 _ _ t695 a1 t698 _ ?side1 ?side2 A41.out).mono ?_); (case side1 => exact (zz39 HO697)); (case side2 => exact (Kd.R_reads' HO697.out).2.1); rintro e w58 ⟨v699, rfl, ho0, hb⟩; refine ⟨_, rfl, ?_⟩; replace HO697 := Aside0.mk (Kd.R_below (zz28 HO697) hb); have HO700 := Aside0.mk (Kd.R_lower (Kd.R_new' (Kd.R_new' ho0 (Kd.R_lt (zz28 HO_6))) (Kd.R_lt (zz28 HO_8))) (below_size (zz0 HB))); replace HO_6 := Aside0.mk (Kd.R_elder' (zz28 HO_6) (Kd.R_base ho0) hb); replace HO_8 := Aside0.mk (Kd.R_elder' (zz28 HO_8) (Kd.R_base ho0) hb); replace HB := Aside0.mk (below_step (zz0 HB) hb); (try clear hb ho0); obtain ⟨Ao59, co59, eo59⟩ := Kd.R_slice HO700.out; subst eo59) | ((with_reducible refine gate_callee (f := 8) rfl ?_); refine gsL (some 67) Tryz.func8 #[.slice Ao59 t698.length co59, .slice Ao26 t675.length co26] ?_; (with_reducible refine (laws_eqStringS.calls kj16 _ _ t698 _ _ t675 true _ ?side1 ?side2 ?side3 ?side4 A42.out).mono ?_); (case side1 => exact (zz39 HO700)); (case side2 => exact (Kd.R_reads' HO700.out).2.1); (case side3 => exact (zz39 HO_6)); (case side4 => exact (Kd.R_reads' HO_6.out).2.1); rintro e w' ⟨rfl, ⟨nd, rfl⟩⟩; refine ⟨_, rfl, ?_⟩) | ((with_reducible refine gate_callee (f := 12) rfl ?_); refine goesL_ (some 71) rfl rfl Tryz.func12 (by kernel_rfl) rfl #[.slice Ao25 t693.length co25, .int .i64 1] rfl (zz191 HO_8) ?_; (with_reducible refine (laws_heldStringS.calls kj16 _ _ t693 1 t702 _ ?side1 ?side2 A44.out).mono ?_); (case side1 => exact (zz39 HO_8)); (case side2 => exact (zz192 HO_8)); rintro e w60 ⟨rfl, hb⟩; refine ⟨_, rfl, ?_⟩; replace HO_6 := Aside0.mk (Kd.R_below (zz28 HO_6) hb); replace HO_8 := Aside0.mk (Kd.R_below (zz28 HO_8) hb); replace HO697 := Aside0.mk (Kd.R_below (zz28 HO697) hb); replace HO700 := Aside0.mk (Kd.R_below (zz28 HO700) hb); replace HB := Aside0.mk (below_step (zz0 HB) hb); (try clear hb)))
             go_ret
             exact ⟨zz1, (zz0 HB)⟩
            ·rw [if_neg c53] at H
             have c53b0 : (t702 == t692) = false := beq_eq_false_iff_ne.mpr c53;have c53b1 : (t702 != t692) = true := bne_iff_ne.mpr c53;obtain rfl := Option.some.inj H;go_wp2_with (first | ((with_reducible refine gate_callee (f := 11) rfl ?_); refine gsL (some 52) Tryz.func11 #[.slice Ao25 t681.length co25, .int .i64 1] ?_; (with_reducible refine (laws_markStringS.calls kj16 (fun k_ => some k_ = (.slice Ao25 t681.length co25 : Value).ownBlock) (.slice Ao25 t681.length co25) t681 1 t692 t693 w _ ?side1 ?side2 A34.out).mono ?_); (case side1 => exact (zz0 HB)); (case side2 => exact Kd.R_tight rfl HO_8.out); rintro e w61 ⟨rfl, hy0, hb, hkp⟩; refine ⟨_, rfl, ?_⟩; replace HO_6 := Aside0.mk (Kd.R_mono (ok' := fun k_ => some k_ ≠ (.slice Ao25 t681.length co25 : Value).ownBlock) (Kd.R_keptB (HO_6.out) hkp (fun k_ hk_ hs_ => (hk_) hs_)) (fun k_ hk_ => hk_.1)); replace HO_8 := Aside0.mk (Kd.R_reok rfl hy0 (fun k_ e_ => HO_8.out.1 k_ e_)); replace HB := Aside0.mk (hb); (try clear hb)) | ((with_reducible refine gate_callee (f := 12) rfl ?_); refine goesL_ (some 55) rfl rfl Tryz.func12 (by kernel_rfl) rfl #[.slice Ao25 t693.length co25, .int .i64 1] rfl (zz191 HO_8) ?_; (with_reducible refine (laws_heldStringS.calls kj16 _ _ t693 1 t694 _ ?side1 ?side2 A35.out).mono ?_); (case side1 => exact (zz39 HO_8)); (case side2 => exact (zz192 HO_8)); rintro e w62 ⟨rfl, hb⟩; refine ⟨_, rfl, ?_⟩; replace HO_6 := Aside0.mk (Kd.R_below (zz28 HO_6) hb); replace HO_8 := Aside0.mk (Kd.R_below (zz28 HO_8) hb); replace HB := Aside0.mk (below_step (zz0 HB) hb); (try clear hb)) | ((with_reducible refine gate_callee (f := 6) rfl ?_); refine gsL (some 62) Tryz.func6 #[.slice A0 l0.length c0] ?_; (with_reducible refine (laws_toPageS.calls kj16 _ _ l0 t695 _ ?side1 ?side2 A40.out).mono ?_); (case side1 => exact (zz24 HR0 HB)); (case side2 => exact HC0.out); rintro e w63 ⟨v696, rfl, ho0, hb⟩; refine ⟨_, rfl, ?_⟩; replace HO_6 := Aside0.mk (Kd.R_below (zz28 HO_6) hb); replace HO_8 := Aside0.mk (Kd.R_below (zz28 HO_8) hb); have HO697 := Aside0.mk (Kd.R_lower ho0 (below_size (zz0 HB))); replace HB := Aside0.mk (below_step (zz0 HB) hb); (try clear hb ho0); obtain ⟨Ao64, co64, eo64⟩ := Kd.R_slice HO697.out; subst eo64) | ((with_reducible refine gate_callee (f := 7) rfl ?_); refine gsL (some 64) Tryz.func7 #[.slice Ao64 t695.length co64, .string a1] ?_; (with_reducible refine (impl_WorldFrom.calls kj16 _ _ t695 a1 t698 _ ?side1 ?side2 A41.out).mono ?_); (case side1 => exact (zz39 HO697)); (case side2 => exact (Kd.R_reads' HO697.out).2.1); rintro e w65 ⟨v699, rfl, ho0, hb⟩; refine ⟨_, rfl, ?_⟩; replace HO697 := Aside0.mk (Kd.R_below (zz28 HO697) hb); have HO700 := Aside0.mk (Kd.R_lower (Kd.R_new' (Kd.R_new' ho0 (Kd.R_lt (zz28 HO_6))) (Kd.R_lt (zz28 HO_8))) (below_size (zz0 HB))); replace HO_6 := Aside0.mk (Kd.R_elder' (zz28 HO_6) (Kd.R_base ho0) hb); replace HO_8 := Aside0.mk (Kd.R_elder' (zz28 HO_8) (Kd.R_base ho0) hb); replace HB := Aside0.mk (below_step (zz0 HB) hb); (try clear hb ho0); obtain ⟨Ao66, co66, eo66⟩ := Kd.R_slice HO700.out; subst eo66) | ((with_reducible refine gate_callee (f := 8) rfl ?_); refine gsL (some 67) Tryz.func8 #[.slice Ao66 t698.length co66, .slice Ao26 t675.length co26] ?_; (with_reducible refine (laws_eqStringS.calls kj16 _ _ t698 _ _ t675 true _ ?side1 ?side2 ?side3 ?side4 A42.out).mono ?_); (case side1 => exact (zz39 HO700)); (case side2 => exact (Kd.R_reads' HO700.out).2.1); (case side3 => exact (zz39 HO_6)); (case side4 => exact (Kd.R_reads' HO_6.out).2.1); rintro e w' ⟨rfl, ⟨nd, rfl⟩⟩; refine ⟨_, rfl, ?_⟩) | ((with_reducible refine gate_callee (f := 12) rfl ?_); refine goesL_ (some 71) rfl rfl Tryz.func12 (by kernel_rfl) rfl #[.slice Ao25 t693.length co25, .int .i64 1] rfl (zz191 HO_8) ?_; (with_reducible refine (laws_heldStringS.calls kj16 _ _ t693 1 t702 _ ?side1 ?side2 A44.out).mono ?_); (case side1 => exact (zz39 HO_8)); (case side2 => exact (zz192 HO_8)); rintro e w67 ⟨rfl, hb⟩; refine ⟨_, rfl, ?_⟩; replace HO_6 := Aside0.mk (Kd.R_below (zz28 HO_6) hb); replace HO_8 := Aside0.mk (Kd.R_below (zz28 HO_8) hb); replace HO697 := Aside0.mk (Kd.R_below (zz28 HO697) hb); replace HO700 := Aside0.mk (Kd.R_below (zz28 HO700) hb); replace HB := Aside0.mk (below_step (zz0 HB) hb); (try clear hb)))
             go_ret
             exact ⟨zz1, (zz0 HB)⟩
          ·replace c43 := Bool.eq_false_iff.mpr c43
           subst c43;rw [if_neg (show ¬ (false = true) by decide)] at H;obtain rfl := Option.some.inj H;go_wp2_with (first | ((with_reducible refine gate_callee (f := 11) rfl ?_); refine gsL (some 52) Tryz.func11 #[.slice Ao25 t681.length co25, .int .i64 1] ?_; (with_reducible refine (laws_markStringS.calls kj16 (fun k_ => some k_ = (.slice Ao25 t681.length co25 : Value).ownBlock) (.slice Ao25 t681.length co25) t681 1 t692 t693 w _ ?side1 ?side2 A34.out).mono ?_); (case side1 => exact (zz0 HB)); (case side2 => exact Kd.R_tight rfl HO_8.out); rintro e w68 ⟨rfl, hy0, hb, hkp⟩; refine ⟨_, rfl, ?_⟩; replace HO_6 := Aside0.mk (Kd.R_mono (ok' := fun k_ => some k_ ≠ (.slice Ao25 t681.length co25 : Value).ownBlock) (Kd.R_keptB (HO_6.out) hkp (fun k_ hk_ hs_ => (hk_) hs_)) (fun k_ hk_ => hk_.1)); replace HO_8 := Aside0.mk (Kd.R_reok rfl hy0 (fun k_ e_ => HO_8.out.1 k_ e_)); replace HB := Aside0.mk (hb); (try clear hb)) | ((with_reducible refine gate_callee (f := 12) rfl ?_); refine goesL_ (some 55) rfl rfl Tryz.func12 (by kernel_rfl) rfl #[.slice Ao25 t693.length co25, .int .i64 1] rfl (zz191 HO_8) ?_; (with_reducible refine (laws_heldStringS.calls kj16 _ _ t693 1 t694 _ ?side1 ?side2 A35.out).mono ?_); (case side1 => exact (zz39 HO_8)); (case side2 => exact (zz192 HO_8)); rintro e w69 ⟨rfl, hb⟩; refine ⟨_, rfl, ?_⟩; replace HO_6 := Aside0.mk (Kd.R_below (zz28 HO_6) hb); replace HO_8 := Aside0.mk (Kd.R_below (zz28 HO_8) hb); replace HB := Aside0.mk (below_step (zz0 HB) hb); (try clear hb)) | ((with_reducible refine gate_callee (f := 6) rfl ?_); refine gsL (some 62) Tryz.func6 #[.slice A0 l0.length c0] ?_; (with_reducible refine (laws_toPageS.calls kj16 _ _ l0 t695 _ ?side1 ?side2 A40.out).mono ?_); (case side1 => exact (zz24 HR0 HB)); (case side2 => exact HC0.out); rintro e w70 ⟨v696, rfl, ho0, hb⟩; refine ⟨_, rfl, ?_⟩; replace HO_6 := Aside0.mk (Kd.R_below (zz28 HO_6) hb); replace HO_8 := Aside0.mk (Kd.R_below (zz28 HO_8) hb); have HO697 := Aside0.mk (Kd.R_lower ho0 (below_size (zz0 HB))); replace HB := Aside0.mk (below_step (zz0 HB) hb); (try clear hb ho0); obtain ⟨Ao71, co71, eo71⟩ := Kd.R_slice HO697.out; subst eo71) | ((with_reducible refine gate_callee (f := 7) rfl ?_); refine gsL (some 64) Tryz.func7 #[.slice Ao71 t695.length co71, .string a1] ?_; (with_reducible refine (impl_WorldFrom.calls kj16 _ _ t695 a1 t698 _ ?side1 ?side2 A41.out).mono ?_); (case side1 => exact (zz39 HO697)); (case side2 => exact (Kd.R_reads' HO697.out).2.1); rintro e w72 ⟨v699, rfl, ho0, hb⟩; refine ⟨_, rfl, ?_⟩; replace HO697 := Aside0.mk (Kd.R_below (zz28 HO697) hb); have HO700 := Aside0.mk (Kd.R_lower (Kd.R_new' (Kd.R_new' ho0 (Kd.R_lt (zz28 HO_6))) (Kd.R_lt (zz28 HO_8))) (below_size (zz0 HB))); replace HO_6 := Aside0.mk (Kd.R_elder' (zz28 HO_6) (Kd.R_base ho0) hb); replace HO_8 := Aside0.mk (Kd.R_elder' (zz28 HO_8) (Kd.R_base ho0) hb); replace HB := Aside0.mk (below_step (zz0 HB) hb); (try clear hb ho0); obtain ⟨Ao73, co73, eo73⟩ := Kd.R_slice HO700.out; subst eo73) | ((with_reducible refine gate_callee (f := 8) rfl ?_); refine gsL (some 67) Tryz.func8 #[.slice Ao73 t698.length co73, .slice Ao26 t675.length co26] ?_; (with_reducible refine (laws_eqStringS.calls kj16 _ _ t698 _ _ t675 false _ ?side1 ?side2 ?side3 ?side4 A42.out).mono ?_); (case side1 => exact (zz39 HO700)); (case side2 => exact (Kd.R_reads' HO700.out).2.1); (case side3 => exact (zz39 HO_6)); (case side4 => exact (Kd.R_reads' HO_6.out).2.1); rintro e w' ⟨rfl, ⟨nd, rfl⟩⟩; refine ⟨_, rfl, ?_⟩))
           go_ret
           exact ⟨zz1, (zz0 HB)⟩
         ·rw [if_neg c39] at H
          have c39b0 : (t694 == t692) = false := beq_eq_false_iff_ne.mpr c39;have c39b1 : (t694 != t692) = true := bne_iff_ne.mpr c39;obtain rfl := Option.some.inj H;go_wp2_with (first | ((with_reducible refine gate_callee (f := 11) rfl ?_); refine gsL (some 52) Tryz.func11 #[.slice Ao25 t681.length co25, .int .i64 1] ?_; (with_reducible refine (laws_markStringS.calls kj16 (fun k_ => some k_ = (.slice Ao25 t681.length co25 : Value).ownBlock) (.slice Ao25 t681.length co25) t681 1 t692 t693 w _ ?side1 ?side2 A34.out).mono ?_); (case side1 => exact (zz0 HB)); (case side2 => exact Kd.R_tight rfl HO_8.out); rintro e w74 ⟨rfl, hy0, hb, hkp⟩; refine ⟨_, rfl, ?_⟩; replace HO_6 := Aside0.mk (Kd.R_mono (ok' := fun k_ => some k_ ≠ (.slice Ao25 t681.length co25 : Value).ownBlock) (Kd.R_keptB (HO_6.out) hkp (fun k_ hk_ hs_ => (hk_) hs_)) (fun k_ hk_ => hk_.1)); replace HO_8 := Aside0.mk (Kd.R_reok rfl hy0 (fun k_ e_ => HO_8.out.1 k_ e_)); replace HB := Aside0.mk (hb); (try clear hb)) | ((with_reducible refine gate_callee (f := 12) rfl ?_); refine goesL_ (some 55) rfl rfl Tryz.func12 (by kernel_rfl) rfl #[.slice Ao25 t693.length co25, .int .i64 1] rfl (zz191 HO_8) ?_; (with_reducible refine (laws_heldStringS.calls kj16 _ _ t693 1 t694 _ ?side1 ?side2 A35.out).mono ?_); (case side1 => exact (zz39 HO_8)); (case side2 => exact (zz192 HO_8)); rintro e w75 ⟨rfl, hb⟩; refine ⟨_, rfl, ?_⟩; replace HO_6 := Aside0.mk (Kd.R_below (zz28 HO_6) hb); replace HO_8 := Aside0.mk (Kd.R_below (zz28 HO_8) hb); replace HB := Aside0.mk (below_step (zz0 HB) hb); (try clear hb)))
          go_ret
          exact ⟨zz1, (zz0 HB)⟩
    ·replace c15 := Bool.eq_false_iff.mpr c15
     subst c15;rw [if_neg (show ¬ (false = true) by decide)] at H;obtain rfl := Option.some.inj H;go_enter Tryz.func3, Tryz.ntmps3;go_wp2_with (first | ((with_reducible refine gate_callee (f := 4) rfl ?_); refine gsL (some 18) Tryz.func4 #[.slice A0 l0.length c0, .int .i64 1048576] ?_; (with_reducible refine (laws_szPageS.calls k _ _ l0 1048576 t671 _ ?side1 ?side2 A4.out).mono ?_); (case side1 => exact (zz59 HR0)); (case side2 => exact HC0.out); rintro e w76 ⟨rfl, hb⟩; refine ⟨_, rfl, ?_⟩; replace HB := Aside0.mk (below_step (zz0 HB) hb); (try clear hb)) | ((with_reducible refine gate_callee (f := 6) rfl ?_); refine gsL (some 22) Tryz.func6 #[.slice A0 l0.length c0] ?_; (with_reducible refine (laws_toPageS.calls k _ _ l0 t672 _ ?side1 ?side2 A7.out).mono ?_); (case side1 => exact (zz24 HR0 HB)); (case side2 => exact HC0.out); rintro e w77 ⟨v673, rfl, ho0, hb⟩; refine ⟨_, rfl, ?_⟩; have HO674 := Aside0.mk (Kd.R_lower ho0 (below_size (zz0 HB))); replace HB := Aside0.mk (below_step (zz0 HB) hb); (try clear hb ho0); obtain ⟨Ao78, co78, eo78⟩ := Kd.R_slice HO674.out; subst eo78) | ((with_reducible refine gate_callee (f := 5) rfl ?_); refine gsL (some 24) Tryz.func5 #[.slice Ao78 t672.length co78, .string a1] ?_; (with_reducible refine (spec_WorldFrom.calls k _ _ t672 a1 t675 _ ?side1 ?side2 A8.out).mono ?_); (case side1 => exact (zz39 HO674)); (case side2 => exact (Kd.R_reads' HO674.out).2.1); rintro e w79 ⟨v676, rfl, ho0, hb⟩; refine ⟨_, rfl, ?_⟩; replace HO674 := Aside0.mk (Kd.R_below (zz28 HO674) hb); have HO677 := Aside0.mk (Kd.R_lower ho0 (below_size (zz0 HB))); replace HB := Aside0.mk (below_step (zz0 HB) hb); (try clear hb ho0)) | ((with_reducible refine gate_callee (f := 6) rfl ?_); refine gsL (some 26) Tryz.func6 #[.slice A0 l0.length c0] ?_; (with_reducible refine (laws_toPageS.calls k _ _ l0 t678 _ ?side1 ?side2 A9.out).mono ?_); (case side1 => exact (zz24 HR0 HB)); (case side2 => exact HC0.out); rintro e w80 ⟨v679, rfl, ho0, hb⟩; refine ⟨_, rfl, ?_⟩; replace HO677 := Aside0.mk (Kd.R_below (zz28 HO677) hb); have HO680 := Aside0.mk (Kd.R_lower (Kd.R_new' ho0 (Kd.R_lt (zz28 HO674))) (below_size (zz0 HB))); replace HO674 := Aside0.mk (Kd.R_elder' (zz28 HO674) (Kd.R_base ho0) hb); replace HB := Aside0.mk (below_step (zz0 HB) hb); (try clear hb ho0); obtain ⟨Ao81, co81, eo81⟩ := Kd.R_slice HO680.out; subst eo81) | ((with_reducible refine gate_callee (f := 7) rfl ?_); refine gsL (some 29) Tryz.func7 #[.slice Ao81 t678.length co81, .string a1] ?_; (with_reducible refine (impl_WorldFrom.calls k _ _ t678 a1 t681 _ ?side1 ?side2 A10.out).mono ?_); (case side1 => exact (zz39 HO680)); (case side2 => exact (Kd.R_reads' HO680.out).2.1); rintro e w82 ⟨v682, rfl, ho0, hb⟩; refine ⟨_, rfl, ?_⟩; replace HO674 := Aside0.mk (Kd.R_below (zz28 HO674) hb); replace HO680 := Aside0.mk (Kd.R_below (zz28 HO680) hb); have HO683 := Aside0.mk (Kd.R_lower (Kd.R_new' ho0 (Kd.R_lt (zz28 HO677))) (below_size (zz0 HB))); replace HO677 := Aside0.mk (Kd.R_elder' (zz28 HO677) (Kd.R_base ho0) hb); replace HB := Aside0.mk (below_step (zz0 HB) hb); (try clear hb ho0); obtain ⟨Ao83, co83, eo83⟩ := Kd.R_slice HO683.out; subst eo83; obtain ⟨Ao84, co84, eo84⟩ := Kd.R_slice HO677.out; subst eo84) | ((with_reducible refine gate_callee (f := 8) rfl ?_); refine gsL (some 32) Tryz.func8 #[.slice Ao83 t681.length co83, .slice Ao84 t675.length co84] ?_; (with_reducible refine (laws_eqStringS.calls k _ _ t681 _ _ t675 true _ ?side1 ?side2 ?side3 ?side4 A11.out).mono ?_); (case side1 => exact (zz39 HO683)); (case side2 => exact (Kd.R_reads' HO683.out).2.1); (case side3 => exact (zz39 HO677)); (case side4 => exact (Kd.R_reads' HO677.out).2.1); rintro e w' ⟨rfl, ⟨nd, rfl⟩⟩; refine ⟨_, rfl, ?_⟩) | ((with_reducible refine gate_callee (f := 6) rfl ?_); refine gsL (some 36) Tryz.func6 #[.slice A0 l0.length c0] ?_; (with_reducible refine (laws_toPageS.calls k _ _ l0 t685 _ ?side1 ?side2 A13.out).mono ?_); (case side1 => exact (zz189 HR0)); (case side2 => exact HC0.out); rintro e w85 ⟨v686, rfl, ho0, hb⟩; refine ⟨_, rfl, ?_⟩; replace HO677 := Aside0.mk (Kd.R_below (zz28 HO677) hb); replace HO683 := Aside0.mk (Kd.R_below (zz28 HO683) hb); have HO687 := Aside0.mk (Kd.R_lower (Kd.R_new' (Kd.R_new' ho0 (Kd.R_lt (zz28 HO674))) (Kd.R_lt (zz28 HO680))) (below_size (zz0 HB))); replace HO674 := Aside0.mk (Kd.R_elder' (zz28 HO674) (Kd.R_base ho0) hb); replace HO680 := Aside0.mk (Kd.R_elder' (zz28 HO680) (Kd.R_base ho0) hb); replace HB := Aside0.mk (below_step (zz0 HB) hb); (try clear hb ho0); obtain ⟨Ao86, co86, eo86⟩ := Kd.R_slice HO687.out; subst eo86) | ((with_reducible refine gate_callee (f := 9) rfl ?_); refine gsL (some 37) Tryz.func9 #[.slice Ao81 t678.length co81, .slice Ao86 t685.length co86] ?_; (with_reducible refine (laws_eqPageS.calls k _ _ t678 _ _ t685 false _ ?side1 ?side2 ?side3 ?side4 A14.out).mono ?_); (case side1 => exact (zz39 HO680)); (case side2 => exact (Kd.R_reads' HO680.out).2.1); (case side3 => exact (zz39 HO687)); (case side4 => exact (Kd.R_reads' HO687.out).2.1); rintro e w87 ⟨rfl, hb⟩; refine ⟨_, rfl, ?_⟩; replace HO674 := Aside0.mk (Kd.R_below (zz28 HO674) hb); replace HO677 := Aside0.mk (Kd.R_below (zz28 HO677) hb); replace HO680 := Aside0.mk (Kd.R_below (zz28 HO680) hb); replace HO683 := Aside0.mk (Kd.R_below (zz28 HO683) hb); replace HO687 := Aside0.mk (Kd.R_below (zz28 HO687) hb); replace HB := Aside0.mk (below_step (zz0 HB) hb); (try clear hb)))
     go_ret
     exact ⟨zz1, (zz0 HB)⟩
   ·replace c12 := Bool.eq_false_iff.mpr c12
    subst c12;rw [if_neg (show ¬ (false = true) by decide)] at H;obtain rfl := Option.some.inj H;go_enter Tryz.func3, Tryz.ntmps3;go_wp2_with (first | ((with_reducible refine gate_callee (f := 4) rfl ?_); refine gsL (some 18) Tryz.func4 #[.slice A0 l0.length c0, .int .i64 1048576] ?_; (with_reducible refine (laws_szPageS.calls k _ _ l0 1048576 t671 _ ?side1 ?side2 A4.out).mono ?_); (case side1 => exact (zz59 HR0)); (case side2 => exact HC0.out); rintro e w88 ⟨rfl, hb⟩; refine ⟨_, rfl, ?_⟩; replace HB := Aside0.mk (below_step (zz0 HB) hb); (try clear hb)) | ((with_reducible refine gate_callee (f := 6) rfl ?_); refine gsL (some 22) Tryz.func6 #[.slice A0 l0.length c0] ?_; (with_reducible refine (laws_toPageS.calls k _ _ l0 t672 _ ?side1 ?side2 A7.out).mono ?_); (case side1 => exact (zz24 HR0 HB)); (case side2 => exact HC0.out); rintro e w89 ⟨v673, rfl, ho0, hb⟩; refine ⟨_, rfl, ?_⟩; have HO674 := Aside0.mk (Kd.R_lower ho0 (below_size (zz0 HB))); replace HB := Aside0.mk (below_step (zz0 HB) hb); (try clear hb ho0); obtain ⟨Ao90, co90, eo90⟩ := Kd.R_slice HO674.out; subst eo90) | ((with_reducible refine gate_callee (f := 5) rfl ?_); refine gsL (some 24) Tryz.func5 #[.slice Ao90 t672.length co90, .string a1] ?_; (with_reducible refine (spec_WorldFrom.calls k _ _ t672 a1 t675 _ ?side1 ?side2 A8.out).mono ?_); (case side1 => exact (zz39 HO674)); (case side2 => exact (Kd.R_reads' HO674.out).2.1); rintro e w91 ⟨v676, rfl, ho0, hb⟩; refine ⟨_, rfl, ?_⟩; replace HO674 := Aside0.mk (Kd.R_below (zz28 HO674) hb); have HO677 := Aside0.mk (Kd.R_lower ho0 (below_size (zz0 HB))); replace HB := Aside0.mk (below_step (zz0 HB) hb); (try clear hb ho0)) | ((with_reducible refine gate_callee (f := 6) rfl ?_); refine gsL (some 26) Tryz.func6 #[.slice A0 l0.length c0] ?_; (with_reducible refine (laws_toPageS.calls k _ _ l0 t678 _ ?side1 ?side2 A9.out).mono ?_); (case side1 => exact (zz24 HR0 HB)); (case side2 => exact HC0.out); rintro e w92 ⟨v679, rfl, ho0, hb⟩; refine ⟨_, rfl, ?_⟩; replace HO677 := Aside0.mk (Kd.R_below (zz28 HO677) hb); have HO680 := Aside0.mk (Kd.R_lower (Kd.R_new' ho0 (Kd.R_lt (zz28 HO674))) (below_size (zz0 HB))); replace HO674 := Aside0.mk (Kd.R_elder' (zz28 HO674) (Kd.R_base ho0) hb); replace HB := Aside0.mk (below_step (zz0 HB) hb); (try clear hb ho0); obtain ⟨Ao93, co93, eo93⟩ := Kd.R_slice HO680.out; subst eo93) | ((with_reducible refine gate_callee (f := 7) rfl ?_); refine gsL (some 29) Tryz.func7 #[.slice Ao93 t678.length co93, .string a1] ?_; (with_reducible refine (impl_WorldFrom.calls k _ _ t678 a1 t681 _ ?side1 ?side2 A10.out).mono ?_); (case side1 => exact (zz39 HO680)); (case side2 => exact (Kd.R_reads' HO680.out).2.1); rintro e w94 ⟨v682, rfl, ho0, hb⟩; refine ⟨_, rfl, ?_⟩; replace HO674 := Aside0.mk (Kd.R_below (zz28 HO674) hb); replace HO680 := Aside0.mk (Kd.R_below (zz28 HO680) hb); have HO683 := Aside0.mk (Kd.R_lower (Kd.R_new' ho0 (Kd.R_lt (zz28 HO677))) (below_size (zz0 HB))); replace HO677 := Aside0.mk (Kd.R_elder' (zz28 HO677) (Kd.R_base ho0) hb); replace HB := Aside0.mk (below_step (zz0 HB) hb); (try clear hb ho0); obtain ⟨Ao95, co95, eo95⟩ := Kd.R_slice HO683.out; subst eo95; obtain ⟨Ao96, co96, eo96⟩ := Kd.R_slice HO677.out; subst eo96) | ((with_reducible refine gate_callee (f := 8) rfl ?_); refine gsL (some 32) Tryz.func8 #[.slice Ao95 t681.length co95, .slice Ao96 t675.length co96] ?_; (with_reducible refine (laws_eqStringS.calls k _ _ t681 _ _ t675 false _ ?side1 ?side2 ?side3 ?side4 A11.out).mono ?_); (case side1 => exact (zz39 HO683)); (case side2 => exact (Kd.R_reads' HO683.out).2.1); (case side3 => exact (zz39 HO677)); (case side4 => exact (Kd.R_reads' HO677.out).2.1); rintro e w' ⟨rfl, ⟨nd, rfl⟩⟩; refine ⟨_, rfl, ?_⟩))
    go_ret
    exact ⟨zz1, (zz0 HB)⟩
end Go.Proofs.YtpnedbnpnekahaaGreatDoor.P
end
section
namespace Go.Proofs.YtpnedbnpnekahaaGreatDoor.Ad
open Go.RowKit Go.Proofs.YtpnedbnpnekahaaGreatDoor.P Go.Proofs.YtpnedbnpnekahaaGreatDoorW.PrintWords Go.Proofs.YtpnedbnpnekahaaGreatDoorW.PrintLast Go.Proofs.YtpnedbnpnekahaaGreatDoorW.PrintMore Go.Proofs.YtpnedbnpnekahaaGreatDoor.B
set_option linter.unusedVariables false
set_option linter.unusedSimpArgs false
theorem hex_all : ∀ n : Nat, n < 256 → spec_l1Hex.f 2 (n : Int) = some (match hexN (UInt8.ofNat n) with | some x => (x : Int) | none => -1) := by decide +kernel
theorem plain_all : ∀ n : Nat, n < 256 → spec_l1Plain.f (n : Int) = some (plainB (UInt8.ofNat n)) := by decide +kernel
theorem sign_all : ∀ n : Nat, n < 256 → (spec_l1Sign.f (n : Int)).map L = some [37, fig (n / 16), fig (n % 16)] := by decide +kernel
theorem of_toNat (c : UInt8) : UInt8.ofNat c.toNat = c := UInt8.ofNat_toNat
theorem hex_ev (c : UInt8) : Ev (fun k => spec_l1Hex.f k (c.toNat : Int)) (match hexN c with | some x => (x : Int) | none => -1) := by
 refine Ev.of (fun k => spec_l1Hex.mono _ k) (k := 2) ?_
 have := hex_all c.toNat c.toNat_lt
 rwa [of_toNat] at this
theorem sign_f (n : Nat) (h : n < 256) : spec_l1Sign.f (n : Int) = some (ofL [37, fig (n / 16), fig (n % 16)]) := by
 have := sign_all n h
 obtain ⟨s, hs, e⟩ := Option.map_eq_some_iff.1 this
 rw [hs, ← e, of_L]
theorem nums_one (n : Nat) (h : n < 256) : strOfNums [(n : Int) % 256] = ofL [UInt8.ofNat n] := by
 unfold strOfNums ofL
 simp only [List.map_cons, List.map_nil, ByteArray.mk.injEq]
 congr 2
 rw [show ((n : Int) % 256) = (n : Int) from by omega]
 simp
theorem enc_ev (s acc : ByteArray) (i n : Nat) (h : n < 256) (hi : i < 1000000) (ha : acc.size ≤ 1000000) {r : ByteArray × Bool}
  (H : Ev (fun k => spec_EscNorm.l0 k s (acc ++ ofL (encN n)) (i + 1 : Nat)) r) : Ev (fun k => spec_EscNorm.j2 k s acc (i : Int) (n : Int)) r := by
 refine Ev.step (fun k => ?_) H
 have hw : wrap64 ((i : Int) + 1) = ((i + 1 : Nat) : Int) := by rw [w64 (by omega) (by omega)]; omega
 simp only [spec_EscNorm.j2]
 rw [show ((n : Int) % 256) = (n : Int) from by omega, plain_all n h]
 simp only [Option.bind_some]
 by_cases hp : plainB (UInt8.ofNat n) = true
 ·have e := nums_one n h
  rw [show ((n : Int) % 256) = (n : Int) from by omega] at e
  have he : encN n = [UInt8.ofNat n] := by unfold encN; rw [if_pos hp]
  have hz := ofL_size [UInt8.ofNat n]
  rw [if_pos hp, e, if_pos (by simp at hz; omega), hw, he]
 ·have he : encN n = [37, fig (n / 16), fig (n % 16)] := by unfold encN; rw [if_neg hp]
  rw [if_neg hp, sign_f n h]
  simp only [Option.bind_some]
  have hz := ofL_size [37, fig (n / 16), fig (n % 16)]
  rw [if_pos (by simp at hz; omega), hw, he]
theorem drop_at {l : List UInt8} {i : Nat} (h : i < l.length) : l.drop i = l[i] :: l.drop (i + 1) := List.drop_eq_getElem_cons h
theorem bt_get (s : ByteArray) (i : Nat) (h : i < (L s).length) : bt s i = (((L s)[i]).toNat : Int) := by
 rw [bt_L, List.getD_eq_getElem?_getD, List.getElem?_eq_getElem h]; rfl
theorem app_nil (a : ByteArray) : a ++ ofL [] = a := by apply L_inj; rw [L_app, L_of, List.append_nil]
def escR (acc : ByteArray) (o : Option (List UInt8)) : ByteArray × Bool := match o with
 | some r => (acc ++ ofL r, true)
 | none => (⟨#[]⟩, false)
theorem escR_map (acc : ByteArray) (x : List UInt8) (o : Option (List UInt8)) : escR acc (o.map (x ++ ·)) = escR (acc ++ ofL x) o := by
 cases o with
 | none => rfl
 | some r => simp only [escR, Option.map_some, ofL_app, ByteArray.append_assoc]
theorem esc_l (s : ByteArray) (hs : s.size ≤ 60) (n : Nat) : ∀ (i : Nat) (acc : ByteArray), i ≤ s.size → s.size - i ≤ n → acc.size ≤ 3 * i →
  Ev (fun k => spec_EscNorm.l0 k s acc (i : Int)) (escR acc (esc ((L s).drop i))) := by
 have hL := L_size s
 induction n with
 | zero =>
  intro i acc hi hn ha
  refine Ev.of (fun k => spec_EscNorm.mono_l k |>.1 _ _ _) (k := 1) ?_
  simp only [spec_EscNorm.l0]
  rw [if_neg (by omega), List.drop_eq_nil_of_le (by omega)]
  simp only [esc, escR]
  rw [app_nil]
 | succ n ih =>
  intro i acc hi hn ha
  by_cases hlt : i < s.size
  ·have hlt' : i < (L s).length := by omega
   rw [drop_at hlt']
   have hb := bt_get s i hlt'
   by_cases hc : (L s)[i] = 37
   ·have hb37 : bt s i = 37 := by rw [hb, hc]; rfl
    have w2 : wrap64 ((i : Int) + 2) = ((i + 2 : Nat) : Int) := by rw [w64 (by omega) (by omega)]; omega
    have w1 : wrap64 ((i : Int) + 1) = ((i + 1 : Nat) : Int) := by rw [w64 (by omega) (by omega)]; omega
    rw [hc]
    by_cases h2 : i + 2 < s.size
    ·have g1 : i + 1 < (L s).length := by omega
     have g2 : i + 2 < (L s).length := by omega
     rw [drop_at g1, drop_at g2]
     have b1 := bt_get s (i + 1) g1
     have b2 := bt_get s (i + 2) g2
     have q1 := hex_ev (L s)[i + 1]
     have q2 := hex_ev (L s)[i + 2]
     have l1 := @hexN_lt (L s)[i + 1]
     have l2 := @hexN_lt (L s)[i + 2]
     generalize (L s)[i + 1] = ca at b1 q1 l1 ⊢
     generalize (L s)[i + 2] = cb at b2 q2 l2 ⊢
     have e3 : i + 2 + 1 = i + 3 := rfl
     have bad : Ev (fun k => spec_EscNorm.j1 k s acc (i : Int) true) ((⟨#[]⟩ : ByteArray), false) :=
      Ev.of (fun k => spec_EscNorm.mono_l k |>.2.2 _ _ _ _) (k := 1) (by simp [spec_EscNorm.j1])
     refine Ev.step (f := fun k => (spec_l1Hex.f k (ca.toNat : Int)).bind fun t => if t < 0 then spec_EscNorm.j1 k s acc (i : Int) true else (spec_l1Hex.f k (cb.toNat : Int)).bind fun t2 => spec_EscNorm.j1 k s acc (i : Int) (decide (t2 < 0))) (fun k => ?_) ?_
     ·simp only [spec_EscNorm.l0]
      rw [if_pos (by omega), if_pos (by omega), if_pos hb37, w2, w1, if_neg (by omega), if_pos (by omega), if_pos (by omega), b1]
      congr 1
      funext t
      by_cases ht : t < 0
      ·rw [if_pos ht, if_pos ht]
      ·rw [if_neg ht, if_neg ht, if_pos (by omega), if_pos (by omega), b2]
     ·refine Ev.bind q1 ?_
      cases ha' : hexN ca with
      | none =>
       rw [esc_bad1 _ _ ha']
       simp only [show ((-1 : Int) < 0) from by omega, if_true]
       exact bad
      | some x =>
       have hx := l1 ha'
       simp only [show ¬ ((x : Int) < 0) from by omega, if_false]
       refine Ev.bind q2 ?_
       cases hb' : hexN cb with
       | none =>
        rw [esc_bad2 _ _ hb']
        simp only [show decide ((-1 : Int) < 0) = true from by decide]
        exact bad
       | some y =>
        have hy := l2 hb'
        simp only [show decide ((y : Int) < 0) = false from by simp]
        rw [ha'] at q1
        rw [hb'] at q2
        refine Ev.step (f := fun k => (spec_l1Hex.f k (ca.toNat : Int)).bind fun t => (spec_l1Hex.f k (cb.toNat : Int)).bind fun t2 => spec_EscNorm.j2 k s acc ((i + 2 : Nat) : Int) (wrap64 (wrap64 (t * 16) + t2))) (fun k => ?_) ?_
        ·simp only [spec_EscNorm.j1]
         rw [if_neg (by simp), w1, w2, if_pos (by omega), if_pos (by omega), b1]
         congr 1
         funext t
         rw [if_pos (by omega), if_pos (by omega), b2]
        ·refine Ev.bind q1 (Ev.bind q2 ?_)
         rw [esc_sign _ ha' hb']
         rw [show wrap64 (wrap64 ((x : Int) * 16) + (y : Int)) = ((x * 16 + y : Nat) : Int) from by rw [w64 (n := (x : Int) * 16) (by omega) (by omega), w64 (by omega) (by omega)]; omega]
         refine enc_ev s acc (i + 2) (x * 16 + y) (by omega) (by omega) (by omega) ?_
         rw [escR_map]
         exact ih (i + 2 + 1) _ (by omega) (by omega) (by have z := ofL_size (encN (x * 16 + y)); have := encN_len (x * 16 + y); rw [ByteArray.size_append]; omega)
    ·rw [esc_short (by rw [List.length_drop]; omega)]
     refine Ev.of (fun k => spec_EscNorm.mono_l k |>.1 _ _ _) (k := 2) ?_
     simp only [spec_EscNorm.l0, spec_EscNorm.j1]
     rw [if_pos (by omega), if_pos (by omega), if_pos hb37, w2, if_pos (by omega)]
     rfl
   ·have hb37 : ¬ bt s i = 37 := by
     rw [hb]
     intro e
     exact hc (UInt8.toNat_inj.1 (by have : (37 : UInt8).toNat = 37 := rfl; omega))
    rw [esc_plain _ hc]
    have hlt8 := (L s)[i].toNat_lt
    refine Ev.step (f := fun k => spec_EscNorm.j2 k s acc (i : Int) (((L s)[i].toNat : Nat) : Int)) (fun k => ?_) ?_
    ·simp only [spec_EscNorm.l0]
     rw [if_pos (by omega), if_pos (by omega), if_neg hb37, hb, w64 (by omega) (by omega)]
    ·refine enc_ev s acc i _ (by omega) (by omega) (by omega) ?_
     rw [escR_map]
     exact ih (i + 1) _ (by omega) (by omega) (by have z := ofL_size (encN (L s)[i].toNat); have := encN_len (L s)[i].toNat; rw [ByteArray.size_append]; omega)
  ·refine Ev.of (fun k => spec_EscNorm.mono_l k |>.1 _ _ _) (k := 1) ?_
   simp only [spec_EscNorm.l0]
   rw [if_neg (by omega), List.drop_eq_nil_of_le (by omega)]
   simp only [esc, escR]
   rw [app_nil]
theorem escNorm_ev (s : ByteArray) : Ev (fun k => spec_EscNorm.f k s) (escNorm s) := by
 unfold spec_EscNorm.f escNorm
 by_cases h : s.size > 60
 ·simp only [show ((s.size : Int) > 60) from by omega, if_true, h]
  exact Ev.now _
 ·simp only [show ¬ ((s.size : Int) > 60) from by omega, if_false, h]
  have := esc_l s (by omega) s.size 0 ⟨#[]⟩ (by omega) (by omega) (Nat.le_refl 0)
  simp only [List.drop_zero] at this
  have e : escR (⟨#[]⟩ : ByteArray) (esc (L s)) = escO (esc (L s)) := by
   unfold escR escO
   cases esc (L s) with
   | none => rfl
   | some r => simp only [Prod.mk.injEq, and_true]; apply L_inj; rw [L_app]; rfl
  rw [← e]
  exact this
theorem norm_ev (s : ByteArray) : Ev (fun k => spec_l1Norm.f k s) (isNorm s) := by
 unfold spec_l1Norm.f isNorm
 refine Ev.bind (escNorm_ev s) ?_
 by_cases h : (escNorm s).2 = true
 ·simp only [h, if_true, Bool.true_and]
  exact Ev.now _
 ·simp only [h, if_false, Bool.false_and]
  exact Ev.now _
end Go.Proofs.YtpnedbnpnekahaaGreatDoor.Ad
end
section
namespace Go.Proofs.YtpnedbnpnekahaaGreatDoor.Ad
open Go.RowKit Go.Proofs.YtpnedbnpnekahaaGreatDoor.P Go.Proofs.YtpnedbnpnekahaaGreatDoorW.PrintWords Go.Proofs.YtpnedbnpnekahaaGreatDoorW.PrintLast Go.Proofs.YtpnedbnpnekahaaGreatDoorW.PrintMore Go.Proofs.YtpnedbnpnekahaaGreatDoor.B
set_option linter.unusedVariables false
set_option linter.unusedSimpArgs false
theorem spec_house_l (s : ByteArray) (hs : s.size ≤ 140737488351232) (d : Nat) : ∀ (k : Nat) (i : Nat), i + d = s.size → d < k →
  spec_l1House.l0 k s (i : Int) = some (smallFrom s d i && (decide (1 ≤ s.size) && decide (s.size ≤ 5))) := by
 induction d with
 | zero =>
  intro k i h hk
  obtain ⟨k, rfl⟩ : ∃ m, k = m + 1 := ⟨k - 1, by omega⟩
  simp only [spec_l1House.l0, smallFrom, spec_l6In.f]
  rw [if_neg (by omega)]
  by_cases h1 : 1 ≤ s.size
  ·rw [if_pos (by omega)]; simp [h1]; omega
  ·rw [if_neg (by omega)]; simp [h1]
 | succ d ih =>
  intro k i h hk
  obtain ⟨k, rfl⟩ : ∃ m, k = m + 1 := ⟨k - 1, by omega⟩
  simp only [spec_l1House.l0, smallFrom]
  rw [if_pos (by omega), if_pos (by omega)]
  by_cases h1 : bt s i < 97
  ·rw [if_pos h1, if_pos h1]; rfl
  ·rw [if_neg h1, if_neg h1]
   by_cases h2 : bt s i > 122
   ·rw [if_pos h2, if_pos h2]; rfl
   ·rw [if_neg h2, if_neg h2, w64 (by omega) (by omega)]
    exact ih k (i + 1) (by omega) (by omega)
theorem house_ev (s : ByteArray) (hs : s.size ≤ 140737488351232) : Ev (fun k => spec_l1House.f k s) (isHouse s) := by
 refine Ev.of (fun k => spec_l1House.mono _ k) (k := s.size + 1) ?_
 unfold spec_l1House.f
 have := spec_house_l s hs s.size (s.size + 1) 0 (by omega) (by omega)
 rw [show ((0 : Nat) : Int) = 0 from rfl] at this
 rw [this]
 unfold isHouse isSmall
 cases smallFrom s s.size 0 <;> simp
theorem rd_at {l : List ByteArray} {i : Nat} (h : i < l.length) : rdOf ByteArray.empty l (i : Int) = l[i] := by
 unfold rdOf
 rw [List.getD_eq_getElem?_getD, Int.toNat_natCast, List.getElem?_eq_getElem h]
 rfl
structure Parts (ps : List ByteArray) : Prop where
 few : ps.length ≤ 1000
 short : ∀ p ∈ ps, p.size ≤ 1048576
def fin (asks : Bool) (ask b : ByteArray) : ByteArray := if asks = true then (b ++ ⟨#[63]⟩) ++ ask else b
theorem path_end (acc house : ByteArray) (parts : List ByteArray) (asks : Bool) (ask : ByteArray) (i : Nat) (hi : i = parts.length) (ha : acc.size ≤ 2000000000) (hq : ask.size ≤ 1048576) :
  Ev (fun k => spec_l1Path.l0 k acc (i : Int) house parts asks ask) (fin asks ask acc) := by
 refine Ev.of (fun k => spec_l1Path.mono_l k _ _ _ _ _ _) (k := 1) ?_
 simp only [spec_l1Path.l0, fin]
 rw [if_neg (by omega)]
 by_cases h : asks = true
 ·rw [if_pos h, if_pos h, if_pos (by omega), if_pos (by omega)]
 ·rw [if_neg h, if_neg h]
theorem path_l (house : ByteArray) (parts : List ByteArray) (asks : Bool) (ask : ByteArray) (hP : Parts parts) (hq : ask.size ≤ 1048576) (d : Nat) : ∀ (i : Nat) (acc : ByteArray), i + d = parts.length → 1 ≤ i → (acc.size : Int) ≤ 1 + (i : Int) * 1048577 →
  Ev (fun k => spec_l1Path.l0 k acc (i : Int) house parts asks ask) (fin asks ask ((parts.drop i).foldl (fun a q => (a ++ ⟨#[47]⟩) ++ q) acc)) := by
 have hf := hP.few
 induction d with
 | zero =>
  intro i acc hi _ ha
  rw [List.drop_eq_nil_of_le (by omega)]
  exact path_end acc house parts asks ask i (by omega) (by omega) hq
 | succ d ih =>
  intro i acc hi h1 ha
  have hlt : i < parts.length := by omega
  have hz := hP.short parts[i] (List.getElem_mem hlt)
  rw [List.drop_eq_getElem_cons hlt, List.foldl_cons]
  have h47 : (⟨#[47]⟩ : ByteArray).size = 1 := rfl
  have hsz : ((acc ++ (⟨#[47]⟩ : ByteArray)) ++ parts[i]).size = acc.size + 1 + parts[i].size := by rw [ByteArray.size_append, ByteArray.size_append, h47]
  have f1 : (i : Int) < (parts.length : Int) := by omega
  have f2 : (i : Int) > 0 := by omega
  have f3 : acc.size + 1 ≤ 9223372036854775807 := by omega
  have f4 : 0 ≤ (i : Int) := by omega
  have f5 : acc.size + 1 + parts[i].size ≤ 9223372036854775807 := by omega
  have hw : wrap64 ((i : Int) + 1) = ((i + 1 : Nat) : Int) := by rw [w64 (by omega) (by omega)]; omega
  have h := ih (i + 1) ((acc ++ (⟨#[47]⟩ : ByteArray)) ++ parts[i]) (by omega) (by omega) (by rw [hsz]; omega)
  refine Ev.step (fun k => ?_) h
  simp only [spec_l1Path.l0]
  rw [if_pos f1, if_pos f2, if_pos f3, if_pos f4, rd_at hlt, if_pos f5, hw]
theorem path_ev (house : ByteArray) (parts : List ByteArray) (asks : Bool) (ask : ByteArray) (hP : Parts parts) (hq : ask.size ≤ 1048576) :
  Ev (fun k => spec_l1Path.f k house parts asks ask) (pathB parts asks ask) := by
 unfold spec_l1Path.f
 match parts, hP with
 | [], hP =>
  have := path_end ⟨#[47]⟩ house [] asks ask 0 rfl (by decide) hq
  exact this
 | p :: r, hP =>
  have hz := hP.short p List.mem_cons_self
  have hs : ((⟨#[47]⟩ : ByteArray) ++ p).size = 1 + p.size := by rw [ByteArray.size_append]; rfl
  refine Ev.step (fun k => ?_) (path_l house (p :: r) asks ask hP hq r.length 1 ((⟨#[47]⟩ : ByteArray) ++ p) (by simp; omega) (by omega) (by omega))
  have h47 : (⟨#[47]⟩ : ByteArray).size = 1 := rfl
  have hr0 : rdOf ByteArray.empty (p :: r) 0 = p := rfl
  simp only [spec_l1Path.l0]
  have f1 : (0 : Int) < ((p :: r).length : Int) := by simp only [List.length_cons]; omega
  have f5 : (⟨#[47]⟩ : ByteArray).size + p.size ≤ 9223372036854775807 := by omega
  rw [if_pos f1, if_neg (by omega), if_pos (by omega), hr0, if_pos f5, w64 (by omega) (by omega)]
  rfl
theorem path_size (parts : List ByteArray) (asks : Bool) (ask : ByteArray) (hP : Parts parts) (hq : ask.size ≤ 1048576) : (pathB parts asks ask).size ≤ 2000000000 := by
 have hf := hP.few
 have hb : ((body parts).size : Int) ≤ 1 + (parts.length : Int) * 1048577 := by
  match parts, hP with
  | [], _ => simp [body]; decide
  | p :: r, hP =>
   have key : ∀ (r : List ByteArray) (acc : ByteArray), (∀ q ∈ r, q.size ≤ 1048576) → ((r.foldl (fun a q => (a ++ ⟨#[47]⟩) ++ q) acc).size : Int) ≤ (acc.size : Int) + (r.length : Int) * 1048577 := by
    intro r
    induction r with
    | nil => intro acc _; simp
    | cons q r ih =>
     intro acc h
     have := ih ((acc ++ ⟨#[47]⟩) ++ q) (fun x hx => h x (List.mem_cons_of_mem _ hx))
     have hq := h q List.mem_cons_self
     have h47 : (⟨#[47]⟩ : ByteArray).size = 1 := rfl
     rw [List.foldl_cons]
     rw [ByteArray.size_append, ByteArray.size_append] at this
     simp only [List.length_cons]
     omega
   have := key r ((⟨#[47]⟩ : ByteArray) ++ p) (fun x hx => hP.short x (List.mem_cons_of_mem _ hx))
   have hz := hP.short p List.mem_cons_self
   have hs : ((⟨#[47]⟩ : ByteArray) ++ p).size = 1 + p.size := by rw [ByteArray.size_append]; rfl
   simp only [body, List.length_cons]
   omega
 unfold pathB
 have h63 : (⟨#[63]⟩ : ByteArray).size = 1 := rfl
 split
 ·rw [ByteArray.size_append, ByteArray.size_append]; omega
 ·omega
theorem text_ev (house : ByteArray) (parts : List ByteArray) (asks : Bool) (ask : ByteArray) (hP : Parts parts) (hq : ask.size ≤ 1048576) (hh : house.size ≤ 1048576) :
  Ev (fun k => spec_l1Text.f k house parts asks ask) (textB house parts asks ask) := by
 unfold spec_l1Text.f
 have hz := path_size parts asks ask hP hq
 simp only [show 2 + house.size ≤ 9223372036854775807 from by omega, if_true]
 refine Ev.bind (path_ev house parts asks ask hP hq) ?_
 simp only [show 2 + house.size + (pathB parts asks ask).size ≤ 9223372036854775807 from by omega, if_true]
 exact Ev.now _
theorem ok_l (house : ByteArray) (parts : List ByteArray) (asks : Bool) (ask : ByteArray) (hP : Parts parts) (hq : ask.size ≤ 1048576) (hh : house.size ≤ 1048576) (d : Nat) : ∀ (i : Nat), i + d = parts.length →
  Ev (fun k => spec_AddrOk.l0 k (i : Int) house parts asks ask) ((parts.drop i).all partOk && decide ((textB house parts asks ask).size ≤ 60)) := by
 have hf := hP.few
 induction d with
 | zero =>
  intro i hi
  rw [List.drop_eq_nil_of_le (by omega)]
  simp only [List.all_nil, Bool.true_and]
  refine Ev.step (f := fun k => (spec_l1Text.f k house parts asks ask).bind fun t => some (decide ((t.size : Int) ≤ 60))) (fun k => ?_) (Ev.bind (text_ev house parts asks ask hP hq hh) ?_)
  ·simp only [spec_AddrOk.l0]
   rw [if_neg (by omega)]
  ·have e : decide (((textB house parts asks ask).size : Int) ≤ 60) = decide ((textB house parts asks ask).size ≤ 60) := by rw [Bool.eq_iff_iff]; simp; omega
   rw [e]
   exact Ev.now _
 | succ d ih =>
  intro i hi
  have hlt : i < parts.length := by omega
  rw [List.drop_eq_getElem_cons hlt, List.all_cons]
  refine Ev.step (f := fun k => (spec_l1Norm.f k parts[i]).bind fun t => if t = true then (if parts[i].toList = [] then some false else if parts[i].toList = [46] then some false else if parts[i].toList = [46, 46] then some false else spec_AddrOk.l0 k ((i + 1 : Nat) : Int) house parts asks ask) else some false) (fun k => ?_) (Ev.bind (norm_ev parts[i]) ?_)
  ·simp only [spec_AddrOk.l0]
   rw [if_pos (by omega), if_pos (by omega), rd_at hlt, w64 (by omega) (by omega)]
   rfl
  ·by_cases h1 : isNorm parts[i] = true
   ·by_cases h2 : parts[i].toList = []
    ·simp only [h1, h2, if_true]
     rw [show partOk parts[i] = false from by simp [partOk, h2]]
     exact Ev.now _
    ·by_cases h3 : parts[i].toList = [46]
     ·simp only [h1, h3, if_true]
      rw [show partOk parts[i] = false from by simp [partOk, h3]]
      exact Ev.now _
     ·by_cases h4 : parts[i].toList = [46, 46]
      ·simp only [h1, h4, if_true]
       rw [show partOk parts[i] = false from by simp [partOk, h4]]
       exact Ev.now _
      ·simp only [h1, h2, h3, h4, if_true, if_false]
       rw [show partOk parts[i] = true from by simp [partOk, h1, h2, h3, h4], Bool.true_and]
       exact ih (i + 1) (by omega)
   ·simp only [h1, if_false]
    rw [show partOk parts[i] = false from by simp [partOk, h1]]
    exact Ev.now _
theorem addrOk_ev (house : ByteArray) (parts : List ByteArray) (asks : Bool) (ask : ByteArray) (hP : Parts parts) (hq : ask.size ≤ 1048576) (hh : house.size ≤ 1048576) :
  Ev (fun k => spec_AddrOk.f k house parts asks ask) (addrOk house parts asks ask) := by
 have hf := hP.few
 have bad : ∀ r, r = false → Ev (fun k => spec_AddrOk.j0 k true house parts asks ask) r := fun r hr => by
  subst hr
  exact Ev.of (fun k => spec_AddrOk.mono_l k |>.1 _ _ _ _ _) (k := 1) (by simp [spec_AddrOk.j0])
 have good : Ev (fun k => spec_AddrOk.j0 k false house parts asks ask) (parts.all partOk && decide ((textB house parts asks ask).size ≤ 60)) := by
  refine Ev.step (fun k => ?_) (by simpa using ok_l house parts asks ask hP hq hh parts.length 0 (by omega))
  simp [spec_AddrOk.j0]
 unfold spec_AddrOk.f
 refine Ev.bind (house_ev house (by omega)) ?_
 by_cases h1 : isHouse house = true
 ·simp only [h1, if_true]
  by_cases h2 : parts.length ≤ 5
  ·simp only [show ¬ ((parts.length : Int) > 5) from by omega, if_false]
   refine Ev.bind (norm_ev ask) ?_
   by_cases h3 : isNorm ask = true
   ·simp only [h3, if_true]
    by_cases h4 : asks = true
    ·simp only [h4, if_true]
     rw [h4] at good
     rw [show addrOk house parts true ask = (parts.all partOk && decide ((textB house parts true ask).size ≤ 60)) from by simp [addrOk, h1, h2, h3]]
     exact good
    ·rw [show (fun k => if asks = true then spec_AddrOk.j0 k false house parts asks ask else spec_AddrOk.j0 k (ask.toList != []) house parts asks ask) = (fun k => spec_AddrOk.j0 k (ask.toList != []) house parts asks ask) from by funext k; rw [if_neg h4]]
     by_cases h5 : ask.toList = []
     ·obtain rfl : asks = false := by simpa using h4
      simp only [h5, bne_self_eq_false, Bool.false_eq_true, if_false]
      rw [show addrOk house parts false ask = (parts.all partOk && decide ((textB house parts false ask).size ≤ 60)) from by simp [addrOk, h1, h2, h3, h5]]
      exact good
     ·rw [show (ask.toList != ([] : List UInt8)) = true from by simp [h5]]
      exact bad _ (by simp [addrOk, h4, h5])
   ·simp only [h3, if_false]
    exact bad _ (by simp [addrOk, h3])
  ·simp only [show (parts.length : Int) > 5 from by omega, if_true]
   exact bad _ (by simp [addrOk, h2])
 ·simp only [h1, if_false]
  exact bad _ (by simp [addrOk, h1])
theorem addrText_ev (house : ByteArray) (parts : List ByteArray) (asks : Bool) (ask : ByteArray) (hP : Parts parts) (hq : ask.size ≤ 1048576) (hh : house.size ≤ 1048576) :
  Ev (fun k => spec_AddrText.f k house parts asks ask) (addrText house parts asks ask) := by
 unfold spec_AddrText.f addrText
 refine Ev.bind (addrOk_ev house parts asks ask hP hq hh) ?_
 by_cases h : addrOk house parts asks ask = true
 ·simp only [h, if_true]
  exact Ev.bind (text_ev house parts asks ask hP hq hh) (Ev.now _)
 ·simp only [h, if_false]
  exact Ev.now _
end Go.Proofs.YtpnedbnpnekahaaGreatDoor.Ad
end
section
namespace Go.Proofs.YtpnedbnpnekahaaGreatDoor.Ad
open Go.RowKit Go.Proofs.YtpnedbnpnekahaaGreatDoor.P Go.Proofs.YtpnedbnpnekahaaGreatDoorW.PrintWords Go.Proofs.YtpnedbnpnekahaaGreatDoorW.PrintLast Go.Proofs.YtpnedbnpnekahaaGreatDoorW.PrintMore Go.Proofs.YtpnedbnpnekahaaGreatDoor.B
set_option linter.unusedVariables false
set_option linter.unusedSimpArgs false
def ints (l : List UInt8) : List Int := l.map fun c => (c.toNat : Int)
theorem ints_app (a b : List UInt8) : ints (a ++ b) = ints a ++ ints b := by simp [ints]
theorem ints_len (a : List UInt8) : (ints a).length = a.length := by simp [ints]
theorem nums_ints (l : List UInt8) : strOfNums (ints l) = ofL l := by
 unfold strOfNums ofL ints
 rw [List.map_map]
 congr 2
 have h : ((fun n : Int => UInt8.ofNat n.toNat) ∘ fun c : UInt8 => (c.toNat : Int)) = id := by funext c; simp
 exact (congrArg (fun f => List.map f l) h).trans (List.map_id l)
theorem figv_all : ∀ n : Nat, n < 256 → impl_figureValue.f (n : Int) = some (match hexN (UInt8.ofNat n) with | some x => ((x : Int), true) | none => (0, false)) := by decide +kernel
theorem figv (c : UInt8) : impl_figureValue.f (c.toNat : Int) = some (match hexN c with | some x => ((x : Int), true) | none => (0, false)) := by
 have := figv_all c.toNat c.toNat_lt
 rwa [of_toNat] at this
theorem stands_all : ∀ n : Nat, n < 256 → impl_standsForItself.f (n : Int) = some (plainB (UInt8.ofNat n)) := by decide +kernel
def hexT : ByteArray := ⟨#[48, 49, 50, 51, 52, 53, 54, 55, 56, 57, 65, 66, 67, 68, 69, 70]⟩
theorem put_all : ∀ n : Nat, n < 256 → (plainB (UInt8.ofNat n) = true → [(n : Int)] = ints (encN n)) ∧ (plainB (UInt8.ofNat n) = false → 0 ≤ (n : Int) / 16 ∧ (n : Int) / 16 < 16 ∧ 0 ≤ Go.bits .and .u8 (n : Int) 15 ∧ Go.bits .and .u8 (n : Int) 15 < 16 ∧
  ([37, bt hexT ((n : Int) / 16), bt hexT (Go.bits .and .u8 (n : Int) 15)] : List Int) = ints (encN n)) := by decide +kernel
theorem sign_i (s : ByteArray) (i : Nat) (hs : s.size ≤ 60) (hi : i < s.size) :
  impl_signByte.f s (i : Int) = some (if h : i + 2 < (L s).length then (match hexN ((L s)[i + 1]'(by omega)), hexN ((L s)[i + 2]'h) with | some x, some y => (((x * 16 + y : Nat) : Int), true) | _, _ => (0, false)) else (0, false)) := by
 have hL := L_size s
 unfold impl_signByte.f
 rw [w64 (n := (s.size : Int) - i) (by omega) (by omega)]
 by_cases h : i + 2 < (L s).length
 ·rw [dif_pos h, if_neg (by omega), w64 (n := (i : Int) + 1) (by omega) (by omega), w64 (n := (i : Int) + 2) (by omega) (by omega), if_pos (by omega), if_pos (by omega)]
  have b1 := bt_get s (i + 1) (by omega)
  have b2 := bt_get s (i + 2) h
  have l1 := @hexN_lt ((L s)[i + 1]'(by omega))
  have l2 := @hexN_lt ((L s)[i + 2]'h)
  rw [show ((i : Int) + 1) = ((i + 1 : Nat) : Int) from by omega, show ((i : Int) + 2) = ((i + 2 : Nat) : Int) from by omega, b1, b2]
  generalize (L s)[i + 1]'(by omega) = ca at l1 ⊢
  generalize (L s)[i + 2]'h = cb at l2 ⊢
  rw [figv ca, figv cb]
  simp only [Option.bind_some]
  rw [if_pos (by omega), if_pos (by omega)]
  cases ha : hexN ca with
  | none => simp
  | some x =>
   cases hb : hexN cb with
   | none => simp
   | some y =>
    have := l1 ha
    have := l2 hb
    simp only [if_true]
    rw [w64 (n := (x : Int) * 16) (by omega) (by omega), w64 (by omega) (by omega)]
    congr 2
    omega
 ·rw [dif_neg h, if_pos (by omega)]
theorem enc_i (s : ByteArray) (acc : List UInt8) (n : Nat) (j : Int) (h : n < 256) (ha : acc.length ≤ 1000000) (k : Nat) :
  ((impl_standsForItself.f (n : Int)).bind fun t => (if t = true then (if (ints acc).length < 140737488355328 then (impl_EscNorm.l0 k s (ints acc ++ [(n : Int)]) j) else (none)) else (if 0 ≤ ((n : Int) / 16) then (if ((n : Int) / 16) < 16 then (if 0 ≤ (Go.bits .and .u8 (n : Int) 15) then (if (Go.bits .and .u8 (n : Int) 15) < 16 then ((some (([37, bt (⟨#[48, 49, 50, 51, 52, 53, 54, 55, 56, 57, 65, 66, 67, 68, 69, 70]⟩ : ByteArray) ((n : Int) / 16), bt (⟨#[48, 49, 50, 51, 52, 53, 54, 55, 56, 57, 65, 66, 67, 68, 69, 70]⟩ : ByteArray) (Go.bits .and .u8 (n : Int) 15)] : List Int) : List Int)).bind fun y => (if (ints acc).length + y.length < 140737488355328 then (impl_EscNorm.l0 k s (ints acc ++ y) j) else (none))) else (none)) else (none)) else (none)) else (none)))) = impl_EscNorm.l0 k s (ints (acc ++ encN n)) j := by
 obtain ⟨p1, p2⟩ := put_all n h
 rw [stands_all n h]
 simp only [Option.bind_some]
 have hl := ints_len acc
 cases hp : plainB (UInt8.ofNat n) with
 | true => rw [if_pos rfl, if_pos (by omega), ints_app, p1 hp]
 | false =>
  obtain ⟨q1, q2, q3, q4, q5⟩ := p2 hp
  rw [if_neg (by simp), if_pos q1, if_pos q2, if_pos q3, if_pos q4]
  unfold hexT at q5
  rw [q5]
  have := encN_len n
  have := ints_len (encN n)
  rw [if_pos (by omega), ints_app]
theorem esc_i (s : ByteArray) (hs : s.size ≤ 60) (n : Nat) : ∀ (i : Nat) (acc : List UInt8), i ≤ s.size → s.size - i ≤ n → acc.length ≤ 3 * i →
  Ev (fun k => impl_EscNorm.l0 k s (ints acc) (i : Int)) (escR (ofL acc) (esc ((L s).drop i))) := by
 have hL := L_size s
 induction n with
 | zero =>
  intro i acc hi hn ha
  refine Ev.of (fun k => impl_EscNorm.mono_l k |> fun h => h _ _ _) (k := 1) ?_
  simp only [impl_EscNorm.l0]
  rw [if_neg (by omega), List.drop_eq_nil_of_le (by omega)]
  simp only [esc, escR]
  rw [app_nil, nums_ints]
 | succ n ih =>
  intro i acc hi hn ha
  by_cases hlt : i < s.size
  ·have hlt' : i < (L s).length := by omega
   rw [drop_at hlt']
   have hb := bt_get s i hlt'
   by_cases hc : (L s)[i] = 37
   ·have hb37 : bt s i = 37 := by rw [hb, hc]; rfl
    have w3 : wrap64 (wrap64 ((i : Int) + 2) + 1) = ((i + 2 + 1 : Nat) : Int) := by rw [w64 (n := (i : Int) + 2) (by omega) (by omega), w64 (by omega) (by omega)]; omega
    rw [hc]
    have sg := sign_i s i hs hlt
    refine Ev_succ ?_
    simp only [impl_EscNorm.l0]
    simp only [show ((i : Int) < (s.size : Int)) from by omega, show ((0 : Int) ≤ (i : Int)) from by omega, hb37, if_true, sg, Option.bind_some, w3]
    by_cases h2 : i + 2 < (L s).length
    ·have g1 : i + 1 < (L s).length := by omega
     rw [drop_at g1, drop_at h2]
     simp only [h2, dif_pos]
     generalize (L s)[i + 1]'g1 = ca
     generalize (L s)[i + 2]'h2 = cb
     cases ha' : hexN ca with
     | none =>
      rw [esc_bad1 _ _ ha']
      simp only [Bool.false_eq_true, if_false]
      exact Ev.now _
     | some x =>
      cases hb' : hexN cb with
      | none =>
       rw [esc_bad2 _ _ hb']
       simp only [Bool.false_eq_true, if_false]
       exact Ev.now _
      | some y =>
       have hx := hexN_lt ha'
       have hy := hexN_lt hb'
       rw [esc_sign _ ha' hb', escR_map]
       simp only [if_true]
       refine Ev.congr (fun k => enc_i s acc (x * 16 + y) _ (by omega) (by omega) k) ?_
       have := encN_len (x * 16 + y)
       rw [← ofL_app]
       exact ih (i + 2 + 1) _ (by omega) (by omega) (by rw [List.length_append]; omega)
    ·rw [esc_short (by rw [List.length_drop]; omega)]
     simp only [h2, dif_neg, not_false_eq_true, Bool.false_eq_true, if_false]
     exact Ev.now _
   ·have hb37 : ¬ bt s i = 37 := by
     rw [hb]
     intro e
     exact hc (UInt8.toNat_inj.1 (by have : (37 : UInt8).toNat = 37 := rfl; omega))
    rw [esc_plain _ hc]
    have hlt8 := (L s)[i].toNat_lt
    have w1 : wrap64 ((i : Int) + 1) = ((i + 1 : Nat) : Int) := by rw [w64 (by omega) (by omega)]; omega
    refine Ev_succ ?_
    simp only [impl_EscNorm.l0]
    simp only [show ((i : Int) < (s.size : Int)) from by omega, show ((0 : Int) ≤ (i : Int)) from by omega, hb37, if_true, if_false, w1]
    rw [escR_map]
    simp only [hb]
    refine Ev.congr (fun k => enc_i s acc (L s)[i].toNat _ (by omega) (by omega) k) ?_
    have hz := encN_len (L s)[i].toNat
    rw [← ofL_app]
    refine ih (i + 1) _ (by omega) (by omega) ?_
    rw [List.length_append]; omega
  ·refine Ev.of (fun k => impl_EscNorm.mono_l k |> fun h => h _ _ _) (k := 1) ?_
   simp only [impl_EscNorm.l0]
   rw [if_neg (by omega), List.drop_eq_nil_of_le (by omega)]
   simp only [esc, escR]
   rw [app_nil, nums_ints]
theorem escNorm_i (s : ByteArray) : Ev (fun k => impl_EscNorm.f k s) (escNorm s) := by
 unfold impl_EscNorm.f escNorm
 by_cases h : s.size > 60
 ·simp only [show ((s.size : Int) > 60) from by omega, if_true, h]
  exact Ev.now _
 ·simp only [show ¬ ((s.size : Int) > 60) from by omega, if_false, h]
  have := esc_i s (by omega) s.size 0 [] (by omega) (by omega) (Nat.le_refl 0)
  simp only [List.drop_zero] at this
  have e : escR (ofL []) (esc (L s)) = escO (esc (L s)) := by
   unfold escR escO
   cases esc (L s) with
   | none => rfl
   | some r => simp only [Prod.mk.injEq, and_true]; apply L_inj; rw [L_app]; rfl
  rw [← e]
  exact this
theorem norm_i (s : ByteArray) : Ev (fun k => impl_isNormal.f k s) (isNorm s) := by
 unfold impl_isNormal.f isNorm
 refine Ev.bind (escNorm_i s) ?_
 by_cases h : (escNorm s).2 = true
 ·simp only [h, if_true, Bool.true_and]
  exact Ev.now _
 ·simp only [h, if_false, Bool.false_and]
  exact Ev.now _
end Go.Proofs.YtpnedbnpnekahaaGreatDoor.Ad
end
section
namespace Go.Proofs.YtpnedbnpnekahaaGreatDoor.Ad
open Go.RowKit Go.Proofs.YtpnedbnpnekahaaGreatDoor.P Go.Proofs.YtpnedbnpnekahaaGreatDoorW.PrintWords Go.Proofs.YtpnedbnpnekahaaGreatDoorW.PrintLast Go.Proofs.YtpnedbnpnekahaaGreatDoorW.PrintMore Go.Proofs.YtpnedbnpnekahaaGreatDoor.B
set_option linter.unusedVariables false
set_option linter.unusedSimpArgs false
theorem small_i (s : ByteArray) (hs : s.size ≤ 140737488351232) (d : Nat) : ∀ (k : Nat) (i : Nat), i + d = s.size → d < k →
  impl_allSmallLetters.l0 k s (i : Int) = some (smallFrom s d i) := by
 induction d with
 | zero =>
  intro k i h hk
  obtain ⟨k, rfl⟩ : ∃ m, k = m + 1 := ⟨k - 1, by omega⟩
  simp only [impl_allSmallLetters.l0, smallFrom]
  rw [if_neg (by omega)]
 | succ d ih =>
  intro k i h hk
  obtain ⟨k, rfl⟩ : ∃ m, k = m + 1 := ⟨k - 1, by omega⟩
  simp only [impl_allSmallLetters.l0, smallFrom]
  rw [if_pos (by omega), if_pos (by omega)]
  by_cases h1 : bt s i < 97
  ·rw [if_pos h1, if_pos h1]
  ·rw [if_neg h1, if_neg h1]
   by_cases h2 : bt s i > 122
   ·rw [if_pos h2, if_pos h2]
   ·rw [if_neg h2, if_neg h2, w64 (by omega) (by omega)]
    exact ih k (i + 1) (by omega) (by omega)
theorem smalls_i (s : ByteArray) (hs : s.size ≤ 140737488351232) : Ev (fun k => impl_allSmallLetters.f k s) (isSmall s) := by
 refine Ev.of (fun k => impl_allSmallLetters.mono _ k) (k := s.size + 1) ?_
 exact small_i s hs s.size (s.size + 1) 0 (by omega) (by omega)
theorem house_i (s : ByteArray) (hs : s.size ≤ 140737488351232) : Ev (fun k => impl_isHouse.f k s) (isHouse s) := by
 unfold impl_isHouse.f isHouse
 by_cases h1 : 1 ≤ s.size
 ·simp only [show ((s.size : Int) ≥ 1) from by omega, if_true, h1, decide_true, Bool.true_and]
  by_cases h2 : s.size ≤ 5
  ·simp only [show ((s.size : Int) ≤ 5) from by omega, if_true, h2, decide_true, Bool.true_and]
   exact Ev.bind (smalls_i s hs) (Ev.now _)
  ·simp only [show ¬ ((s.size : Int) ≤ 5) from by omega, if_false, h2, decide_false, Bool.false_and]
   exact Ev.now _
 ·simp only [show ¬ ((s.size : Int) ≥ 1) from by omega, if_false, h1, decide_false, Bool.false_and]
  exact Ev.now _
theorem L_fold : ∀ (r : List ByteArray) (acc : ByteArray), L (r.foldl (fun a q => (a ++ ⟨#[47]⟩) ++ q) acc) = L acc ++ Lib.joinTail [47] (r.map L)
 | [], acc => by simp [Lib.joinTail]
 | q :: r, acc => by
  rw [List.foldl_cons, L_fold r, L_app, L_app]
  simp [Lib.joinTail, L]
theorem L_body (ps : List ByteArray) : L (body ps) = 47 :: Lib.join (ps.map L) [47] := by
 cases ps with
 | nil => rfl
 | cons p r =>
  unfold body
  rw [L_fold, List.map_cons, Lib.join_cons, L_app]
  rfl
theorem body_join (ps : List ByteArray) : (⟨#[47]⟩ : ByteArray) ++ ofL (Lib.join (ps.map L) [47]) = body ps := by
 apply L_inj
 rw [L_app, L_of, L_body]
 rfl
theorem join_len (ps : List ByteArray) : (Lib.join (ps.map L) [47]).length + 1 = (body ps).size := by
 rw [← L_size, L_body]; simp
theorem path_i (parts : List ByteArray) (asks : Bool) (ask house : ByteArray) (hP : Parts parts) (hq : ask.size ≤ 1048576) : impl_writePath.f house parts asks ask = some (pathB parts asks ask) := by
 have hz := path_size parts false ask hP hq
 have hb : pathB parts false ask = body parts := rfl
 rw [hb] at hz
 have hj := join_len parts
 have hf := hP.few
 unfold impl_writePath.f strings_Join.f
 have e47 : L (⟨#[47]⟩ : ByteArray) = [47] := rfl
 rw [e47, if_pos ⟨by omega, by omega⟩]
 simp only [Option.bind_some]
 have hs := ofL_size (Lib.join (parts.map L) [47])
 rw [if_pos (by omega), body_join]
 by_cases h : asks = true
 ·rw [if_pos h, if_pos (by omega), if_pos (by omega)]
  unfold pathB
  rw [if_pos h, ByteArray.append_assoc]
 ·rw [if_neg h]
  unfold pathB
  rw [if_neg h]
theorem text_i (house : ByteArray) (parts : List ByteArray) (asks : Bool) (ask : ByteArray) (hP : Parts parts) (hq : ask.size ≤ 1048576) (hh : house.size ≤ 1048576) :
  impl_writeAddr.f house parts asks ask = some (textB house parts asks ask) := by
 have hz := path_size parts asks ask hP hq
 unfold impl_writeAddr.f
 rw [if_pos (by omega), path_i parts asks ask house hP hq]
 simp only [Option.bind_some]
 rw [if_pos (by omega)]
 rfl
def okEnd (house : ByteArray) (parts : List ByteArray) (asks : Bool) (ask : ByteArray) : Bool := isNorm ask && (asks || ask.toList == []) && decide ((textB house parts asks ask).size ≤ 60)
theorem ok_i (house : ByteArray) (parts : List ByteArray) (asks : Bool) (ask : ByteArray) (hP : Parts parts) (hq : ask.size ≤ 1048576) (hh : house.size ≤ 1048576) (d : Nat) : ∀ (i : Nat), i + d = parts.length →
  Ev (fun k => impl_AddrOk.l0 k parts (parts.length : Int) (i : Int) house parts asks ask) ((parts.drop i).all partOk && okEnd house parts asks ask) := by
 have hf := hP.few
 induction d with
 | zero =>
  intro i hi
  rw [List.drop_eq_nil_of_le (by omega)]
  simp only [List.all_nil, Bool.true_and]
  refine Ev_succ ?_
  simp only [impl_AddrOk.l0]
  simp only [show ¬ ((i : Int) < (parts.length : Int)) from by omega, if_false, text_i house parts asks ask hP hq hh, Option.bind_some]
  refine Ev.bind (norm_i ask) ?_
  unfold okEnd
  have e : decide (((textB house parts asks ask).size : Int) ≤ 60) = decide ((textB house parts asks ask).size ≤ 60) := by rw [Bool.eq_iff_iff]; simp; omega
  by_cases h3 : isNorm ask = true
  ·simp only [h3, if_true, Bool.true_and, e]
   by_cases h4 : asks = true
   ·simp only [h4, if_true, Bool.true_or, Bool.true_and]
    exact Ev.now _
   ·by_cases h5 : ask.toList = []
    ·simp only [h4, if_false, h5, if_true, beq_self_eq_true, Bool.or_true, Bool.true_and]
     exact Ev.now _
    ·simp only [h4, if_false, h5, show (ask.toList == ([] : List UInt8)) = false from by simp [h5], Bool.or_false, Bool.false_and]
     exact Ev.now _
  ·simp only [h3, if_false, Bool.false_and]
   exact Ev.now _
 | succ d ih =>
  intro i hi
  have hlt : i < parts.length := by omega
  rw [List.drop_eq_getElem_cons hlt, List.all_cons]
  refine Ev_succ ?_
  simp only [impl_AddrOk.l0]
  have w1 : wrap64 ((i : Int) + 1) = ((i + 1 : Nat) : Int) := by rw [w64 (by omega) (by omega)]; omega
  simp only [show ((i : Int) < (parts.length : Int)) from by omega, show ((0 : Int) ≤ (i : Int)) from by omega, if_true, rd_at hlt, w1]
  by_cases h2 : parts[i].toList = []
  ·simp only [h2, if_true]
   rw [show partOk parts[i] = false from by simp [partOk, h2]]
   exact Ev.now _
  ·by_cases h3 : parts[i].toList = [46]
   ·simp only [h2, h3, if_true, if_false]
    rw [show partOk parts[i] = false from by simp [partOk, h3]]
    first | exact Ev.now _ | simpa using Ev.now _
   ·by_cases h4 : parts[i].toList = [46, 46]
    ·simp only [h2, h3, h4, if_true, if_false]
     rw [show partOk parts[i] = false from by simp [partOk, h4]]
     first | exact Ev.now _ | simpa using Ev.now _
    ·simp only [h2, h3, h4, if_false]
     refine Ev.bind (norm_i parts[i]) ?_
     by_cases h1 : isNorm parts[i] = true
     ·simp only [h1, if_true]
      rw [show partOk parts[i] = true from by simp [partOk, h1, h2, h3, h4], Bool.true_and]
      exact ih (i + 1) (by omega)
     ·simp only [h1, if_false]
      rw [show partOk parts[i] = false from by simp [partOk, h1]]
      exact Ev.now _
theorem okEnd_is (house : ByteArray) (parts : List ByteArray) (asks : Bool) (ask : ByteArray) : addrOk house parts asks ask = (isHouse house && decide (parts.length ≤ 5) && (parts.all partOk && okEnd house parts asks ask)) := by
 unfold addrOk okEnd
 cases isHouse house <;> cases decide (parts.length ≤ 5) <;> cases isNorm ask <;> cases (asks || ask.toList == []) <;> cases parts.all partOk <;> rfl
theorem addrOk_i (house : ByteArray) (parts : List ByteArray) (asks : Bool) (ask : ByteArray) (hP : Parts parts) (hq : ask.size ≤ 1048576) (hh : house.size ≤ 1048576) :
  Ev (fun k => impl_AddrOk.f k house parts asks ask) (addrOk house parts asks ask) := by
 have hf := hP.few
 have bad : Ev (fun k => impl_AddrOk.j0 k true house parts asks ask) false := Ev_succ (by simp only [impl_AddrOk.j0, if_true]; exact Ev.now _)
 unfold impl_AddrOk.f
 rw [okEnd_is]
 refine Ev.bind (house_i house (by omega)) ?_
 by_cases h1 : isHouse house = true
 ·simp only [h1, if_true, Bool.true_and]
  by_cases h2 : parts.length ≤ 5
  ·rw [show decide ((parts.length : Int) > 5) = false from by simp; omega]
   simp only [h2, decide_true, Bool.true_and]
   refine Ev_succ ?_
   simp only [impl_AddrOk.j0, Bool.false_eq_true, if_false]
   have := ok_i house parts asks ask hP hq hh parts.length 0 (by omega)
   simpa using this
  ·rw [show decide ((parts.length : Int) > 5) = true from by simp; omega]
   simp only [h2, decide_false, Bool.false_and]
   exact bad
 ·simp only [h1, if_false, Bool.false_and]
  exact bad
end Go.Proofs.YtpnedbnpnekahaaGreatDoor.Ad
end
section
namespace Go.Proofs.YtpnedbnpnekahaaGreatDoor.Ad
open Go.RowKit Go.Proofs.YtpnedbnpnekahaaGreatDoor.P Go.Proofs.YtpnedbnpnekahaaGreatDoorW.PrintWords Go.Proofs.YtpnedbnpnekahaaGreatDoorW.PrintLast Go.Proofs.YtpnedbnpnekahaaGreatDoorW.PrintMore Go.Proofs.YtpnedbnpnekahaaGreatDoor.B
set_option linter.unusedVariables false
set_option linter.unusedSimpArgs false
def cutL (c : UInt8) : List UInt8 → List UInt8 × List UInt8 × Bool
 | [] => ([], [], false)
 | x :: xs => if x = c then ([], xs, true) else (x :: (cutL c xs).1, (cutL c xs).2)
theorem cutL_false {c : UInt8} : ∀ {l : List UInt8}, (cutL c l).2.2 = false → (cutL c l).1 = l ∧ (cutL c l).2.1 = []
 | [], _ => by simp [cutL]
 | x :: xs, h => by
  unfold cutL at h ⊢
  by_cases e : x = c
  ·rw [if_pos e] at h; cases h
  ·rw [if_neg e] at h ⊢
   have := cutL_false (l := xs) h
   exact ⟨by rw [this.1], this.2⟩
theorem cutL_true {c : UInt8} : ∀ {l : List UInt8}, (cutL c l).2.2 = true → l = (cutL c l).1 ++ c :: (cutL c l).2.1
 | [], h => by simp [cutL] at h
 | x :: xs, h => by
  unfold cutL at h ⊢
  by_cases e : x = c
  ·rw [if_pos e, e]; rfl
  ·rw [if_neg e] at h ⊢
   have := cutL_true (l := xs) h
   show x :: xs = x :: ((cutL c xs).1 ++ c :: (cutL c xs).2.1)
   rw [← this]
theorem cutL_len {c : UInt8} : ∀ (l : List UInt8), (cutL c l).1.length + (cutL c l).2.1.length ≤ l.length ∧ ((cutL c l).2.2 = true → (cutL c l).1.length + (cutL c l).2.1.length + 1 = l.length)
 | [] => by simp [cutL]
 | x :: xs => by
  unfold cutL
  by_cases e : x = c
  ·rw [if_pos e]; simp
  ·rw [if_neg e]
   have := cutL_len (c := c) xs
   simp only [List.length_cons]
   exact ⟨by omega, fun h => by have := this.2 h; omega⟩
theorem bt_at {s : ByteArray} {i : Nat} {c : UInt8} {l : List UInt8} (h : (L s).drop i = c :: l) : i < s.size ∧ bt s i = (c.toNat : Int) ∧ (L s).drop (i + 1) = l := by
 have hl : i < (L s).length := by
  rcases Nat.lt_or_ge i (L s).length with h' | h'
  ·exact h'
  ·rw [List.drop_eq_nil_of_le h'] at h; cases h
 have hd : (L s).drop i = (L s)[i] :: (L s).drop (i + 1) := List.drop_eq_getElem_cons hl
 rw [h] at hd
 injection hd with h1 h2
 refine ⟨by rw [← L_size]; exact hl, ?_, h2.symm⟩
 rw [bt_L, List.getD_eq_getElem?_getD, List.getElem?_eq_getElem hl, ← h1]
 rfl
theorem bt_end {s : ByteArray} {i : Nat} (h : (L s).drop i = []) : s.size ≤ i := by
 rw [← L_size]; exact List.drop_eq_nil_iff.1 h
theorem u8_eq {a b : UInt8} : ((a.toNat : Int) = (b.toNat : Int)) ↔ a = b := by
 constructor
 ·intro h; exact UInt8.toNat_inj.1 (by omega)
 ·intro h; rw [h]
def cutB (c : UInt8) (s : ByteArray) : ByteArray × ByteArray × Bool := (ofL (cutL c (L s)).1, ofL (cutL c (L s)).2.1, (cutL c (L s)).2.2)
theorem cut_l (s : ByteArray) (c : UInt8) (hs : s.size ≤ 140737488351232) : ∀ (l : List UInt8) (i : Nat), (L s).drop i = l →
  Ev (fun k => spec_l1Cut.l0 k s (c.toNat : Int) (i : Int)) (ofL ((L s).take i ++ (cutL c l).1), ofL (cutL c l).2.1, (cutL c l).2.2)
 | [], i, h => by
  have := bt_end h
  have n1 : ¬ ((i : Int) < (s.size : Int)) := by omega
  refine Ev_succ ?_
  simp only [spec_l1Cut.l0, n1, if_false]
  have e : (L s).take i = L s := List.take_of_length_le (by rw [L_size]; omega)
  simp only [cutL, e, List.append_nil, of_L]
  exact Ev.now _
 | x :: xs, i, h => by
  obtain ⟨hi, hb, hd⟩ := bt_at h
  refine Ev_succ ?_
  have e1 : wrap64 ((i : Int) + 1) = ((i + 1 : Nat) : Int) := by rw [w64 (by omega) (by omega)]; rfl
  have f1 : (i : Int) < (s.size : Int) := by omega
  have f2 : (0 : Int) ≤ (i : Int) := by omega
  have f3 : (i : Int) ≤ (s.size : Int) := by omega
  have f4 : (0 : Int) ≤ ((i + 1 : Nat) : Int) := by omega
  have f5 : ((i + 1 : Nat) : Int) ≤ (s.size : Int) := by omega
  simp only [spec_l1Cut.l0, e1, f1, f2, f3, f4, f5, if_true, hb, u8_eq]
  unfold cutL
  by_cases e : x = c
  ·simp only [e, if_true]
   have a1 : s.extract 0 ((i : Int)).toNat = ofL ((L s).take i ++ []) := by
    apply L_inj; rw [L_ext, L_of]; simp
   have a2 : s.extract ((((i + 1 : Nat) : Int))).toNat s.size = ofL xs := by
    apply L_inj; rw [L_ext, L_of, Int.toNat_natCast, hd, List.take_of_length_le]
    rw [← hd, List.length_drop, L_size]; omega
   rw [a1, a2]
   exact Ev.now _
  ·simp only [e, if_false]
   have := cut_l s c hs xs (i + 1) hd
   have ht : (L s).take (i + 1) ++ (cutL c xs).1 = (L s).take i ++ (x :: (cutL c xs).1) := by
    have hl : i < (L s).length := by rw [L_size]; exact hi
    have : (L s)[i] = x := by
     have hd2 : (L s).drop i = (L s)[i] :: (L s).drop (i + 1) := List.drop_eq_getElem_cons hl
     rw [h] at hd2
     injection hd2 with h1 h2
     exact h1.symm
    rw [List.take_succ_eq_append_getElem hl, this]
    simp
   rw [ht] at this
   exact this
theorem cut_ev (s : ByteArray) (c : UInt8) (hs : s.size ≤ 140737488351232) : Ev (fun k => spec_l1Cut.f k s (c.toNat : Int)) (cutB c s) := by
 have := cut_l s c hs (L s) 0 rfl
 simp only [List.take_zero, List.nil_append] at this
 exact this
def splitN (c : UInt8) : Nat → List UInt8 → List (List UInt8)
 | 0, l => [l]
 | n + 1, l => (cutL c l).1 :: (if (cutL c l).2.2 = true then splitN c n (cutL c l).2.1 else [])
def splitL (c : UInt8) (l : List UInt8) : List (List UInt8) := splitN c (l.length + 1) l
theorem splitN_eq (c : UInt8) : ∀ (n m : Nat) (l : List UInt8), l.length < n → l.length < m → splitN c n l = splitN c m l
 | 0, _, l, h, _ => absurd h (by omega)
 | _ + 1, 0, l, _, h => absurd h (by omega)
 | n + 1, m + 1, l, h1, h2 => by
  simp only [splitN]
  by_cases e : (cutL c l).2.2 = true
  ·have := (cutL_len (c := c) l).2 e
   rw [if_pos e, if_pos e, splitN_eq c n m _ (by omega) (by omega)]
  ·rw [if_neg e, if_neg e]
theorem splitL_eq (c : UInt8) (l : List UInt8) : splitL c l = (cutL c l).1 :: (if (cutL c l).2.2 = true then splitL c (cutL c l).2.1 else []) := by
 unfold splitL
 rw [splitN]
 by_cases e : (cutL c l).2.2 = true
 ·have := (cutL_len (c := c) l).2 e
  rw [if_pos e, if_pos e, splitN_eq c _ ((cutL c l).2.1.length + 1) _ (by omega) (by omega)]
 ·rw [if_neg e, if_neg e]
theorem splitN_len (c : UInt8) : ∀ (n : Nat) (l : List UInt8), (splitN c n l).length ≤ l.length + 1
 | 0, l => by simp [splitN]
 | n + 1, l => by
  simp only [splitN]
  by_cases e : (cutL c l).2.2 = true
  ·have := (cutL_len (c := c) l).2 e
   have ih := splitN_len c n (cutL c l).2.1
   rw [if_pos e]; simp only [List.length_cons]; omega
  ·rw [if_neg e]; simp
theorem splitL_len (c : UInt8) (l : List UInt8) : (splitL c l).length ≤ l.length + 1 := splitN_len c _ l
theorem split_l (c : UInt8) (n : Nat) : ∀ (s : ByteArray) (acc : List ByteArray), s.size < n → s.size ≤ 1000000000 → acc.length + s.size ≤ 2000000000 →
  Ev (fun k => spec_l1Split.l0 k (c.toNat : Int) acc s true) (acc ++ (splitL c (L s)).map ofL) := by
 induction n with
 | zero => intro s acc h; exact absurd h (by omega)
 | succ n ih =>
  intro s acc h h1 h2
  refine Ev_succ ?_
  simp only [spec_l1Split.l0, if_true]
  refine Ev.bind (cut_ev s c (by omega)) ?_
  have g1 : acc.length < 8796093022208 := by omega
  simp only [g1, if_true]
  rw [splitL_eq]
  have hl := cutL_len (c := c) (L s)
  rw [L_size] at hl
  by_cases e : (cutL c (L s)).2.2 = true
  ·have e' : (cutB c s).2.2 = true := e
   have hz : (ofL (cutL c (L s)).2.1).size = (cutL c (L s)).2.1.length := ofL_size _
   have := hl.2 e
   have ih' := ih (ofL (cutL c (L s)).2.1) (acc ++ [ofL (cutL c (L s)).1]) (by omega) (by omega) (by simp only [List.length_append, List.length_singleton]; omega)
   rw [if_pos e]
   simp only [cutB, e]
   rw [L_of] at ih'
   simpa using ih'
  ·have e' : (cutL c (L s)).2.2 = false := by simpa using e
   rw [if_neg e]
   simp only [cutB, e']
   refine Ev_succ ?_
   simp only [spec_l1Split.l0]
   simp
   exact Ev.now _
theorem split_ev (s : ByteArray) (c : UInt8) (hs : s.size ≤ 1000000000) : Ev (fun k => spec_l1Split.f k s (c.toNat : Int)) ((splitL c (L s)).map ofL) := by
 have := split_l c (s.size + 1) s [] (by omega) hs (by simp; omega)
 rw [List.nil_append] at this
 exact this
end Go.Proofs.YtpnedbnpnekahaaGreatDoor.Ad
end
section
namespace Go.Proofs.YtpnedbnpnekahaaGreatDoor.Ad
open Go.RowKit Go.Proofs.YtpnedbnpnekahaaGreatDoorW.PrintWords Go.Proofs.YtpnedbnpnekahaaGreatDoor.B
set_option linter.unusedVariables false
set_option linter.unusedSimpArgs false
abbrev A5 := ByteArray × List ByteArray × Bool × ByteArray × Bool
def none5 : A5 := ((⟨#[]⟩ : ByteArray), ([] : List ByteArray), false, (⟨#[]⟩ : ByteArray), false)
def escAll : List ByteArray → Option (List ByteArray)
 | [] => some []
 | q :: qs => if (escNorm q).2 = true then (escAll qs).map ((escNorm q).1 :: ·) else none
def clean1 (acc : List ByteArray) (p : ByteArray) : List ByteArray :=
 if p.toList = [] then acc else if p.toList = [46] then acc else if p.toList = [46, 46] then acc.take (acc.length - 1) else acc ++ [p]
def pathClean (ps : List ByteArray) : List ByteArray := ps.foldl clean1 []
def wayO (house : ByteArray) (base : List ByteArray) (way : ByteArray) : A5 :=
 match escAll ((splitL 47 (L (cutB 63 way).1)).map ofL) with
 | none => none5
 | some ps => if (escNorm (cutB 63 way).2.1).2 = true then (if addrOk house (pathClean (base ++ ps)) (cutB 63 way).2.2 (escNorm (cutB 63 way).2.1).1 = true then (house, pathClean (base ++ ps), (cutB 63 way).2.2, (escNorm (cutB 63 way).2.1).1, true) else none5) else none5
def houseL : List UInt8 → List UInt8 × List UInt8
 | [] => ([], [])
 | x :: xs => if x = 47 ∨ x = 63 then ([], x :: xs) else (x :: (houseL xs).1, (houseL xs).2)
def wholeO (rest : ByteArray) : A5 := wayO (smallB (ofL (houseL (L rest)).1)) [] (ofL (houseL (L rest)).2)
def readO (raw : ByteArray) : A5 :=
 if raw.size > 60 then none5 else if (cutB 35 raw).1.size < 2 then none5 else if (L (cutB 35 raw).1).take 2 = [47, 47] then wholeO ((cutB 35 raw).1.extract 2 (cutB 35 raw).1.size) else none5
def Fine (a : A5) : Prop := a = none5 ∨ (a.2.2.2.2 = true ∧ addrOk a.1 a.2.1 a.2.2.1 a.2.2.2.1 = true)
theorem fine_none : Fine none5 := Or.inl rfl
theorem fine_way (h : ByteArray) (b : List ByteArray) (w : ByteArray) : Fine (wayO h b w) := by
 unfold wayO
 split
 ·exact fine_none
 ·split
  ·split
   ·rename_i hh
    exact Or.inr ⟨rfl, hh⟩
   ·exact fine_none
  ·exact fine_none
theorem fine_read (raw : ByteArray) : Fine (readO raw) := by
 unfold readO
 split
 ·exact fine_none
 ·split
  ·exact fine_none
  ·split
   ·exact fine_way _ _ _
   ·exact fine_none
theorem isHouse_size {s : ByteArray} (h : isHouse s = true) : s.size ≤ 5 := by
 unfold isHouse at h
 simp only [Bool.and_eq_true, decide_eq_true_eq] at h
 exact h.1.2
theorem clean1_mem {acc : List ByteArray} {p x : ByteArray} (h : x ∈ clean1 acc p) : x ∈ acc ∨ x = p := by
 unfold clean1 at h
 split at h
 ·exact Or.inl h
 ·split at h
  ·exact Or.inl h
  ·split at h
   ·exact Or.inl (List.mem_of_mem_take h)
   ·rcases List.mem_append.1 h with h | h
    ·exact Or.inl h
    ·exact Or.inr (List.mem_singleton.1 h)
theorem clean1_len (acc : List ByteArray) (p : ByteArray) : (clean1 acc p).length ≤ acc.length + 1 := by
 unfold clean1
 split
 ·omega
 ·split
  ·omega
  ·split
   ·rw [List.length_take]; omega
   ·simp
theorem cleanF_mem : ∀ {ps acc : List ByteArray} {x : ByteArray}, x ∈ ps.foldl clean1 acc → x ∈ acc ∨ x ∈ ps
 | [], acc, x, h => Or.inl h
 | p :: ps, acc, x, h => by
  rw [List.foldl_cons] at h
  rcases cleanF_mem h with h | h
  ·rcases clean1_mem h with h | h
   ·exact Or.inl h
   ·exact Or.inr (by rw [h]; exact List.mem_cons_self)
  ·exact Or.inr (List.mem_cons_of_mem _ h)
theorem cleanF_len : ∀ (ps acc : List ByteArray), (ps.foldl clean1 acc).length ≤ acc.length + ps.length
 | [], acc => by simp
 | p :: ps, acc => by
  rw [List.foldl_cons]
  have := cleanF_len ps (clean1 acc p)
  have := clean1_len acc p
  simp only [List.length_cons]; omega
end Go.Proofs.YtpnedbnpnekahaaGreatDoor.Ad
end
section
namespace Go.Proofs.YtpnedbnpnekahaaGreatDoor.Ad
open Go.RowKit Go.Proofs.YtpnedbnpnekahaaGreatDoor.P Go.Proofs.YtpnedbnpnekahaaGreatDoorW.PrintWords Go.Proofs.YtpnedbnpnekahaaGreatDoorW.PrintLast Go.Proofs.YtpnedbnpnekahaaGreatDoorW.PrintMore Go.Proofs.YtpnedbnpnekahaaGreatDoor.B
set_option linter.unusedVariables false
set_option linter.unusedSimpArgs false
theorem index_cut (c : UInt8) : ∀ l : List UInt8, Lib.indexByte l c = if (cutL c l).2.2 = true then (((cutL c l).1.length : Nat) : Int) else -1
 | [] => rfl
 | x :: xs => by
  unfold Lib.indexByte cutL
  by_cases h : x = c
  ·subst h; simp
  ·have hb : (x == c) = false := by simp [h]
   simp only [hb, h, if_false, Bool.false_eq_true, index_cut c xs]
   by_cases h2 : (cutL c xs).2.2 = true
   ·simp only [h2, if_true]
    have : ((((cutL c xs).1.length : Nat) : Int) == -1) = false := by simp
    rw [this]
    simp
   ·simp only [h2, if_false, Bool.false_eq_true]
    rfl
theorem cut_parts {c : UInt8} {s : ByteArray} (h : (cutL c (L s)).2.2 = true) :
  s.extract 0 (cutL c (L s)).1.length = ofL (cutL c (L s)).1 ∧ s.extract ((cutL c (L s)).1.length + 1) s.size = ofL (cutL c (L s)).2.1 ∧ (cutL c (L s)).1.length + 1 ≤ s.size := by
 have e := cutL_true h
 have hn := (cutL_len (c := c) (L s)).2 h
 rw [L_size] at hn
 generalize (cutL c (L s)).1 = a at *
 generalize (cutL c (L s)).2.1 = b at *
 have e' : s.data.toList = a ++ c :: b := e
 refine ⟨?_, ?_, by omega⟩
 ·apply L_inj
  rw [L_ext, L_of, e']
  simp
 ·apply L_inj
  have : (a ++ c :: b).drop (a.length + 1) = b := by rw [List.drop_append]; simp
  rw [L_ext, L_of, e', this, List.take_of_length_le (by omega)]
theorem cut_i (s : ByteArray) (c : UInt8) (hs : s.size ≤ 140737488351232) : strings_Cut.f s ⟨#[c]⟩ = some (cutB c s) := by
 have e1 : L (⟨#[c]⟩ : ByteArray) = [c] := rfl
 have e2 : (⟨#[c]⟩ : ByteArray).size = 1 := rfl
 unfold strings_Cut.f stringslite_Cut.f stringslite_Index.f cutB
 rw [e1]
 simp only [Option.bind_some, index_cut, e2]
 by_cases h : (cutL c (L s)).2.2 = true
 ·obtain ⟨h1, h2, h3⟩ := cut_parts h
  simp only [h, if_true]
  rw [if_pos (by omega), if_pos (by omega), if_pos (by omega), w64 (by omega) (by omega), if_pos (by omega), if_pos (by omega)]
  simp only [Option.bind_some, Int.toNat_natCast]
  rw [h1, show (((cutL c (L s)).1.length : Int) + ((1 : Nat) : Int)).toNat = (cutL c (L s)).1.length + 1 from by omega, h2]
 ·simp only [h, if_false, Bool.false_eq_true]
  rw [if_neg (by decide)]
  obtain ⟨g1, g2⟩ := cutL_false (c := c) (l := L s) (by simpa using h)
  simp only [Option.bind_some, g1, g2, of_L]
  first | done | rfl
theorem count_cut_false {c : UInt8} : ∀ {l : List UInt8}, Lib.countByte l c = 0 → (cutL c l).2.2 = false
 | [], _ => rfl
 | x :: xs, h => by
  unfold Lib.countByte at h
  unfold cutL
  by_cases e : x = c
  ·subst e; simp at h
  ·rw [if_neg e]
   have h' : Lib.countByte xs c = 0 := by unfold Lib.countByte; rw [List.count_cons] at h; omega
   exact count_cut_false h'
theorem count_cut_true {c : UInt8} {m : Nat} : ∀ {l : List UInt8}, Lib.countByte l c = m + 1 → (cutL c l).2.2 = true ∧ Lib.countByte (cutL c l).2.1 c = m
 | [], h => by simp [Lib.countByte] at h
 | x :: xs, h => by
  unfold Lib.countByte at h
  unfold cutL
  by_cases e : x = c
  ·subst e
   rw [if_pos rfl]
   refine ⟨rfl, ?_⟩
   unfold Lib.countByte
   rw [List.count_cons_self] at h
   exact Nat.succ.inj h
  ·rw [if_neg e]
   have h' : Lib.countByte xs c = m + 1 := by
    unfold Lib.countByte
    rw [List.count_cons_of_ne e] at h
    exact h
   exact count_cut_true h'
theorem w64n0 (a : Nat) (h : a < 4611686018427387904) : wrap64 ((a : Int) + 0) = (a : Int) := by rw [w64 (by omega) (by omega)]; omega
theorem w64n1 (a : Nat) (h : a < 4611686018427387904) : wrap64 ((a : Int) + 1) = ((a + 1 : Nat) : Int) := by rw [w64 (by omega) (by omega)]; omega
theorem w64n2 (a : Nat) (h : a < 4611686018427387904) : wrap64 ((a : Int) + ((1 : Nat) : Int)) = ((a + 1 : Nat) : Int) := by rw [w64 (by omega) (by omega)]; omega
theorem w64b {n m : Nat} (h : n + 1 ≤ m) (hm : m ≤ 1000000000) : n < 4611686018427387904 := by omega
theorem w64d {n m : Nat} (h : n + m ≤ 2000000000) : n < 4611686018427387904 := by omega
theorem ci_lt (a m : Nat) : (a : Int) < ((a + (m + 1) : Nat) : Int) := by omega
theorem ci_neg (n : Nat) : ¬ ((n : Int) < 0) := by omega
theorem ci_nn (n : Nat) : (0 : Int) ≤ (n : Int) := by omega
theorem ci_le {n s : Nat} (h : n + 1 ≤ s) : (n : Int) ≤ (s : Int) := by omega
theorem ci_le1 {n s : Nat} (h : n + 1 ≤ s) : ((n + 1 : Nat) : Int) ≤ (s : Int) := by omega
theorem ci_l6 {a m l : Nat} (h : l = a + (m + 2)) : (a : Int) < (l : Int) := by omega
theorem set_mid (a : List ByteArray) (m : Nat) (p e : ByteArray) : (a ++ List.replicate (m + 1) e).set a.length p = (a ++ [p]) ++ List.replicate m e := by
 rw [List.set_append_right _ _ (Nat.le_refl _), Nat.sub_self, List.replicate_succ, List.set_cons_zero, List.append_assoc]
 rfl
theorem take_mid (a b : List ByteArray) (p : ByteArray) : ((a ++ [p]) ++ b).take (a.length + 1) = a ++ [p] := by
 rw [List.take_append_of_le_length (by simp)]
 exact List.take_of_length_le (by simp)
theorem split_li (c : UInt8) : ∀ (m : Nat) (s : ByteArray) (a : List ByteArray), Lib.countByte (L s) c = m → s.size ≤ 1000000000 → a.length + m ≤ 2000000000 →
  Ev (fun k => strings_genSplit.l0 k s ⟨#[c]⟩ 0 ((a.length + m : Nat) : Int) (a ++ List.replicate (m + 1) (⟨#[]⟩ : ByteArray)) (a.length : Int)) (a ++ (splitL c (L s)).map ofL) := by
 intro m
 have e1 : L (⟨#[c]⟩ : ByteArray) = [c] := rfl
 have e2 : (⟨#[c]⟩ : ByteArray).size = 1 := rfl
 induction m with
 | zero =>
  intro s a hc hs ha
  have hf := count_cut_false hc
  obtain ⟨g1, g2⟩ := cutL_false hf
  rw [splitL_eq, hf]
  refine Ev_succ ?_
  simp only [strings_genSplit.l0]
  have hl : (a ++ List.replicate (0 + 1) (⟨#[]⟩ : ByteArray)).length = a.length + 1 := by simp
  have hw : wrap64 ((a.length : Int) + 1) = ((a.length + 1 : Nat) : Int) := by rw [w64 (by omega) (by omega)]; omega
  simp only [show ¬ ((a.length : Int) < ((a.length + 0 : Nat) : Int)) from by omega, if_false, hl, show ((0 : Int) ≤ (a.length : Int)) from by omega, show ((a.length : Int) < ((a.length + 1 : Nat) : Int)) from by omega, if_true, hw,
   show ((0 : Int) ≤ ((a.length + 1 : Nat) : Int)) from by omega, Int.toNat_natCast, Int.le_refl]
  rw [set_mid, take_mid]
  simp only [Bool.false_eq_true, if_false, List.map_cons, List.map_nil, g1, of_L]
  exact Ev.now _
 | succ m ih =>
  intro s a hc hs ha
  obtain ⟨ht, hc'⟩ := count_cut_true hc
  obtain ⟨h1, h2, h3⟩ := cut_parts ht
  have hix : Lib.indexByte (L s) c = (((cutL c (L s)).1.length : Nat) : Int) := by rw [index_cut, if_pos ht]
  rw [splitL_eq, if_pos ht]
  have hz : (ofL (cutL c (L s)).2.1).size ≤ 1000000000 := by
   have := (cutL_len (c := c) (L s)).1
   rw [L_size] at this
   rw [ofL_size]; omega
  have key := ih (ofL (cutL c (L s)).2.1) (a ++ [ofL (cutL c (L s)).1]) (by rw [L_of]; exact hc') hz (by simp; omega)
  rw [L_of] at key
  rw [List.map_cons, show a ++ ofL (cutL c (L s)).1 :: List.map ofL (splitL c (cutL c (L s)).2.1) = a ++ [ofL (cutL c (L s)).1] ++ List.map ofL (splitL c (cutL c (L s)).2.1) from by simp]
  generalize (cutL c (L s)).1.length = n at h1 h2 h3 hix
  rw [show (cutL c (L s)).2.1 = L (s.extract (n + 1) s.size) from by rw [h2, L_of]]
  rw [← h1] at key ⊢
  rw [← h2] at key
  clear hz h1 h2 hc' ht hc
  have hl : (a ++ List.replicate (m + 1 + 1) (⟨#[]⟩ : ByteArray)).length = a.length + (m + 2) := by simp
  have hl2 : (a ++ [s.extract 0 n]).length = a.length + 1 := by simp
  rw [hl2] at key
  refine Ev.step (fun k => ?_) key
  have c1 := ci_lt a.length m
  have c2 := ci_neg n
  have c3 := ci_nn n
  have c4 := ci_le h3
  have c5 := ci_nn a.length
  have c6 := ci_l6 hl
  have c7 := ci_nn (n + 1)
  have c8 := ci_le1 h3
  have hw : wrap64 ((a.length : Int) + 1) = ((a.length + 1 : Nat) : Int) := w64n1 a.length (w64d ha)
  have hw0 : wrap64 ((n : Int) + 0) = (n : Int) := w64n0 n (w64b h3 hs)
  have hw1 : wrap64 ((n : Int) + ((1 : Nat) : Int)) = ((n + 1 : Nat) : Int) := w64n2 n (w64b h3 hs)
  simp only [strings_genSplit.l0, strings_Index.f, stringslite_Index.f]
  rw [if_pos c1, hix, Option.bind_some, Option.bind_some]
  rw [if_neg c2, hw0, if_pos c3, if_pos c4, if_pos c5, if_pos c6, e2, hw1, if_pos c7, if_pos c8, hw]
  simp only [Int.toNat_natCast]
  rw [set_mid, show a.length + 1 + m = a.length + (m + 1) from by rw [Nat.add_assoc, Nat.add_comm 1 m]]
theorem split_i (s : ByteArray) (c : UInt8) (hs : s.size ≤ 1000000000) : Ev (fun k => strings_Split.f k s ⟨#[c]⟩) ((splitL c (L s)).map ofL) := by
 have e1 : L (⟨#[c]⟩ : ByteArray) = [c] := rfl
 have hcnt : Lib.countByte (L s) c ≤ s.size := by rw [← L_size]; exact List.count_le_length
 unfold strings_Split.f strings_genSplit.f strings_Count.f
 have en : ¬ ((⟨#[c]⟩ : ByteArray).toList = ([] : List UInt8)) := by rw [toList_nil]; show ¬ (1 = 0); omega
 rw [e1]
 simp only [show ¬ ((-1 : Int) = 0) from by omega, if_false, en, show ((-1 : Int) < 0) from by omega, if_true, Option.bind_some]
 refine Ev.bind (a := (splitL c (L s)).map ofL) ?_ (Ev.now _)
 refine Ev_succ ?_
 have hw : wrap64 (((Lib.countByte (L s) c : Nat) : Int) + 1) = ((Lib.countByte (L s) c + 1 : Nat) : Int) := by rw [w64 (by omega) (by omega)]; omega
 have hw2 : wrap64 ((s.size : Int) + 1) = ((s.size + 1 : Nat) : Int) := by rw [w64 (by omega) (by omega)]; omega
 have hm : mn ((Lib.countByte (L s) c + 1 : Nat) : Int) ((s.size + 1 : Nat) : Int) = ((Lib.countByte (L s) c + 1 : Nat) : Int) := by unfold mn; split <;> omega
 have hw3 : wrap64 (((Lib.countByte (L s) c + 1 : Nat) : Int) - 1) = ((0 + Lib.countByte (L s) c : Nat) : Int) := by rw [w64 (by omega) (by omega)]; omega
 simp only [strings_genSplit.j0, hw, hw2, hm, show ((0 : Int) ≤ ((Lib.countByte (L s) c + 1 : Nat) : Int)) from by omega, if_true, Int.toNat_natCast, show Lib.countByte (L s) c + 1 ≤ 17592186044416 from by omega, hw3]
 have := split_li c (Lib.countByte (L s) c) s [] rfl hs (by simp; omega)
 simpa using this
end Go.Proofs.YtpnedbnpnekahaaGreatDoor.Ad
end
section
namespace Go.Proofs.YtpnedbnpnekahaaGreatDoor.Ad
open Go.RowKit Go.Proofs.YtpnedbnpnekahaaGreatDoor.P Go.Proofs.YtpnedbnpnekahaaGreatDoorW.PrintWords Go.Proofs.YtpnedbnpnekahaaGreatDoorW.PrintLast Go.Proofs.YtpnedbnpnekahaaGreatDoorW.PrintMore Go.Proofs.YtpnedbnpnekahaaGreatDoor.B
set_option linter.unusedVariables false
set_option linter.unusedSimpArgs false
theorem fine_parts {a : A5} (h : Fine a) : Parts a.2.1 ∧ a.1.size ≤ 60 ∧ a.2.2.2.1.size ≤ 60 := by
 rcases h with rfl | ⟨_, h⟩
 ·exact ⟨⟨by simp [none5], by simp [none5]⟩, Nat.zero_le _, Nat.zero_le _⟩
 ·unfold addrOk at h
  simp only [Bool.and_eq_true, decide_eq_true_eq] at h
  obtain ⟨⟨⟨⟨⟨h1, h2⟩, h3⟩, h4⟩, h5⟩, h6⟩ := h
  refine ⟨⟨by omega, fun p hp => ?_⟩, ?_, ?_⟩
  ·have := List.all_eq_true.1 h5 p hp
   unfold partOk at this
   simp only [Bool.and_eq_true] at this
   have := isNorm_size this.1.1.1
   omega
  ·have := isHouse_size h1; omega
  ·exact isNorm_size h3
theorem clean_l (ps : List ByteArray) (hl : ps.length ≤ 1000000) (d : Nat) : ∀ (i : Nat) (acc : List ByteArray), i + d = ps.length → acc.length ≤ i →
  Ev (fun k => spec_PathClean.l0 k ps acc (i : Int)) ((ps.drop i).foldl clean1 acc) := by
 induction d with
 | zero =>
  intro i acc hi ha
  have n1 : ¬ ((i : Int) < (ps.length : Int)) := by omega
  rw [List.drop_eq_nil_of_le (by omega)]
  refine Ev_succ ?_
  simp only [spec_PathClean.l0, n1, if_false]
  exact Ev.now _
 | succ d ih =>
  intro i acc hi ha
  have hi' : i < ps.length := by omega
  have f1 : (i : Int) < (ps.length : Int) := by omega
  have f2 : (0 : Int) ≤ (i : Int) := by omega
  have e1 : wrap64 ((i : Int) + 1) = ((i + 1 : Nat) : Int) := by rw [w64 (by omega) (by omega)]; rfl
  have hr := rd_at hi'
  rw [List.drop_eq_getElem_cons hi', List.foldl_cons]
  generalize ps[i] = p at hr ⊢
  have hc := clean1_len acc p
  have ih' := ih (i + 1) (clean1 acc p) (by omega) (by omega)
  refine Ev_succ ?_
  simp only [spec_PathClean.l0, f1, f2, if_true, hr]
  unfold clean1 at ih' ⊢
  by_cases h1 : p.toList = []
  ·simp only [h1, if_true] at ih' ⊢
   refine Ev_succ ?_
   simp only [spec_PathClean.j1, if_true, e1]
   exact ih'
  ·simp only [h1, if_false] at ih' ⊢
   refine Ev_succ ?_
   by_cases h2 : p.toList = [46]
   ·simp only [h2, if_true] at ih' ⊢
    simp only [spec_PathClean.j1, beq_self_eq_true, if_true, e1]
    exact ih'
   ·have h2' : (p.toList == [46]) = false := by simpa using h2
    simp only [h2, if_false] at ih' ⊢
    simp only [spec_PathClean.j1, h2', Bool.false_eq_true, if_false, f1, f2, if_true, hr, e1]
    by_cases h3 : p.toList = [46, 46]
    ·have m : mx (wrap64 ((acc.length : Int) - 1)) 0 = ((acc.length - 1 : Nat) : Int) := by
      rw [w64 (by omega) (by omega)]; unfold mx; split <;> omega
     have g1 : (0 : Int) ≤ ((acc.length - 1 : Nat) : Int) := by omega
     have g2 : ((acc.length - 1 : Nat) : Int) ≤ (acc.length : Int) := by omega
     simp only [h3, if_true] at ih' ⊢
     simp only [m, g1, g2, if_true, Int.toNat_natCast]
     exact ih'
    ·have g3 : acc.length < 8796093022208 := by omega
     simp only [h3, if_false] at ih' ⊢
     simp only [g3, if_true]
     exact ih'
theorem clean_ev (ps : List ByteArray) (hl : ps.length ≤ 1000000) : Ev (fun k => spec_PathClean.f k ps) (pathClean ps) :=
 clean_l ps hl ps.length 0 [] (by omega) (by simp)
def wayE (house : ByteArray) (asks : Bool) (ask : ByteArray) (ps : List ByteArray) : A5 :=
 if (escNorm ask).2 = true then (if addrOk house (pathClean ps) asks (escNorm ask).1 = true then (house, pathClean ps, asks, (escNorm ask).1, true) else none5) else none5
theorem way_l (house ask : ByteArray) (asks : Bool) (base : List ByteArray) (b0 : Bool) (a0 : ByteArray) (hh : house.size ≤ 100000) (ls : List ByteArray) (hl : ls.length ≤ 900) (d : Nat) :
  ∀ (i : Nat) (acc : List ByteArray), i + d = ls.length → acc.length ≤ i + 50 → (∀ p ∈ acc, p.size ≤ 1048576) →
  Ev (fun k => spec_l1Way.l0 k ask asks acc ls (i : Int) house base b0 a0) (match escAll (ls.drop i) with | none => none5 | some ps => wayE house asks ask (acc ++ ps)) := by
 induction d with
 | zero =>
  intro i acc hi ha hp
  have n1 : ¬ ((i : Int) < (ls.length : Int)) := by omega
  rw [List.drop_eq_nil_of_le (by omega)]
  refine Ev_succ ?_
  simp only [spec_l1Way.l0, n1, if_false, escAll, List.append_nil]
  refine Ev.bind (escNorm_ev ask) (Ev.bind (clean_ev acc (by omega)) ?_)
  have hz := escNorm_size ask
  unfold wayE
  by_cases h1 : (escNorm ask).2 = true
  ·simp only [h1, if_true]
   have hP : Parts (pathClean acc) := ⟨by have := cleanF_len acc []; unfold pathClean; simp only [List.length_nil] at this; omega, fun p hq => by
    rcases cleanF_mem hq with h | h
    ·cases h
    ·exact hp p h⟩
   refine Ev.bind (addrOk_ev house (pathClean acc) asks (escNorm ask).1 hP (by omega) (by omega)) ?_
   by_cases h2 : addrOk house (pathClean acc) asks (escNorm ask).1 = true
   ·simp only [h2, if_true]; exact Ev.now _
   ·simp only [h2, if_false]; exact Ev.now _
  ·simp only [h1, if_false]; exact Ev.now _
 | succ d ih =>
  intro i acc hi ha hp
  have hi' : i < ls.length := by omega
  have f1 : (i : Int) < (ls.length : Int) := by omega
  have f2 : (0 : Int) ≤ (i : Int) := by omega
  have e1 : wrap64 ((i : Int) + 1) = ((i + 1 : Nat) : Int) := by rw [w64 (by omega) (by omega)]; rfl
  have hr := rd_at hi'
  rw [List.drop_eq_getElem_cons hi']
  generalize ls[i] = p at hr ⊢
  have hz := escNorm_size p
  refine Ev_succ ?_
  simp only [spec_l1Way.l0, f1, f2, if_true, hr, e1]
  refine Ev.bind (escNorm_ev p) ?_
  unfold escAll
  by_cases h1 : (escNorm p).2 = true
  ·have g3 : acc.length < 8796093022208 := by omega
   simp only [h1, if_true, g3]
   have ih' := ih (i + 1) (acc ++ [(escNorm p).1]) (by omega) (by simp; omega) (fun x hx => by
    rcases List.mem_append.1 hx with h | h
    ·exact hp x h
    ·rw [List.mem_singleton.1 h]; omega)
   cases he : escAll (ls.drop (i + 1)) with
   | none => rw [he] at ih'; exact ih'
   | some ps =>
    rw [he] at ih'
    simp only [Option.map_some]
    simpa using ih'
  ·simp only [h1, if_false]; exact Ev.now _
theorem cutB_size (c : UInt8) (s : ByteArray) : (cutB c s).1.size ≤ s.size ∧ (cutB c s).2.1.size ≤ s.size := by
 have := (cutL_len (c := c) (L s)).1
 rw [L_size] at this
 unfold cutB
 constructor
 ·show (ofL _).size ≤ _; rw [ofL_size]; omega
 ·show (ofL _).size ≤ _; rw [ofL_size]; omega
theorem way_ev (house : ByteArray) (base : List ByteArray) (b0 : Bool) (a0 way : ByteArray) (hh : house.size ≤ 100000) (hb : base.length ≤ 50) (hp : ∀ p ∈ base, p.size ≤ 1048576) (hw : way.size ≤ 800) :
  Ev (fun k => spec_l1Way.f k house base b0 a0 way) (wayO house base way) := by
 unfold spec_l1Way.f wayO
 refine Ev.bind (cut_ev way 63 (by omega)) ?_
 have hc := cutB_size 63 way
 have g : ([] : List ByteArray).length + base.length < 8796093022208 := by simp; omega
 simp only [Option.bind_some, g, if_true, List.nil_append]
 refine Ev.bind (split_ev (cutB 63 way).1 47 (by omega)) ?_
 have hl := splitL_len 47 (L (cutB 63 way).1)
 rw [L_size] at hl
 have := way_l house (cutB 63 way).2.1 (cutB 63 way).2.2 base b0 a0 hh ((splitL 47 (L (cutB 63 way).1)).map ofL) (by rw [List.length_map]; omega) _ 0 base (Nat.zero_add _) (by omega) hp
 rw [List.drop_zero] at this
 exact this
theorem house_l (s h : ByteArray) (hs : s.size ≤ 800) : ∀ (l : List UInt8) (i : Nat), (L s).drop i = l → h = s →
  Ev (fun k => spec_l1Whole.l0 k s h (⟨#[]⟩ : ByteArray) (i : Int)) (wayO (smallB (ofL ((L s).take i ++ (houseL l).1))) [] (ofL (houseL l).2))
 | [], i, h', e => by
  have := bt_end h'
  have n1 : ¬ ((i : Int) < (s.size : Int)) := by omega
  have eq : (L s).take i = L s := List.take_of_length_le (by rw [L_size]; omega)
  subst e
  refine Ev_succ ?_
  simp only [spec_l1Whole.l0, n1, if_false, houseL, eq, List.append_nil, of_L, spec_l1Small.f, show h.size ≤ 140737488351232 from by omega, if_true, Option.bind_some]
  refine Ev.bind (way_ev (smallB h) [] false _ _ (by unfold smallB; rw [ofL_size, List.length_map, L_size]; omega) (by simp) (by simp) (by decide)) ?_
  exact Ev.now _
 | x :: xs, i, h', e => by
  obtain ⟨hi, hb, hd⟩ := bt_at h'
  have e1 : wrap64 ((i : Int) + 1) = ((i + 1 : Nat) : Int) := by rw [w64 (by omega) (by omega)]; rfl
  have f1 : (i : Int) < (s.size : Int) := by omega
  have f2 : (0 : Int) ≤ (i : Int) := by omega
  have f3 : (i : Int) ≤ (s.size : Int) := by omega
  have c1 : ((x.toNat : Int) = 47) ↔ x = 47 := u8_eq (b := 47)
  have c2 : ((x.toNat : Int) = 63) ↔ x = 63 := u8_eq (b := 63)
  have x1 : s.extract 0 i = ofL ((L s).take i) := by apply L_inj; rw [L_ext, L_of]; simp
  have x2 : s.extract i s.size = ofL (x :: xs) := by
   apply L_inj; rw [L_ext, L_of, h', List.take_of_length_le]
   rw [← h', List.length_drop, L_size]; omega
  have z1 : (ofL ((L s).take i)).size ≤ 800 := by rw [ofL_size, List.length_take, L_size]; omega
  have z2 : (ofL (x :: xs)).size ≤ 800 := by rw [ofL_size, ← h', List.length_drop, L_size]; omega
  have fin : Ev (fun k => (spec_l1Way.f k (smallB (ofL ((L s).take i))) ([] : List ByteArray) false (⟨#[]⟩ : ByteArray) (ofL (x :: xs))).bind fun bt204 => (some (bt204.1, bt204.2.1, bt204.2.2.1, bt204.2.2.2.1, bt204.2.2.2.2))) (wayO (smallB (ofL ((L s).take i ++ []))) [] (ofL (x :: xs))) := by
   rw [List.append_nil]
   refine Ev.bind (way_ev _ [] false _ _ (by unfold smallB; rw [ofL_size, List.length_map, L_size]; omega) (by simp) (by simp) z2) ?_
   exact Ev.now _
  refine Ev_succ ?_
  simp only [spec_l1Whole.l0, f1, f2, f3, if_true, hb, c1, c2, e1, Int.toNat_natCast, x1, x2, spec_l1Small.f, show (ofL ((L s).take i)).size ≤ 140737488351232 from by omega, Option.bind_some]
  unfold houseL
  by_cases h1 : x = 47
  ·simp only [h1, if_true, true_or]
   rw [h1] at fin
   exact fin
  ·by_cases h2 : x = 63
   ·simp only [h1, h2, if_true, if_false, or_true, show ¬ ((63 : UInt8) = 47) from by decide]
    rw [h2] at fin
    exact fin
   ·simp only [h1, h2, if_false, or_self]
    have := house_l s h hs xs (i + 1) hd e
    have ht : (L s).take (i + 1) ++ (houseL xs).1 = (L s).take i ++ (x :: (houseL xs).1) := by
     have hl : i < (L s).length := by rw [L_size]; exact hi
     have : (L s)[i] = x := by
      have hd2 : (L s).drop i = (L s)[i] :: (L s).drop (i + 1) := List.drop_eq_getElem_cons hl
      rw [h'] at hd2
      injection hd2 with h1 h2
      exact h1.symm
     rw [List.take_succ_eq_append_getElem hl, this]
     simp
    rw [ht] at this
    exact this
theorem whole_ev (s : ByteArray) (hs : s.size ≤ 800) : Ev (fun k => spec_l1Whole.f k s) (wholeO s) := by
 have := house_l s s hs (L s) 0 rfl rfl
 simp only [List.take_zero, List.nil_append] at this
 exact this
theorem read_ev (raw : ByteArray) (hs : raw.size ≤ 140737488351232) : Ev (fun k => spec_AddrRead.f k raw) (readO raw) := by
 unfold spec_AddrRead.f readO
 refine Ev.bind (cut_ev raw 35 hs) ?_
 have hc := (cutB_size 35 raw).1
 generalize (cutB 35 raw).1 = c at hc ⊢
 by_cases h1 : raw.size > 60
 ·have n1 : (raw.size : Int) > 60 := by omega
  simp only [n1, h1, if_true]; exact Ev.now _
 ·have n1 : ¬ (raw.size : Int) > 60 := by omega
  simp only [n1, h1, if_false]
  by_cases h2 : c.size < 2
  ·have n2 : (c.size : Int) < 2 := by omega
   simp only [n2, h2, if_true]; exact Ev.now _
  ·have n2 : ¬ (c.size : Int) < 2 := by omega
   have n3 : (2 : Int) ≤ (c.size : Int) := by omega
   have hx : ((c.extract 0 2).toList = [47, 47]) ↔ ((L c).take 2 = [47, 47]) := by
    rw [Lib.toList_data]
    show L (c.extract 0 2) = _ ↔ _
    rw [L_ext]; simp
   simp only [n2, h2, n3, if_true, if_false, show (0 : Int) ≤ 2 from by omega, hx]
   by_cases h3 : (L c).take 2 = [47, 47]
   ·simp only [h3, if_true]
    have hz : (c.extract 2 c.size).size ≤ 800 := by rw [ByteArray.size_extract]; omega
    generalize c.extract 2 c.size = z at hz ⊢
    exact Ev.bind (whole_ev z hz) (Ev.now _)
   ·simp only [h3, if_false]; exact Ev.now _
end Go.Proofs.YtpnedbnpnekahaaGreatDoor.Ad
end
section
namespace Go.Proofs.YtpnedbnpnekahaaGreatDoor.Ad
open Go.RowKit Go.Proofs.YtpnedbnpnekahaaGreatDoor.P Go.Proofs.YtpnedbnpnekahaaGreatDoorW.PrintWords Go.Proofs.YtpnedbnpnekahaaGreatDoorW.PrintLast Go.Proofs.YtpnedbnpnekahaaGreatDoorW.PrintMore Go.Proofs.YtpnedbnpnekahaaGreatDoor.B
set_option linter.unusedVariables false
set_option linter.unusedSimpArgs false
theorem clean_li (ps : List ByteArray) (hl : ps.length ≤ 1000000) (d : Nat) : ∀ (i : Nat) (acc : List ByteArray), i + d = ps.length → acc.length ≤ i →
  Ev (fun k => impl_PathClean.l0 k acc ps (ps.length : Int) (i : Int)) ((ps.drop i).foldl clean1 acc) := by
 induction d with
 | zero =>
  intro i acc hi ha
  rw [List.drop_eq_nil_of_le (by omega)]
  refine Ev_succ ?_
  simp only [impl_PathClean.l0, show ¬ ((i : Int) < (ps.length : Int)) from by omega, if_false]
  exact Ev.now _
 | succ d ih =>
  intro i acc hi ha
  have hlt : i < ps.length := by omega
  have hr := rd_at hlt
  have w1 := w64n1 i (by omega)
  have f1 : (i : Int) < (ps.length : Int) := by omega
  have f2 := ci_nn i
  rw [List.drop_eq_getElem_cons hlt, List.foldl_cons]
  generalize ps[i] = p at hr ⊢
  have next : ∀ acc', acc'.length ≤ i + 1 → acc' = clean1 acc p → Ev (fun k => impl_PathClean.l0 k acc' ps (ps.length : Int) ((i + 1 : Nat) : Int)) ((ps.drop (i + 1)).foldl clean1 (clean1 acc p)) := fun acc' h1 h2 => by
   rw [← h2]; exact ih (i + 1) acc' (by omega) h1
  refine Ev_succ ?_
  simp only [impl_PathClean.l0, f1, f2, if_true]
  rw [hr]
  by_cases h1 : p.toList = []
  ·simp only [h1, if_true]
   refine Ev_succ ?_
   simp only [impl_PathClean.j1]
   simp only [show (([] : List UInt8) == []) = true from rfl, if_true]
   rw [w1]
   exact next acc (by omega) (by unfold clean1; rw [if_pos h1])
  ·simp only [h1, if_false]
   by_cases h2 : p.toList = [46]
   ·refine Ev_succ ?_
    simp only [impl_PathClean.j1]
    simp only [h2, show (([46] : List UInt8) == [46]) = true from rfl, if_true]
    rw [w1]
    exact next acc (by omega) (by unfold clean1; rw [if_neg h1, if_pos h2])
   ·refine Ev_succ ?_
    simp only [impl_PathClean.j1]
    simp only [show (p.toList == ([46] : List UInt8)) = false from by simp [h2], Bool.false_eq_true, if_false]
    by_cases h3 : p.toList = [46, 46]
    ·simp only [h3, if_true]
     have hc : clean1 acc p = acc.take (acc.length - 1) := by unfold clean1; rw [if_neg h1, if_neg h2, if_pos h3]
     by_cases h4 : acc.length = 0
     ·simp only [show ¬ ((acc.length : Int) > 0) from by omega, if_false]
      rw [w1]
      exact next acc (by omega) (by rw [hc, List.length_eq_zero_iff.1 h4]; rfl)
     ·have w2 : wrap64 ((acc.length : Int) - 1) = ((acc.length - 1 : Nat) : Int) := by rw [w64 (by omega) (by omega)]; omega
      simp only [show ((acc.length : Int) > 0) from by omega, if_true]
      rw [w2]
      simp only [show ((0 : Int) ≤ ((acc.length - 1 : Nat) : Int)) from by omega, show (((acc.length - 1 : Nat) : Int) ≤ (acc.length : Int)) from by omega, if_true, Int.toNat_natCast]
      rw [w1]
      exact next _ (by rw [List.length_take]; omega) hc.symm
    ·simp only [h3, if_false, show acc.length < 8796093022208 from by omega, if_true]
     rw [w1]
     exact next _ (by simp; omega) (by unfold clean1; rw [if_neg h1, if_neg h2, if_neg h3])
theorem clean_i (ps : List ByteArray) (hl : ps.length ≤ 1000000) : Ev (fun k => impl_PathClean.f k ps) (pathClean ps) :=
 clean_li ps hl ps.length 0 [] (by omega) (by simp)
def wayI (house : ByteArray) (asks : Bool) (ask : ByteArray) (ps : List ByteArray) : A5 := if addrOk house (pathClean ps) asks ask = true then (house, pathClean ps, asks, ask, true) else none5
theorem way_li (house ask : ByteArray) (asks : Bool) (hh : house.size ≤ 100000) (hq : ask.size ≤ 1048576) (ls : List ByteArray) (hl : ls.length ≤ 900) (d : Nat) :
  ∀ (i : Nat) (acc : List ByteArray), i + d = ls.length → acc.length ≤ 50 + i → (∀ p ∈ acc, p.size ≤ 1048576) →
  Ev (fun k => impl_readWay.l0 k house ask asks acc ls (ls.length : Int) (i : Int)) (match escAll (ls.drop i) with | none => none5 | some ps => wayI house asks ask (acc ++ ps)) := by
 induction d with
 | zero =>
  intro i acc hi ha hp
  rw [List.drop_eq_nil_of_le (by omega)]
  refine Ev_succ ?_
  simp only [impl_readWay.l0, show ¬ ((i : Int) < (ls.length : Int)) from by omega, if_false, escAll, List.append_nil]
  refine Ev.bind (clean_i acc (by omega)) ?_
  unfold wayI
  have hP : Parts (pathClean acc) := ⟨by have := cleanF_len acc []; unfold pathClean; simp only [List.length_nil] at this; omega, fun p hq => by
   rcases cleanF_mem hq with h | h
   ·cases h
   ·exact hp p h⟩
  refine Ev.bind (addrOk_i house (pathClean acc) asks ask hP (by omega) (by omega)) ?_
  by_cases h2 : addrOk house (pathClean acc) asks ask = true
  ·simp only [h2, if_true]; exact Ev.now _
  ·simp only [h2, if_false]; exact Ev.now _
 | succ d ih =>
  intro i acc hi ha hp
  have hi' : i < ls.length := by omega
  have f1 : (i : Int) < (ls.length : Int) := by omega
  have f2 := ci_nn i
  have e1 := w64n1 i (by omega)
  have hr := rd_at hi'
  rw [List.drop_eq_getElem_cons hi']
  generalize ls[i] = p at hr ⊢
  have hz := escNorm_size p
  refine Ev_succ ?_
  simp only [impl_readWay.l0, f1, f2, if_true, hr, e1]
  refine Ev.bind (escNorm_i p) ?_
  unfold escAll
  by_cases h1 : (escNorm p).2 = true
  ·have g3 : acc.length < 8796093022208 := by omega
   simp only [h1, if_true, g3]
   have ih' := ih (i + 1) (acc ++ [(escNorm p).1]) (by omega) (by simp; omega) (fun x hx => by
    rcases List.mem_append.1 hx with h | h
    ·exact hp x h
    ·rw [List.mem_singleton.1 h]; omega)
   cases he : escAll (ls.drop (i + 1)) with
   | none => rw [he] at ih'; exact ih'
   | some ps =>
    rw [he] at ih'
    simp only [Option.map_some]
    simpa using ih'
  ·simp only [h1, if_false]; exact Ev.now _
theorem way_i (house : ByteArray) (base : List ByteArray) (way : ByteArray) (hh : house.size ≤ 100000) (hb : base.length ≤ 50) (hp : ∀ p ∈ base, p.size ≤ 1048576) (hw : way.size ≤ 800) :
  Ev (fun k => impl_readWay.f k house base way) (wayO house base way) := by
 unfold impl_readWay.f wayO
 have hc := cutB_size 63 way
 rw [cut_i way 63 (by omega)]
 simp only [Option.bind_some]
 have hz := escNorm_size (cutB 63 way).2.1
 refine Ev.bind (escNorm_i (cutB 63 way).2.1) ?_
 by_cases h1 : (escNorm (cutB 63 way).2.1).2 = true
 ·simp only [h1, if_true, slices_Clone_string_string.f, show base.length * 16 ≤ 140737488355328 from by omega, Option.bind_some]
  refine Ev.bind (split_i (cutB 63 way).1 47 (by omega)) ?_
  have hl := splitL_len 47 (L (cutB 63 way).1)
  rw [L_size] at hl
  have := way_li house (escNorm (cutB 63 way).2.1).1 (cutB 63 way).2.2 hh (by omega) ((splitL 47 (L (cutB 63 way).1)).map ofL) (by rw [List.length_map]; omega) _ 0 base (Nat.zero_add _) (by omega) hp
  rw [List.drop_zero] at this
  exact this
 ·simp only [h1, if_false]
  generalize escAll ((splitL 47 (L (cutB 63 way).1)).map ofL) = o
  cases o <;> exact Ev.now _
theorem any_house : ∀ l : List UInt8, (Lib.indexAny l [47, 63] = -1 → houseL l = (l, [])) ∧ (∀ n : Nat, Lib.indexAny l [47, 63] = (n : Int) → houseL l = (l.take n, l.drop n) ∧ n ≤ l.length)
 | [] => ⟨fun _ => rfl, fun n h => by unfold Lib.indexAny at h; omega⟩
 | x :: xs => by
  obtain ⟨i1, i2⟩ := any_house xs
  unfold Lib.indexAny houseL
  by_cases h : x = 47 ∨ x = 63
  ·have hc : ([47, 63] : List UInt8).contains x = true := by rcases h with h | h <;> subst h <;> decide
   rw [if_pos h, if_pos hc]
   refine ⟨fun e => by omega, fun n e => ?_⟩
   obtain rfl : n = 0 := by omega
   exact ⟨rfl, Nat.zero_le _⟩
  ·have hc : ¬ ([47, 63] : List UInt8).contains x = true := by
    simp only [List.contains_cons, List.contains_nil, Bool.or_false, Bool.or_eq_true, beq_iff_eq]
    exact h
   rw [if_neg h, if_neg hc]
   have hge := Lib.indexAny_ge [47, 63] xs
   by_cases h2 : Lib.indexAny xs [47, 63] = -1
   ·have hb : (Lib.indexAny xs [47, 63] == -1) = true := by simp [h2]
    rw [if_pos hb]
    refine ⟨fun _ => by rw [i1 h2], fun n e => by omega⟩
   ·have hb : ¬ (Lib.indexAny xs [47, 63] == -1) = true := by simp [h2]
    rw [if_neg hb]
    refine ⟨fun e => by omega, fun n e => ?_⟩
    obtain ⟨m, hm⟩ : ∃ m : Nat, Lib.indexAny xs [47, 63] = (m : Int) := ⟨(Lib.indexAny xs [47, 63]).toNat, by omega⟩
    obtain ⟨g1, g2⟩ := i2 m hm
    obtain rfl : n = m + 1 := by omega
    rw [g1]
    exact ⟨rfl, by simp only [List.length_cons]; omega⟩
def wholeI (s : ByteArray) : A5 := if s.size < 2 then none5 else if (L s).take 2 = [47, 47] then wholeO (s.extract 2 s.size) else none5
theorem prefix_i (s : ByteArray) (hs : s.size ≤ 800) : stringslite_HasPrefix.f s ⟨#[47, 47]⟩ = some (decide (2 ≤ s.size) && decide ((L s).take 2 = [47, 47])) := by
 unfold stringslite_HasPrefix.f
 have e2 : (⟨#[47, 47]⟩ : ByteArray).size = 2 := rfl
 rw [e2]
 by_cases h : 2 ≤ s.size
 ·rw [if_pos (by omega), if_pos (by omega), if_pos (by omega)]
  have hx : (s.extract 0 2).toList = (L s).take 2 := by rw [Lib.toList_data]; show L (s.extract 0 2) = _; rw [L_ext]; simp
  have hy : (⟨#[47, 47]⟩ : ByteArray).toList = [47, 47] := by rw [Lib.toList_data]
  simp only [Int.toNat_natCast, hx, hy, h, decide_true, Bool.true_and]
  congr 1
  rw [Bool.eq_iff_iff]; simp
 ·rw [if_neg (by omega)]
  simp [h]
theorem whole_i (s : ByteArray) (hs : s.size ≤ 800) : Ev (fun k => impl_readWhole.f k s) (wholeI s) := by
 unfold impl_readWhole.f strings_CutPrefix.f stringslite_CutPrefix.f wholeI
 have e2 : (⟨#[47, 47]⟩ : ByteArray).size = 2 := rfl
 rw [prefix_i s hs, e2]
 simp only [Option.bind_some]
 by_cases h : 2 ≤ s.size
 ·by_cases h3 : (L s).take 2 = [47, 47]
  ·simp only [h, h3, decide_true, Bool.true_and, if_true, show ¬ (s.size < 2) from by omega, if_false]
   rw [if_pos (by omega), if_pos (by omega)]
   simp only [Option.bind_some, if_true, Int.toNat_natCast]
   have hz : (s.extract 2 s.size).size ≤ 800 := by rw [ByteArray.size_extract]; omega
   generalize s.extract 2 s.size = z at hz
   unfold strings_IndexAny.f wholeO
   have ez : L (⟨#[47, 63]⟩ : ByteArray) = [47, 63] := rfl
   rw [ez, if_pos ⟨rfl, by omega⟩]
   obtain ⟨a1, a2⟩ := any_house (L z)
   have hge := Lib.indexAny_ge [47, 63] (L z)
   by_cases hi : Lib.indexAny (L z) [47, 63] = -1
   ·have hH := a1 hi
    rw [hH]
    have x1 : z.extract 0 ((z.size : Int)).toNat = z := by apply L_inj; rw [L_ext, Int.toNat_natCast, List.drop_zero]; exact List.take_of_length_le (by rw [Nat.sub_zero]; exact Nat.le_of_eq (L_size z))
    have x2 : z.extract ((z.size : Int)).toNat z.size = ofL [] := by apply L_inj; rw [L_ext, L_of, Int.toNat_natCast, Nat.sub_self]; exact List.take_zero
    rw [of_L]
    refine Ev.congr (f := fun k => (impl_readWay.f k (smallB z) [] (ofL [])).bind fun b => some (b.1, b.2.1, b.2.2.1, b.2.2.2.1, b.2.2.2.2)) (fun k => ?_) ?_
    ·rw [hi, Option.bind_some, if_pos (by omega), if_pos (by omega), if_pos (by omega)]
     first | rw [x1, x2] | (simp only [Int.toNat_natCast] at x1 x2; rw [x1, x2])
     unfold impl_smallLetters.f
     rw [if_pos (by omega), Option.bind_some]
    refine Ev.bind (way_i (smallB z) [] (ofL []) (by unfold smallB; rw [ofL_size, List.length_map, L_size]; omega) (by simp) (by simp) (by decide)) ?_
    exact Ev.now _
   ·obtain ⟨n, hn⟩ : ∃ n : Nat, Lib.indexAny (L z) [47, 63] = (n : Int) := ⟨(Lib.indexAny (L z) [47, 63]).toNat, by omega⟩
    obtain ⟨hH, hle⟩ := a2 n hn
    rw [L_size] at hle
    rw [hH]
    have x1 : z.extract 0 ((n : Int)).toNat = ofL ((L z).take n) := by apply L_inj; rw [L_ext, L_of]; simp
    have x2 : z.extract ((n : Int)).toNat z.size = ofL ((L z).drop n) := by
     apply L_inj; rw [L_ext, L_of, Int.toNat_natCast]
     exact List.take_of_length_le (by rw [List.length_drop, L_size]; exact Nat.le_refl _)
    have s1 : (ofL ((L z).take n)).size ≤ 800 := by rw [ofL_size, List.length_take, L_size]; omega
    have s2 : (ofL ((L z).drop n)).size ≤ 800 := by rw [ofL_size, List.length_drop, L_size]; omega
    generalize ofL ((L z).take n) = y at s1 x1 ⊢
    refine Ev.congr (f := fun k => (impl_readWay.f k (smallB y) [] (ofL ((L z).drop n))).bind fun b => some (b.1, b.2.1, b.2.2.1, b.2.2.2.1, b.2.2.2.2)) (fun k => ?_) ?_
    ·rw [hn, Option.bind_some, if_neg (by omega), if_pos (by omega), if_pos (by omega), x1, x2]
     unfold impl_smallLetters.f
     rw [if_pos (by omega), Option.bind_some]
    refine Ev.bind (way_i (smallB y) [] _ (by unfold smallB; rw [ofL_size, List.length_map, L_size]; omega) (by simp) (by simp) s2) ?_
    exact Ev.now _
  ·simp only [h, h3, decide_true, decide_false, Bool.and_false, Bool.false_eq_true, if_false, Option.bind_some, show ¬ (s.size < 2) from by omega]
   exact Ev.now _
 ·simp only [h, decide_false, Bool.false_and, Bool.false_eq_true, if_false, Option.bind_some, show s.size < 2 from by omega, if_true]
  exact Ev.now _
theorem read_i (raw : ByteArray) : Ev (fun k => impl_AddrRead.f k raw) (readO raw) := by
 unfold impl_AddrRead.f readO
 by_cases h : raw.size > 60
 ·simp only [show ((raw.size : Int) > 60) from by omega, if_true, h]
  exact Ev.now _
 ·simp only [show ¬ ((raw.size : Int) > 60) from by omega, if_false, h]
  have hc := cutB_size 35 raw
  rw [cut_i raw 35 (by omega)]
  simp only [Option.bind_some]
  refine Ev.bind (whole_i (cutB 35 raw).1 (by omega)) ?_
  exact Ev.now _
end Go.Proofs.YtpnedbnpnekahaaGreatDoor.Ad
end
section
namespace Go.Proofs.YtpnedbnpnekahaaGreatDoor.Wd
open Go.RowKit Go.Proofs.YtpnedbnpnekahaaGreatDoor.P Go.Proofs.YtpnedbnpnekahaaGreatDoorW.PrintWords Go.Proofs.YtpnedbnpnekahaaGreatDoorW.PrintLast Go.Proofs.YtpnedbnpnekahaaGreatDoorW.PrintMore Go.Proofs.YtpnedbnpnekahaaGreatDoor.B Go.Proofs.YtpnedbnpnekahaaGreatDoor.Ad
set_option linter.unusedVariables false
set_option linter.unusedSimpArgs false
abbrev Pg := S41
def norm (s : ByteArray) : Bool := (readO s).2.2.2.2 && (textB (readO s).1 (readO s).2.1 (readO s).2.2.1 (readO s).2.2.2.1).toList == s.toList
theorem readAddr_i (s : ByteArray) : Ev (fun k => impl_readAddress.f k s) (if norm s = true then ((readO s).1, (readO s).2.1, (readO s).2.2.1, (readO s).2.2.2.1, true) else none5) := by
 unfold impl_readAddress.f
 refine Ev.bind (read_i s) ?_
 have hF := fine_read s
 obtain ⟨q1, q2, q3⟩ := fine_parts hF
 unfold norm
 by_cases h : (readO s).2.2.2.2 = true
 ·have ht := text_i (readO s).1 (readO s).2.1 (readO s).2.2.1 (readO s).2.2.2.1 q1 (by omega) (by omega)
  simp only [h, if_true, ht, Option.bind_some, Bool.true_and]
  by_cases h2 : (textB (readO s).1 (readO s).2.1 (readO s).2.2.1 (readO s).2.2.2.1).toList = s.toList
  ·simp only [h2, if_true, beq_self_eq_true]
   exact Ev.now _
  ·simp only [h2, if_false, beq_eq_false_iff_ne.mpr h2, Bool.false_eq_true]
   exact Ev.now _
 ·have h' : (readO s).2.2.2.2 = false := by simpa using h
  simp only [h', Bool.false_and, Bool.false_eq_true, if_false]
  exact Ev.now _
theorem isAddr_i (s : ByteArray) : Ev (fun k => impl_isAddress.f k s) (norm s) := by
 unfold impl_isAddress.f
 refine Ev.bind (readAddr_i s) ?_
 by_cases h : norm s = true
 ·rw [if_pos h, h]; exact Ev.now _
 ·rw [if_neg h]
  have h' : norm s = false := by simpa using h
  rw [h']
  exact Ev.now _
theorem norm_s (s : ByteArray) (hs : s.size ≤ 140737488351232) : Ev (fun k => spec_l11Norm.f k s) (norm s) := by
 unfold spec_l11Norm.f
 refine Ev.bind (read_ev s hs) ?_
 have hF := fine_read s
 obtain ⟨q1, q2, q3⟩ := fine_parts hF
 unfold norm
 by_cases h : (readO s).2.2.2.2 = true
 ·simp only [h, if_true, Bool.true_and]
  have ho : addrOk (readO s).1 (readO s).2.1 (readO s).2.2.1 (readO s).2.2.2.1 = true := by
   rcases hF with e | e
   ·rw [e] at h; cases h
   ·exact e.2
  refine Ev.bind (addrText_ev _ _ _ _ q1 (by omega) (by omega)) ?_
  unfold addrText
  rw [if_pos ho]
  exact Ev.now _
 ·have h' : (readO s).2.2.2.2 = false := by simpa using h
  simp only [h', Bool.false_and, Bool.false_eq_true, if_false]
  exact Ev.now _
def pgOk (p : Pg) : Bool := norm p.f0 && decide (p.f1.size ≤ 300) && decide (0 ≤ p.f3) && decide (p.f3 ≤ 9) && (p.f2.toList == [] || norm p.f2 && p.f1.toList == [])
theorem pageOk_i (p : Pg) : Ev (fun k => impl_pageOk.f k p.f0 p.f1 p.f2 p.f3) (pgOk p) := by
 unfold impl_pageOk.f pgOk
 refine Ev.bind (isAddr_i p.f0) ?_
 cases norm p.f0 with
 | false => simp only [Bool.false_and, Bool.false_eq_true, if_false]; exact Ev.now _
 | true =>
  simp only [if_true, Bool.true_and]
  by_cases h1 : (p.f1.size : Int) > 300
  ·simp only [h1, if_true, show ¬ p.f1.size ≤ 300 from by omega, decide_false, Bool.false_and]; exact Ev.now _
  ·simp only [h1, if_false, show p.f1.size ≤ 300 from by omega, decide_true, Bool.true_and]
   by_cases h2 : p.f3 < 0
   ·simp only [h2, if_true, show ¬ 0 ≤ p.f3 from by omega, decide_false, Bool.false_and]; exact Ev.now _
   ·simp only [h2, if_false, show 0 ≤ p.f3 from by omega, decide_true, Bool.true_and]
    by_cases h3 : p.f3 > 9
    ·simp only [h3, if_true, show ¬ p.f3 ≤ 9 from by omega, decide_false, Bool.false_and]; exact Ev.now _
    ·simp only [h3, if_false, show p.f3 ≤ 9 from by omega, decide_true, Bool.true_and]
     by_cases h4 : p.f2.toList = ([] : List UInt8)
     ·simp only [h4, if_true, beq_self_eq_true, Bool.true_or]; exact Ev.now _
     ·simp only [h4, if_false, beq_eq_false_iff_ne.mpr h4, Bool.false_or]
      refine Ev.bind (isAddr_i p.f2) ?_
      cases norm p.f2 with
      | false => simp only [Bool.false_and, Bool.false_eq_true, if_false]; exact Ev.now _
      | true => simp only [if_true, Bool.true_and]; exact Ev.now _
theorem pagesOk_i : ∀ (l : List Pg), (∀ p ∈ l, p.f0.size ≤ 9223372036854775807) → Ev (fun k => pagesOk k l) (l.all pgOk)
 | [], _ => by simp only [pagesOk, List.all_nil]; exact Ev.now _
 | p :: r, h => by
  simp only [pagesOk, h p (List.mem_cons_self ..), if_true, List.all_cons]
  refine Ev.bind (pageOk_i p) ?_
  cases pgOk p with
  | false => simp only [Bool.false_and, Bool.false_eq_true, if_false]; exact Ev.now _
  | true => simp only [if_true, Bool.true_and]; exact pagesOk_i r (fun q hq => h q (List.mem_cons_of_mem _ hq))
def fresh : List Pg → Bool
 | [] => true
 | p :: r => !(r.any fun q => decide (q.f0 = p.f0)) && fresh r
theorem at_any (a : ByteArray) : ∀ (r : List Pg), (pageAtR a r).isSome = r.any fun q => decide (q.f0 = a)
 | [] => rfl
 | p :: r => by
  unfold pageAtR
  by_cases h : p.f0 = a
  ·simp [h]
  ·simp [h, at_any a r]
theorem size_fresh : ∀ (r : List Pg), Maps.size (mapR r) ≤ r.length ∧ (Maps.size (mapR r) = r.length ↔ fresh r = true)
 | [] => ⟨Nat.le_refl _, by simp [fresh, mapR, Maps.size]⟩
 | p :: r => by
  obtain ⟨h1, h2⟩ := size_fresh r
  rw [mapR_size, at_any]
  unfold fresh
  cases hb : (r.any fun q => decide (q.f0 = p.f0)) with
  | true => simp only [if_true, Bool.not_true, Bool.false_and, List.length_cons]; exact ⟨by omega, by constructor <;> intro h <;> first | omega | cases h⟩
  | false => simp only [Bool.false_eq_true, if_false, Bool.not_false, Bool.true_and, List.length_cons]; exact ⟨by omega, by rw [← h2]; omega⟩
def worldOk (l : List Pg) : Bool := decide (l.length ≤ 12) && l.all pgOk && fresh l.reverse
theorem made_i (l : List Pg) (h : ∀ p ∈ l, p.f0.size ≤ 9223372036854775807) : Ev (fun k => (impl_worldOf.f k l).bind fun t => if t = true then some ((Maps.size (mapD l) : Int) == (l.length : Int)) else some false) (worldOk l) := by
 unfold impl_worldOf.f worldOk
 by_cases h12 : 12 < l.length
 ·simp only [h12, if_true, Option.bind_some, Bool.false_eq_true, if_false, show ¬ l.length ≤ 12 from by omega, decide_false, Bool.false_and]
  exact Ev.now _
 ·simp only [h12, if_false, show l.length ≤ 12 from by omega, decide_true, Bool.true_and]
  refine Ev.bind (pagesOk_i l h) ?_
  cases l.all pgOk with
  | false => simp only [Bool.false_eq_true, if_false, Bool.false_and]; exact Ev.now _
  | true =>
   simp only [if_true, Bool.true_and]
   have := (size_fresh l.reverse).2
   rw [List.length_reverse] at this
   have e : ((Maps.size (mapD l) : Int) == (l.length : Int)) = fresh l.reverse := by
    unfold mapD
    rw [Bool.eq_iff_iff, ← this]
    simp
    omega
   rw [e]
   exact Ev.now _
theorem made2 (l : List Pg) (h : ∀ p ∈ l, p.f0.size ≤ 9223372036854775807) : ∃ b, Ev (fun k => impl_worldOf.f k l) b ∧ (b = false → worldOk l = false) ∧ (b = true → ((Maps.size (mapD l) : Int) == (l.length : Int)) = worldOk l) := by
 obtain ⟨K, hK⟩ := made_i l h
 obtain ⟨b, hb, hb2⟩ := Option.bind_eq_some_iff.mp (hK K (Nat.le_refl _))
 refine ⟨b, Ev.of (fun k => impl_worldOf.mono l k) hb, fun e => ?_, fun e => ?_⟩
 ·subst e
  rw [if_neg (by decide)] at hb2
  exact (Option.some.inj hb2).symm
 ·subst e
  rw [if_pos rfl] at hb2
  exact Option.some.inj hb2
theorem rd_pg {l : List Pg} {i : Nat} (h : i < l.length) : rd_T41 l (i : Int) = l[i] := by
 simp [rd_T41, List.getD, List.getElem?_eq_getElem h]
def restOk (l : List Pg) : Nat → Nat → Bool
 | 0, _ => decide (l.length ≤ 12)
 | d + 1, i => pgOk (rd_T41 l (i : Int)) && !((l.take i).any fun q => decide (q.f0 = (rd_T41 l (i : Int)).f0)) && restOk l d (i + 1)
theorem inner_s (l : List Pg) (i : Nat) (hi : i < l.length) (hl : l.length ≤ 1048576) (R : Bool) (hR : Ev (fun k => spec_WorldOk.l0 k l ((i + 1 : Nat) : Int)) R) (d : Nat) : ∀ (j : Nat), j + d = i →
  Ev (fun k => spec_WorldOk.l1 k l (i : Int) (j : Int)) (!(((l.take i).drop j).any fun q => decide (q.f0 = (rd_T41 l (i : Int)).f0)) && R) := by
 induction d with
 | zero =>
  intro j hj
  obtain rfl : j = i := by omega
  have w1 : wrap64 ((j : Int) + 1) = ((j + 1 : Nat) : Int) := by rw [w64 (by omega) (by omega)]; rfl
  refine Ev_succ ?_
  simp only [spec_WorldOk.l1, show ¬ ((j : Int) < (j : Int)) from by omega, if_false]
  rw [w1, List.drop_of_length_le (by rw [List.length_take]; omega)]
  simpa using hR
 | succ d ih =>
  intro j hj
  have hjl : j < l.length := by omega
  have w1 : wrap64 ((j : Int) + 1) = ((j + 1 : Nat) : Int) := by rw [w64 (by omega) (by omega)]; rfl
  have hd : (l.take i).drop j = l[j] :: (l.take i).drop (j + 1) := by
   rw [List.drop_eq_getElem_cons (by rw [List.length_take]; omega)]
   congr 1
   simp
  refine Ev_succ ?_
  simp only [spec_WorldOk.l1, show (j : Int) < (i : Int) from by omega, ci_nn j, ci_nn i, show (j : Int) < (l.length : Int) from by omega, show (i : Int) < (l.length : Int) from by omega, if_true]
  rw [w1, hd, rd_pg hjl, List.any_cons]
  by_cases he : l[j].f0.toList = (rd_T41 l (i : Int)).f0.toList
  ·simp only [he, if_true, decide_eq_true (toList_inj.1 he), Bool.true_or, Bool.not_true, Bool.false_and]
   exact Ev.now _
  ·simp only [he, if_false, decide_eq_false (fun e => he (toList_inj.2 e)), Bool.false_or]
   exact ih (j + 1) (by omega)
theorem outer_s (l : List Pg) (hl : l.length ≤ 1048576) (hs : ∀ p ∈ l, p.f0.size ≤ 140737488351232 ∧ p.f2.size ≤ 140737488351232) (d : Nat) : ∀ (i : Nat), i + d = l.length → Ev (fun k => spec_WorldOk.l0 k l (i : Int)) (restOk l d i) := by
 induction d with
 | zero =>
  intro i hi
  refine Ev_succ ?_
  simp only [spec_WorldOk.l0, show ¬ ((i : Int) < (l.length : Int)) from by omega, if_false, restOk]
  have e : decide ((l.length : Int) ≤ 12) = decide (l.length ≤ 12) := by rw [Bool.eq_iff_iff]; simp; omega
  rw [e]
  exact Ev.now _
 | succ d ih =>
  intro i hi
  have hlt : i < l.length := by omega
  have hr := rd_pg hlt
  have hm := hs _ (List.getElem_mem hlt)
  have stop : Ev (fun k => spec_WorldOk.j1 k l (i : Int) true) false := Ev_succ (by simp only [spec_WorldOk.j1, if_true]; exact Ev.now _)
  have go : Ev (fun k => spec_WorldOk.j1 k l (i : Int) false) (!((l.take i).any fun q => decide (q.f0 = (rd_T41 l (i : Int)).f0)) && restOk l d (i + 1)) := by
   refine Ev_succ ?_
   simp only [spec_WorldOk.j1, Bool.false_eq_true, if_false]
   have := inner_s l i hlt hl _ (ih (i + 1) (by omega)) i 0 (by omega)
   simpa using this
  unfold restOk pgOk
  refine Ev_succ ?_
  simp only [spec_WorldOk.l0, show (i : Int) < (l.length : Int) from by omega, ci_nn i, if_true]
  rw [hr]
  rw [hr] at go
  refine Ev.bind (norm_s _ hm.1) ?_
  generalize l[i] = p at go hm ⊢
  cases norm p.f0 with
  | false => simp only [Bool.false_and, Bool.false_eq_true, if_false]; exact stop
  | true =>
   simp only [if_true, Bool.true_and]
   by_cases h1 : (p.f1.size : Int) > 300
   ·simp only [h1, if_true, show ¬ p.f1.size ≤ 300 from by omega, decide_false, Bool.false_and]; exact stop
   ·simp only [h1, if_false, show p.f1.size ≤ 300 from by omega, decide_true, Bool.true_and]
    have hin : spec_l6In.f p.f3 0 9 = some (decide (0 ≤ p.f3) && decide (p.f3 ≤ 9)) := by
     unfold spec_l6In.f
     by_cases ha : 0 ≤ p.f3 <;> by_cases hb : p.f3 ≤ 9 <;> simp [ha, hb]
    rw [hin]
    simp only [Option.bind_some]
    by_cases h23 : (decide (0 ≤ p.f3) && decide (p.f3 ≤ 9)) = true
    ·simp only [h23, if_true, Bool.true_and]
     by_cases h4 : p.f2.toList = ([] : List UInt8)
     ·simp only [h4, if_true, beq_self_eq_true, Bool.true_or, Bool.true_and]; exact go
     ·simp only [h4, if_false, beq_eq_false_iff_ne.mpr h4, Bool.false_or]
      by_cases h5 : p.f1.toList = ([] : List UInt8)
      ·simp only [h5, if_true, beq_self_eq_true, Bool.and_true]
       refine Ev.bind (norm_s _ hm.2) ?_
       cases norm p.f2 with
       | false => simp only [Bool.not_false, Bool.false_and]; exact stop
       | true => simp only [Bool.not_true, Bool.true_and]; exact go
      ·simp only [h5, if_false, beq_eq_false_iff_ne.mpr h5, Bool.and_false, Bool.false_and]; exact stop
    ·have h23' : (decide (0 ≤ p.f3) && decide (p.f3 ≤ 9)) = false := by simpa using h23
     simp only [h23', Bool.false_eq_true, if_false, Bool.false_and]; exact stop
theorem rest_world (l : List Pg) (d : Nat) : ∀ (i : Nat), i + d = l.length → fresh (l.take i).reverse = true → restOk l d i = (decide (l.length ≤ 12) && (l.drop i).all pgOk && fresh l.reverse) := by
 induction d with
 | zero =>
  intro i hi hf
  obtain rfl : i = l.length := by omega
  rw [List.take_length] at hf
  simp [restOk, hf]
 | succ d ih =>
  intro i hi hf
  have hlt : i < l.length := by omega
  have ht : (l.take (i + 1)).reverse = l[i] :: (l.take i).reverse := by
   rw [List.take_succ_eq_append_getElem hlt, List.reverse_append]
   rfl
  rw [List.drop_eq_getElem_cons hlt, List.all_cons]
  unfold restOk
  rw [rd_pg hlt]
  cases ha : ((l.take i).any fun q => decide (q.f0 = l[i].f0)) with
  | false =>
   rw [ih (i + 1) (by omega) (by rw [ht]; unfold fresh; rw [List.any_reverse, ha, hf]; rfl)]
   cases pgOk l[i] <;> simp
  | true =>
   have hn : fresh l.reverse = false := by
    have e : l.reverse = (l.drop (i + 1)).reverse ++ (l.take (i + 1)).reverse := by rw [← List.reverse_append, List.take_append_drop]
    rw [e, ht]
    generalize (l.drop (i + 1)).reverse = x
    induction x with
    | nil => simp only [List.nil_append]; unfold fresh; rw [List.any_reverse, ha]; rfl
    | cons y x ih2 => simp only [List.cons_append]; unfold fresh; rw [ih2, Bool.and_false]
   simp [hn]
theorem worldOk_s (l : List Pg) (hl : l.length ≤ 1048576) (hs : ∀ p ∈ l, p.f0.size ≤ 140737488351232 ∧ p.f2.size ≤ 140737488351232) : Ev (fun k => spec_WorldOk.f k l) (worldOk l) := by
 unfold spec_WorldOk.f
 have h := outer_s l hl hs l.length 0 (by omega)
 rw [rest_world l l.length 0 (by omega) (by simp [fresh])] at h
 rw [List.drop_zero] at h
 exact h
end Go.Proofs.YtpnedbnpnekahaaGreatDoor.Wd
end
section
namespace Go.Proofs.YtpnedbnpnekahaaGreatDoor.Wd
open Go.RowKit Go.Proofs.YtpnedbnpnekahaaGreatDoor.P Go.Proofs.YtpnedbnpnekahaaGreatDoorW.PrintWords Go.Proofs.YtpnedbnpnekahaaGreatDoorW.PrintLast Go.Proofs.YtpnedbnpnekahaaGreatDoorW.PrintMore Go.Proofs.YtpnedbnpnekahaaGreatDoor.B Go.Proofs.YtpnedbnpnekahaaGreatDoor.Ad
set_option linter.unusedVariables false
set_option linter.unusedSimpArgs false
abbrev Lp := S35
def conv (p : Lp) : Pg := ⟨p.f0, p.f1, p.f2, p.f3⟩
theorem rd_lp {l : List Lp} {i : Nat} (h : i < l.length) : rd_T35 l (i : Int) = l[i] := by
 simp [rd_T35, List.getD, List.getElem?_eq_getElem h]
theorem szPg (p : Lp) (h0 : p.f0.size ≤ 4611686018427387904) (h1 : p.f1.size ≤ 4611686018427387904) (h2 : p.f2.size ≤ 4611686018427387904) (x : Int) (hx : 0 ≤ x) (hx' : x ≤ 1048576) :
  ∃ r : Int, laws_szPage.f p.f0 p.f1 p.f2 p.f3 x = some r ∧ r ≤ 1048576 ∧ -1 ≤ r ∧ (0 ≤ r → p.f0.size ≤ 1048576 ∧ p.f1.size ≤ 1048576 ∧ p.f2.size ≤ 1048576) := by
 unfold laws_szPage.f
 have w1 : wrap64 (x - (p.f0.size : Int)) = x - (p.f0.size : Int) := w64 (by omega) (by omega)
 rw [w1]
 by_cases c1 : x - (p.f0.size : Int) < 0
 ·exact ⟨-1, by simp only [c1, if_true], by omega, by omega, fun h => by omega⟩
 have w2 : wrap64 (x - (p.f0.size : Int) - (p.f1.size : Int)) = x - (p.f0.size : Int) - (p.f1.size : Int) := w64 (by omega) (by omega)
 rw [w2]
 by_cases c2 : x - (p.f0.size : Int) - (p.f1.size : Int) < 0
 ·exact ⟨-1, by simp only [c1, c2, if_true, if_false], by omega, by omega, fun h => by omega⟩
 have w3 : wrap64 (x - (p.f0.size : Int) - (p.f1.size : Int) - (p.f2.size : Int)) = x - (p.f0.size : Int) - (p.f1.size : Int) - (p.f2.size : Int) := w64 (by omega) (by omega)
 rw [w3]
 by_cases c3 : x - (p.f0.size : Int) - (p.f1.size : Int) - (p.f2.size : Int) < 0
 ·exact ⟨-1, by simp only [c1, c2, c3, if_true, if_false], by omega, by omega, fun h => by omega⟩
 ·exact ⟨x - (p.f0.size : Int) - (p.f1.size : Int) - (p.f2.size : Int), by simp only [c1, c2, c3, if_false], by omega, by omega, fun _ => ⟨by omega, by omega, by omega⟩⟩
theorem szPgs_l (l : List Lp) (hl : l.length ≤ 2513169434916) (hs : ∀ p ∈ l, p.f0.size ≤ 4611686018427387904 ∧ p.f1.size ≤ 4611686018427387904 ∧ p.f2.size ≤ 4611686018427387904) (d : Nat) : ∀ (i : Nat) (x : Int), i + d = l.length → 0 ≤ x → x ≤ 1048576 →
  ∃ r : Int, Ev (fun k => laws_szPageS.l0 k l x (i : Int)) r ∧ (0 ≤ r → ∀ p ∈ l.drop i, p.f0.size ≤ 1048576 ∧ p.f1.size ≤ 1048576 ∧ p.f2.size ≤ 1048576) := by
 induction d with
 | zero =>
  intro i x hi h0 h1
  refine ⟨x, Ev_succ ?_, fun _ p hp => ?_⟩
  ·simp only [laws_szPageS.l0, show ¬ ((i : Int) < (l.length : Int)) from by omega, if_false]
   exact Ev.now _
  ·rw [List.drop_eq_nil_of_le (by omega)] at hp; cases hp
 | succ d ih =>
  intro i x hi h0 h1
  have hlt : i < l.length := by omega
  have hr := rd_lp hlt
  have w1 : wrap64 ((i : Int) + 1) = ((i + 1 : Nat) : Int) := by rw [w64 (by omega) (by omega)]; rfl
  have f1 : (i : Int) < (l.length : Int) := by omega
  obtain ⟨z0, z1, z2⟩ := hs l[i] (List.getElem_mem hlt)
  rw [List.drop_eq_getElem_cons hlt]
  generalize l[i] = p at hr z0 z1 z2 ⊢
  obtain ⟨q, e, q1, q2, q3⟩ := szPg p z0 z1 z2 x h0 h1
  by_cases hn : q < 0
  ·refine ⟨-1, Ev_succ ?_, fun h => by omega⟩
   simp only [laws_szPageS.l0, f1, ci_nn i, if_true, hr, e, Option.bind_some, hn]
   exact Ev.now _
  ·obtain ⟨r, er, r3⟩ := ih (i + 1) q (by omega) (by omega) (by omega)
   refine ⟨r, Ev_succ ?_, fun h s hq => ?_⟩
   ·simp only [laws_szPageS.l0, f1, ci_nn i, if_true, hr, e, Option.bind_some, hn, if_false]
    rw [w1]
    exact er
   ·rcases List.mem_cons.1 hq with rfl | hq
    ·exact q3 (by omega)
    ·exact r3 h s hq
theorem szPgs_ev (l : List Lp) (hl : l.length ≤ 2513169434916) (hs : ∀ p ∈ l, p.f0.size ≤ 4611686018427387904 ∧ p.f1.size ≤ 4611686018427387904 ∧ p.f2.size ≤ 4611686018427387904) :
  ∃ r : Int, Ev (fun k => laws_szPageS.f k l 1048576) r ∧ (0 ≤ r → l.length ≤ 1048576 ∧ ∀ p ∈ l, p.f0.size ≤ 1048576 ∧ p.f1.size ≤ 1048576 ∧ p.f2.size ≤ 1048576) := by
 unfold laws_szPageS.f
 have w1 : wrap64 ((1048576 : Int) - (l.length : Int)) = 1048576 - (l.length : Int) := w64 (by omega) (by omega)
 rw [w1]
 by_cases c1 : (1048576 : Int) - (l.length : Int) < 0
 ·exact ⟨-1, by simp only [c1, if_true]; exact Ev.now _, fun h => by omega⟩
 ·obtain ⟨r, e, h3⟩ := szPgs_l l hl hs l.length 0 (1048576 - (l.length : Int)) (by omega) (by omega) (by omega)
  refine ⟨r, by simp only [c1, if_false]; exact e, fun h => ⟨by omega, ?_⟩⟩
  simpa using h3 h
theorem toPgs_l (l : List Lp) (hl : l.length ≤ 1048576) (d : Nat) : ∀ (i : Nat), i + d = l.length → Ev (fun k => laws_toPageS.l0 k l ((l.take i).map conv ++ List.replicate d z41) (i : Int)) (l.map conv) := by
 induction d with
 | zero =>
  intro i hi
  refine Ev_succ ?_
  simp only [laws_toPageS.l0, show ¬ ((i : Int) < (l.length : Int)) from by omega, if_false]
  rw [List.take_of_length_le (by omega), List.replicate_zero, List.append_nil]
  exact Ev.now _
 | succ d ih =>
  intro i hi
  have hlt : i < l.length := by omega
  have hr := rd_lp hlt
  have w1 : wrap64 ((i : Int) + 1) = ((i + 1 : Nat) : Int) := by rw [w64 (by omega) (by omega)]; rfl
  have f1 : (i : Int) < (l.length : Int) := by omega
  have next := ih (i + 1) (by omega)
  have f2 : (i : Int) < (((l.take i).map conv ++ List.replicate (d + 1) z41).length : Int) := by
   rw [List.length_append, List.length_map, List.length_take, List.length_replicate]; omega
  have hset : ((l.take i).map conv ++ List.replicate (d + 1) z41).set i (conv l[i]) = (l.take (i + 1)).map conv ++ List.replicate d z41 := by
   have e : ((l.take i).map conv).length = i := by rw [List.length_map, List.length_take]; omega
   rw [List.set_append_right i _ (by omega), e, Nat.sub_self, List.replicate_succ, List.set_cons_zero, List.take_succ_eq_append_getElem hlt, List.map_append, List.append_assoc]
   rfl
  refine Ev_succ ?_
  simp only [laws_toPageS.l0, laws_toPage.f, f1, f2, ci_nn i, if_true, hr, Int.toNat_natCast, Option.bind_some]
  rw [w1]
  rw [show (⟨l[i].f0, l[i].f1, l[i].f2, l[i].f3⟩ : Pg) = conv l[i] from rfl, hset]
  exact next
theorem toPgs_ev (l : List Lp) (hl : l.length ≤ 1048576) : Ev (fun k => laws_toPageS.f k l) (l.map conv) := by
 have := toPgs_l l hl l.length 0 (Nat.zero_add _)
 rw [List.take_zero, List.map_nil, List.nil_append] at this
 unfold laws_toPageS.f
 simp only [show (0 : Int) ≤ (l.length : Int) from by omega, if_true, Int.toNat_natCast, show l.length ≤ 5026338869833 from by omega]
 exact this
theorem eqPgs_l (l : List Pg) (hl : l.length ≤ 1048576) (d : Nat) : ∀ (i : Nat), i + d = l.length → Ev (fun k => laws_eqPageS.l0 k l l (i : Int)) true := by
 induction d with
 | zero =>
  intro i hi
  refine Ev_succ ?_
  simp only [laws_eqPageS.l0, show ¬ ((i : Int) < (l.length : Int)) from by omega, if_false]
  exact Ev.now _
 | succ d ih =>
  intro i hi
  have w1 : wrap64 ((i : Int) + 1) = ((i + 1 : Nat) : Int) := by rw [w64 (by omega) (by omega)]; rfl
  refine Ev_succ ?_
  simp only [laws_eqPageS.l0, laws_eqPage.f, show (i : Int) < (l.length : Int) from by omega, ci_nn i, if_true, Option.bind_some]
  rw [w1]
  exact ih (i + 1) (by omega)
theorem eqPgs_ev (l : List Pg) (hl : l.length ≤ 1048576) : Ev (fun k => laws_eqPageS.f k l l) true := by
 unfold laws_eqPageS.f
 simp only [if_true]
 exact eqPgs_l l hl l.length 0 (by omega)
end Go.Proofs.YtpnedbnpnekahaaGreatDoor.Wd
end
section
namespace Go.Proofs.YtpnedbnpnekahaaGreatDoor.Wd
open Go.RowKit Go.Proofs.YtpnedbnpnekahaaGreatDoor.P Go.Proofs.YtpnedbnpnekahaaGreatDoorW.PrintWords Go.Proofs.YtpnedbnpnekahaaGreatDoorW.PrintLast Go.Proofs.YtpnedbnpnekahaaGreatDoorW.PrintMore Go.Proofs.YtpnedbnpnekahaaGreatDoor.B Go.Proofs.YtpnedbnpnekahaaGreatDoor.Ad
set_option linter.unusedVariables false
set_option linter.unusedSimpArgs false
theorem at_find (a : ByteArray) : ∀ (r : List Pg), pageAtR a r = r.find? fun q => decide (q.f0 = a)
 | [] => rfl
 | p :: r => by
  unfold pageAtR
  by_cases h : p.f0 = a
  ·simp [h]
  ·simp [h, at_find a r]
theorem fresh_one : ∀ {r : List Pg}, fresh r = true → ∀ p ∈ r, ∀ q ∈ r, p.f0 = q.f0 → p = q
 | x :: r, h, p, hp, q, hq, e => by
  unfold fresh at h
  simp only [Bool.and_eq_true, Bool.not_eq_true', List.any_eq_false, decide_eq_true_eq] at h
  rcases List.mem_cons.1 hp with e1 | hp'
  ·rcases List.mem_cons.1 hq with e2 | hq'
   ·rw [e1, e2]
   ·exact absurd (by rw [← e, e1]) (h.1 q hq')
  ·rcases List.mem_cons.1 hq with e2 | hq'
   ·exact absurd (by rw [e, e2]) (h.1 p hp')
   ·exact fresh_one h.2 p hp' q hq' e
theorem at_first {l : List Pg} (h : fresh l.reverse = true) (a : ByteArray) : pageAtR a l.reverse = l.find? fun q => decide (q.f0 = a) := by
 rw [at_find]
 cases h1 : l.reverse.find? fun q => decide (q.f0 = a) with
 | none =>
  symm
  rw [List.find?_eq_none] at h1 ⊢
  exact fun x hx => h1 x (List.mem_reverse.2 hx)
 | some p =>
  have hp := List.mem_of_find?_eq_some h1
  have ep : p.f0 = a := by simpa using List.find?_some h1
  cases h2 : l.find? fun q => decide (q.f0 = a) with
  | none =>
   rw [List.find?_eq_none] at h2
   exact absurd (decide_eq_true ep) (h2 p (List.mem_reverse.1 hp))
  | some q =>
   have hq := List.mem_of_find?_eq_some h2
   have eq : q.f0 = a := by simpa using List.find?_some h2
   rw [fresh_one h p hp q (List.mem_reverse.2 hq) (ep.trans eq.symm)]
def atO (l : List Pg) (a : ByteArray) : ByteArray × ByteArray × ByteArray × Int × Bool :=
 match l.find? fun q => decide (q.f0 = a) with
 | some p => (p.f0, p.f1, p.f2, p.f3, true)
 | none => ((⟨#[]⟩ : ByteArray), (⟨#[]⟩ : ByteArray), (⟨#[]⟩ : ByteArray), 0, false)
theorem at_l (l : List Pg) (hl : l.length ≤ 1048576) (a : ByteArray) (d : Nat) : ∀ (i : Nat), i + d = l.length → Ev (fun k => spec_l11At.l0 k l a (i : Int)) (atO (l.drop i) a) := by
 induction d with
 | zero =>
  intro i hi
  refine Ev_succ ?_
  simp only [spec_l11At.l0, show ¬ ((i : Int) < (l.length : Int)) from by omega, if_false]
  rw [List.drop_of_length_le (by omega)]
  exact Ev.now _
 | succ d ih =>
  intro i hi
  have hlt : i < l.length := by omega
  have w1 : wrap64 ((i : Int) + 1) = ((i + 1 : Nat) : Int) := by rw [w64 (by omega) (by omega)]; rfl
  have next := ih (i + 1) (by omega)
  refine Ev_succ ?_
  simp only [spec_l11At.l0, show (i : Int) < (l.length : Int) from by omega, ci_nn i, if_true]
  rw [w1, rd_pg hlt, List.drop_eq_getElem_cons hlt]
  generalize l[i] = p at *
  by_cases he : p.f0.toList = a.toList
  ·simp only [he, if_true, atO, List.find?_cons, decide_eq_true (toList_inj.1 he)]
   exact Ev.now _
  ·simp only [he, if_false, atO, List.find?_cons, decide_eq_false (fun e => he (toList_inj.2 e))]
   exact next
theorem get_s (l : List Pg) (hl : l.length ≤ 1048576) (hf : fresh l.reverse = true) (a : ByteArray) (t : Int) (h0 : ¬ t < 0) : Ev (fun k => spec_l11Get.f k l a t) (getF l a t) := by
 unfold getF
 rw [at_first hf]
 have hA := at_l l hl a l.length 0 (by omega)
 rw [List.drop_zero] at hA
 unfold spec_l11Get.f spec_l11At.f
 unfold atO at hA
 cases hq : l.find? fun q => decide (q.f0 = a) with
 | none =>
  rw [hq] at hA
  refine Ev.bind hA ?_
  simp only [Bool.false_eq_true, if_false]
  exact Ev.now _
 | some p =>
  rw [hq] at hA
  refine Ev.bind hA ?_
  simp only [h0, if_false, if_true]
  by_cases h3 : t < p.f3
  ·simp only [h3, if_true]; exact Ev.now _
  ·by_cases h2 : p.f2.toList = ([] : List UInt8)
   ·simp only [h3, if_false, h2, if_true]; exact Ev.now _
   ·simp only [h3, if_false, h2]; exact Ev.now _
end Go.Proofs.YtpnedbnpnekahaaGreatDoor.Wd
end
section
namespace Go.Proofs.YtpnedbnpnekahaaGreatDoor.Ad
open Go.RowKit Go.Proofs.YtpnedbnpnekahaaGreatDoor.P Go.Proofs.YtpnedbnpnekahaaGreatDoorW.PrintWords Go.Proofs.YtpnedbnpnekahaaGreatDoorW.PrintLast Go.Proofs.YtpnedbnpnekahaaGreatDoorW.PrintMore Go.Proofs.YtpnedbnpnekahaaGreatDoor.B
set_option linter.unusedVariables false
set_option linter.unusedSimpArgs false
theorem addrText_i (house : ByteArray) (parts : List ByteArray) (asks : Bool) (ask : ByteArray) (hP : Parts parts) (hq : ask.size ≤ 1048576) (hh : house.size ≤ 1048576) :
  Ev (fun k => impl_AddrText.f k house parts asks ask) (addrText house parts asks ask) := by
 unfold impl_AddrText.f addrText
 refine Ev.bind (addrOk_i house parts asks ask hP hq hh) ?_
 by_cases h : addrOk house parts asks ask = true
 ·simp only [h, if_true, text_i house parts asks ask hP hq hh, Option.bind_some]
  exact Ev.now _
 ·simp only [h, if_false]
  exact Ev.now _
end Go.Proofs.YtpnedbnpnekahaaGreatDoor.Ad
end
section
namespace Go.Proofs.YtpnedbnpnekahaaGreatDoor.Ad
open Go.RowKit Go.Proofs.YtpnedbnpnekahaaGreatDoor.P Go.Proofs.YtpnedbnpnekahaaGreatDoorW.PrintWords Go.Proofs.YtpnedbnpnekahaaGreatDoorW.PrintLast Go.Proofs.YtpnedbnpnekahaaGreatDoorW.PrintMore Go.Proofs.YtpnedbnpnekahaaGreatDoor.B
set_option linter.unusedVariables false
set_option linter.unusedSimpArgs false
def joinS (h : ByteArray) (ps : List ByteArray) (asks : Bool) (ask s : ByteArray) : A5 :=
 if (decide (2 ≤ s.size) && decide ((L s).take 2 = [47, 47])) = true then wholeO (s.extract 2 s.size)
 else if s.toList = [] then (h, ps, asks, ask, true)
 else if bt s 0 = 47 then wayO h [] s
 else if bt s 0 = 63 then wayO h ps s
 else wayO h (ps.take (ps.length - 1)) s
def joinO (h : ByteArray) (ps : List ByteArray) (asks : Bool) (ask ref : ByteArray) : A5 :=
 if ref.size > 60 then none5 else if addrOk h ps asks ask = true then joinS h ps asks ask (cutB 35 ref).1 else none5
theorem fine_joinS (h : ByteArray) (ps : List ByteArray) (asks : Bool) (ask s : ByteArray) (ho : addrOk h ps asks ask = true) : Fine (joinS h ps asks ask s) := by
 unfold joinS
 split
 ·exact fine_way _ _ _
 ·split
  ·exact Or.inr ⟨rfl, ho⟩
  ·split
   ·exact fine_way _ _ _
   ·split
    ·exact fine_way _ _ _
    ·exact fine_way _ _ _
theorem fine_join (h : ByteArray) (ps : List ByteArray) (asks : Bool) (ask ref : ByteArray) : Fine (joinO h ps asks ask ref) := by
 unfold joinO
 split
 ·exact fine_none
 ·split
  ·rename_i ho; exact fine_joinS _ _ _ _ _ ho
  ·exact fine_none
theorem ok_small {h : ByteArray} {ps : List ByteArray} {asks : Bool} {ask : ByteArray} (ho : addrOk h ps asks ask = true) : ps.length ≤ 5 ∧ (∀ p ∈ ps, p.size ≤ 60) ∧ h.size ≤ 5 ∧ ask.size ≤ 60 := by
 unfold addrOk at ho
 simp only [Bool.and_eq_true, decide_eq_true_eq] at ho
 obtain ⟨⟨⟨⟨⟨h1, h2⟩, h3⟩, h4⟩, h5⟩, h6⟩ := ho
 refine ⟨h2, fun p hp => ?_, isHouse_size h1, isNorm_size h3⟩
 have := List.all_eq_true.1 h5 p hp
 unfold partOk at this
 simp only [Bool.and_eq_true] at this
 exact isNorm_size this.1.1.1
theorem ev_eta {g : Nat → Option A5} {r : A5} (h : Ev g r) : Ev (fun k => (g k).bind fun b => some (b.1, b.2.1, b.2.2.1, b.2.2.2.1, b.2.2.2.2)) r := Ev.bind h (Ev.now r)
theorem mx_len (n : Nat) (h : n ≤ 1000) : mx (wrap64 ((n : Int) - 1)) 0 = ((n - 1 : Nat) : Int) := by
 rw [w64 (by omega) (by omega)]; unfold mx; split <;> omega
theorem join_i (h : ByteArray) (ps : List ByteArray) (asks : Bool) (ask ref : ByteArray) (hP : Parts ps) (hq : ask.size ≤ 1048576) (hh : h.size ≤ 1048576) :
  Ev (fun k => impl_AddrJoin.f k h ps asks ask ref) (joinO h ps asks ask ref) := by
 have bad : Ev (fun k => impl_AddrJoin.j0 k ref true h ps asks ask) none5 := Ev_succ (by simp only [impl_AddrJoin.j0, if_true]; exact Ev.now _)
 unfold impl_AddrJoin.f joinO
 by_cases hr : ref.size > 60
 ·simp only [show ((ref.size : Int) > 60) from by omega, if_true, hr]
  exact bad
 ·simp only [show ¬ ((ref.size : Int) > 60) from by omega, if_false, hr]
  refine Ev.bind (addrOk_i h ps asks ask hP hq hh) ?_
  by_cases ho : addrOk h ps asks ask = true
  ·simp only [ho, if_true, Bool.not_true]
   obtain ⟨z1, z2, z3, z4⟩ := ok_small ho
   have hc := cutB_size 35 ref
   refine Ev_succ ?_
   simp only [impl_AddrJoin.j0, Bool.false_eq_true, if_false]
   rw [cut_i ref 35 (by omega)]
   simp only [Option.bind_some]
   have hs : (cutB 35 ref).1.size ≤ 60 := by omega
   generalize (cutB 35 ref).1 = s at hs
   unfold strings_HasPrefix.f
   rw [prefix_i s (by omega)]
   simp only [Option.bind_some]
   unfold joinS
   by_cases h1 : (decide (2 ≤ s.size) && decide ((L s).take 2 = [47, 47])) = true
   ·simp only [h1, if_true]
    have e : wholeI s = wholeO (s.extract 2 s.size) := by
     simp only [Bool.and_eq_true, decide_eq_true_eq] at h1
     unfold wholeI
     rw [if_neg (by omega), if_pos h1.2]
    rw [← e]
    exact ev_eta (whole_i s (by omega))
   ·simp only [h1, if_false]
    by_cases h2 : s.toList = []
    ·simp only [h2, if_true, slices_Clone_string_string.f, show ps.length * 16 ≤ 140737488355328 from by omega, Option.bind_some]
     exact Ev.now _
    ·have hpos : 0 < s.size := by
      rcases Nat.eq_zero_or_pos s.size with e | e
      ·exact absurd (toList_nil.2 e) h2
      ·exact e
     simp only [h2, if_false, show (0 : Int) < (s.size : Int) from by omega, if_true]
     by_cases h3 : bt s 0 = 47
     ·simp only [h3, if_true]
      exact ev_eta (way_i h [] s (by omega) (by simp) (by simp) (by omega))
     ·by_cases h4 : bt s 0 = 63
      ·simp only [h3, h4, if_true, if_false, show ¬ ((63 : Int) = 47) from by omega]
       exact ev_eta (way_i h ps s (by omega) (by omega) (fun p hp => by have := z2 p hp; omega) (by omega))
      ·simp only [h3, h4, if_false]
       rw [mx_len ps.length (by omega)]
       simp only [show (0 : Int) ≤ ((ps.length - 1 : Nat) : Int) from by omega, show ((ps.length - 1 : Nat) : Int) ≤ (ps.length : Int) from by omega, if_true, Int.toNat_natCast]
       exact ev_eta (way_i h (ps.take (ps.length - 1)) s (by omega) (by rw [List.length_take]; omega) (fun p hp => by have := z2 p (List.mem_of_mem_take hp); omega) (by omega))
  ·simp only [show addrOk h ps asks ask = false from by simpa using ho, Bool.not_false, Bool.false_eq_true, if_false]
   exact bad
set_option maxHeartbeats 1600000 in
theorem join_ev (h : ByteArray) (ps : List ByteArray) (asks : Bool) (ask ref : ByteArray) (hP : Parts ps) (hq : ask.size ≤ 1048576) (hh : h.size ≤ 1048576) (hs : ref.size ≤ 140737488351232) :
  Ev (fun k => spec_AddrJoin.f k h ps asks ask ref) (joinO h ps asks ask ref) := by
 have bad : ∀ s, Ev (fun k => spec_AddrJoin.j0 k s true h ps asks ask) none5 := fun s => Ev_succ (by simp only [spec_AddrJoin.j0, if_true]; exact Ev.now _)
 unfold spec_AddrJoin.f joinO
 refine Ev.bind (cut_ev ref 35 (by omega)) ?_
 refine Ev.bind (addrOk_ev h ps asks ask hP hq hh) ?_
 by_cases ho : addrOk h ps asks ask = true
 ·simp only [ho, if_true]
  by_cases hr : ref.size > 60
  ·simp only [show decide ((ref.size : Int) > 60) = true from by simp; omega, hr, if_true]
   exact bad _
  ·simp only [show decide ((ref.size : Int) > 60) = false from by simp; omega, hr, if_false]
   obtain ⟨z1, z2, z3, z4⟩ := ok_small ho
   have hc := cutB_size 35 ref
   have hs : (cutB 35 ref).1.size ≤ 60 := by omega
   generalize (cutB 35 ref).1 = s at hs
   have main : Ev (fun k => spec_AddrJoin.j1 k s (decide (2 ≤ s.size) && decide ((L s).take 2 = [47, 47])) h ps asks ask) (joinS h ps asks ask s) := by
    refine Ev_succ ?_
    simp only [spec_AddrJoin.j1]
    unfold joinS
    by_cases h1 : (decide (2 ≤ s.size) && decide ((L s).take 2 = [47, 47])) = true
    ·have h1' := h1
     simp only [Bool.and_eq_true, decide_eq_true_eq] at h1'
     simp only [h1, if_true, show (2 : Int) ≤ (s.size : Int) from by omega]
     exact ev_eta (whole_ev (s.extract 2 s.size) (by rw [ByteArray.size_extract]; omega))
    ·simp only [h1, if_false]
     by_cases h2 : s.toList = []
     ·simp only [h2, if_true, Option.bind_some, show ([] : List ByteArray).length + ps.length < 8796093022208 from by simp; omega, List.nil_append]
      exact Ev.now _
     ·have hpos : 0 < s.size := by
       rcases Nat.eq_zero_or_pos s.size with e | e
       ·exact absurd (toList_nil.2 e) h2
       ·exact e
      simp only [h2, if_false, show (0 : Int) < (s.size : Int) from by omega, if_true]
      by_cases h3 : bt s 0 = 47
      ·simp only [h3, if_true]
       exact ev_eta (way_ev h [] false _ s (by omega) (by simp) (by simp) (by omega))
      ·by_cases h4 : bt s 0 = 63
       ·simp only [h3, h4, if_true, if_false, show ¬ ((63 : Int) = 47) from by omega]
        exact ev_eta (way_ev h ps false _ s (by omega) (by omega) (fun p hp => by have := z2 p hp; omega) (by omega))
       ·simp only [h3, h4, if_false]
        have up : spec_l1Up.f h ps asks ask = some (h, ps.take (ps.length - 1), false, ⟨#[]⟩) := by
         unfold spec_l1Up.f
         rw [mx_len ps.length (by omega), Option.bind_some, if_pos (by omega), if_pos (by omega), Int.toNat_natCast, if_pos (by rw [List.length_take]; simp; omega)]
         rfl
        rw [up]
        simp only [Option.bind_some]
        exact ev_eta (way_ev h (ps.take (ps.length - 1)) false _ s (by omega) (by rw [List.length_take]; omega) (fun p hp => by have := z2 p (List.mem_of_mem_take hp); omega) (by omega))
   refine Ev_succ ?_
   simp only [spec_AddrJoin.j0, Bool.false_eq_true, if_false]
   by_cases h2 : 2 ≤ s.size
   ·have hx : (s.extract 0 2).toList = (L s).take 2 := by rw [Lib.toList_data]; show L (s.extract 0 2) = _; rw [L_ext]; simp
    have e : ((s.extract 0 2).toList == ([47, 47] : List UInt8)) = (decide (2 ≤ s.size) && decide ((L s).take 2 = [47, 47])) := by
     rw [hx, Bool.eq_iff_iff]; simp [h2]
    simp only [show (s.size : Int) ≥ 2 from by omega, show (0 : Int) ≤ 2 from by omega, show (2 : Int) ≤ (s.size : Int) from by omega, if_true, e]
    exact main
   ·have e : (decide (2 ≤ s.size) && decide ((L s).take 2 = [47, 47])) = false := by simp [h2]
    rw [e] at main
    simp only [show ¬ ((s.size : Int) ≥ 2) from by omega, if_false]
    exact main
 ·simp only [show addrOk h ps asks ask = false from by simpa using ho, Bool.false_eq_true, if_false, ite_self]
  exact bad _
end Go.Proofs.YtpnedbnpnekahaaGreatDoor.Ad
end
section
namespace Go.Proofs.YtpnedbnpnekahaaGreatDoor.Mk
open Go.RowKit Go.Proofs.YtpnedbnpnekahaaGreatDoor.P Go.Proofs.YtpnedbnpnekahaaGreatDoorW.PrintWords Go.Proofs.YtpnedbnpnekahaaGreatDoorW.PrintLast Go.Proofs.YtpnedbnpnekahaaGreatDoorW.PrintMore Go.Proofs.YtpnedbnpnekahaaGreatDoor.B
set_option linter.unusedVariables false
set_option linter.unusedSimpArgs false
def headIs (m : ByteArray) (c : Int) : Bool := decide (0 < m.size) && (bt m 0 == c)
theorem begins_f (m : ByteArray) (c : Int) : impl_beginsWith.f m c = some (headIs m c) := by
 unfold impl_beginsWith.f headIs
 by_cases h : m.size = 0
 ·rw [if_pos (toList_nil.2 h)]; simp [h]
 ·rw [if_neg (fun e => h (toList_nil.1 e)), if_pos (by omega)]
  have : 0 < m.size := by omega
  simp [this]
theorem head_f (m : ByteArray) (c : Int) (hc : c ≠ 0) : ∃ h, spec_l3Head.f m = some h ∧ (h = c ↔ headIs m c = true) := by
 unfold spec_l3Head.f headIs
 by_cases h : m.size = 0
 ·rw [if_pos (toList_nil.2 h)]
  exact ⟨0, rfl, by simp [h]; omega⟩
 ·rw [if_neg (fun e => h (toList_nil.1 e)), if_pos (by omega)]
  have : 0 < m.size := by omega
  exact ⟨_, rfl, by simp [this]⟩
def isLink (m : ByteArray) : Bool := !headIs m 33 && !headIs m 64
def links (ms : List ByteArray) : List ByteArray := ms.filter isLink
def base (ms : List ByteArray) : ByteArray × Bool := match ms.find? (headIs · 64) with
 | some m => (m.extract 1 m.size, true)
 | none => (⟨#[]⟩, false)
theorem links_skip {m : ByteArray} (r : List ByteArray) (h : isLink m = false) : links (m :: r) = links r := by simp [links, h]
theorem links_take {m : ByteArray} (r : List ByteArray) (h : isLink m = true) : links (m :: r) = m :: links r := by simp [links, h]
theorem base_hit {m : ByteArray} (r : List ByteArray) (h : headIs m 64 = true) : base (m :: r) = (m.extract 1 m.size, true) := by simp [base, h]
theorem base_skip {m : ByteArray} (r : List ByteArray) (h : ¬ headIs m 64 = true) : base (m :: r) = base r := by simp [base, h]
theorem rdOf_at {l : List ByteArray} {i : Nat} (h : i < l.length) : rdOf ByteArray.empty l (i : Int) = l[i] := by
 unfold rdOf
 rw [List.getD_eq_getElem?_getD, Int.toNat_natCast, List.getElem?_eq_getElem h]
 rfl
theorem impl_links_l (ms : List ByteArray) (hn : ms.length ≤ 1000) (d : Nat) : ∀ (i : Nat) (acc : List ByteArray), i + d = ms.length → acc.length ≤ i →
  Ev (fun k => impl_PageLinks.l0 k acc ms (ms.length : Int) i) (acc ++ links (ms.drop i)) := by
 induction d with
 | zero =>
  intro i acc hi _
  refine Ev.of (fun k => impl_PageLinks.mono_l k _ _ _ _) (k := 1) ?_
  simp only [impl_PageLinks.l0]
  rw [if_neg (by omega), List.drop_eq_nil_of_le (by omega)]
  simp [links]
 | succ d ih =>
  intro i acc hi ha
  have hlt : i < ms.length := by omega
  have hw : wrap64 ((i : Int) + 1) = ((i + 1 : Nat) : Int) := by rw [w64 (by omega) (by omega)]; omega
  rw [List.drop_eq_getElem_cons hlt]
  by_cases h1 : headIs ms[i] 33 = true
  ·refine Ev.step (fun k => ?_) (by have := ih (i + 1) acc (by omega) (by omega); rwa [links_skip _ (by simp [isLink, h1])])
   simp only [impl_PageLinks.l0, begins_f, rdOf_at hlt, Option.bind_some]
   rw [if_pos (by omega), if_pos (by omega), if_pos (by omega), if_pos h1, hw]
  ·by_cases h2 : headIs ms[i] 64 = true
   ·refine Ev.step (fun k => ?_) (by have := ih (i + 1) acc (by omega) (by omega); rwa [links_skip _ (by simp [isLink, h2])])
    simp only [impl_PageLinks.l0, begins_f, rdOf_at hlt, Option.bind_some]
    rw [if_pos (by omega), if_pos (by omega), if_pos (by omega), if_neg h1, if_pos h2, hw]
   ·refine Ev.step (fun k => ?_) (by have := ih (i + 1) (acc ++ [ms[i]]) (by omega) (by simp; omega); rwa [links_take _ (by simp [isLink, h1, h2]), ← List.singleton_append, ← List.append_assoc])
    simp only [impl_PageLinks.l0, begins_f, rdOf_at hlt, Option.bind_some]
    rw [if_pos (by omega), if_pos (by omega), if_pos (by omega), if_neg h1, if_neg h2, if_pos (by omega), hw]
theorem spec_links_l (ms : List ByteArray) (hn : ms.length ≤ 1000) (d : Nat) : ∀ (i : Nat) (acc : List ByteArray), i + d = ms.length → acc.length ≤ i →
  Ev (fun k => spec_PageLinks.l0 k ms acc i) (acc ++ links (ms.drop i)) := by
 induction d with
 | zero =>
  intro i acc hi _
  refine Ev.of (fun k => spec_PageLinks.mono_l k _ _ _) (k := 1) ?_
  simp only [spec_PageLinks.l0]
  rw [if_neg (by omega), List.drop_eq_nil_of_le (by omega)]
  simp [links]
 | succ d ih =>
  intro i acc hi ha
  have hlt : i < ms.length := by omega
  have hw : wrap64 ((i : Int) + 1) = ((i + 1 : Nat) : Int) := by rw [w64 (by omega) (by omega)]; omega
  rw [List.drop_eq_getElem_cons hlt]
  obtain ⟨a, e1, q1⟩ := head_f ms[i] 33 (by omega)
  obtain ⟨b, e2, q2⟩ := head_f ms[i] 64 (by omega)
  obtain rfl : a = b := Option.some.inj (e1.symm.trans e2)
  by_cases h1 : headIs ms[i] 33 = true
  ·refine Ev.step (fun k => ?_) (by have := ih (i + 1) acc (by omega) (by omega); rwa [links_skip _ (by simp [isLink, h1])])
   simp only [spec_PageLinks.l0, rdOf_at hlt, e1, Option.bind_some]
   rw [if_pos (by omega), if_pos (by omega), if_pos (q1.2 h1), hw]
  ·by_cases h2 : headIs ms[i] 64 = true
   ·refine Ev.step (fun k => ?_) (by have := ih (i + 1) acc (by omega) (by omega); rwa [links_skip _ (by simp [isLink, h2])])
    simp only [spec_PageLinks.l0, rdOf_at hlt, e1, Option.bind_some]
    rw [if_pos (by omega), if_pos (by omega), if_neg (fun e => h1 (q1.1 e)), if_pos (q2.2 h2), hw]
   ·refine Ev.step (fun k => ?_) (by have := ih (i + 1) (acc ++ [ms[i]]) (by omega) (by simp; omega); rwa [links_take _ (by simp [isLink, h1, h2]), ← List.singleton_append, ← List.append_assoc])
    simp only [spec_PageLinks.l0, rdOf_at hlt, e1, Option.bind_some]
    rw [if_pos (by omega), if_pos (by omega), if_neg (fun e => h1 (q1.1 e)), if_neg (fun e => h2 (q2.1 e)), if_pos (by omega), hw]
theorem marks_len (s : ByteArray) : (marks s).length ≤ 300 := by
 unfold marks
 split
 ·have := (pmTo_ok s s.size).2.2; omega
 ·simp
theorem impl_links_ev (s : ByteArray) : Ev (fun k => impl_PageLinks.f k s) (links (marks s)) := by
 unfold impl_PageLinks.f impl_pageMarks.f
 simp only [Option.bind_some]
 have h := impl_links_l (marks s) (by have := marks_len s; omega) (marks s).length 0 [] (by omega) (by simp)
 simpa using h
theorem spec_links_ev (s : ByteArray) (hs : s.size ≤ 140737488351232) : Ev (fun k => spec_PageLinks.f k s) (links (marks s)) := by
 unfold spec_PageLinks.f
 refine Ev.bind (spec_ev s hs) ?_
 have h := spec_links_l (marks s) (by have := marks_len s; omega) (marks s).length 0 [] (by omega) (by simp)
 simpa using h
theorem headIs_pos {m : ByteArray} {c : Int} (h : headIs m c = true) : 0 < m.size := by
 unfold headIs at h
 simp at h
 exact h.1
theorem impl_base_l (ms : List ByteArray) (hn : ms.length ≤ 1000) (d : Nat) : ∀ (i : Nat), i + d = ms.length →
  Ev (fun k => impl_PageBase.l0 k ms (ms.length : Int) i) (base (ms.drop i)) := by
 induction d with
 | zero =>
  intro i hi
  refine Ev.of (fun k => impl_PageBase.mono_l k _ _ _) (k := 1) ?_
  simp only [impl_PageBase.l0]
  rw [if_neg (by omega), List.drop_eq_nil_of_le (by omega)]
  simp [base]
 | succ d ih =>
  intro i hi
  have hlt : i < ms.length := by omega
  have hw : wrap64 ((i : Int) + 1) = ((i + 1 : Nat) : Int) := by rw [w64 (by omega) (by omega)]; omega
  rw [List.drop_eq_getElem_cons hlt]
  by_cases h2 : headIs ms[i] 64 = true
  ·refine Ev.of (fun k => impl_PageBase.mono_l k _ _ _) (k := 1) ?_
   have := headIs_pos h2
   simp only [impl_PageBase.l0, begins_f, rdOf_at hlt, Option.bind_some]
   rw [if_pos (by omega), if_pos (by omega), if_pos (by omega), if_pos h2, if_pos (by omega)]
   rw [base_hit _ h2]
  ·refine Ev.step (fun k => ?_) (by have := ih (i + 1) (by omega); rwa [base_skip _ h2])
   simp only [impl_PageBase.l0, begins_f, rdOf_at hlt, Option.bind_some]
   rw [if_pos (by omega), if_pos (by omega), if_pos (by omega), if_neg h2, hw]
theorem spec_base_l (ms : List ByteArray) (hn : ms.length ≤ 1000) (d : Nat) : ∀ (i : Nat), i + d = ms.length →
  Ev (fun k => spec_PageBase.l0 k ms i) (base (ms.drop i)) := by
 induction d with
 | zero =>
  intro i hi
  refine Ev.of (fun k => spec_PageBase.mono_l k _ _) (k := 1) ?_
  simp only [spec_PageBase.l0]
  rw [if_neg (by omega), List.drop_eq_nil_of_le (by omega)]
  simp [base]
 | succ d ih =>
  intro i hi
  have hlt : i < ms.length := by omega
  have hw : wrap64 ((i : Int) + 1) = ((i + 1 : Nat) : Int) := by rw [w64 (by omega) (by omega)]; omega
  rw [List.drop_eq_getElem_cons hlt]
  obtain ⟨a, e1, q2⟩ := head_f ms[i] 64 (by omega)
  by_cases h2 : headIs ms[i] 64 = true
  ·refine Ev.of (fun k => spec_PageBase.mono_l k _ _) (k := 1) ?_
   have := headIs_pos h2
   simp only [spec_PageBase.l0, rdOf_at hlt, e1, Option.bind_some]
   rw [if_pos (by omega), if_pos (by omega), if_pos (q2.2 h2), if_pos (by omega)]
   rw [base_hit _ h2]
  ·refine Ev.step (fun k => ?_) (by have := ih (i + 1) (by omega); rwa [base_skip _ h2])
   simp only [spec_PageBase.l0, rdOf_at hlt, e1, Option.bind_some]
   rw [if_pos (by omega), if_pos (by omega), if_neg (fun e => h2 (q2.1 e)), hw]
theorem impl_base_ev (s : ByteArray) : Ev (fun k => impl_PageBase.f k s) (base (marks s)) := by
 unfold impl_PageBase.f impl_pageMarks.f
 simp only [Option.bind_some]
 have h := impl_base_l (marks s) (by have := marks_len s; omega) (marks s).length 0 (by omega)
 simpa using h
theorem spec_base_ev (s : ByteArray) (hs : s.size ≤ 140737488351232) : Ev (fun k => spec_PageBase.f k s) (base (marks s)) := by
 unfold spec_PageBase.f
 refine Ev.bind (spec_ev s hs) ?_
 have h := spec_base_l (marks s) (by have := marks_len s; omega) (marks s).length 0 (by omega)
 simpa using h
theorem links_len (ms : List ByteArray) : (links ms).length ≤ ms.length := List.length_filter_le _ _
end Go.Proofs.YtpnedbnpnekahaaGreatDoor.Mk
end
section
namespace Go.Proofs.YtpnedbnpnekahaaGreatDoor.Ad
open Go.RowKit Go.Proofs.YtpnedbnpnekahaaGreatDoor.P Go.Proofs.YtpnedbnpnekahaaGreatDoorW.PrintWords Go.Proofs.YtpnedbnpnekahaaGreatDoorW.PrintLast Go.Proofs.YtpnedbnpnekahaaGreatDoorW.PrintMore Go.Proofs.YtpnedbnpnekahaaGreatDoor.B Go.Proofs.YtpnedbnpnekahaaGreatDoor.Mk
set_option linter.unusedVariables false
set_option linter.unusedSimpArgs false
def hasB (l : List ByteArray) (s : ByteArray) : Bool := l.any fun x => x.toList == s.toList
theorem hasB_iff {l : List ByteArray} {s : ByteArray} : hasB l s = true ↔ s ∈ l := by
  unfold hasB
  rw [List.any_eq_true]
  constructor
  · rintro ⟨x, hx, he⟩
    rw [← toList_inj.1 (beq_iff_eq.1 he)]; exact hx
  · intro h
    exact ⟨s, h, beq_self_eq_true _⟩
def putL (l : List ByteArray) (s : ByteArray) : List ByteArray := if hasB l s = true then l else l ++ [s]
theorem putL_len (l : List ByteArray) (s : ByteArray) : (putL l s).length ≤ l.length + 1 := by unfold putL; split <;> simp
theorem put_ev_l (l : List ByteArray) (s : ByteArray) (hl : l.length ≤ 1000000) (d : Nat) : ∀ (i : Nat), i + d = l.length → s ∉ l.take i → Ev (fun k => spec_l3Put.l0 k l s (i : Int)) (putL l s) := by
  induction d with
  | zero =>
    intro i hi hn
    rw [List.take_of_length_le (by omega)] at hn
    refine Ev_succ ?_
    simp only [spec_l3Put.l0, show ¬ ((i : Int) < (l.length : Int)) from by omega, if_false, show l.length < 8796093022208 from by omega, if_true]
    unfold putL
    rw [if_neg (fun h => hn (hasB_iff.1 h))]
    exact Ev.now _
  | succ d ih =>
    intro i hi hn
    have hlt : i < l.length := by omega
    have hr := rd_at hlt
    have w1 := w64n1 i (by omega)
    refine Ev_succ ?_
    simp only [spec_l3Put.l0, show ((i : Int) < (l.length : Int)) from by omega, ci_nn i, if_true, hr]
    by_cases h : l[i].toList = s.toList
    · simp only [h, if_true]
      unfold putL
      rw [if_pos (hasB_iff.2 (by rw [← toList_inj.1 h]; exact List.getElem_mem hlt))]
      exact Ev.now _
    · simp only [h, if_false]
      rw [w1]
      refine ih (i + 1) (by omega) ?_
      rw [List.take_succ_eq_append_getElem hlt, List.mem_append, List.mem_singleton]
      rintro (h' | h')
      · exact hn h'
      · exact h (by rw [h'])
theorem put_ev (l : List ByteArray) (s : ByteArray) (hl : l.length ≤ 1000000) : Ev (fun k => spec_l3Put.f k l s) (putL l s) := put_ev_l l s hl l.length 0 (by omega) (by simp)
theorem has_i_l (l : List ByteArray) (s : ByteArray) (hl : l.length ≤ 1000000) (d : Nat) : ∀ (i : Nat), i + d = l.length → s ∉ l.take i → ∃ r : Int, Ev (fun k => slices_Index_string_string.l0 k l s (l.length : Int) (i : Int)) r ∧ (0 ≤ r ↔ s ∈ l) := by
  induction d with
  | zero =>
    intro i hi hn
    rw [List.take_of_length_le (by omega)] at hn
    refine ⟨-1, Ev_succ ?_, ⟨fun h => by omega, fun h => absurd h hn⟩⟩
    simp only [slices_Index_string_string.l0, show ¬ ((i : Int) < (l.length : Int)) from by omega, if_false]
    exact Ev.now _
  | succ d ih =>
    intro i hi hn
    have hlt : i < l.length := by omega
    have hr := rd_at hlt
    have w1 := w64n1 i (by omega)
    by_cases h : s.toList = l[i].toList
    · refine ⟨(i : Int), Ev_succ ?_, ⟨fun _ => by rw [toList_inj.1 h]; exact List.getElem_mem hlt, fun _ => ci_nn i⟩⟩
      simp only [slices_Index_string_string.l0, show ((i : Int) < (l.length : Int)) from by omega, ci_nn i, if_true, hr, h]
      exact Ev.now _
    · obtain ⟨r, h1, h2⟩ := ih (i + 1) (by omega) (by
        rw [List.take_succ_eq_append_getElem hlt, List.mem_append, List.mem_singleton]
        rintro (h' | h')
        · exact hn h'
        · exact h (by rw [h']))
      refine ⟨r, Ev_succ ?_, h2⟩
      simp only [slices_Index_string_string.l0, show ((i : Int) < (l.length : Int)) from by omega, ci_nn i, if_true, hr, h, if_false]
      rw [w1]
      exact h1
theorem has_i (l : List ByteArray) (s : ByteArray) (hl : l.length ≤ 1000000) : Ev (fun k => slices_Contains_string_string.f k l s) (hasB l s) := by
  obtain ⟨r, h1, h2⟩ := has_i_l l s hl l.length 0 (by omega) (by simp)
  unfold slices_Contains_string_string.f slices_Index_string_string.f
  refine Ev.bind h1 ?_
  rw [show hasB l s = decide (r ≥ 0) from by rw [Bool.eq_iff_iff, hasB_iff]; simp [h2.symm]]
  exact Ev.now _
def addrs1 (h : ByteArray) (ps : List ByteArray) (asks : Bool) (ask : ByteArray) (out : List ByteArray) (link : ByteArray) : List ByteArray :=
  if (joinO h ps asks ask link).2.2.2.2 = true then putL out (addrText (joinO h ps asks ask link).1 (joinO h ps asks ask link).2.1 (joinO h ps asks ask link).2.2.1 (joinO h ps asks ask link).2.2.2.1) else out
def addrsL (h : ByteArray) (ps : List ByteArray) (asks : Bool) (ask : ByteArray) (ls : List ByteArray) : List ByteArray := ls.foldl (addrs1 h ps asks ask) []
def from5 (h : ByteArray) (ps : List ByteArray) (asks : Bool) (ask : ByteArray) (b : ByteArray × Bool) : A5 :=
  if b.2 = true then (if (joinO h ps asks ask b.1).2.2.2.2 = true then joinO h ps asks ask b.1 else (h, ps, asks, ask, true)) else (h, ps, asks, ask, true)
def pageAddrs (h : ByteArray) (ps : List ByteArray) (asks : Bool) (ask text : ByteArray) : List ByteArray :=
  if addrOk h ps asks ask = true then addrsL (from5 h ps asks ask (base (marks text))).1 (from5 h ps asks ask (base (marks text))).2.1 (from5 h ps asks ask (base (marks text))).2.2.1 (from5 h ps asks ask (base (marks text))).2.2.2.1 (links (marks text)) else []
theorem addrs1_len (h : ByteArray) (ps : List ByteArray) (asks : Bool) (ask : ByteArray) (out : List ByteArray) (link : ByteArray) : (addrs1 h ps asks ask out link).length ≤ out.length + 1 := by
  unfold addrs1
  split
  · exact putL_len _ _
  · omega
theorem base_size (ms : List ByteArray) (n : Nat) (h : ∀ m ∈ ms, m.size ≤ n) : (base ms).1.size ≤ n := by
  unfold base
  split
  · rename_i m hm
    have := h m (List.mem_of_find?_eq_some hm)
    show (m.extract 1 m.size).size ≤ n
    rw [ByteArray.size_extract]; omega
  · exact Nat.zero_le _
theorem pmTo_size (s : ByteArray) (k : Nat) : ∀ m ∈ (pmTo s k).1, m.size ≤ s.size := by
  induction k with
  | zero => intro m hm; simp [pmTo] at hm
  | succ k ih =>
    intro m hm
    unfold pmTo at hm
    unfold pmStep at hm
    repeat' split at hm
    all_goals first
      | exact ih m hm
      | (rcases List.mem_append.1 hm with h | h
         · exact ih m h
         · rw [List.mem_singleton.1 h, ByteArray.size_extract]; omega)
theorem marks_size (s : ByteArray) : ∀ m ∈ marks s, m.size ≤ 300 := by
  intro m hm
  unfold marks at hm
  split at hm
  · have := pmTo_size s s.size m hm; omega
  · cases hm
theorem addrs_i (h : ByteArray) (ps : List ByteArray) (asks : Bool) (ask : ByteArray) (ls : List ByteArray) (hP : Parts ps) (hq : ask.size ≤ 1048576) (hh : h.size ≤ 1048576) (hl : ls.length ≤ 300) (d : Nat) : ∀ (i : Nat) (out : List ByteArray), i + d = ls.length → out.length ≤ i →
    Ev (fun k => impl_PageAddrs.l0 k out ls (ls.length : Int) (i : Int) h ps asks ask) ((ls.drop i).foldl (addrs1 h ps asks ask) out) := by
  induction d with
  | zero =>
    intro i out hi ho
    rw [List.drop_eq_nil_of_le (by omega)]
    refine Ev_succ ?_
    simp only [impl_PageAddrs.l0, show ¬ ((i : Int) < (ls.length : Int)) from by omega, if_false]
    exact Ev.now _
  | succ d ih =>
    intro i out hi ho
    have hlt : i < ls.length := by omega
    have hr := rd_at hlt
    have w1 := w64n1 i (by omega)
    have f1 : (i : Int) < (ls.length : Int) := by omega
    rw [List.drop_eq_getElem_cons hlt, List.foldl_cons]
    generalize ls[i] = p at hr ⊢
    have hj := join_i h ps asks ask p hP hq hh
    have hF := fine_join h ps asks ask p
    have next := ih (i + 1) (addrs1 h ps asks ask out p) (by omega) (by have := addrs1_len h ps asks ask out p; omega)
    refine Ev_succ ?_
    simp only [impl_PageAddrs.l0, f1, ci_nn i, if_true, hr]
    rw [w1]
    refine Ev.bind hj ?_
    rw [show addrs1 h ps asks ask out p = if (joinO h ps asks ask p).2.2.2.2 = true then putL out (addrText (joinO h ps asks ask p).1 (joinO h ps asks ask p).2.1 (joinO h ps asks ask p).2.2.1 (joinO h ps asks ask p).2.2.2.1) else out from rfl] at next ⊢
    generalize joinO h ps asks ask p = x at hF next ⊢
    by_cases hx : x.2.2.2.2 = true
    · obtain ⟨q1, q2, q3⟩ := fine_parts hF
      simp only [hx, if_true] at next ⊢
      refine Ev.bind (addrText_i x.1 x.2.1 x.2.2.1 x.2.2.2.1 q1 (by omega) (by omega)) ?_
      generalize addrText x.1 x.2.1 x.2.2.1 x.2.2.2.1 = t at next
      refine Ev.bind (has_i out t (by omega)) ?_
      unfold putL at next ⊢
      by_cases ht : hasB out t = true
      · simp only [ht, if_true] at next ⊢
        exact next
      · simp only [ht, Bool.false_eq_true, if_false, show out.length < 8796093022208 from by omega, if_true] at next ⊢
        exact next
    · simp only [hx, Bool.false_eq_true, if_false] at next ⊢
      exact next
theorem pageAddrs_i (h : ByteArray) (ps : List ByteArray) (asks : Bool) (ask text : ByteArray) (hP : Parts ps) (hq : ask.size ≤ 1048576) (hh : h.size ≤ 1048576) :
    Ev (fun k => impl_PageAddrs.f k h ps asks ask text) (pageAddrs h ps asks ask text) := by
  have hlen : (links (marks text)).length ≤ 300 := Nat.le_trans (links_len _) (marks_len text)
  have main : ∀ (h : ByteArray) (ps : List ByteArray) (asks : Bool) (ask : ByteArray), Parts ps → ask.size ≤ 1048576 → h.size ≤ 1048576 → Ev (fun k => impl_PageAddrs.j0 k text h ps asks ask) (addrsL h ps asks ask (links (marks text))) := fun h ps asks ask hP hq hh => by
    refine Ev_succ ?_
    simp only [impl_PageAddrs.j0]
    refine Ev.bind (impl_links_ev text) ?_
    exact addrs_i h ps asks ask _ hP hq hh hlen _ 0 [] (Nat.zero_add _) (by simp)
  unfold impl_PageAddrs.f pageAddrs
  refine Ev.bind (addrOk_i h ps asks ask hP hq hh) ?_
  by_cases ho : addrOk h ps asks ask = true
  · simp only [ho, if_true]
    refine Ev.bind (impl_base_ev text) ?_
    unfold from5
    by_cases hb : (base (marks text)).2 = true
    · simp only [hb, if_true]
      have hF := fine_join h ps asks ask (base (marks text)).1
      refine Ev.bind (join_i h ps asks ask (base (marks text)).1 hP hq hh) ?_
      generalize joinO h ps asks ask (base (marks text)).1 = x at hF
      obtain ⟨q1, q2, q3⟩ := fine_parts hF
      by_cases hx : x.2.2.2.2 = true
      · simp only [hx, if_true]
        exact main x.1 x.2.1 x.2.2.1 x.2.2.2.1 q1 (by omega) (by omega)
      · simp only [hx, if_false]
        exact main h ps asks ask hP hq hh
    · simp only [hb, if_false]
      exact main h ps asks ask hP hq hh
  · simp only [ho, if_false]
    exact Ev.now _
theorem addrs_ev (h : ByteArray) (ps : List ByteArray) (asks : Bool) (ask : ByteArray) (ls : List ByteArray) (hP : Parts ps) (hq : ask.size ≤ 1048576) (hh : h.size ≤ 1048576) (hl : ls.length ≤ 300) (hz : ∀ m ∈ ls, m.size ≤ 300) (d : Nat) : ∀ (i : Nat) (out : List ByteArray), i + d = ls.length → out.length ≤ i →
    Ev (fun k => spec_PageAddrs.l0 k out ls (i : Int) h ps asks ask) ((ls.drop i).foldl (addrs1 h ps asks ask) out) := by
  induction d with
  | zero =>
    intro i out hi ho
    rw [List.drop_eq_nil_of_le (by omega)]
    refine Ev_succ ?_
    simp only [spec_PageAddrs.l0, show ¬ ((i : Int) < (ls.length : Int)) from by omega, if_false]
    exact Ev.now _
  | succ d ih =>
    intro i out hi ho
    have hlt : i < ls.length := by omega
    have hr := rd_at hlt
    have w1 := w64n1 i (by omega)
    have f1 : (i : Int) < (ls.length : Int) := by omega
    have hm := hz ls[i] (List.getElem_mem hlt)
    rw [List.drop_eq_getElem_cons hlt, List.foldl_cons]
    generalize ls[i] = p at hr hm ⊢
    have hj := join_ev h ps asks ask p hP hq hh (by omega)
    have hF := fine_join h ps asks ask p
    have next := ih (i + 1) (addrs1 h ps asks ask out p) (by omega) (by have := addrs1_len h ps asks ask out p; omega)
    refine Ev_succ ?_
    simp only [spec_PageAddrs.l0, f1, ci_nn i, if_true, hr]
    rw [w1]
    refine Ev.bind hj ?_
    rw [show addrs1 h ps asks ask out p = if (joinO h ps asks ask p).2.2.2.2 = true then putL out (addrText (joinO h ps asks ask p).1 (joinO h ps asks ask p).2.1 (joinO h ps asks ask p).2.2.1 (joinO h ps asks ask p).2.2.2.1) else out from rfl] at next ⊢
    generalize joinO h ps asks ask p = x at hF next ⊢
    by_cases hx : x.2.2.2.2 = true
    · obtain ⟨q1, q2, q3⟩ := fine_parts hF
      simp only [hx, if_true] at next ⊢
      refine Ev.bind (addrText_ev x.1 x.2.1 x.2.2.1 x.2.2.2.1 q1 (by omega) (by omega)) ?_
      generalize addrText x.1 x.2.1 x.2.2.1 x.2.2.2.1 = t at next
      refine Ev.bind (put_ev out t (by omega)) ?_
      exact next
    · simp only [hx, Bool.false_eq_true, if_false] at next ⊢
      exact next
theorem links_size (text : ByteArray) : ∀ m ∈ links (marks text), m.size ≤ 300 := fun m hm => marks_size text m (List.mem_filter.1 hm).1
theorem pageAddrs_ev (h : ByteArray) (ps : List ByteArray) (asks : Bool) (ask text : ByteArray) (hP : Parts ps) (hq : ask.size ≤ 1048576) (hh : h.size ≤ 1048576) (hs : text.size ≤ 140737488351232) :
    Ev (fun k => spec_PageAddrs.f k h ps asks ask text) (pageAddrs h ps asks ask text) := by
  have hlen : (links (marks text)).length ≤ 300 := Nat.le_trans (links_len _) (marks_len text)
  have main : ∀ (h : ByteArray) (ps : List ByteArray) (asks : Bool) (ask : ByteArray), Parts ps → ask.size ≤ 1048576 → h.size ≤ 1048576 → Ev (fun k => spec_PageAddrs.j0 k text [] h ps asks ask) (addrsL h ps asks ask (links (marks text))) := fun h ps asks ask hP hq hh => by
    refine Ev_succ ?_
    simp only [spec_PageAddrs.j0]
    refine Ev.bind (spec_links_ev text hs) ?_
    exact addrs_ev h ps asks ask _ hP hq hh hlen (links_size text) _ 0 [] (Nat.zero_add _) (by simp)
  unfold spec_PageAddrs.f pageAddrs
  simp only [Option.bind_some]
  refine Ev.bind (addrOk_ev h ps asks ask hP hq hh) ?_
  by_cases ho : addrOk h ps asks ask = true
  · simp only [ho, if_true]
    refine Ev.bind (spec_base_ev text hs) ?_
    unfold from5
    by_cases hb : (base (marks text)).2 = true
    · simp only [hb, if_true]
      have hF := fine_join h ps asks ask (base (marks text)).1
      have hz := base_size (marks text) 300 (marks_size text)
      refine Ev.bind (join_ev h ps asks ask (base (marks text)).1 hP hq hh (by omega)) ?_
      generalize joinO h ps asks ask (base (marks text)).1 = x at hF
      obtain ⟨q1, q2, q3⟩ := fine_parts hF
      by_cases hx : x.2.2.2.2 = true
      · simp only [hx, if_true]
        exact main x.1 x.2.1 x.2.2.1 x.2.2.2.1 q1 (by omega) (by omega)
      · simp only [hx, if_false]
        exact main h ps asks ask hP hq hh
    · simp only [hb, if_false]
      exact main h ps asks ask hP hq hh
  · simp only [ho, if_false]
    exact Ev.now _
theorem pageAddrs_len (h : ByteArray) (ps : List ByteArray) (asks : Bool) (ask text : ByteArray) : (pageAddrs h ps asks ask text).length ≤ 300 := by
  have key : ∀ (h : ByteArray) (ps : List ByteArray) (asks : Bool) (ask : ByteArray) (ls out : List ByteArray), (ls.foldl (addrs1 h ps asks ask) out).length ≤ out.length + ls.length := by
    intro h ps asks ask ls
    induction ls with
    | nil => intro out; simp
    | cons p ls ih =>
      intro out
      rw [List.foldl_cons]
      have := ih (addrs1 h ps asks ask out p)
      have := addrs1_len h ps asks ask out p
      simp only [List.length_cons]; omega
  unfold pageAddrs
  split
  · have := key (from5 h ps asks ask (base (marks text))).1 (from5 h ps asks ask (base (marks text))).2.1 (from5 h ps asks ask (base (marks text))).2.2.1 (from5 h ps asks ask (base (marks text))).2.2.2.1 (links (marks text)) []
    have := Nat.le_trans (links_len _) (marks_len text)
    unfold addrsL
    simp only [List.length_nil] at *
    omega
  · exact Nat.zero_le _
end Go.Proofs.YtpnedbnpnekahaaGreatDoor.Ad
end
section
namespace Go.Proofs.YtpnedbnpnekahaaGreatDoor.Wd
open Go.RowKit Go.Proofs.YtpnedbnpnekahaaGreatDoor.P Go.Proofs.YtpnedbnpnekahaaGreatDoorW.PrintWords Go.Proofs.YtpnedbnpnekahaaGreatDoorW.PrintLast Go.Proofs.YtpnedbnpnekahaaGreatDoorW.PrintMore Go.Proofs.YtpnedbnpnekahaaGreatDoor.B Go.Proofs.YtpnedbnpnekahaaGreatDoor.Ad Go.Proofs.YtpnedbnpnekahaaGreatDoor.Mk
set_option linter.unusedVariables false
set_option linter.unusedSimpArgs false
def leadsO (a : ByteArray) (g : Int × ByteArray) : List ByteArray :=
 if g.1 = 1 then pageAddrs (readO a).1 (readO a).2.1 (readO a).2.2.1 (readO a).2.2.2.1 g.2 else if g.1 = 2 then [g.2] else []
def fromO (l : List Pg) (a : ByteArray) : List ByteArray := if (worldOk l && norm a) = true then leadsO a (getF l a 2) else []
theorem leads_s (a : ByteArray) (ha : a.size ≤ 140737488351232) (g : Int × ByteArray) (hg : g.1 = 1 → g.2.size ≤ 140737488351232) : Ev (fun k => spec_l11From.f k a g.1 g.2) (leadsO a g) := by
 obtain ⟨q1, q2, q3⟩ := fine_parts (fine_read a)
 unfold spec_l11From.f leadsO
 by_cases h1 : g.1 = 1
 ·simp only [h1, if_true]
  exact Ev.bind (read_ev a ha) (Ev.bind (pageAddrs_ev _ _ _ _ _ q1 (by omega) (by omega) (hg h1)) (Ev.now _))
 ·by_cases h2 : g.1 = 2
  ·simp only [h1, h2, if_true, if_false]; exact Ev.now _
  ·simp only [h1, h2, if_false]; exact Ev.now _
theorem leads_i (a : ByteArray) (g : Int × ByteArray) : Ev (fun k => impl_leads.f k (readO a).1 (readO a).2.1 (readO a).2.2.1 (readO a).2.2.2.1 g.1 g.2) (leadsO a g) := by
 obtain ⟨q1, q2, q3⟩ := fine_parts (fine_read a)
 unfold impl_leads.f leadsO
 by_cases h1 : g.1 = 1
 ·simp only [h1, if_true]
  exact Ev.bind (pageAddrs_i _ _ _ _ _ q1 (by omega) (by omega)) (Ev.now _)
 ·by_cases h2 : g.1 = 2
  ·simp only [h1, h2, if_true, if_false]; exact Ev.now _
  ·simp only [h1, h2, if_false]; exact Ev.now _
theorem getF_size (l : List Pg) (hs : ∀ p ∈ l, p.f1.size ≤ 1048576) (a : ByteArray) : (getF l a 2).1 = 1 → (getF l a 2).2.size ≤ 140737488351232 := by
 unfold getF
 rw [at_find]
 cases hq : l.reverse.find? fun q => decide (q.f0 = a) with
 | none => simp
 | some p =>
  have hp := hs p (List.mem_reverse.1 (List.mem_of_find?_eq_some hq))
  simp only
  split
  ·simp
  ·split
   ·simp
   ·split
    ·intro _; simp only; omega
    ·simp
theorem from_s (l : List Pg) (hl : l.length ≤ 1048576) (hs : ∀ p ∈ l, p.f0.size ≤ 1048576 ∧ p.f1.size ≤ 1048576 ∧ p.f2.size ≤ 1048576) (a : ByteArray) (ha : a.size ≤ 140737488351232) : Ev (fun k => spec_WorldFrom.f k l a) (fromO l a) := by
 unfold spec_WorldFrom.f fromO
 have stop : Ev (fun k => spec_WorldFrom.j0 k l a true) [] := Ev_succ (by simp only [spec_WorldFrom.j0, if_true]; exact Ev.now _)
 refine Ev.bind (worldOk_s l hl (fun p hp => by have := hs p hp; omega)) ?_
 by_cases hw : worldOk l = true
 ·have hf : fresh l.reverse = true := by
   unfold worldOk at hw
   simp only [Bool.and_eq_true] at hw
   exact hw.2
  simp only [hw, if_true, Bool.true_and]
  refine Ev.bind (norm_s a ha) ?_
  by_cases hn : norm a = true
  ·simp only [hn, if_true, Bool.not_true]
   refine Ev_succ ?_
   simp only [spec_WorldFrom.j0, Bool.false_eq_true, if_false]
   unfold spec_l11Last.f
   exact Ev.bind (Ev.bind (get_s l hl hf a 2 (by omega)) (Ev.now _)) (Ev.bind (leads_s a ha _ (getF_size l (fun p hp => (hs p hp).2.1) a)) (Ev.now _))
  ·have hn' : norm a = false := by simpa using hn
   simp only [hn', Bool.not_false, Bool.false_eq_true, if_false]
   exact stop
 ·have hw' : worldOk l = false := by simpa using hw
  simp only [hw', Bool.false_eq_true, if_false, Bool.false_and]
  exact stop
theorem from_i (l : List Pg) (hs : ∀ p ∈ l, p.f0.size ≤ 9223372036854775807) (a : ByteArray) (ha : a.size ≤ 9223372036854775807) : Ev (fun k => impl_WorldFrom.f k l a) (fromO l a) := by
 unfold impl_WorldFrom.f fromO
 simp only [ha, if_true]
 obtain ⟨b, hb, n1, n2⟩ := made2 l hs
 refine Ev.bind hb ?_
 cases b with
 | false =>
  rw [n1 rfl]
  simp only [Bool.false_eq_true, if_false, Bool.false_and]
  exact Ev.now _
 | true =>
  rw [n2 rfl]
  simp only [if_true]
  cases worldOk l with
  | false => simp only [Bool.false_eq_true, if_false, Bool.false_and]; exact Ev.now _
  | true =>
   simp only [if_true, Bool.true_and]
   unfold fromF
   refine Ev.bind (readAddr_i a) ?_
   by_cases hn : norm a = true
   ·rw [if_pos hn, if_pos hn]
    simp only [if_true]
    exact leads_i a _
   ·rw [if_neg hn, if_neg hn]
    exact Ev.now _
theorem fromO_len (l : List Pg) (a : ByteArray) : (fromO l a).length ≤ 300 := by
 unfold fromO leadsO
 split
 ·split
  ·exact pageAddrs_len _ _ _ _ _
  ·split <;> simp
 ·simp
end Go.Proofs.YtpnedbnpnekahaaGreatDoor.Wd
end
section
namespace Go.Proofs.YtpnedbnpnekahaaGreatDoor.Tx
open Go.RowKit Go.Proofs.YtpnedbnpnekahaaGreatDoor.P Go.Proofs.YtpnedbnpnekahaaGreatDoorW.PrintWords Go.Proofs.YtpnedbnpnekahaaGreatDoorW.PrintLast Go.Proofs.YtpnedbnpnekahaaGreatDoorW.PrintMore Go.Proofs.YtpnedbnpnekahaaGreatDoor.B
set_option linter.unusedVariables false
set_option linter.unusedSimpArgs false
theorem size_one (n : Int) : (strOfNums [n]).size = 1 := by simp [strOfNums, ByteArray.size]
theorem mark_l (d : Nat) : ∀ (k : Nat) (x : Int) (t : ByteArray), 0 ≤ x → x < 2 ^ d → x < 4611686018427387904 → d < k → t.size + d ≤ 1000 → ∃ r, laws_markText.l0 k x t = some r := by
 induction d with
 | zero =>
  intro k x t h0 h1 _ hk ht
  obtain ⟨k, rfl⟩ : ∃ m, k = m + 1 := ⟨k - 1, by omega⟩
  simp only [laws_markText.l0]
  rw [if_neg (by omega), if_pos (by omega)]
  exact ⟨_, rfl⟩
 | succ d ih =>
  intro k x t h0 h1 h2 hk ht
  obtain ⟨k, rfl⟩ : ∃ m, k = m + 1 := ⟨k - 1, by omega⟩
  simp only [laws_markText.l0]
  by_cases hx : x > 0
  ·rw [if_pos hx]
   simp only [Option.bind_some, size_one]
   rw [if_pos (by omega)]
   have e : Int.tdiv x 10 = x / 10 := Int.tdiv_eq_ediv_of_nonneg h0
   have hp : (2 : Int) ^ (d + 1) = 2 * 2 ^ d := by rw [Int.pow_succ]; omega
   rw [e, w64 (n := x / 10) (by omega) (by omega)]
   refine ih k _ _ (by omega) (by omega) (by omega) (by omega) ?_
   rw [ByteArray.size_append, size_one]; omega
  ·rw [if_neg hx, if_pos (by omega)]
   exact ⟨_, rfl⟩
theorem mark_ev (x : Int) (h0 : 0 ≤ x) (h1 : x < 4611686018427387904) : ∃ r, Ev (fun k => laws_markText.f k x) r := by
 by_cases h : x ≤ 0
 ·exact ⟨_, by unfold laws_markText.f; simp only [h, if_true]; exact Ev.now _⟩
 ·obtain ⟨r, hr⟩ := mark_l 62 63 x ⟨#[]⟩ h0 (by omega) h1 (by omega) (by decide)
  refine ⟨r, Ev.of (fun k => laws_markText.mono _ k) (k := 63) ?_⟩
  unfold laws_markText.f
  rw [if_neg h]
  exact hr
noncomputable def mt (x : Int) : ByteArray := Classical.epsilon fun r => Ev (fun k => laws_markText.f k x) r
theorem mt_ev (x : Int) (h0 : 0 ≤ x) (h1 : x < 4611686018427387904) : Ev (fun k => laws_markText.f k x) (mt x) := Classical.epsilon_spec (mark_ev x h0 h1)
end Go.Proofs.YtpnedbnpnekahaaGreatDoor.Tx
end
section
namespace Go.Proofs.YtpnedbnpnekahaaGreatDoor.Tx
open Go.RowKit Go.Proofs.YtpnedbnpnekahaaGreatDoor.P Go.Proofs.YtpnedbnpnekahaaGreatDoorW.PrintWords Go.Proofs.YtpnedbnpnekahaaGreatDoorW.PrintLast Go.Proofs.YtpnedbnpnekahaaGreatDoorW.PrintMore Go.Proofs.YtpnedbnpnekahaaGreatDoor.B
set_option linter.unusedVariables false
set_option linter.unusedSimpArgs false
def Marked (l : List ByteArray) (x : Int) : Prop := ∀ j, j < l.length → rdOf ByteArray.empty l j = mt (x + j)
theorem markS_l (n : Nat) (x : Int) (hn : n < 1152921504606846976) (h0 : 0 ≤ x) (h1 : x < 1152921504606846976) (d : Nat) : ∀ (i : Nat) (l : List ByteArray), l.length = n → i + d = n →
  (∀ j, j < i → rdOf ByteArray.empty l j = mt (x + j)) →
  ∃ l', Ev (fun k => laws_markStringS.l0 k l (x + i) i) (x + n, l') ∧ l'.length = n ∧ Marked l' x := by
 induction d with
 | zero =>
  intro i l hl hi hm
  obtain rfl : i = n := by omega
  refine ⟨l, Ev.of (fun k => laws_markStringS.mono_l k _ _ _) (k := 1) ?_, hl, fun j hj => hm j (by omega)⟩
  simp only [laws_markStringS.l0]
  rw [if_neg (by omega)]
 | succ d ih =>
  intro i l hl hi hm
  have hlen : (l.set i (mt (x + i))).length = n := by rw [List.length_set]; exact hl
  obtain ⟨l', h, h2, h3⟩ := ih (i + 1) (l.set i (mt (x + i))) hlen (by omega) (fun j hj => by
   unfold rdOf
   rw [List.getD_eq_getElem?_getD]
   simp only [Int.toNat_natCast]
   rcases Nat.lt_or_ge j i with hji | hji
   ·rw [List.getElem?_set_ne (by omega)]
    have := hm j hji
    unfold rdOf at this
    rw [List.getD_eq_getElem?_getD] at this
    simpa using this
   ·obtain rfl : j = i := by omega
    rw [List.getElem?_set_self (by omega)]
    rfl)
  refine ⟨l', Ev.step (f := fun k => (laws_markText.f k (x + i)).bind fun t => laws_markStringS.l0 k (l.set i t) (x + (i + 1 : Nat)) (i + 1 : Nat)) (fun k => ?_) (Ev.bind (mt_ev (x + i) (by omega) (by omega)) h), h2, h3⟩
  simp only [laws_markStringS.l0]
  rw [if_pos (by omega)]
  congr 1
  funext t
  rw [if_pos (by omega), w64 (n := x + i + 1) (by omega) (by omega), w64 (n := (i : Int) + 1) (by omega) (by omega)]
  simp only [Int.toNat_natCast]
  rw [show x + (i : Int) + 1 = x + ((i + 1 : Nat) : Int) from by omega, show (i : Int) + 1 = ((i + 1 : Nat) : Int) from by omega]
theorem markS_ev (l : List ByteArray) (x : Int) (hn : l.length < 1152921504606846976) (h0 : 0 ≤ x) (h1 : x < 1152921504606846976) :
  ∃ l', Ev (fun k => laws_markStringS.f k l x) (x + l.length, l') ∧ l'.length = l.length ∧ Marked l' x := by
 obtain ⟨l', h, h2, h3⟩ := markS_l l.length x hn h0 h1 l.length 0 l rfl (by omega) (fun j hj => by omega)
 refine ⟨l', ?_, h2, h3⟩
 unfold laws_markStringS.f
 simpa using h
theorem heldS_l (l : List ByteArray) (x : Int) (hn : l.length < 1152921504606846976) (h0 : 0 ≤ x) (h1 : x < 1152921504606846976) (hm : Marked l x) (d : Nat) : ∀ (i : Nat), i + d = l.length →
  Ev (fun k => laws_heldStringS.l0 k l (x + i) i) (x + l.length) := by
 induction d with
 | zero =>
  intro i hi
  refine Ev.of (fun k => laws_heldStringS.mono_l k _ _ _) (k := 1) ?_
  simp only [laws_heldStringS.l0]
  rw [if_neg (by omega), show (i : Nat) = l.length from by omega]
 | succ d ih =>
  intro i hi
  refine Ev.step (f := fun k => (laws_markText.f k (x + i)).bind fun t => if (rdOf ByteArray.empty l (i : Int)).toList = t.toList then laws_heldStringS.l0 k l (x + (i + 1 : Nat)) (i + 1 : Nat) else some (-1)) (fun k => ?_) (Ev.bind (mt_ev (x + i) (by omega) (by omega)) ?_)
  ·simp only [laws_heldStringS.l0]
   rw [if_pos (by omega), if_pos (by omega), w64 (n := x + i + 1) (by omega) (by omega), w64 (n := (i : Int) + 1) (by omega) (by omega), show x + (i : Int) + 1 = x + ((i + 1 : Nat) : Int) from by omega, show (i : Int) + 1 = ((i + 1 : Nat) : Int) from by omega]
  ·have := hm i (by omega)
   simp only [this, if_true]
   exact ih (i + 1) (by omega)
theorem heldS_ev (l : List ByteArray) (x : Int) (hn : l.length < 1152921504606846976) (h0 : 0 ≤ x) (h1 : x < 1152921504606846976) (hm : Marked l x) : Ev (fun k => laws_heldStringS.f k l x) (x + l.length) := by
 unfold laws_heldStringS.f
 have := heldS_l l x hn h0 h1 hm l.length 0 (by omega)
 simpa using this
theorem eqS_l (l : List ByteArray) (hn : l.length < 1152921504606846976) (d : Nat) : ∀ (i : Nat), i + d = l.length → Ev (fun k => laws_eqStringS.l0 k l l i) true := by
 induction d with
 | zero =>
  intro i hi
  refine Ev.of (fun k => laws_eqStringS.mono_l k _ _ _) (k := 1) ?_
  simp only [laws_eqStringS.l0]
  rw [if_neg (by omega)]
 | succ d ih =>
  intro i hi
  refine Ev.step (f := fun k => laws_eqStringS.l0 k l l (i + 1 : Nat)) (fun k => ?_) (ih (i + 1) (by omega))
  simp only [laws_eqStringS.l0]
  rw [if_pos (by omega), if_pos (by omega), if_pos (by omega), if_pos trivial, w64 (n := (i : Int) + 1) (by omega) (by omega), show (i : Int) + 1 = ((i + 1 : Nat) : Int) from by omega]
theorem eqS_ev (l : List ByteArray) (hn : l.length < 1152921504606846976) : Ev (fun k => laws_eqStringS.f k l l) true := by
 unfold laws_eqStringS.f
 simp only [if_true]
 exact eqS_l l hn l.length 0 (by omega)
end Go.Proofs.YtpnedbnpnekahaaGreatDoor.Tx
end
section
namespace Go.Proofs.YtpnedbnpnekahaaGreatDoor.Pure
open Go.RowKit Go.Proofs.YtpnedbnpnekahaaGreatDoor.P Go.Proofs.YtpnedbnpnekahaaGreatDoorW.PrintWords Go.Proofs.YtpnedbnpnekahaaGreatDoorW.PrintLast Go.Proofs.YtpnedbnpnekahaaGreatDoor.B Go.Proofs.YtpnedbnpnekahaaGreatDoor.Ad Go.Proofs.YtpnedbnpnekahaaGreatDoor.Mk Go.Proofs.YtpnedbnpnekahaaGreatDoor.Tx Go.Proofs.YtpnedbnpnekahaaGreatDoor.Wd
set_option linter.unusedSimpArgs false
set_option linter.unusedVariables false
theorem markPgs_l (d : Nat) : ∀ (i : Nat) (l : List Pg) (x : Int), i + d = l.length → l.length ≤ 1048576 → 0 ≤ x → x + 4 * d ≤ 4611686018427387 → ∃ l', Ev (fun k => laws_markPageS.l0 k l x (i : Int)) (x + 4 * d, l') := by
 induction d with
 | zero =>
  intro i l x hi hl h0 h1
  refine ⟨l, Ev_succ ?_⟩
  simp only [laws_markPageS.l0, show ¬ ((i : Int) < (l.length : Int)) from by omega, if_false]
  simpa using Ev.now _
 | succ d ih =>
  intro i l x hi hl h0 h1
  have w1 : wrap64 ((i : Int) + 1) = ((i + 1 : Nat) : Int) := by rw [w64 (by omega) (by omega)]; rfl
  have x1 : wrap64 (x + 1) = x + 1 := w64 (by omega) (by omega)
  have x2 : wrap64 (x + 1 + 1) = x + 1 + 1 := w64 (by omega) (by omega)
  have x3 : wrap64 (x + 1 + 1 + 1) = x + 1 + 1 + 1 := w64 (by omega) (by omega)
  have x4 : wrap64 (x + 1 + 1 + 1 + 1) = x + 1 + 1 + 1 + 1 := w64 (by omega) (by omega)
  obtain ⟨r1, e1⟩ := mark_ev x (by omega) (by omega)
  obtain ⟨r2, e2⟩ := mark_ev (x + 1) (by omega) (by omega)
  obtain ⟨r3, e3⟩ := mark_ev (x + 1 + 1) (by omega) (by omega)
  obtain ⟨z, hz⟩ : ∃ z : List Pg, z = _ := ⟨(((l.set i ⟨r1, (rd_T41 l (i : Int)).f1, (rd_T41 l (i : Int)).f2, (rd_T41 l (i : Int)).f3⟩)) : List Pg), rfl⟩
  obtain ⟨y, hy⟩ : ∃ y : List Pg, y = z.set i ⟨(rd_T41 z (i : Int)).f0, r2, (rd_T41 z (i : Int)).f2, (rd_T41 z (i : Int)).f3⟩ := ⟨_, rfl⟩
  obtain ⟨v, hv⟩ : ∃ v : List Pg, v = y.set i ⟨(rd_T41 y (i : Int)).f0, (rd_T41 y (i : Int)).f1, r3, (rd_T41 y (i : Int)).f3⟩ := ⟨_, rfl⟩
  obtain ⟨u, hu⟩ : ∃ u : List Pg, u = v.set i ⟨(rd_T41 v (i : Int)).f0, (rd_T41 v (i : Int)).f1, (rd_T41 v (i : Int)).f2, x + 1 + 1 + 1⟩ := ⟨_, rfl⟩
  have hlen : u.length = l.length := by rw [hu, hv, hy, hz]; simp
  obtain ⟨l', hl'⟩ := ih (i + 1) u (x + 1 + 1 + 1 + 1) (by omega) (by omega) (by omega) (by omega)
  refine ⟨l', Ev_succ ?_⟩
  simp only [laws_markPageS.l0, show (i : Int) < (l.length : Int) from by omega, ci_nn i, if_true, Int.toNat_natCast, Option.bind_some]
  rw [x1, x2, x3, x4, w1]
  refine Ev.bind e1 (Ev.bind e2 (Ev.bind e3 ?_))
  rw [← hz, ← hy, ← hv, ← hu]
  rw [show x + 4 * ((d + 1 : Nat) : Int) = x + 1 + 1 + 1 + 1 + 4 * (d : Int) from by omega]
  exact hl'
theorem FnExactWorldFrom (l : List Lp) (a : ByteArray) (hl : l.length ≤ 2513169434916) (hs : ∀ p ∈ l, p.f0.size ≤ 4611686018427387904 ∧ p.f1.size ≤ 4611686018427387904 ∧ p.f2.size ≤ 4611686018427387904) (ha : a.size ≤ 4611686018427387904) :
  Ev (fun k => laws_FnExactWorldFrom.f k l a) true := by
 unfold laws_FnExactWorldFrom.f
 by_cases h1 : (a.size : Int) > 1048576
 ·simp only [h1, if_true]; exact Ev.now _
 simp only [h1, if_false]
 obtain ⟨r, hr, hb⟩ := szPgs_ev l hl hs
 refine Ev.bind hr ?_
 by_cases hr0 : r < 0
 ·simp only [hr0, if_true]; exact Ev.now _
 simp only [hr0, if_false]
 obtain ⟨b1, b2⟩ := hb (by omega)
 have hA := toPgs_ev l b1
 have hm : ∀ p ∈ l.map conv, p.f0.size ≤ 1048576 ∧ p.f1.size ≤ 1048576 ∧ p.f2.size ≤ 1048576 := by
  intro p hp
  obtain ⟨q, hq, rfl⟩ := List.mem_map.1 hp
  exact b2 q hq
 have hlm : (l.map conv).length ≤ 1048576 := by rw [List.length_map]; omega
 have g1 := from_s (l.map conv) hlm hm a (by omega)
 have g2 := from_i (l.map conv) (fun p hp => by have := hm p hp; omega) a (by omega)
 have hlen := fromO_len (l.map conv) a
 generalize fromO (l.map conv) a = t at g1 g2 hlen
 have he := eqS_ev t (by omega)
 obtain ⟨l', hM, hl', hMM⟩ := markS_ev t 1 (by omega) (by omega) (by omega)
 have hh' := heldS_ev l' 1 (by omega) (by omega) (by omega) hMM
 obtain ⟨l2, hm2⟩ := markPgs_l (l.map conv).length 0 (l.map conv) 1 (by omega) hlm (by omega) (by omega)
 have hm2' : Ev (fun k => laws_markPageS.f k (l.map conv) 1) (1 + 4 * ((l.map conv).length : Int), l2) := hm2
 have e1 : ¬ (1 + (l'.length : Int)) < 0 := by omega
 have e2 : (1 + (l'.length : Int)) = 1 + (t.length : Int) := by omega
 refine Ev.bind hA (Ev.bind g1 (Ev.bind hA (Ev.bind g2 (Ev.bind he ?_))))
 simp only [if_true]
 refine Ev.bind hA (Ev.bind (eqPgs_ev _ hlm) ?_)
 simp only [if_true]
 refine Ev.bind hm2' ?_
 simp only [show ¬ (1 + 4 * ((l.map conv).length : Int)) < 0 from by omega, if_false]
 refine Ev.bind he (Ev_succ ?_)
 simp only [laws_FnExactWorldFrom.j0, Bool.not_true, Bool.false_eq_true, if_false]
 refine Ev.bind hM (Ev.bind hh' ?_)
 simp only [e1, e2, if_false, if_true]
 refine Ev.bind hA (Ev.bind g2 (Ev.bind he ?_))
 simp only [if_true]
 refine Ev.bind hh' ?_
 simp only [e1, e2, if_false, if_true]
 exact Ev.now _
end Go.Proofs.YtpnedbnpnekahaaGreatDoor.Pure
end
section
namespace Go.Proofs.YtpnedbnpnekahaaGreatDoorW.PrintWords
open Go.ChangeShapes Go.WideShapes
end Go.Proofs.YtpnedbnpnekahaaGreatDoorW.PrintWords
end
section
namespace Go.Proofs.YtpnedbnpnekahaaGreatDoor.fnExactWorldFrom
open Go.ChangeShapes Go.WideShapes Go.ChangeAt Go.RowKit
open Go.ChangeMaps (open_string shut_string)
set_option linter.unusedVariables false
theorem own : ownKnob Tryz.prog.godebug = none := by kernel_rfl
theorem laidOut : laidOutB Tryz.prog = true := by kernel_rfl
set_option maxRecDepth 100000 in
theorem lifted (os : Os) (started : os.Started) (H : Type) (enc : TypeId × Value → H) :
  ReturnsInHanded {} Tryz.checked os 3 .any (fun w args => (Rows.fnExactWorldFromSpec.pre enc Tryz.prog Tryz.f3 Rows.fnExactWorldFromRow.domain false w args ∧ laidMetH Tryz.prog Rows.fnExactWorldFromRow.laid w) ∧ sizedMet enc Tryz.prog Tryz.f3 (OpenSpec.ofChange Rows.fnExactWorldFromSpec) false w args)
   (Rows.fnExactWorldFromSpec.post enc Tryz.prog Tryz.f3 false true false false) := by
 refine returnsInHanded_of_change_and (C := Tryz.checked) (X := fun w _ => laidMetH Tryz.prog Rows.fnExactWorldFromRow.laid w) (fun _ _ _ hh h => h.of_heap hh) own started (by kernel_rfl) Tryz.func3
  (ChangeSpec.witness_shaped (enc := enc) (C := Tryz.checked) (os := os) (X := fun w _ => laidMetH Tryz.prog Rows.fnExactWorldFromRow.laid w) false (World.laidAll Tryz.prog os Rows.fnExactWorldFromRow.laid) #[.slice none 0 0, .string ByteArray.empty] 8 (World.laidAll_os _ _ _)
   (World.shaped_of_ZipB (by kernel_rfl) (by kernel_rfl)) (by kernel_rfl) (by kernel_rfl) (by kernel_rfl)
   (by rw [MakeChecks.laidMetH_plain _ _ _ (by kernel_rfl)]; exact laidMet_laidAll _ (by kernel_rfl) (by kernel_rfl))) ?_
 intro W base args ds gs before hval0 hW hcnd hsz0 hL _
 have hsz : (DataW.weightsEach Tryz.prog (Tryz.f3.params.toList ++ Rows.fnExactWorldFromSpec.plain.varTypes Tryz.prog) (ds ++ gs)).all (· ≤ reachBytes) = true := hsz0
 have hval : ∀ (j : Nat) t v, Tryz.f3.params[j]? = some t → args[j]? = some v → Value.okWide Tryz.prog W .any base t v := hval0
 have hW' := hW
 obtain ⟨p, q, hA0, hV, rfl, hfz, hnd⟩ := hW
 have hA : DataW.TrodAll enc Tryz.prog W 0 (fun _ => true) true Tryz.f3.params.toList args.toList ds p := hA0
 rw [Tryz.params3] at hA hval hsz
 obtain ⟨v0, vs0, d0, ds0, p0, q0, hargs, rfl, rfl, h0, r0⟩ := trodAll_cons hA
 obtain ⟨v1, vs1, d1, ds1, p1, q1, rfl, rfl, rfl, h1, r1⟩ := trodAll_cons r0
 obtain ⟨rfl, rfl, rfl⟩ := trodAll_nil r1
 obtain rfl : args = #[v0, v1] := by cases args; simp_all
 obtain ⟨rfl, rfl⟩ := trodVars_none hV
 have k0 := h0
 have lt0 : ∀ x ∈ p0, x.block < W.heap.size := by obtain ⟨m, hm⟩ := k0; exact DataW.trod_lt m _ _ _ hm
 have k1 := h1
 have lt1 : ∀ x ∈ p1, x.block < W.heap.size := by obtain ⟨m, hm⟩ := k1; exact DataW.trod_lt m _ _ _ hm
 obtain ⟨a0, len0, cap0, rfl⟩ := okWide_slice Tryz.underlying22 (hval 0 22 v0 rfl rfl)
 obtain ⟨n0, f0⟩ := h0
 have hrb : reachBytes = 140737488351232 := rfl
 obtain ⟨A, l, c, e0, hC, hc, hw⟩ := Wd.pages_open f0
 have e0' : (.slice a0 len0 cap0 : Value) = .slice A l.length c := by simpa [Value.cells] using e0
 injection e0' with e1 e2 e3
 subst e1
 subst e2
 subst e3
 obtain ⟨w1, w2⟩ := hw reachBytes (by omega) (fun x hx => by
  have g2 := List.all_eq_true.1 hsz _ (DataW.weights_mem_each (j := 0) (t := 22) rfl rfl x hx)
  simpa using g2)
 obtain ⟨s1, e1, rfl⟩ : ∃ s, v1 = .string s ∧ d1 = .lit (.string s.data.toList) := by
  obtain ⟨s, hs, hx, _⟩ := open_string Tryz.underlying9 (hval 1 9 v1 rfl rfl) k1
  exact ⟨s, hs, hx⟩
 subst e1
 have ws : s1.size ≤ reachBytes := by
  have g2 := List.all_eq_true.1 hsz _ (DataW.weights_mem_each (j := 1) (t := 9) rfl rfl s1.size (by simp [DataW.weights]))
  simpa using g2
 obtain ⟨K, hK⟩ := Pure.FnExactWorldFrom l s1 (by omega) (fun p hp => by have := w2 p hp; omega) (by omega)
 clear hA0 hval0 hsz0 hsz hw
 refine (P.laws_FnExactWorldFrom.calls K a0 cap0 l s1 true W hC hc (hK K (Nat.le_refl _))).mono fun e W' ⟨he, bel⟩ => ?_
 subst he
 exact ⟨_, rfl, _, _, _, [], _, [], hW', trodAll_mk1 (shut_bool Tryz.underlying4 _), (trodAll_cons_mk (Below.trod laidOut (by kernel_rfl) (of_decide_eq_true (by kernel_rfl)) k0 bel lt0) (trodAll_cons_mk (Below.trod laidOut (by kernel_rfl) (of_decide_eq_true (by kernel_rfl)) k1 bel lt1) trodAll_mk0)), rfl, bel.frame _, fun h => by cases h⟩
set_option maxHeartbeats 4000000 in
theorem over : Rows.fnExactWorldFromRow.holds Tryz.pinned (OpenSpec.ofChange Rows.fnExactWorldFromSpec) :=
 OpenClaim.holds_of_wide 3 Tryz.f3 rfl rfl rfl rfl rfl rfl rfl ⟨rfl, rfl, rfl, rfl, rfl⟩ rfl rfl rfl rfl rfl (by as_aux_lemma => kernel_rfl) Tryz.func3 (by as_aux_lemma => kernel_rfl)
  (of_decide_eq_true (by as_aux_lemma => kernel_rfl)) (by unfold Func.isWrapper; first | (rw [if_pos (by decide +kernel)]; kernel_rfl) | (rw [if_neg (by decide +kernel)]; exact ⟨rfl, rfl⟩))
  (fun os started H enc _ => lifted os started H enc)
theorem card_holds : Rows.FnExactWorldFromCardSaid :=
 Claim7.holds_tied_plain_at .later [] [.data, .pinned] true (true, "03fefdc0c0542cb71ceebe47997508cf1c07878db237b373851242c5a6011671") false over (fun _ h => by cases h) (by as_aux_lemma => kernel_rfl) (fun _ h => by cases h) fnExactWorldFrom_row_tie rfl ⟨rfl, rfl⟩ (by as_aux_lemma => kernel_rfl) rfl
  (fun f fn hf hfn => by
   obtain rfl : f = 3 := Option.some.inj ((show Tryz.prog.funcNamed "loop.example/pedlar/laws.FnExactWorldFrom" = some 3 by as_aux_lemma => kernel_rfl).symm.trans hf) |>.symm
   obtain rfl : fn = Tryz.f3 := (Option.some.inj (Tryz.func3.symm.trans hfn)).symm
   exact ⟨by as_aux_lemma => kernel_rfl, fun j t ht => by
    rw [Tryz.params3] at ht
    have hm : t ∈ [22, 9] := by simpa using Array.mem_of_getElem? ht
    have hall : ([22, 9].all fun u => !Tryz.prog.wantsStandIn u) = true := by as_aux_lemma => kernel_rfl
    exact (show Tryz.prog.wantsStandIn t = false by simpa using List.all_eq_true.1 hall t hm)⟩)
  (by as_aux_lemma => kernel_rfl)
#print axioms card_holds
end Go.Proofs.YtpnedbnpnekahaaGreatDoor.fnExactWorldFrom
namespace Go.Proofs.YtpnedbnpnekahaaGreatDoor
theorem fnExactWorldFrom_holds : Rows.FnExactWorldFromCardSaid := fnExactWorldFrom.card_holds
end Go.Proofs.YtpnedbnpnekahaaGreatDoor
end
