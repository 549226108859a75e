/- The plain function of a Go function, and that Go comes to just its answer; its conditions are the theorem's own. Written by a program of this session (wip/pr.py). -/
import Derived.Test.YtihdnoobcpkgaaaPk
import Derived.Test.YtihdnoobcpkgaaaPf28
namespace Go.Proofs.Ytihdnoobcpkgaaa.P
open Go.RowKit Go.Proofs.YtihdnoobcpkgaaaW.PrintWords Go.Proofs.YtihdnoobcpkgaaaW.PrintLast Go.Proofs.YtihdnoobcpkgaaaW.PrintMore
attribute [local go_sem] max2_int min2_int max_two min_two max_three min_three max_four min_four   -- for this text's walks alone
set_option linter.unusedVariables false
set_option linter.unusedSimpArgs false

/-! ### impl_isHouse: function 21 -/
def impl_isHouse.f (k : Nat) (a0 : ByteArray) : Option (Bool) := if (a0.size : Int) ≥ 1 then (if (a0.size : Int) ≤ 5 then ((impl_allSmallLetters.f k a0).bind fun t129 => (some t129)) else (some false)) else (some false)
theorem impl_isHouse.mono : ∀ a0 k, LeO (impl_isHouse.f k a0) (impl_isHouse.f (k + 1) a0) := by
  intro a0 k
  unfold impl_isHouse.f
  repeat' first
      | (with_reducible exact impl_allSmallLetters.mono _ _)
      | (with_reducible exact LeO.refl _)
      | (with_reducible exact LeO.none _)
      | (with_reducible refine LeO.ite ?_ ?_)
      | (with_reducible refine LeO.bind ?_ (fun _ => ?_))
      | exact impl_allSmallLetters.mono _ _
      | exact LeO.none _
      | refine LeO.ite ?_ ?_
      | refine LeO.bind ?_ (fun _ => ?_)
set_option maxHeartbeats 8000000 in
set_option maxRecDepth 100000 in
theorem impl_isHouse.calls (k : Nat) (a0 : ByteArray) (r : Bool) (w : World) (h : impl_isHouse.f k a0 = some r) :
    Calls Try.prog 21 #[.string a0] w fun e w' => e = .returned (.bool r) ∧ Drawn0 w w' := by
  have H : (if (a0.size : Int) ≥ 1 then (if (a0.size : Int) ≤ 5 then ((impl_allSmallLetters.f k a0).bind fun t129 => (some t129)) else (some false)) else (some false)) = some r := h
  clear h
  by_cases c2 : (a0.size : Int) ≥ 1
  · rw [if_pos c2] at H
    have c2b0 : decide (1 ≤ (a0.size : Int)) = true := decide_eq_true c2
    have c2b1 : decide (1 ≤ a0.size) = true := decide_eq_true (by omega)
    clear c2
    by_cases c3 : (a0.size : Int) ≤ 5
    · rw [if_pos c3] at H
      have c3b0 : decide ((a0.size : Int) ≤ 5) = true := decide_eq_true c3
      have c3b1 : decide (a0.size ≤ 5) = true := decide_eq_true (by omega)
      clear c3
      replace H := Option.bind_eq_some_iff.mp H
      obtain ⟨t129, A40, H⟩ := H
      replace H : (some t129) = some r := H
      have A4 := Aside0.mk A40
      clear A40
      obtain rfl := Option.some.inj H
      go_enter Try.func21, Try.ntmps21
      go_wp2_with (first | (go_at_call 28; (with_reducible refine (impl_allSmallLetters.calls k a0 t129 _ A4.out).mono ?_); rintro e w' ⟨rfl, ⟨nd, rfl⟩⟩))
      go_ret
      exact ⟨by first | rfl | (simp; done) | (simp [*]; done), by repeat (first | exact Drawn0.refl _ | apply Drawn0.step)⟩
    · rw [if_neg c3] at H
      have c3b0 : decide ((a0.size : Int) ≤ 5) = false := decide_eq_false c3
      have c3b1 : decide (a0.size ≤ 5) = false := decide_eq_false (by omega)
      clear c3
      obtain rfl := Option.some.inj H
      go_enter Try.func21, Try.ntmps21
      go_wp2
      go_ret
      exact ⟨by first | rfl | (simp; done) | (simp [*]; done), by repeat (first | exact Drawn0.refl _ | apply Drawn0.step)⟩
  · rw [if_neg c2] at H
    have c2b0 : decide (1 ≤ (a0.size : Int)) = false := decide_eq_false c2
    have c2b1 : decide (1 ≤ a0.size) = false := decide_eq_false (by omega)
    clear c2
    obtain rfl := Option.some.inj H
    go_enter Try.func21, Try.ntmps21
    go_wp2
    go_ret
    exact ⟨by first | rfl | (simp; done) | (simp [*]; done), by repeat (first | exact Drawn0.refl _ | apply Drawn0.step)⟩

end Go.Proofs.Ytihdnoobcpkgaaa.P
