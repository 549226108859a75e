/- The program's ShareOf answers what the reference's answers, for every text and every number; no condition. -/
import Derived.Test.YtihdnoobcpkgaaaShareOf
import Derived.Test.YtihdnoobcpkgaaaPf5
namespace Go.Proofs.Ytihdnoobcpkgaaa.Pure
open Go.RowKit Go.Proofs.Ytihdnoobcpkgaaa.P Go.Proofs.YtihdnoobcpkgaaaW.PrintWords Go.Proofs.YtihdnoobcpkgaaaW.PrintLast Go.Proofs.Ytihdnoobcpkgaaa.Sh

theorem FnExactShareOf : laws_FnExactShareOf.Pure := by
  intro a0 a1 h0 h1
  by_cases h : (a0.size : Int) > 1048576
  · exact ⟨0, by unfold laws_FnExactShareOf.f; rw [if_pos h]⟩
  · refine Ev.rounds ?_
    unfold laws_FnExactShareOf.f
    simp only [h, if_false]
    exact Ev.bind (spec_ev a0 a1 (by omega)) (Ev.bind (impl_ev a0 a1 (by omega)) (by simp only [if_true]; exact Ev.now _))

end Go.Proofs.Ytihdnoobcpkgaaa.Pure
