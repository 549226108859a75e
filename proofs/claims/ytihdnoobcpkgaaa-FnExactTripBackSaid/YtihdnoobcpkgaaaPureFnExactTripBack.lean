/- The program's TripBack answers what the reference's answers, for every number; no condition. -/
import Derived.Test.YtihdnoobcpkgaaaPf3
namespace Go.Proofs.Ytihdnoobcpkgaaa.Pure
open Go.RowKit Go.Proofs.Ytihdnoobcpkgaaa.P Go.Proofs.YtihdnoobcpkgaaaW.PrintWords Go.Proofs.YtihdnoobcpkgaaaW.PrintLast

theorem FnExactTripBack : laws_FnExactTripBack.Pure := by
  intro a0 h
  by_cases h1 : a0 = 1
  · subst h1; rfl
  by_cases h2 : a0 = 2
  · subst h2; rfl
  by_cases h3 : a0 = 3
  · subst h3; rfl
  unfold laws_FnExactTripBack.f spec_TripBack.f impl_TripBack.f spec_l6In.f
  rw [if_neg h1, if_neg h2, if_neg h3]
  by_cases h4 : a0 ≥ 1
  · have h5 : ¬ a0 ≤ 3 := by omega
    simp [h4, h5]
  · simp [h4]

end Go.Proofs.Ytihdnoobcpkgaaa.Pure
