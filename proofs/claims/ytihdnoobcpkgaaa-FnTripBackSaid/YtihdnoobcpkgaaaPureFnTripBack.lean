/- Whatever is drawn: one waits twice as long each time, and the program's TripBack is the reference's; no condition. -/
import Derived.Test.YtihdnoobcpkgaaaDraw
import Derived.Test.YtihdnoobcpkgaaaPf4
namespace Go.Proofs.Ytihdnoobcpkgaaa.Pure
open Go.RowKit Go.Proofs.Ytihdnoobcpkgaaa.P Go.Proofs.YtihdnoobcpkgaaaW.PrintWords Go.Proofs.YtihdnoobcpkgaaaW.PrintLast Go.Proofs.Ytihdnoobcpkgaaa.Draw Go.Proofs.Ytihdnoobcpkgaaa.B

theorem FnTripBack : laws_FnTripBack.Pure := by
  intro l0 hm hz hw
  by_cases hl : (l0.length : Int) > 1048576
  · exact ⟨0, by unfold laws_FnTripBack.f; rw [if_pos hl]⟩
  obtain ⟨b, hb, hc⟩ := open_some l0 hw
  obtain ⟨v, hv, h0, h1⟩ := pick_one hc 0 0 7 (by omega) (by omega)
  have h2 := h1 (by omega)
  refine ⟨1, ?_⟩
  unfold laws_FnTripBack.f spec_DrawTripBack.f
  rw [if_neg hl, hb]
  simp only [Option.bind_some, hv]
  obtain rfl | rfl | rfl | rfl | rfl | rfl | rfl : v = 0 ∨ v = 1 ∨ v = 2 ∨ v = 3 ∨ v = 4 ∨ v = 5 ∨ v = 6 := by omega
  all_goals decide +kernel

end Go.Proofs.Ytihdnoobcpkgaaa.Pure
