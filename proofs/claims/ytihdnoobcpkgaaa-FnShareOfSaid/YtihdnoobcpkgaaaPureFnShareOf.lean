/- Whatever is drawn: each house is one caller's, the first if there is one, and the program's ShareOf is the reference's; no condition. -/
import Derived.Test.YtihdnoobcpkgaaaShareOf
import Derived.Test.YtihdnoobcpkgaaaDrawOf
import Derived.Test.YtihdnoobcpkgaaaPf6
namespace Go.Proofs.Ytihdnoobcpkgaaa.Pure
open Go.RowKit Go.Proofs.Ytihdnoobcpkgaaa.P Go.Proofs.YtihdnoobcpkgaaaW.PrintWords Go.Proofs.YtihdnoobcpkgaaaW.PrintLast Go.Proofs.Ytihdnoobcpkgaaa.Sh Go.Proofs.Ytihdnoobcpkgaaa.Draw

theorem FnShareOf : laws_FnShareOf.Pure := by
  intro l0 hm hz hw
  by_cases h : (l0.length : Int) > 1048576
  · exact ⟨0, by unfold laws_FnShareOf.f; rw [if_pos h]⟩
  refine Ev.rounds ?_
  obtain ⟨b, hb, hc⟩ := open_some l0 hw
  obtain ⟨s, hs, hmem⟩ := of_ev hc 0 (([(⟨#[97, 98]⟩ : ByteArray), (⟨#[99, 100]⟩ : ByteArray), (⟨#[101]⟩ : ByteArray), (⟨#[102, 111, 120]⟩ : ByteArray), (⟨#[65, 66]⟩ : ByteArray), (⟨#[]⟩ : ByteArray), (⟨#[116, 111, 111, 108, 111, 110, 103]⟩ : ByteArray)] : List ByteArray)) (by simp) (by decide) (by omega) (by omega)
  obtain ⟨v, hv, h0, h1⟩ := pick_ev hc (0 + 1) 5 (by omega) (by omega)
  have hsz : s.size ≤ 1048576 := by
    simp only [List.mem_cons, List.not_mem_nil, or_false] at hmem
    rcases hmem with rfl | rfl | rfl | rfl | rfl | rfl | rfl <;> decide
  unfold laws_FnShareOf.f spec_DrawShareOf.f
  simp only [h, if_false, hb, Option.bind_some]
  refine Ev.bind (a := (s, v)) (Ev.bind hs (Ev.bind hv (Ev.now _))) ?_
  refine Ev.bind (impl_ev s v hsz) (Ev.bind (spec_ev s v hsz) ?_)
  have hbd := shareOf_bd s v
  have e1 : shareOf s v ≥ -1 := hbd.1
  simp only [if_true, e1, hbd.2.1]
  by_cases hneg : shareOf s v < 0
  · simp only [hneg, if_true]
    exact Ev.now _
  · simp only [hneg, if_false]
    refine Ev.bind (impl_ev s 1 hsz) ?_
    rw [hbd.2.2 (by omega)]
    exact Ev.now _

end Go.Proofs.Ytihdnoobcpkgaaa.Pure
