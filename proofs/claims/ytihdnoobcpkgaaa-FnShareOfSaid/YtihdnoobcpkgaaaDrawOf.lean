/- A pick out of a list that is not empty is one of its texts; no condition. -/
import Derived.Test.YtihdnoobcpkgaaaDraw
import Derived.Test.YtihdnoobcpkgaaaPf23
namespace Go.Proofs.Ytihdnoobcpkgaaa.Draw
open Go.RowKit Go.Proofs.Ytihdnoobcpkgaaa.P Go.Proofs.YtihdnoobcpkgaaaW.PrintWords Go.Proofs.YtihdnoobcpkgaaaW.PrintLast Go.Proofs.YtihdnoobcpkgaaaW.PrintMore Go.Proofs.Ytihdnoobcpkgaaa.B
set_option linter.unusedVariables false
set_option linter.unusedSimpArgs false

theorem of_ev {b : List Int} (hc : Code b) (p : Int) (l : List ByteArray) (hl : l ≠ []) (hl2 : (l.length : Int) < 1000000) (hp : 0 ≤ p) (hp2 : p ≤ 1000000000000) :
    ∃ s, Ev (fun k => spec_l6Rd_of.f k b p l) (s, p + 1) ∧ s ∈ l := by
  have hpos : 0 < l.length := List.length_pos_iff.2 hl
  obtain ⟨v, h, h0, h1⟩ := pick_ev hc p (l.length : Int) hp hp2
  have hv := h1 (by omega)
  refine ⟨rdOf ByteArray.empty l v, Ev.bind h ?_, ?_⟩
  · simp only [h0, hv, if_true]
    exact Ev.now _
  · unfold rdOf
    have hlt : v.toNat < l.length := by omega
    rw [List.getD_eq_getElem?_getD, List.getElem?_eq_getElem hlt]
    exact List.getElem_mem hlt

end Go.Proofs.Ytihdnoobcpkgaaa.Draw
