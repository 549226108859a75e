/- The reader of draws: it opens every code, and a pick is a number below its bound; no condition. -/
import Derived.Test.YtihdnoobcpkgaaaBase
import Derived.Test.YtihdnoobcpkgaaaPf17
import Derived.Test.YtihdnoobcpkgaaaPf18
namespace Go.Proofs.Ytihdnoobcpkgaaa.Draw
open Go.RowKit Go.Proofs.Ytihdnoobcpkgaaa.P Go.Proofs.YtihdnoobcpkgaaaW.PrintWords Go.Proofs.YtihdnoobcpkgaaaW.PrintLast Go.Proofs.YtihdnoobcpkgaaaW.PrintMore Go.Proofs.Ytihdnoobcpkgaaa.B
set_option linter.unusedVariables false
set_option linter.unusedSimpArgs false

/-- A code that is open: its bytes, and not too many of them. -/
structure Code (b : List Int) : Prop where
  byte : ∀ x ∈ b, 0 ≤ x ∧ x ≤ 255
  short : b.length ≤ 2000

theorem open_some (l0 : List Int) (hw : ∀ x ∈ l0, (Lit.int .u8 x).wf = true) : ∃ b, spec_l6Open.f l0 = some (b, 0) ∧ Code b := by
  unfold spec_l6Open.f
  by_cases h : (l0.length : Int) > 2000
  · rw [if_pos h, if_pos (by omega)]
    exact ⟨_, rfl, fun x hx => wf_u8 (hw x (List.mem_of_mem_take hx)), by rw [List.length_take]; omega⟩
  · rw [if_neg h]
    exact ⟨_, rfl, fun x hx => wf_u8 (hw x hx), by omega⟩

theorem pick_one {b : List Int} (hc : Code b) (k : Nat) (p n : Int) (hp : 0 ≤ p) (hp2 : p ≤ 1000000000000) :
    ∃ v, spec_l6Rd_pick.f (k + 1) b p n = some (v, p + 1) ∧ 0 ≤ v ∧ (1 ≤ n → v < n) := by
  have hl := hc.short
  have e1 : wrap64 (p + 1) = p + 1 := w64 (by omega) (by omega)
  have e2 : wrap64 (p + 1 - 1) = p := by rw [w64 (by omega) (by omega)]; omega
  unfold spec_l6Rd_pick.f
  rw [e1]
  by_cases h1 : n < 1
  · rw [if_pos h1]
    exact ⟨0, by simp [spec_l6Rd_pick.j0], by omega, by omega⟩
  · rw [if_neg h1]
    simp only [spec_l6Rd_pick.j0, e2]
    by_cases h2 : (b.length : Int) = 0
    · rw [if_pos (by simpa using h2)]
      exact ⟨0, rfl, by omega, by omega⟩
    · rw [if_neg (by simpa using h2)]
      by_cases h3 : p < (b.length : Int)
      · rw [if_pos h3, if_pos hp, if_neg (by omega)]
        have hr := rd_byte hc.byte p
        rw [w64 (by omega) (by omega)]
        exact ⟨_, rfl, (tmod_nn hr.1 (by omega)).1, fun _ => (tmod_nn hr.1 (by omega)).2⟩
      · rw [if_neg h3, if_neg h2]
        have hq := tmod_nn (a := p) (b := (b.length : Int)) hp (by omega)
        have ew1 : wrap64 (p * 7) = p * 7 := w64 (by omega) (by omega)
        have ew2 : wrap64 (p * 7 + 3) = p * 7 + 3 := w64 (by omega) (by omega)
        have hq2 := tmod_nn (a := p * 7 + 3) (b := (b.length : Int)) (by omega) (by omega)
        rw [if_pos hq.1, if_pos hq.2, ew1, ew2, if_pos hq2.1, if_pos hq2.2, if_neg (by omega)]
        have r1 := rd_byte hc.byte (Int.tmod p (b.length : Int))
        have r2 := rd_byte hc.byte (Int.tmod (p * 7 + 3) (b.length : Int))
        generalize rd b (Int.tmod p (b.length : Int)) = a1 at r1 ⊢
        generalize rd b (Int.tmod (p * 7 + 3) (b.length : Int)) = a2 at r2 ⊢
        have r3 := tdiv_nn (a := p) (b := (b.length : Int)) hp (by omega)
        generalize Int.tdiv p (b.length : Int) = q at r3 ⊢
        have s1 : wrap64 a1 = a1 := w64 (by omega) (by omega)
        have s2 : wrap64 a2 = a2 := w64 (by omega) (by omega)
        have s3 : wrap64 (a1 * 131) = a1 * 131 := w64 (by omega) (by omega)
        have s4 : wrap64 (a2 * 1117) = a2 * 1117 := w64 (by omega) (by omega)
        have s5 : wrap64 (p * 29) = p * 29 := w64 (by omega) (by omega)
        have s6 : wrap64 q = q := w64 (by omega) (by omega)
        have s7 : wrap64 (q * 53) = q * 53 := w64 (by omega) (by omega)
        have s8 : wrap64 (a1 * 131 + a2 * 1117) = a1 * 131 + a2 * 1117 := w64 (by omega) (by omega)
        have s9 : wrap64 (a1 * 131 + a2 * 1117 + p * 29) = a1 * 131 + a2 * 1117 + p * 29 := w64 (by omega) (by omega)
        have s10 : wrap64 (a1 * 131 + a2 * 1117 + p * 29 + q * 53) = a1 * 131 + a2 * 1117 + p * 29 + q * 53 := w64 (by omega) (by omega)
        simp only [s1, s2, s3, s4, s5, s6, s7, s8, s9, s10]
        have hX0 : 0 ≤ a1 * 131 + a2 * 1117 + p * 29 + q * 53 := by omega
        have hX1 : a1 * 131 + a2 * 1117 + p * 29 + q * 53 < 2 ^ 62 := by omega
        generalize a1 * 131 + a2 * 1117 + p * 29 + q * 53 = X at hX0 hX1 ⊢
        have d := tdiv_nn (a := X) (b := 64) hX0 (by omega)
        have s11 : wrap64 (Int.tdiv X 64) = Int.tdiv X 64 := w64 (by omega) (by omega)
        rw [s11]
        have z := xor_nn hX0 hX1 d.1 (by omega)
        exact ⟨_, rfl, (tmod_nn z.1 (by omega)).1, fun _ => (tmod_nn z.1 (by omega)).2⟩

theorem pick_ev {b : List Int} (hc : Code b) (p n : Int) (hp : 0 ≤ p) (hp2 : p ≤ 1000000000000) :
    ∃ v, Ev (fun k => spec_l6Rd_pick.f k b p n) (v, p + 1) ∧ 0 ≤ v ∧ (1 ≤ n → v < n) := by
  obtain ⟨v, h, h0, h1⟩ := pick_one hc 0 p n hp hp2
  exact ⟨v, Ev.of (fun k => spec_l6Rd_pick.mono _ _ _ k) h, h0, h1⟩

end Go.Proofs.Ytihdnoobcpkgaaa.Draw
