/- Part 2 of the proof of FnLinksMore: the plain functions of what it reaches, that Go comes to just their answers, and what they answer; conditions: each theorem's own. -/
import Derived.Test.YtmaleoldpmiilaaZFnLinksMorea

/- The plain function of a Go function, and that Go comes to just its answer; its conditions are the theorem's own. Written by a program of this session (wip/pr.py). -/
namespace Go.Proofs.Ytmaleoldpmiilaa.P
open Go.RowKit Go.Proofs.YtmaleoldpmiilaaW.PrintWords Go.Proofs.YtmaleoldpmiilaaW.PrintLast Go.Proofs.YtmaleoldpmiilaaW.PrintMore
attribute [local go_sem] max2_int min2_int max_two min_two max_three min_three max_four min_four   -- for this text's walks alone
set_option linter.unusedVariables false
set_option linter.unusedSimpArgs false

/-! ### spec_EscNorm: function 41 -/
mutual
def spec_EscNorm.l0 : Nat → ByteArray → ByteArray → Int → Option (ByteArray × Bool)
  | 0, _, _, _ => none
  | k + 1, x0, x4, x5 => if x5 < (x0.size : Int) then (if 0 ≤ x5 then (if (bt x0 x5) = 37 then (if (wrap64 (x5 + 2)) ≥ (x0.size : Int) then (spec_EscNorm.j1 k x0 x4 x5 true) else (if 0 ≤ (wrap64 (x5 + 1)) then (if (wrap64 (x5 + 1)) < (x0.size : Int) then ((spec_l1Hex.f k (bt x0 (wrap64 (x5 + 1)))).bind fun t187 => (if t187 < 0 then (spec_EscNorm.j1 k x0 x4 x5 true) else (if 0 ≤ (wrap64 (x5 + 2)) then (if (wrap64 (x5 + 2)) < (x0.size : Int) then ((spec_l1Hex.f k (bt x0 (wrap64 (x5 + 2)))).bind fun t188 => (spec_EscNorm.j1 k x0 x4 x5 (decide (t188 < 0)))) else (none)) else (none)))) else (none)) else (none))) else (spec_EscNorm.j2 k x0 x4 x5 (wrap64 (bt x0 x5)))) else (none)) else (some (x4, true))
def spec_EscNorm.j2 : Nat → ByteArray → ByteArray → Int → Int → Option (ByteArray × Bool)
  | 0, _, _, _, _ => none
  | k + 1, x0, x4, x5, x6 => (spec_l1Plain.f ((x6) % 256)).bind fun t191 => (if t191 = true then ((some (([(x6) % 256] : List Int) : List Int)).bind fun y192 => (if x4.size + (strOfNums y192).size ≤ 9223372036854775807 then (spec_EscNorm.l0 k x0 (x4 ++ (strOfNums y192)) (wrap64 (x5 + 1))) else (none))) else ((spec_l1Sign.f x6).bind fun t195 => (if x4.size + t195.size ≤ 9223372036854775807 then (spec_EscNorm.l0 k x0 (x4 ++ t195) (wrap64 (x5 + 1))) else (none))))
def spec_EscNorm.j1 : Nat → ByteArray → ByteArray → Int → Bool → Option (ByteArray × Bool)
  | 0, _, _, _, _ => none
  | k + 1, x0, x4, x5, x44 => if x44 = true then (some ((⟨#[]⟩ : ByteArray), false)) else (if 0 ≤ (wrap64 (x5 + 1)) then (if (wrap64 (x5 + 1)) < (x0.size : Int) then ((spec_l1Hex.f k (bt x0 (wrap64 (x5 + 1)))).bind fun t189 => (if 0 ≤ (wrap64 (x5 + 2)) then (if (wrap64 (x5 + 2)) < (x0.size : Int) then ((spec_l1Hex.f k (bt x0 (wrap64 (x5 + 2)))).bind fun t190 => (spec_EscNorm.j2 k x0 x4 (wrap64 (x5 + 2)) (wrap64 ((wrap64 (t189 * 16)) + t190)))) else (none)) else (none))) else (none)) else (none))
end
def spec_EscNorm.f (k : Nat) (a0 : ByteArray) : Option (ByteArray × Bool) := if (a0.size : Int) > 60 then (some ((⟨#[]⟩ : ByteArray), false)) else (spec_EscNorm.l0 k a0 (⟨#[]⟩ : ByteArray) 0)
theorem spec_EscNorm.mono_l : ∀ k, (∀ y0 y1 y2, LeO (spec_EscNorm.l0 k y0 y1 y2) (spec_EscNorm.l0 (k + 1) y0 y1 y2)) ∧ (∀ y0 y1 y2 y3, LeO (spec_EscNorm.j2 k y0 y1 y2 y3) (spec_EscNorm.j2 (k + 1) y0 y1 y2 y3)) ∧ (∀ y0 y1 y2 y3, LeO (spec_EscNorm.j1 k y0 y1 y2 y3) (spec_EscNorm.j1 (k + 1) y0 y1 y2 y3))
  | 0 => ⟨fun _ _ _ r h => by simp [spec_EscNorm.l0] at h, fun _ _ _ _ r h => by simp [spec_EscNorm.j2] at h, fun _ _ _ _ r h => by simp [spec_EscNorm.j1] at h⟩
  | k + 1 => by
    obtain ⟨ih0, ih1, ih2⟩ := spec_EscNorm.mono_l k
    refine ⟨?_, ?_, ?_⟩
    · intro y0 y1 y2
      unfold spec_EscNorm.l0
      repeat' first
      | (with_reducible exact ih0 _ _ _)
      | (with_reducible exact ih1 _ _ _ _)
      | (with_reducible exact ih2 _ _ _ _)
      | (with_reducible exact spec_l1Hex.mono _ _)
      | (with_reducible exact LeO.refl _)
      | (with_reducible exact LeO.none _)
      | (with_reducible refine LeO.ite ?_ ?_)
      | (with_reducible refine LeO.bind ?_ (fun _ => ?_))
      | exact ih0 _ _ _
      | exact ih1 _ _ _ _
      | exact ih2 _ _ _ _
      | exact spec_l1Hex.mono _ _
      | exact LeO.none _
      | refine LeO.ite ?_ ?_
      | refine LeO.bind ?_ (fun _ => ?_)
    · intro y0 y1 y2 y3
      unfold spec_EscNorm.j2
      repeat' first
      | (with_reducible exact ih0 _ _ _)
      | (with_reducible exact ih1 _ _ _ _)
      | (with_reducible exact ih2 _ _ _ _)
      | (with_reducible exact spec_l1Hex.mono _ _)
      | (with_reducible exact LeO.refl _)
      | (with_reducible exact LeO.none _)
      | (with_reducible refine LeO.ite ?_ ?_)
      | (with_reducible refine LeO.bind ?_ (fun _ => ?_))
      | exact ih0 _ _ _
      | exact ih1 _ _ _ _
      | exact ih2 _ _ _ _
      | exact spec_l1Hex.mono _ _
      | exact LeO.none _
      | refine LeO.ite ?_ ?_
      | refine LeO.bind ?_ (fun _ => ?_)
    · intro y0 y1 y2 y3
      unfold spec_EscNorm.j1
      repeat' first
      | (with_reducible exact ih0 _ _ _)
      | (with_reducible exact ih1 _ _ _ _)
      | (with_reducible exact ih2 _ _ _ _)
      | (with_reducible exact spec_l1Hex.mono _ _)
      | (with_reducible exact LeO.refl _)
      | (with_reducible exact LeO.none _)
      | (with_reducible refine LeO.ite ?_ ?_)
      | (with_reducible refine LeO.bind ?_ (fun _ => ?_))
      | exact ih0 _ _ _
      | exact ih1 _ _ _ _
      | exact ih2 _ _ _ _
      | exact spec_l1Hex.mono _ _
      | exact LeO.none _
      | refine LeO.ite ?_ ?_
      | refine LeO.bind ?_ (fun _ => ?_)
theorem spec_EscNorm.mono : ∀ a0 k, LeO (spec_EscNorm.f k a0) (spec_EscNorm.f (k + 1) a0) := by
  intro a0 k
  obtain ⟨ih0, ih1, ih2⟩ := spec_EscNorm.mono_l k
  unfold spec_EscNorm.f
  repeat' first
      | (with_reducible exact ih0 _ _ _)
      | (with_reducible exact ih1 _ _ _ _)
      | (with_reducible exact ih2 _ _ _ _)
      | (with_reducible exact spec_l1Hex.mono _ _)
      | (with_reducible exact LeO.refl _)
      | (with_reducible exact LeO.none _)
      | (with_reducible refine LeO.ite ?_ ?_)
      | (with_reducible refine LeO.bind ?_ (fun _ => ?_))
      | exact ih0 _ _ _
      | exact ih1 _ _ _ _
      | exact ih2 _ _ _ _
      | exact spec_l1Hex.mono _ _
      | exact LeO.none _
      | refine LeO.ite ?_ ?_
      | refine LeO.bind ?_ (fun _ => ?_)
set_option maxHeartbeats 8000000 in
set_option maxRecDepth 100000 in
theorem spec_EscNorm.calls (k : Nat) (a0 : ByteArray) (r1 : ByteArray) (r2 : Bool) (w : World) (h : spec_EscNorm.f k a0 = some (r1, r2)) :
    Calls Try.prog 41 #[.string a0] w fun e w' => e = .returned (.tuple #[.string r1, .bool r2]) ∧ Below w.heap.size w w' := by
  have HB := Aside0.mk (Below.refl w.heap.size w)
  have H : (if (a0.size : Int) > 60 then (some ((⟨#[]⟩ : ByteArray), false)) else (spec_EscNorm.l0 k a0 (⟨#[]⟩ : ByteArray) 0)) = some (r1, r2) := h
  clear h
  by_cases c2 : (a0.size : Int) > 60
  · rw [if_pos c2] at H
    have c2b0 : decide (60 < (a0.size : Int)) = true := decide_eq_true c2
    have c2b1 : decide (60 < a0.size) = true := decide_eq_true (by omega)
    clear c2
    simp only [Option.some.injEq, Prod.mk.injEq] at H
    obtain ⟨rfl, rfl⟩ := H
    go_enter Try.func41, Try.ntmps41
    go_wp2
    repeat (go_quiet (fail); try go_wp2)
    go_ret2
    exact ⟨by first | rfl | (simp [errW_none, errW_some] <;> rfl) | (simp [*, errW_none, errW_some] <;> rfl), by repeat (first | (with_reducible first | exact HB.out | apply below_alloc | apply pw_below_drewN | apply below_drew1) | exact HB.out)⟩
  · rw [if_neg c2] at H
    have c2b0 : decide (60 < (a0.size : Int)) = false := decide_eq_false c2
    have c2b1 : decide (60 < a0.size) = false := decide_eq_false (by omega)
    clear c2
    have H' := Aside0.mk H
    clear H
    go_enter Try.func41, Try.ntmps41
    go_wp2
    repeat (go_quiet (fail); try go_wp2)
    go_loopg [4, 5] k (fun kq v4 v5 w' => ∃ (x4_1 : ByteArray) (x5_1 : Int), v4 = .string x4_1 ∧ v5 = .int .i64 x5_1 ∧ Aside0 (spec_EscNorm.l0 kq a0 x4_1 x5_1 = some (r1, r2)) ∧ Aside0 (kq ≤ k) ∧ Aside0 (Below w.heap.size w w'))
    case atStart => exact ⟨((⟨#[]⟩ : ByteArray)), (0), (by first | rfl | (simp only [i64_w, i32_w]; done) | (simp only [aid_isEmpty, aid_isEmpty2]; done) | (simp; done) | (simp [*]; done)), (by first | rfl | (simp only [i64_w, i32_w]; done) | (simp only [aid_isEmpty, aid_isEmpty2]; done) | (simp; done) | (simp [*]; done)), H', ⟨Nat.le_refl _⟩, ⟨by repeat (first | (with_reducible first | exact HB.out | apply below_alloc | apply pw_below_drewN | apply below_drew1) | exact HB.out)⟩⟩
    case round =>
      clear H'
      try clear c2
      try clear c2b0
      try clear c2b1
      try clear p2
      obtain ⟨x4_1, x5_1, rfl, rfl, HA, HK1, HB⟩ := hrel
      cases gk with
      | zero => exact absurd HA.out (by simp [spec_EscNorm.l0])
      | succ k1 =>
        have H := HA.out
        clear HA
        simp only [spec_EscNorm.l0] at H
        by_cases c3 : x5_1 < (a0.size : Int)
        · rw [if_pos c3] at H
          have c3b0 : decide (x5_1 < (a0.size : Int)) = true := decide_eq_true c3
          clear c3
          by_cases c4 : 0 ≤ x5_1
          · rw [if_pos c4] at H
            have c4b0 : decide (0 ≤ x5_1) = true := decide_eq_true c4
            clear c4
            have HC7 := Aside0.mk H
            clear H
            have p5 : 0 ≤ (x5_1 : Int) := of_decide_eq_true (by first | (with_reducible assumption) | assumption)
            have q5 : x5_1 < (a0.size : Int) := of_decide_eq_true (by first | (with_reducible assumption) | assumption)
            have hx5 := bt_at a0 x5_1
            replace p5 := eq_true p5
            replace q5 := eq_true q5
            have p6 : 0 ≤ (x5_1 : Int) := of_decide_eq_true (by first | (with_reducible assumption) | assumption)
            have q6 : x5_1 < (a0.size : Int) := of_decide_eq_true (by first | (with_reducible assumption) | assumption)
            have hx6 := bt_at a0 x5_1
            replace p6 := eq_true p6
            replace q6 := eq_true q6
            go_upto_if 23 with (fail)
            repeat (go_quiet (fail); go_upto_if 23 with (fail))
            go_cut [5, 6] (fun v5 v6 wc => ∃ (kq : Nat) (x5_6 : Int) (x6_6 : Int), v5 = .int .i64 x5_6 ∧ v6 = .int .i64 x6_6 ∧ Aside0 (spec_EscNorm.j2 kq a0 x4_1 x5_6 x6_6 = some (r1, r2)) ∧ Aside0 (kq ≤ k1) ∧ Aside0 (Below w.heap.size w wc))
            case first =>
              have H := HC7.out
              clear HC7
              by_cases c8 : (bt a0 x5_1) = 37
              · rw [if_pos c8] at H
                have c8b0 : ((bt a0 x5_1) == 37) = true := beq_iff_eq.mpr c8
                have c8b1 : ((bt a0 x5_1) != 37) = false := bne_eq_false_iff_eq.mpr c8
                clear c8
                (first | rw [c8b0] | (simp only [i64_w, i32_w]; rw [c8b0]) | skip)
                have HC9 := Aside0.mk H
                clear H
                go_upto_region 9 with (fail)
                repeat (go_quiet (fail); go_upto_region 9 with (fail))
                go_cut [44] (fun v44 wc => ∃ (kq : Nat) (x44_8 : Bool), v44 = .bool x44_8 ∧ Aside0 (spec_EscNorm.j1 kq a0 x4_1 x5_1 x44_8 = some (r1, r2)) ∧ Aside0 (kq ≤ k1) ∧ Aside0 (Below w.heap.size w wc))
                case first =>
                  have H := HC9.out
                  clear HC9
                  by_cases c10 : (wrap64 (x5_1 + 2)) ≥ (a0.size : Int)
                  · rw [if_pos c10] at H
                    have c10b0 : decide ((a0.size : Int) ≤ (wrap64 (x5_1 + 2))) = true := decide_eq_true c10
                    clear c10
                    (first | rw [c10b0] | (simp only [i64_w, i32_w]; rw [c10b0]) | skip)
                    have H' := Aside0.mk H
                    clear H
                    go_wp2
                    repeat (go_quiet (fail); try go_wp2)
                    go_meet
                    case rel => exact ⟨_, (true), (by first | rfl | (simp only [i64_w, i32_w]; done) | (simp only [aid_isEmpty, aid_isEmpty2]; done) | (simp; done) | (simp [*]; done)), H', ⟨by have := HK1.out; first | omega | exact Nat.le_refl _⟩, ⟨by repeat (first | (with_reducible first | exact HB.out | apply below_alloc | apply pw_below_drewN | apply below_drew1) | exact HB.out)⟩⟩
                  · rw [if_neg c10] at H
                    have c10b0 : decide ((a0.size : Int) ≤ (wrap64 (x5_1 + 2))) = false := decide_eq_false c10
                    clear c10
                    (first | rw [c10b0] | (simp only [i64_w, i32_w]; rw [c10b0]) | skip)
                    obtain ⟨ji11, hji11⟩ : ∃ j_ : Int, (wrap64 (x5_1 + 1)) = j_ := ⟨_, rfl⟩
                    replace H : (if 0 ≤ (ji11) then (if (ji11) < (a0.size : Int) then ((spec_l1Hex.f k1 (bt a0 (ji11))).bind fun t187 => (if t187 < 0 then (spec_EscNorm.j1 k1 a0 x4_1 x5_1 true) else (if 0 ≤ (wrap64 (x5_1 + 2)) then (if (wrap64 (x5_1 + 2)) < (a0.size : Int) then ((spec_l1Hex.f k1 (bt a0 (wrap64 (x5_1 + 2)))).bind fun t188 => (spec_EscNorm.j1 k1 a0 x4_1 x5_1 (decide (t188 < 0)))) else (none)) else (none)))) else (none)) else (none)) = some (r1, r2) := by first | (rw [hji11] at H; exact H) | (simp only [hji11] at H ⊢; exact H)
                    have hji11w : (IntKind.i64.wrap (x5_1 + 1)) = ji11 := (i64_w _).trans hji11
                    by_cases c12 : 0 ≤ (ji11)
                    · rw [if_pos c12] at H
                      have c12b0 : decide (0 ≤ (ji11)) = true := decide_eq_true c12
                      clear c12
                      by_cases c13 : (ji11) < (a0.size : Int)
                      · rw [if_pos c13] at H
                        have c13b0 : decide ((ji11) < (a0.size : Int)) = true := decide_eq_true c13
                        clear c13
                        replace H := Option.bind_eq_some_iff.mp H
                        obtain ⟨t187, A150, H⟩ := H
                        replace H : (if t187 < 0 then (spec_EscNorm.j1 k1 a0 x4_1 x5_1 true) else (if 0 ≤ (wrap64 (x5_1 + 2)) then (if (wrap64 (x5_1 + 2)) < (a0.size : Int) then ((spec_l1Hex.f k1 (bt a0 (wrap64 (x5_1 + 2)))).bind fun t188 => (spec_EscNorm.j1 k1 a0 x4_1 x5_1 (decide (t188 < 0)))) else (none)) else (none))) = some (r1, r2) := H
                        have A15 := Aside0.mk A150
                        clear A150
                        by_cases c16 : t187 < 0
                        · rw [if_pos c16] at H
                          have c16b0 : decide (t187 < 0) = true := decide_eq_true c16
                          clear c16
                          have H' := Aside0.mk H
                          clear H
                          have p14 : 0 ≤ ((ji11) : Int) := of_decide_eq_true (by first | (with_reducible assumption) | assumption)
                          have q14 : (ji11) < (a0.size : Int) := of_decide_eq_true (by first | (with_reducible assumption) | assumption)
                          have hx14 := bt_at a0 (ji11)
                          replace p14 := eq_true p14
                          replace q14 := eq_true q14
                          go_wp2_with (first | (go_at_call 42; (with_reducible refine (spec_l1Hex.calls k1 (bt a0 (ji11)) t187 _ A15.out).mono ?_); rintro e w' ⟨rfl, ⟨nd, rfl⟩⟩; (try first | exact ⟨rfl, _, World.drewN_drewN _ _ _⟩ | exact ⟨rfl, _, Eq.trans (World.drewN_drewN _ _ _) (congrArg (World.drewN _) (Nat.add_assoc _ _ _))⟩)))
                          repeat (go_quiet (first | (go_at_call 42; (with_reducible refine (spec_l1Hex.calls k1 (bt a0 (ji11)) t187 _ A15.out).mono ?_); rintro e w' ⟨rfl, ⟨nd, rfl⟩⟩; (try first | exact ⟨rfl, _, World.drewN_drewN _ _ _⟩ | exact ⟨rfl, _, Eq.trans (World.drewN_drewN _ _ _) (congrArg (World.drewN _) (Nat.add_assoc _ _ _))⟩))); try go_wp2_with (first | (go_at_call 42; (with_reducible refine (spec_l1Hex.calls k1 (bt a0 (ji11)) t187 _ A15.out).mono ?_); rintro e w' ⟨rfl, ⟨nd, rfl⟩⟩; (try first | exact ⟨rfl, _, World.drewN_drewN _ _ _⟩ | exact ⟨rfl, _, Eq.trans (World.drewN_drewN _ _ _) (congrArg (World.drewN _) (Nat.add_assoc _ _ _))⟩))))
                          go_meet
                          case rel => exact ⟨_, (true), (by first | rfl | (simp only [i64_w, i32_w]; done) | (simp only [aid_isEmpty, aid_isEmpty2]; done) | (simp; done) | (simp [*]; done)), H', ⟨by have := HK1.out; first | omega | exact Nat.le_refl _⟩, ⟨by repeat (first | (with_reducible first | exact HB.out | apply below_alloc | apply pw_below_drewN | apply below_drew1) | exact HB.out)⟩⟩
                        · rw [if_neg c16] at H
                          have c16b0 : decide (t187 < 0) = false := decide_eq_false c16
                          clear c16
                          obtain ⟨ji17, hji17⟩ : ∃ j_ : Int, (wrap64 (x5_1 + 2)) = j_ := ⟨_, rfl⟩
                          replace H : (if 0 ≤ (ji17) then (if (ji17) < (a0.size : Int) then ((spec_l1Hex.f k1 (bt a0 (ji17))).bind fun t188 => (spec_EscNorm.j1 k1 a0 x4_1 x5_1 (decide (t188 < 0)))) else (none)) else (none)) = some (r1, r2) := by first | (rw [hji17] at H; exact H) | (simp only [hji17] at H ⊢; exact H)
                          (try rw [hji17] at c10b0)
                          (try rw [hji17] at A15)
                          have hji17w : (IntKind.i64.wrap (x5_1 + 2)) = ji17 := (i64_w _).trans hji17
                          by_cases c18 : 0 ≤ (ji17)
                          · rw [if_pos c18] at H
                            have c18b0 : decide (0 ≤ (ji17)) = true := decide_eq_true c18
                            clear c18
                            by_cases c19 : (ji17) < (a0.size : Int)
                            · rw [if_pos c19] at H
                              have c19b0 : decide ((ji17) < (a0.size : Int)) = true := decide_eq_true c19
                              clear c19
                              replace H := Option.bind_eq_some_iff.mp H
                              obtain ⟨t188, A210, H⟩ := H
                              replace H : (spec_EscNorm.j1 k1 a0 x4_1 x5_1 (decide (t188 < 0))) = some (r1, r2) := H
                              have A21 := Aside0.mk A210
                              clear A210
                              have H' := Aside0.mk H
                              clear H
                              have p14 : 0 ≤ ((ji11) : Int) := of_decide_eq_true (by first | (with_reducible assumption) | assumption)
                              have q14 : (ji11) < (a0.size : Int) := of_decide_eq_true (by first | (with_reducible assumption) | assumption)
                              have hx14 := bt_at a0 (ji11)
                              replace p14 := eq_true p14
                              replace q14 := eq_true q14
                              go_wp2_with (first | (go_at_call 42; (with_reducible refine (spec_l1Hex.calls k1 (bt a0 (ji11)) t187 _ A15.out).mono ?_); rintro e w' ⟨rfl, ⟨nd, rfl⟩⟩; (try first | exact ⟨rfl, _, World.drewN_drewN _ _ _⟩ | exact ⟨rfl, _, Eq.trans (World.drewN_drewN _ _ _) (congrArg (World.drewN _) (Nat.add_assoc _ _ _))⟩); have p20 : 0 ≤ ((ji17) : Int) := of_decide_eq_true (by first | (with_reducible assumption) | assumption); have q20 : (ji17) < (a0.size : Int) := of_decide_eq_true (by first | (with_reducible assumption) | assumption); have hx20 := bt_at a0 (ji17); replace p20 := eq_true p20; replace q20 := eq_true q20) | (go_at_call 42; (with_reducible refine (spec_l1Hex.calls k1 (bt a0 (ji17)) t188 _ A21.out).mono ?_); rintro e w' ⟨rfl, ⟨nd, rfl⟩⟩; (try first | exact ⟨rfl, _, World.drewN_drewN _ _ _⟩ | exact ⟨rfl, _, Eq.trans (World.drewN_drewN _ _ _) (congrArg (World.drewN _) (Nat.add_assoc _ _ _))⟩)))
                              repeat (go_quiet (first | (go_at_call 42; (with_reducible refine (spec_l1Hex.calls k1 (bt a0 (ji11)) t187 _ A15.out).mono ?_); rintro e w' ⟨rfl, ⟨nd, rfl⟩⟩; (try first | exact ⟨rfl, _, World.drewN_drewN _ _ _⟩ | exact ⟨rfl, _, Eq.trans (World.drewN_drewN _ _ _) (congrArg (World.drewN _) (Nat.add_assoc _ _ _))⟩); have p20 : 0 ≤ ((ji17) : Int) := of_decide_eq_true (by first | (with_reducible assumption) | assumption); have q20 : (ji17) < (a0.size : Int) := of_decide_eq_true (by first | (with_reducible assumption) | assumption); have hx20 := bt_at a0 (ji17); replace p20 := eq_true p20; replace q20 := eq_true q20) | (go_at_call 42; (with_reducible refine (spec_l1Hex.calls k1 (bt a0 (ji17)) t188 _ A21.out).mono ?_); rintro e w' ⟨rfl, ⟨nd, rfl⟩⟩; (try first | exact ⟨rfl, _, World.drewN_drewN _ _ _⟩ | exact ⟨rfl, _, Eq.trans (World.drewN_drewN _ _ _) (congrArg (World.drewN _) (Nat.add_assoc _ _ _))⟩))); try go_wp2_with (first | (go_at_call 42; (with_reducible refine (spec_l1Hex.calls k1 (bt a0 (ji11)) t187 _ A15.out).mono ?_); rintro e w' ⟨rfl, ⟨nd, rfl⟩⟩; (try first | exact ⟨rfl, _, World.drewN_drewN _ _ _⟩ | exact ⟨rfl, _, Eq.trans (World.drewN_drewN _ _ _) (congrArg (World.drewN _) (Nat.add_assoc _ _ _))⟩); have p20 : 0 ≤ ((ji17) : Int) := of_decide_eq_true (by first | (with_reducible assumption) | assumption); have q20 : (ji17) < (a0.size : Int) := of_decide_eq_true (by first | (with_reducible assumption) | assumption); have hx20 := bt_at a0 (ji17); replace p20 := eq_true p20; replace q20 := eq_true q20) | (go_at_call 42; (with_reducible refine (spec_l1Hex.calls k1 (bt a0 (ji17)) t188 _ A21.out).mono ?_); rintro e w' ⟨rfl, ⟨nd, rfl⟩⟩; (try first | exact ⟨rfl, _, World.drewN_drewN _ _ _⟩ | exact ⟨rfl, _, Eq.trans (World.drewN_drewN _ _ _) (congrArg (World.drewN _) (Nat.add_assoc _ _ _))⟩))))
                              go_meet
                              case rel => exact ⟨_, (decide (t188 < 0)), (by first | rfl | (simp only [i64_w, i32_w]; done) | (simp only [aid_isEmpty, aid_isEmpty2]; done) | (simp; done) | (simp [*]; done)), H', ⟨by have := HK1.out; first | omega | exact Nat.le_refl _⟩, ⟨by repeat (first | (with_reducible first | exact HB.out | apply below_alloc | apply pw_below_drewN | apply below_drew1) | exact HB.out)⟩⟩
                            · rw [if_neg c19] at H
                              exact absurd H (by simp)
                          · rw [if_neg c18] at H
                            exact absurd H (by simp)
                      · rw [if_neg c13] at H
                        exact absurd H (by simp)
                    · rw [if_neg c12] at H
                      exact absurd H (by simp)
                case rest =>
                  clear HC9
                  try clear c1
                  try clear p1
                  try clear q1
                  try clear hx1
                  try clear c2
                  try clear c2b0
                  try clear c2b1
                  try clear p2
                  try clear q2
                  try clear hx2
                  try clear c3
                  try clear c3b0
                  try clear c4
                  try clear c4b0
                  try clear p5
                  try clear q5
                  try clear hx5
                  try clear p6
                  try clear q6
                  try clear hx6
                  try clear c8
                  try clear c8b0
                  try clear c8b1
                  try clear c10
                  try clear c10b0
                  try clear c12
                  try clear c12b0
                  try clear c13
                  try clear c13b0
                  try clear p14
                  try clear q14
                  try clear hx14
                  try clear c16
                  try clear c16b0
                  try clear c18
                  try clear c18b0
                  try clear c19
                  try clear c19b0
                  try clear p20
                  try clear q20
                  try clear hx20
                  try clear p14
                  try clear p2
                  try clear p20
                  try clear p5
                  try clear p6
                  try clear q14
                  try clear q20
                  try clear q5
                  try clear q6
                  obtain ⟨kq, x44_8, rfl, HA, HJ8, HB⟩ := hcut
                  cases kq with
                  | zero => exact absurd HA.out (by simp [spec_EscNorm.j1])
                  | succ kj8 =>
                    have H := HA.out
                    clear HA
                    simp only [spec_EscNorm.j1] at H
                    by_cases c22 : x44_8 = true
                    · subst c22
                      have H1 : (some ((⟨#[]⟩ : ByteArray), false)) = some (r1, r2) := by rw [if_pos rfl] at H; exact H
                      clear H
                      have H := H1
                      clear H1
                      simp only [Option.some.injEq, Prod.mk.injEq] at H
                      obtain ⟨rfl, rfl⟩ := H
                      go_wp2
                      repeat (go_quiet (fail); try go_wp2)
                      go_ret2
                      exact ⟨by first | rfl | (simp [errW_none, errW_some] <;> rfl) | (simp [*, errW_none, errW_some] <;> rfl), by repeat (first | (with_reducible first | exact HB.out | apply below_alloc | apply pw_below_drewN | apply below_drew1) | exact HB.out)⟩
                    · replace c22 := Bool.eq_false_iff.mpr c22
                      subst c22
                      have H1 : (if 0 ≤ (wrap64 (x5_1 + 1)) then (if (wrap64 (x5_1 + 1)) < (a0.size : Int) then ((spec_l1Hex.f kj8 (bt a0 (wrap64 (x5_1 + 1)))).bind fun t189 => (if 0 ≤ (wrap64 (x5_1 + 2)) then (if (wrap64 (x5_1 + 2)) < (a0.size : Int) then ((spec_l1Hex.f kj8 (bt a0 (wrap64 (x5_1 + 2)))).bind fun t190 => (spec_EscNorm.j2 kj8 a0 x4_1 (wrap64 (x5_1 + 2)) (wrap64 ((wrap64 (t189 * 16)) + t190)))) else (none)) else (none))) else (none)) else (none)) = some (r1, r2) := by rw [if_neg (show ¬ (false = true) by decide)] at H; exact H
                      clear H
                      have H := H1
                      clear H1
                      obtain ⟨ji23, hji23⟩ : ∃ j_ : Int, (wrap64 (x5_1 + 1)) = j_ := ⟨_, rfl⟩
                      replace H : (if 0 ≤ (ji23) then (if (ji23) < (a0.size : Int) then ((spec_l1Hex.f kj8 (bt a0 (ji23))).bind fun t189 => (if 0 ≤ (wrap64 (x5_1 + 2)) then (if (wrap64 (x5_1 + 2)) < (a0.size : Int) then ((spec_l1Hex.f kj8 (bt a0 (wrap64 (x5_1 + 2)))).bind fun t190 => (spec_EscNorm.j2 kj8 a0 x4_1 (wrap64 (x5_1 + 2)) (wrap64 ((wrap64 (t189 * 16)) + t190)))) else (none)) else (none))) else (none)) else (none)) = some (r1, r2) := by first | (rw [hji23] at H; exact H) | (simp only [hji23] at H ⊢; exact H)
                      have hji23w : (IntKind.i64.wrap (x5_1 + 1)) = ji23 := (i64_w _).trans hji23
                      by_cases c24 : 0 ≤ (ji23)
                      · rw [if_pos c24] at H
                        have c24b0 : decide (0 ≤ (ji23)) = true := decide_eq_true c24
                        clear c24
                        by_cases c25 : (ji23) < (a0.size : Int)
                        · rw [if_pos c25] at H
                          have c25b0 : decide ((ji23) < (a0.size : Int)) = true := decide_eq_true c25
                          clear c25
                          replace H := Option.bind_eq_some_iff.mp H
                          obtain ⟨t189, A270, H⟩ := H
                          replace H : (if 0 ≤ (wrap64 (x5_1 + 2)) then (if (wrap64 (x5_1 + 2)) < (a0.size : Int) then ((spec_l1Hex.f kj8 (bt a0 (wrap64 (x5_1 + 2)))).bind fun t190 => (spec_EscNorm.j2 kj8 a0 x4_1 (wrap64 (x5_1 + 2)) (wrap64 ((wrap64 (t189 * 16)) + t190)))) else (none)) else (none)) = some (r1, r2) := H
                          have A27 := Aside0.mk A270
                          clear A270
                          obtain ⟨ji28, hji28⟩ : ∃ j_ : Int, (wrap64 (x5_1 + 2)) = j_ := ⟨_, rfl⟩
                          replace H : (if 0 ≤ (ji28) then (if (ji28) < (a0.size : Int) then ((spec_l1Hex.f kj8 (bt a0 (ji28))).bind fun t190 => (spec_EscNorm.j2 kj8 a0 x4_1 ji28 (wrap64 ((wrap64 (t189 * 16)) + t190)))) else (none)) else (none)) = some (r1, r2) := by first | (rw [hji28] at H; exact H) | (simp only [hji28] at H ⊢; exact H)
                          (try rw [hji28] at A27)
                          have hji28w : (IntKind.i64.wrap (x5_1 + 2)) = ji28 := (i64_w _).trans hji28
                          by_cases c29 : 0 ≤ (ji28)
                          · rw [if_pos c29] at H
                            have c29b0 : decide (0 ≤ (ji28)) = true := decide_eq_true c29
                            clear c29
                            by_cases c30 : (ji28) < (a0.size : Int)
                            · rw [if_pos c30] at H
                              have c30b0 : decide ((ji28) < (a0.size : Int)) = true := decide_eq_true c30
                              clear c30
                              replace H := Option.bind_eq_some_iff.mp H
                              obtain ⟨t190, A320, H⟩ := H
                              replace H : (spec_EscNorm.j2 kj8 a0 x4_1 ji28 (wrap64 ((wrap64 (t189 * 16)) + t190))) = some (r1, r2) := H
                              have A32 := Aside0.mk A320
                              clear A320
                              have H' := Aside0.mk H
                              clear H
                              have p26 : 0 ≤ ((ji23) : Int) := of_decide_eq_true (by first | (with_reducible assumption) | assumption)
                              have q26 : (ji23) < (a0.size : Int) := of_decide_eq_true (by first | (with_reducible assumption) | assumption)
                              have hx26 := bt_at a0 (ji23)
                              replace p26 := eq_true p26
                              replace q26 := eq_true q26
                              go_wp2_with (first | (go_at_call 42; (with_reducible refine (spec_l1Hex.calls kj8 (bt a0 (ji23)) t189 _ A27.out).mono ?_); rintro e w' ⟨rfl, ⟨nd, rfl⟩⟩; (try first | exact ⟨rfl, _, World.drewN_drewN _ _ _⟩ | exact ⟨rfl, _, Eq.trans (World.drewN_drewN _ _ _) (congrArg (World.drewN _) (Nat.add_assoc _ _ _))⟩); have p31 : 0 ≤ ((ji28) : Int) := of_decide_eq_true (by first | (with_reducible assumption) | assumption); have q31 : (ji28) < (a0.size : Int) := of_decide_eq_true (by first | (with_reducible assumption) | assumption); have hx31 := bt_at a0 (ji28); replace p31 := eq_true p31; replace q31 := eq_true q31) | (go_at_call 42; (with_reducible refine (spec_l1Hex.calls kj8 (bt a0 (ji28)) t190 _ A32.out).mono ?_); rintro e w' ⟨rfl, ⟨nd, rfl⟩⟩; (try first | exact ⟨rfl, _, World.drewN_drewN _ _ _⟩ | exact ⟨rfl, _, Eq.trans (World.drewN_drewN _ _ _) (congrArg (World.drewN _) (Nat.add_assoc _ _ _))⟩)))
                              repeat (go_quiet (first | (go_at_call 42; (with_reducible refine (spec_l1Hex.calls kj8 (bt a0 (ji23)) t189 _ A27.out).mono ?_); rintro e w' ⟨rfl, ⟨nd, rfl⟩⟩; (try first | exact ⟨rfl, _, World.drewN_drewN _ _ _⟩ | exact ⟨rfl, _, Eq.trans (World.drewN_drewN _ _ _) (congrArg (World.drewN _) (Nat.add_assoc _ _ _))⟩); have p31 : 0 ≤ ((ji28) : Int) := of_decide_eq_true (by first | (with_reducible assumption) | assumption); have q31 : (ji28) < (a0.size : Int) := of_decide_eq_true (by first | (with_reducible assumption) | assumption); have hx31 := bt_at a0 (ji28); replace p31 := eq_true p31; replace q31 := eq_true q31) | (go_at_call 42; (with_reducible refine (spec_l1Hex.calls kj8 (bt a0 (ji28)) t190 _ A32.out).mono ?_); rintro e w' ⟨rfl, ⟨nd, rfl⟩⟩; (try first | exact ⟨rfl, _, World.drewN_drewN _ _ _⟩ | exact ⟨rfl, _, Eq.trans (World.drewN_drewN _ _ _) (congrArg (World.drewN _) (Nat.add_assoc _ _ _))⟩))); try go_wp2_with (first | (go_at_call 42; (with_reducible refine (spec_l1Hex.calls kj8 (bt a0 (ji23)) t189 _ A27.out).mono ?_); rintro e w' ⟨rfl, ⟨nd, rfl⟩⟩; (try first | exact ⟨rfl, _, World.drewN_drewN _ _ _⟩ | exact ⟨rfl, _, Eq.trans (World.drewN_drewN _ _ _) (congrArg (World.drewN _) (Nat.add_assoc _ _ _))⟩); have p31 : 0 ≤ ((ji28) : Int) := of_decide_eq_true (by first | (with_reducible assumption) | assumption); have q31 : (ji28) < (a0.size : Int) := of_decide_eq_true (by first | (with_reducible assumption) | assumption); have hx31 := bt_at a0 (ji28); replace p31 := eq_true p31; replace q31 := eq_true q31) | (go_at_call 42; (with_reducible refine (spec_l1Hex.calls kj8 (bt a0 (ji28)) t190 _ A32.out).mono ?_); rintro e w' ⟨rfl, ⟨nd, rfl⟩⟩; (try first | exact ⟨rfl, _, World.drewN_drewN _ _ _⟩ | exact ⟨rfl, _, Eq.trans (World.drewN_drewN _ _ _) (congrArg (World.drewN _) (Nat.add_assoc _ _ _))⟩))))
                              go_meet
                              case rel => exact ⟨_, (ji28), (wrap64 ((wrap64 (t189 * 16)) + t190)), (by first | rfl | (simp only [i64_w, i32_w]; done) | (simp only [aid_isEmpty, aid_isEmpty2]; done) | (simp; done) | (simp only [← hji28] <;> (first | rfl | simp)) | (simp [*]; done)), (by first | rfl | (simp only [i64_w, i32_w]; done) | (simp only [aid_isEmpty, aid_isEmpty2]; done) | (simp; done) | (simp [*]; done)), H', ⟨by have := HK1.out; have := HJ8.out; first | omega | exact Nat.le_refl _⟩, ⟨by repeat (first | (with_reducible first | exact HB.out | apply below_alloc | apply pw_below_drewN | apply below_drew1) | exact HB.out)⟩⟩
                            · rw [if_neg c30] at H
                              exact absurd H (by simp)
                          · rw [if_neg c29] at H
                            exact absurd H (by simp)
                        · rw [if_neg c25] at H
                          exact absurd H (by simp)
                      · rw [if_neg c24] at H
                        exact absurd H (by simp)
              · rw [if_neg c8] at H
                have c8b0 : ((bt a0 x5_1) == 37) = false := beq_eq_false_iff_ne.mpr c8
                have c8b1 : ((bt a0 x5_1) != 37) = true := bne_iff_ne.mpr c8
                (first | rw [c8b0] | (simp only [i64_w, i32_w]; rw [c8b0]) | skip)
                have H' := Aside0.mk H
                clear H
                go_wp2
                repeat (go_quiet (fail); try go_wp2)
                go_meet
                case rel => exact ⟨_, (x5_1), (wrap64 (bt a0 x5_1)), (by first | rfl | (simp only [i64_w, i32_w]; done) | (simp only [aid_isEmpty, aid_isEmpty2]; done) | (simp; done) | (simp [*]; done)), (by first | rfl | (simp only [i64_w, i32_w]; done) | (simp only [aid_isEmpty, aid_isEmpty2]; done) | (simp; done) | (simp [*]; done)), H', ⟨by have := HK1.out; first | omega | exact Nat.le_refl _⟩, ⟨by repeat (first | (with_reducible first | exact HB.out | apply below_alloc | apply pw_below_drewN | apply below_drew1) | exact HB.out)⟩⟩
            case rest =>
              clear HC7
              try clear c1
              try clear p1
              try clear q1
              try clear hx1
              try clear c2
              try clear c2b0
              try clear c2b1
              try clear p2
              try clear q2
              try clear hx2
              try clear c3
              try clear c3b0
              try clear p3
              try clear q3
              try clear hx3
              try clear c4
              try clear c4b0
              try clear p5
              try clear q5
              try clear hx5
              try clear p6
              try clear q6
              try clear hx6
              try clear c8
              try clear c8b0
              try clear c8b1
              try clear c10
              try clear c10b0
              try clear c12
              try clear c12b0
              try clear c13
              try clear c13b0
              try clear p14
              try clear q14
              try clear hx14
              try clear c16
              try clear c16b0
              try clear c18
              try clear c18b0
              try clear c19
              try clear c19b0
              try clear p20
              try clear q20
              try clear hx20
              try clear c22
              try clear c24
              try clear c24b0
              try clear c25
              try clear c25b0
              try clear p26
              try clear q26
              try clear hx26
              try clear c29
              try clear c29b0
              try clear c30
              try clear c30b0
              try clear p31
              try clear q31
              try clear hx31
              try clear p1
              try clear p14
              try clear p2
              try clear p20
              try clear p26
              try clear p31
              try clear p5
              try clear p6
              try clear q1
              try clear q14
              try clear q2
              try clear q20
              try clear q26
              try clear q31
              try clear q5
              try clear q6
              obtain ⟨kq, x5_6, x6_6, rfl, rfl, HA, HJ6, HB⟩ := hcut
              cases kq with
              | zero => exact absurd HA.out (by simp [spec_EscNorm.j2])
              | succ kj6 =>
                have H := HA.out
                clear HA
                simp only [spec_EscNorm.j2] at H
                replace H := Option.bind_eq_some_iff.mp H
                obtain ⟨t191, A330, H⟩ := H
                replace H : (if t191 = true then ((some (([(x6_6) % 256] : List Int) : List Int)).bind fun y192 => (if x4_1.size + (strOfNums y192).size ≤ 9223372036854775807 then (spec_EscNorm.l0 kj6 a0 (x4_1 ++ (strOfNums y192)) (wrap64 (x5_6 + 1))) else (none))) else ((spec_l1Sign.f x6_6).bind fun t195 => (if x4_1.size + t195.size ≤ 9223372036854775807 then (spec_EscNorm.l0 kj6 a0 (x4_1 ++ t195) (wrap64 (x5_6 + 1))) else (none)))) = some (r1, r2) := H
                have A33 := Aside0.mk A330
                clear A330
                by_cases c34 : t191 = true
                · subst c34
                  have H1 : ((some (([(x6_6) % 256] : List Int) : List Int)).bind fun y192 => (if x4_1.size + (strOfNums y192).size ≤ 9223372036854775807 then (spec_EscNorm.l0 kj6 a0 (x4_1 ++ (strOfNums y192)) (wrap64 (x5_6 + 1))) else (none))) = some (r1, r2) := by rw [if_pos rfl] at H; exact H
                  clear H
                  have H := H1
                  clear H1
                  obtain ⟨y192, hy192⟩ : ∃ y_ : List Int, y_ = (([(x6_6) % 256] : List Int)) := ⟨_, rfl⟩
                  replace H : (if x4_1.size + (strOfNums y192).size ≤ 9223372036854775807 then (spec_EscNorm.l0 kj6 a0 (x4_1 ++ (strOfNums y192)) (wrap64 (x5_6 + 1))) else (none)) = some (r1, r2) := by first | (rw [hy192]; with_reducible exact H) | (have H2_ := (Option.bind_some _ _).symm.trans H; rw [hy192]; with_reducible exact H2_) | (have H2_ := (Option.bind_some _ _).symm.trans H; with_reducible exact H2_) | with_reducible exact H | (rw [hy192]; exact H) | exact H
                  have Ny192 := Aside0.mk hy192
                  clear hy192
                  by_cases c35 : x4_1.size + (strOfNums y192).size ≤ 9223372036854775807
                  · rw [if_pos c35] at H
                    have c35b0 := eq_true c35
                    have c35b1 : decide (x4_1.size + (strOfNums y192).size ≤ 9223372036854775807) = true := decide_eq_true c35
                    try have c35b2 : (9223372036854775807 < x4_1.size + (strOfNums y192).size) = False := eq_false (Nat.not_lt.2 c35)
                    have H' := Aside0.mk H
                    clear H
                    go_wp2_with (first | (go_at_call 43; (with_reducible refine (spec_l1Plain.calls ((x6_6) % 256) true _ A33.out).mono ?_); rintro e w' ⟨rfl, ⟨nd, rfl⟩⟩; (try first | exact ⟨rfl, _, World.drewN_drewN _ _ _⟩ | exact ⟨rfl, _, Eq.trans (World.drewN_drewN _ _ _) (congrArg (World.drewN _) (Nat.add_assoc _ _ _))⟩)) | ((with_reducible refine gate_dst (N := 65) rfl ?_); refine Kd.R_lit (Kd.int .u8) _ 5 ?hg (N := 65) ?hd (xs := ([(x6_6) % 256] : List Int)) (inner := [.int .u8 ((x6_6) % 256)]) (ok := fun _ => True) (okp := fun _ => True) ?hr ?hp (fun _ hk => hk) trivial (Below.refl _ _) (Nat.le_refl _) (by simp) ?_; (case hd => rfl); (case hg => rfl); (case hr => first | (go_simp; done) | (go_simp; rfl)); (case hp => exact (Reps.one (show Kd.M (Kd.int .u8) _ _ _ ((x6_6) % 256) [.int .u8 ((x6_6) % 256)] from rfl) (Reps.none _ _))); intro v193 w36 ho37 hb hg_ hnew_; clear hg_ hnew_; (first | rw [← Ny192.out] at ho37 | (simp only [Int.reduceToNat] at ho37; rw [← Ny192.out] at ho37)); have n0_ := Aside0.mk (Kd.R_lower ho37 (below_size (by repeat (first | (with_reducible first | exact HB.out | apply below_alloc | apply pw_below_drewN | apply below_drew1) | exact HB.out)))); have n1_ := Aside0.mk (below_step (by repeat (first | (with_reducible first | exact HB.out | apply below_alloc | apply pw_below_drewN | apply below_drew1) | exact HB.out)) hb); clear HB; have HO194 := n0_; have HB := n1_; clear n0_ n1_; clear hb ho37; have hcv38 := own_string (P := Try.prog) Try.underlying29 Try.underlying5 Try.underlying9 (Kd.own_of_R HO194.out)))
                    repeat (go_quiet (first | (go_at_call 43; (with_reducible refine (spec_l1Plain.calls ((x6_6) % 256) true _ A33.out).mono ?_); rintro e w' ⟨rfl, ⟨nd, rfl⟩⟩; (try first | exact ⟨rfl, _, World.drewN_drewN _ _ _⟩ | exact ⟨rfl, _, Eq.trans (World.drewN_drewN _ _ _) (congrArg (World.drewN _) (Nat.add_assoc _ _ _))⟩)) | ((with_reducible refine gate_dst (N := 65) rfl ?_); refine Kd.R_lit (Kd.int .u8) _ 5 ?hg (N := 65) ?hd (xs := ([(x6_6) % 256] : List Int)) (inner := [.int .u8 ((x6_6) % 256)]) (ok := fun _ => True) (okp := fun _ => True) ?hr ?hp (fun _ hk => hk) trivial (Below.refl _ _) (Nat.le_refl _) (by simp) ?_; (case hd => rfl); (case hg => rfl); (case hr => first | (go_simp; done) | (go_simp; rfl)); (case hp => exact (Reps.one (show Kd.M (Kd.int .u8) _ _ _ ((x6_6) % 256) [.int .u8 ((x6_6) % 256)] from rfl) (Reps.none _ _))); intro v193 w36 ho37 hb hg_ hnew_; clear hg_ hnew_; (first | rw [← Ny192.out] at ho37 | (simp only [Int.reduceToNat] at ho37; rw [← Ny192.out] at ho37)); have n0_ := Aside0.mk (Kd.R_lower ho37 (below_size (by repeat (first | (with_reducible first | exact HB.out | apply below_alloc | apply pw_below_drewN | apply below_drew1) | exact HB.out)))); have n1_ := Aside0.mk (below_step (by repeat (first | (with_reducible first | exact HB.out | apply below_alloc | apply pw_below_drewN | apply below_drew1) | exact HB.out)) hb); clear HB; have HO194 := n0_; have HB := n1_; clear n0_ n1_; clear hb ho37; have hcv38 := own_string (P := Try.prog) Try.underlying29 Try.underlying5 Try.underlying9 (Kd.own_of_R HO194.out))); try go_wp2_with (first | (go_at_call 43; (with_reducible refine (spec_l1Plain.calls ((x6_6) % 256) true _ A33.out).mono ?_); rintro e w' ⟨rfl, ⟨nd, rfl⟩⟩; (try first | exact ⟨rfl, _, World.drewN_drewN _ _ _⟩ | exact ⟨rfl, _, Eq.trans (World.drewN_drewN _ _ _) (congrArg (World.drewN _) (Nat.add_assoc _ _ _))⟩)) | ((with_reducible refine gate_dst (N := 65) rfl ?_); refine Kd.R_lit (Kd.int .u8) _ 5 ?hg (N := 65) ?hd (xs := ([(x6_6) % 256] : List Int)) (inner := [.int .u8 ((x6_6) % 256)]) (ok := fun _ => True) (okp := fun _ => True) ?hr ?hp (fun _ hk => hk) trivial (Below.refl _ _) (Nat.le_refl _) (by simp) ?_; (case hd => rfl); (case hg => rfl); (case hr => first | (go_simp; done) | (go_simp; rfl)); (case hp => exact (Reps.one (show Kd.M (Kd.int .u8) _ _ _ ((x6_6) % 256) [.int .u8 ((x6_6) % 256)] from rfl) (Reps.none _ _))); intro v193 w36 ho37 hb hg_ hnew_; clear hg_ hnew_; (first | rw [← Ny192.out] at ho37 | (simp only [Int.reduceToNat] at ho37; rw [← Ny192.out] at ho37)); have n0_ := Aside0.mk (Kd.R_lower ho37 (below_size (by repeat (first | (with_reducible first | exact HB.out | apply below_alloc | apply pw_below_drewN | apply below_drew1) | exact HB.out)))); have n1_ := Aside0.mk (below_step (by repeat (first | (with_reducible first | exact HB.out | apply below_alloc | apply pw_below_drewN | apply below_drew1) | exact HB.out)) hb); clear HB; have HO194 := n0_; have HB := n1_; clear n0_ n1_; clear hb ho37; have hcv38 := own_string (P := Try.prog) Try.underlying29 Try.underlying5 Try.underlying9 (Kd.own_of_R HO194.out))))
                    go_roundg kj6
                    case measure => have := HK1.out; have := HJ6.out; omega
                    case rel => exact ⟨(x4_1 ++ (strOfNums y192)), (wrap64 (x5_6 + 1)), (by first | rfl | (simp only [i64_w, i32_w]; done) | (simp only [aid_isEmpty, aid_isEmpty2]; done) | (simp; done) | (simp [*]; done)), (by first | rfl | (simp only [i64_w, i32_w]; done) | (simp only [aid_isEmpty, aid_isEmpty2]; done) | (simp; done) | (simp [*]; done)), H', ⟨by have := HK1.out; have := HJ6.out; omega⟩, ⟨by repeat (first | (with_reducible first | exact HB.out | apply below_alloc | apply pw_below_drewN | apply below_drew1) | exact HB.out)⟩⟩
                  · rw [if_neg c35] at H
                    exact absurd H (by simp)
                · replace c34 := Bool.eq_false_iff.mpr c34
                  subst c34
                  have H1 : ((spec_l1Sign.f x6_6).bind fun t195 => (if x4_1.size + t195.size ≤ 9223372036854775807 then (spec_EscNorm.l0 kj6 a0 (x4_1 ++ t195) (wrap64 (x5_6 + 1))) else (none))) = some (r1, r2) := by rw [if_neg (show ¬ (false = true) by decide)] at H; exact H
                  clear H
                  have H := H1
                  clear H1
                  replace H := Option.bind_eq_some_iff.mp H
                  obtain ⟨t195, A390, H⟩ := H
                  replace H : (if x4_1.size + t195.size ≤ 9223372036854775807 then (spec_EscNorm.l0 kj6 a0 (x4_1 ++ t195) (wrap64 (x5_6 + 1))) else (none)) = some (r1, r2) := H
                  have A39 := Aside0.mk A390
                  clear A390
                  by_cases c40 : x4_1.size + t195.size ≤ 9223372036854775807
                  · rw [if_pos c40] at H
                    have c40b0 := eq_true c40
                    have c40b1 : decide (x4_1.size + t195.size ≤ 9223372036854775807) = true := decide_eq_true c40
                    try have c40b2 : (9223372036854775807 < x4_1.size + t195.size) = False := eq_false (Nat.not_lt.2 c40)
                    have H' := Aside0.mk H
                    clear H
                    go_wp2_with (first | (go_at_call 43; (with_reducible refine (spec_l1Plain.calls ((x6_6) % 256) false _ A33.out).mono ?_); rintro e w' ⟨rfl, ⟨nd, rfl⟩⟩; (try first | exact ⟨rfl, _, World.drewN_drewN _ _ _⟩ | exact ⟨rfl, _, Eq.trans (World.drewN_drewN _ _ _) (congrArg (World.drewN _) (Nat.add_assoc _ _ _))⟩)) | (go_at_call 44; (with_reducible refine (spec_l1Sign.calls x6_6 t195 _ A39.out).mono ?_); rintro e w' ⟨rfl, ⟨nd, rfl⟩⟩; (try first | exact ⟨rfl, _, World.drewN_drewN _ _ _⟩ | exact ⟨rfl, _, Eq.trans (World.drewN_drewN _ _ _) (congrArg (World.drewN _) (Nat.add_assoc _ _ _))⟩)))
                    repeat (go_quiet (first | (go_at_call 43; (with_reducible refine (spec_l1Plain.calls ((x6_6) % 256) false _ A33.out).mono ?_); rintro e w' ⟨rfl, ⟨nd, rfl⟩⟩; (try first | exact ⟨rfl, _, World.drewN_drewN _ _ _⟩ | exact ⟨rfl, _, Eq.trans (World.drewN_drewN _ _ _) (congrArg (World.drewN _) (Nat.add_assoc _ _ _))⟩)) | (go_at_call 44; (with_reducible refine (spec_l1Sign.calls x6_6 t195 _ A39.out).mono ?_); rintro e w' ⟨rfl, ⟨nd, rfl⟩⟩; (try first | exact ⟨rfl, _, World.drewN_drewN _ _ _⟩ | exact ⟨rfl, _, Eq.trans (World.drewN_drewN _ _ _) (congrArg (World.drewN _) (Nat.add_assoc _ _ _))⟩))); try go_wp2_with (first | (go_at_call 43; (with_reducible refine (spec_l1Plain.calls ((x6_6) % 256) false _ A33.out).mono ?_); rintro e w' ⟨rfl, ⟨nd, rfl⟩⟩; (try first | exact ⟨rfl, _, World.drewN_drewN _ _ _⟩ | exact ⟨rfl, _, Eq.trans (World.drewN_drewN _ _ _) (congrArg (World.drewN _) (Nat.add_assoc _ _ _))⟩)) | (go_at_call 44; (with_reducible refine (spec_l1Sign.calls x6_6 t195 _ A39.out).mono ?_); rintro e w' ⟨rfl, ⟨nd, rfl⟩⟩; (try first | exact ⟨rfl, _, World.drewN_drewN _ _ _⟩ | exact ⟨rfl, _, Eq.trans (World.drewN_drewN _ _ _) (congrArg (World.drewN _) (Nat.add_assoc _ _ _))⟩))))
                    go_roundg kj6
                    case measure => have := HK1.out; have := HJ6.out; omega
                    case rel => exact ⟨(x4_1 ++ t195), (wrap64 (x5_6 + 1)), (by first | rfl | (simp only [i64_w, i32_w]; done) | (simp only [aid_isEmpty, aid_isEmpty2]; done) | (simp; done) | (simp [*]; done)), (by first | rfl | (simp only [i64_w, i32_w]; done) | (simp only [aid_isEmpty, aid_isEmpty2]; done) | (simp; done) | (simp [*]; done)), H', ⟨by have := HK1.out; have := HJ6.out; omega⟩, ⟨by repeat (first | (with_reducible first | exact HB.out | apply below_alloc | apply pw_below_drewN | apply below_drew1) | exact HB.out)⟩⟩
                  · rw [if_neg c40] at H
                    exact absurd H (by simp)
          · rw [if_neg c4] at H
            exact absurd H (by simp)
        · rw [if_neg c3] at H
          have c3b0 : decide (x5_1 < (a0.size : Int)) = false := decide_eq_false c3
          clear c3
          simp only [Option.some.injEq, Prod.mk.injEq] at H
          obtain ⟨rfl, rfl⟩ := H
          go_wp2
          repeat (go_quiet (fail); try go_wp2)
          go_ret2
          exact ⟨by first | rfl | (simp [errW_none, errW_some] <;> rfl) | (simp [*, errW_none, errW_some] <;> rfl), by repeat (first | (with_reducible first | exact HB.out | apply below_alloc | apply pw_below_drewN | apply below_drew1) | exact HB.out)⟩

end Go.Proofs.Ytmaleoldpmiilaa.P

/- The plain function of a Go function, and that Go comes to just its answer; its conditions are the theorem's own. Written by a program of this session (wip/pr.py). -/
namespace Go.Proofs.Ytmaleoldpmiilaa.P
open Go.RowKit Go.Proofs.YtmaleoldpmiilaaW.PrintWords Go.Proofs.YtmaleoldpmiilaaW.PrintLast Go.Proofs.YtmaleoldpmiilaaW.PrintMore
attribute [local go_sem] max2_int min2_int max_two min_two max_three min_three max_four min_four   -- for this text's walks alone
set_option linter.unusedVariables false
set_option linter.unusedSimpArgs false

/-! ### spec_l1Norm: function 38 -/
def spec_l1Norm.f (k : Nat) (a0 : ByteArray) : Option (Bool) := (spec_EscNorm.f k a0).bind fun bt196 => (if bt196.2 = true then (some (bt196.1.toList == a0.toList)) else (some false))
theorem spec_l1Norm.mono : ∀ a0 k, LeO (spec_l1Norm.f k a0) (spec_l1Norm.f (k + 1) a0) := by
  intro a0 k
  unfold spec_l1Norm.f
  repeat' first
      | (with_reducible exact spec_EscNorm.mono _ _)
      | (with_reducible exact LeO.refl _)
      | (with_reducible exact LeO.none _)
      | (with_reducible refine LeO.ite ?_ ?_)
      | (with_reducible refine LeO.bind ?_ (fun _ => ?_))
      | exact spec_EscNorm.mono _ _
      | exact LeO.none _
      | refine LeO.ite ?_ ?_
      | refine LeO.bind ?_ (fun _ => ?_)
set_option maxHeartbeats 8000000 in
set_option maxRecDepth 100000 in
theorem spec_l1Norm.calls (k : Nat) (a0 : ByteArray) (r : Bool) (w : World) (h : spec_l1Norm.f k a0 = some r) :
    Calls Try.prog 38 #[.string a0] w fun e w' => e = .returned (.bool r) ∧ Below w.heap.size w w' := by
  have HB := Aside0.mk (Below.refl w.heap.size w)
  have H : ((spec_EscNorm.f k a0).bind fun bt196 => (if bt196.2 = true then (some (bt196.1.toList == a0.toList)) else (some false))) = some r := h
  clear h
  replace H := Option.bind_eq_some_iff.mp H
  obtain ⟨⟨t196, t197⟩, A20, H⟩ := H
  replace H : (if t197 = true then (some (t196.toList == a0.toList)) else (some false)) = some r := H
  have A2 := Aside0.mk A20
  clear A20
  by_cases c3 : t197 = true
  · subst c3
    have H1 : (some (t196.toList == a0.toList)) = some r := by rw [if_pos rfl] at H; exact H
    clear H
    have H := H1
    clear H1
    obtain rfl := Option.some.inj H
    go_enter Try.func38, Try.ntmps38
    go_wp2_with (first | ((with_reducible refine gate_callee (f := 41) rfl ?_); refine goesL_ (some 7) rfl rfl Try.func41 (by kernel_rfl) rfl #[.string a0] rfl (by (try simp only [List.map_toArray, List.map_cons, List.map_nil]); first | done | rfl | (simp only [List.length_drop, List.length_take]; rfl)) ?_; (with_reducible refine (spec_EscNorm.calls k a0 t196 true _ A2.out).mono ?_); rintro e w4 ⟨rfl, hb⟩; refine ⟨_, rfl, ?_⟩; have n0_ := Aside0.mk (below_step (by repeat (first | (with_reducible first | exact HB.out | apply below_alloc | apply pw_below_drewN | apply below_drew1) | exact HB.out)) hb); clear HB; have HB := n0_; clear n0_; (try clear hb); (try clear hb2); (try clear hk); (try clear hi)))
    go_ret
    exact ⟨by first | rfl | (simp [errW_none, errW_some] <;> rfl) | (simp [*, errW_none, errW_some] <;> rfl), by repeat (first | (with_reducible first | exact HB.out | apply below_alloc | apply pw_below_drewN | apply below_drew1) | exact HB.out)⟩
  · replace c3 := Bool.eq_false_iff.mpr c3
    subst c3
    have H1 : (some false) = some r := by rw [if_neg (show ¬ (false = true) by decide)] at H; exact H
    clear H
    have H := H1
    clear H1
    obtain rfl := Option.some.inj H
    go_enter Try.func38, Try.ntmps38
    go_wp2_with (first | ((with_reducible refine gate_callee (f := 41) rfl ?_); refine goesL_ (some 7) rfl rfl Try.func41 (by kernel_rfl) rfl #[.string a0] rfl (by (try simp only [List.map_toArray, List.map_cons, List.map_nil]); first | done | rfl | (simp only [List.length_drop, List.length_take]; rfl)) ?_; (with_reducible refine (spec_EscNorm.calls k a0 t196 false _ A2.out).mono ?_); rintro e w5 ⟨rfl, hb⟩; refine ⟨_, rfl, ?_⟩; have n0_ := Aside0.mk (below_step (by repeat (first | (with_reducible first | exact HB.out | apply below_alloc | apply pw_below_drewN | apply below_drew1) | exact HB.out)) hb); clear HB; have HB := n0_; clear n0_; (try clear hb); (try clear hb2); (try clear hk); (try clear hi)))
    go_ret
    exact ⟨by first | rfl | (simp [errW_none, errW_some] <;> rfl) | (simp [*, errW_none, errW_some] <;> rfl), by repeat (first | (with_reducible first | exact HB.out | apply below_alloc | apply pw_below_drewN | apply below_drew1) | exact HB.out)⟩

end Go.Proofs.Ytmaleoldpmiilaa.P

/- The plain function of a Go function, and that Go comes to just its answer; its conditions are the theorem's own. Written by a program of this session (wip/pr.py). -/
namespace Go.Proofs.Ytmaleoldpmiilaa.P
open Go.RowKit Go.Proofs.YtmaleoldpmiilaaW.PrintWords Go.Proofs.YtmaleoldpmiilaaW.PrintLast Go.Proofs.YtmaleoldpmiilaaW.PrintMore
attribute [local go_sem] max2_int min2_int max_two min_two max_three min_three max_four min_four   -- for this text's walks alone
set_option linter.unusedVariables false
set_option linter.unusedSimpArgs false

/-! ### spec_AddrOk: function 35 -/
mutual
def spec_AddrOk.j0 : Nat → Bool → ByteArray → List ByteArray → Bool → ByteArray → Option (Bool)
  | 0, _, _, _, _, _ => none
  | k + 1, x29, x199000, x199001, x199002, x199003 => if x29 = true then (some false) else (spec_AddrOk.l0 k 0 x199000 x199001 x199002 x199003)
def spec_AddrOk.l0 : Nat → Int → ByteArray → List ByteArray → Bool → ByteArray → Option (Bool)
  | 0, _, _, _, _, _ => none
  | k + 1, x3, x199000, x199001, x199002, x199003 => if x3 < (x199001.length : Int) then (if 0 ≤ x3 then ((spec_l1Norm.f k (rdOf ByteArray.empty x199001 x3)).bind fun t202 => (if t202 = true then (if (rdOf ByteArray.empty x199001 x3).toList = ([] : List UInt8) then (some false) else (if (rdOf ByteArray.empty x199001 x3).toList = ([46] : List UInt8) then (some false) else (if (rdOf ByteArray.empty x199001 x3).toList = ([46, 46] : List UInt8) then (some false) else (spec_AddrOk.l0 k (wrap64 (x3 + 1)) x199000 x199001 x199002 x199003)))) else (some false))) else (none)) else ((spec_l1Text.f k x199000 x199001 x199002 x199003).bind fun t206 => (some (decide ((t206.size : Int) ≤ 60))))
end
def spec_AddrOk.f (k : Nat) (a0_0 : ByteArray) (l0_1 : List ByteArray) (a0_2 : Bool) (a0_3 : ByteArray) : Option (Bool) := (spec_l1House.f k a0_0).bind fun t199 => (if t199 = true then (if (l0_1.length : Int) > 5 then (spec_AddrOk.j0 k true a0_0 l0_1 a0_2 a0_3) else ((spec_l1Norm.f k a0_3).bind fun t200 => (if t200 = true then (if a0_2 = true then (spec_AddrOk.j0 k false a0_0 l0_1 a0_2 a0_3) else (spec_AddrOk.j0 k (a0_3.toList != ([] : List UInt8)) a0_0 l0_1 a0_2 a0_3)) else (spec_AddrOk.j0 k true a0_0 l0_1 a0_2 a0_3)))) else (spec_AddrOk.j0 k true a0_0 l0_1 a0_2 a0_3))
theorem spec_AddrOk.mono_l : ∀ k, (∀ y0 y1 y2 y3 y4, LeO (spec_AddrOk.j0 k y0 y1 y2 y3 y4) (spec_AddrOk.j0 (k + 1) y0 y1 y2 y3 y4)) ∧ (∀ y0 y1 y2 y3 y4, LeO (spec_AddrOk.l0 k y0 y1 y2 y3 y4) (spec_AddrOk.l0 (k + 1) y0 y1 y2 y3 y4))
  | 0 => ⟨fun _ _ _ _ _ r h => by simp [spec_AddrOk.j0] at h, fun _ _ _ _ _ r h => by simp [spec_AddrOk.l0] at h⟩
  | k + 1 => by
    obtain ⟨ih0, ih1⟩ := spec_AddrOk.mono_l k
    refine ⟨?_, ?_⟩
    · intro y0 y1 y2 y3 y4
      unfold spec_AddrOk.j0
      repeat' first
      | (with_reducible exact ih0 _ _ _ _ _)
      | (with_reducible exact ih1 _ _ _ _ _)
      | (with_reducible exact spec_l1House.mono _ _)
      | (with_reducible exact spec_l1Norm.mono _ _)
      | (with_reducible exact spec_l1Text.mono _ _ _ _ _)
      | (with_reducible exact LeO.refl _)
      | (with_reducible exact LeO.none _)
      | (with_reducible refine LeO.ite ?_ ?_)
      | (with_reducible refine LeO.bind ?_ (fun _ => ?_))
      | exact ih0 _ _ _ _ _
      | exact ih1 _ _ _ _ _
      | exact spec_l1House.mono _ _
      | exact spec_l1Norm.mono _ _
      | exact spec_l1Text.mono _ _ _ _ _
      | exact LeO.none _
      | refine LeO.ite ?_ ?_
      | refine LeO.bind ?_ (fun _ => ?_)
    · intro y0 y1 y2 y3 y4
      unfold spec_AddrOk.l0
      repeat' first
      | (with_reducible exact ih0 _ _ _ _ _)
      | (with_reducible exact ih1 _ _ _ _ _)
      | (with_reducible exact spec_l1House.mono _ _)
      | (with_reducible exact spec_l1Norm.mono _ _)
      | (with_reducible exact spec_l1Text.mono _ _ _ _ _)
      | (with_reducible exact LeO.refl _)
      | (with_reducible exact LeO.none _)
      | (with_reducible refine LeO.ite ?_ ?_)
      | (with_reducible refine LeO.bind ?_ (fun _ => ?_))
      | exact ih0 _ _ _ _ _
      | exact ih1 _ _ _ _ _
      | exact spec_l1House.mono _ _
      | exact spec_l1Norm.mono _ _
      | exact spec_l1Text.mono _ _ _ _ _
      | exact LeO.none _
      | refine LeO.ite ?_ ?_
      | refine LeO.bind ?_ (fun _ => ?_)
theorem spec_AddrOk.mono : ∀ a0 a1 a2 a3 k, LeO (spec_AddrOk.f k a0 a1 a2 a3) (spec_AddrOk.f (k + 1) a0 a1 a2 a3) := by
  intro a0 a1 a2 a3 k
  obtain ⟨ih0, ih1⟩ := spec_AddrOk.mono_l k
  unfold spec_AddrOk.f
  repeat' first
      | (with_reducible exact ih0 _ _ _ _ _)
      | (with_reducible exact ih1 _ _ _ _ _)
      | (with_reducible exact spec_l1House.mono _ _)
      | (with_reducible exact spec_l1Norm.mono _ _)
      | (with_reducible exact spec_l1Text.mono _ _ _ _ _)
      | (with_reducible exact LeO.refl _)
      | (with_reducible exact LeO.none _)
      | (with_reducible refine LeO.ite ?_ ?_)
      | (with_reducible refine LeO.bind ?_ (fun _ => ?_))
      | exact ih0 _ _ _ _ _
      | exact ih1 _ _ _ _ _
      | exact spec_l1House.mono _ _
      | exact spec_l1Norm.mono _ _
      | exact spec_l1Text.mono _ _ _ _ _
      | exact LeO.none _
      | refine LeO.ite ?_ ?_
      | refine LeO.bind ?_ (fun _ => ?_)
set_option maxHeartbeats 8000000 in
set_option maxRecDepth 100000 in
theorem spec_AddrOk.calls (k : Nat) (a0_0 : ByteArray) (A0_1 : Option Addr) (c0_1 : Nat) (l0_1 : List ByteArray) (a0_2 : Bool) (a0_3 : ByteArray) (r : Bool) (w : World) (hr0_1 : Kd.C Kd.string w A0_1 l0_1.length l0_1) (hc0_1 : l0_1.length ≤ c0_1) (h : spec_AddrOk.f k a0_0 l0_1 a0_2 a0_3 = some r) :
    Calls Try.prog 35 #[.agg #[.string a0_0, .slice A0_1 l0_1.length c0_1, .bool a0_2, .string a0_3]] w fun e w' => e = .returned (.bool r) ∧ Below w.heap.size w w' := by
  have hu46 := Try.underlying46
  have HR0_1 := Aside0.mk hr0_1
  have HC0_1 := Aside0.mk hc0_1
  clear hr0_1 hc0_1
  have HB := Aside0.mk (Below.refl w.heap.size w)
  have H : ((spec_l1House.f k a0_0).bind fun t199 => (if t199 = true then (if (l0_1.length : Int) > 5 then (spec_AddrOk.j0 k true a0_0 l0_1 a0_2 a0_3) else ((spec_l1Norm.f k a0_3).bind fun t200 => (if t200 = true then (if a0_2 = true then (spec_AddrOk.j0 k false a0_0 l0_1 a0_2 a0_3) else (spec_AddrOk.j0 k (a0_3.toList != ([] : List UInt8)) a0_0 l0_1 a0_2 a0_3)) else (spec_AddrOk.j0 k true a0_0 l0_1 a0_2 a0_3)))) else (spec_AddrOk.j0 k true a0_0 l0_1 a0_2 a0_3))) = some r := h
  clear h
  have HC2 := Aside0.mk H
  clear H
  go_enter Try.func35, Try.ntmps35
  go_upto_region 1 with (first | ((with_reducible refine gate_dst (N := 1) rfl ?_); (try (refine gate_guard (by rfl) ?_; dsimp only)); refine box_event ?hg (N := 1) ?hd (cs := #[.string a0_0, .slice A0_1 l0_1.length c0_1, .bool a0_2, .string a0_3]) (t := 46) ?hr ?_; (case hd => rfl); (case hg => rfl); (case hr => first | (go_simp; done) | (go_simp; rfl)); intro gb198 hg w3 hbox hb; have n0_ := Aside0.mk (below_step (by repeat (first | (with_reducible first | exact HB.out | apply below_alloc | apply pw_below_drewN | apply below_drew1) | exact HB.out)) hb); have n1_ := Aside0.mk (hbox); have n2_ := Aside0.mk ((by rw [hg]; exact (below_size (by repeat (first | (with_reducible first | exact HB.out | apply below_alloc | apply pw_below_drewN | apply below_drew1) | exact HB.out))) : w.heap.size ≤ gb198)); have n3_ := Aside0.mk ((by rw [hg]; exact (below_size (by repeat (first | (with_reducible first | exact HB.out | apply below_alloc | apply pw_below_drewN | apply below_drew1) | exact HB.out))) : w.heap.size ≤ gb198)); clear HB; have HB := n0_; have BK198 := n1_; have GW198 := n2_; have GE198 := n3_; clear n0_ n1_ n2_ n3_; clear hb hbox hg))
  (try simp only [Act.put, List.setIfInBounds_toArray, List.set_cons_zero, List.set_cons_succ])
  go_cut [29] (fun v29 wc => ∃ (kq : Nat) (x29_1 : Bool), v29 = .bool x29_1 ∧ Aside0 (spec_AddrOk.j0 kq x29_1 a0_0 l0_1 a0_2 a0_3 = some r) ∧ Aside0 (kq ≤ k) ∧ Aside0 (wc.heap[gb198]? = some (.cells #[.string a0_0, (.slice A0_1 l0_1.length c0_1), .bool a0_2, .string a0_3] 46 (0, 0))) ∧ Aside0 (Below w.heap.size w wc))
  case first =>
    have H := HC2.out
    clear HC2
    replace H := Option.bind_eq_some_iff.mp H
    obtain ⟨t199, A40, H⟩ := H
    replace H : (if t199 = true then (if (l0_1.length : Int) > 5 then (spec_AddrOk.j0 k true a0_0 l0_1 a0_2 a0_3) else ((spec_l1Norm.f k a0_3).bind fun t200 => (if t200 = true then (if a0_2 = true then (spec_AddrOk.j0 k false a0_0 l0_1 a0_2 a0_3) else (spec_AddrOk.j0 k (a0_3.toList != ([] : List UInt8)) a0_0 l0_1 a0_2 a0_3)) else (spec_AddrOk.j0 k true a0_0 l0_1 a0_2 a0_3)))) else (spec_AddrOk.j0 k true a0_0 l0_1 a0_2 a0_3)) = some r := H
    have A4 := Aside0.mk A40
    clear A40
    by_cases c5 : t199 = true
    · subst c5
      have H1 : (if (l0_1.length : Int) > 5 then (spec_AddrOk.j0 k true a0_0 l0_1 a0_2 a0_3) else ((spec_l1Norm.f k a0_3).bind fun t200 => (if t200 = true then (if a0_2 = true then (spec_AddrOk.j0 k false a0_0 l0_1 a0_2 a0_3) else (spec_AddrOk.j0 k (a0_3.toList != ([] : List UInt8)) a0_0 l0_1 a0_2 a0_3)) else (spec_AddrOk.j0 k true a0_0 l0_1 a0_2 a0_3)))) = some r := by rw [if_pos rfl] at H; exact H
      clear H
      have H := H1
      clear H1
      by_cases c6 : (l0_1.length : Int) > 5
      · rw [if_pos c6] at H
        have c6b0 : decide (5 < (l0_1.length : Int)) = true := decide_eq_true c6
        have c6b1 : decide (5 < l0_1.length) = true := decide_eq_true (by omega)
        clear c6
        (first | rw [c6b0] | (simp only [i64_w, i32_w]; rw [c6b0]) | skip)
        have H' := Aside0.mk H
        clear H
        have hcz7_0 : w3.cell? ⟨gb198, 0, none⟩ = some (.string a0_0) := (blk_cell BK198.out 0).trans rfl
        have hcz7_1 : w3.cell? ⟨gb198, 1, none⟩ = some (.slice A0_1 l0_1.length c0_1) := (blk_cell BK198.out 1).trans rfl
        have hcz7_2 : w3.cell? ⟨gb198, 2, none⟩ = some (.bool a0_2) := (blk_cell BK198.out 2).trans rfl
        have hcz7_3 : w3.cell? ⟨gb198, 3, none⟩ = some (.string a0_3) := (blk_cell BK198.out 3).trans rfl
        have hfz7_0 := blk_frozen BK198.out 0
        have hfz7_1 := blk_frozen BK198.out 1
        have hfz7_2 := blk_frozen BK198.out 2
        have hfz7_3 := blk_frozen BK198.out 3
        go_wp2_with (first | ((with_reducible refine gate_callee (f := 37) rfl ?_); refine goesL_ (some 6) rfl rfl Try.func37 (by kernel_rfl) rfl #[.string a0_0] rfl (by (try simp only [List.map_toArray, List.map_cons, List.map_nil]); first | done | rfl | (simp only [List.length_drop, List.length_take]; rfl)) ?_; (with_reducible refine (spec_l1House.calls k a0_0 true _ A4.out).mono ?_); rintro e w' ⟨rfl, ⟨nd, rfl⟩⟩; refine ⟨_, rfl, ?_⟩))
        go_meet
        case rel => exact ⟨_, (true), (by first | rfl | (simp only [i64_w, i32_w]; done) | (simp only [aid_isEmpty, aid_isEmpty2]; done) | (simp; done) | (simp [*]; done)), H', ⟨by first | omega | exact Nat.le_refl _⟩, ⟨by (with_reducible repeat (first | refine blk_drewN ?_ _ | refine blk_drew ?_ | refine blk_alloc ?_ _)); exact BK198.out⟩, ⟨by repeat (first | (with_reducible first | exact HB.out | apply below_alloc | apply pw_below_drewN | apply below_drew1 | refine below_set ?_ GE198.out) | exact HB.out)⟩⟩
      · rw [if_neg c6] at H
        have c6b0 : decide (5 < (l0_1.length : Int)) = false := decide_eq_false c6
        have c6b1 : decide (5 < l0_1.length) = false := decide_eq_false (by omega)
        clear c6
        (first | rw [c6b0] | (simp only [i64_w, i32_w]; rw [c6b0]) | skip)
        replace H := Option.bind_eq_some_iff.mp H
        obtain ⟨t200, A80, H⟩ := H
        replace H : (if t200 = true then (if a0_2 = true then (spec_AddrOk.j0 k false a0_0 l0_1 a0_2 a0_3) else (spec_AddrOk.j0 k (a0_3.toList != ([] : List UInt8)) a0_0 l0_1 a0_2 a0_3)) else (spec_AddrOk.j0 k true a0_0 l0_1 a0_2 a0_3)) = some r := H
        have A8 := Aside0.mk A80
        clear A80
        by_cases c9 : t200 = true
        · subst c9
          have H1 : (if a0_2 = true then (spec_AddrOk.j0 k false a0_0 l0_1 a0_2 a0_3) else (spec_AddrOk.j0 k (a0_3.toList != ([] : List UInt8)) a0_0 l0_1 a0_2 a0_3)) = some r := by rw [if_pos rfl] at H; exact H
          clear H
          have H := H1
          clear H1
          by_cases c10 : a0_2 = true
          · subst c10
            have H1 : (spec_AddrOk.j0 k false a0_0 l0_1 true a0_3) = some r := by rw [if_pos rfl] at H; exact H
            clear H
            have H := H1
            clear H1
            have H' := Aside0.mk H
            clear H
            have hcz11_0 : w3.cell? ⟨gb198, 0, none⟩ = some (.string a0_0) := (blk_cell BK198.out 0).trans rfl
            have hcz11_1 : w3.cell? ⟨gb198, 1, none⟩ = some (.slice A0_1 l0_1.length c0_1) := (blk_cell BK198.out 1).trans rfl
            have hcz11_2 : w3.cell? ⟨gb198, 2, none⟩ = some (.bool true) := (blk_cell BK198.out 2).trans rfl
            have hcz11_3 : w3.cell? ⟨gb198, 3, none⟩ = some (.string a0_3) := (blk_cell BK198.out 3).trans rfl
            have hfz11_0 := blk_frozen BK198.out 0
            have hfz11_1 := blk_frozen BK198.out 1
            have hfz11_2 := blk_frozen BK198.out 2
            have hfz11_3 := blk_frozen BK198.out 3
            go_wp2_with (first | ((with_reducible refine gate_callee (f := 37) rfl ?_); refine goesL_ (some 6) rfl rfl Try.func37 (by kernel_rfl) rfl #[.string a0_0] rfl (by (try simp only [List.map_toArray, List.map_cons, List.map_nil]); first | done | rfl | (simp only [List.length_drop, List.length_take]; rfl)) ?_; (with_reducible refine (spec_l1House.calls k a0_0 true _ A4.out).mono ?_); rintro e w' ⟨rfl, ⟨nd, rfl⟩⟩; refine ⟨_, rfl, ?_⟩) | (go_at_call 38; (with_reducible refine (spec_l1Norm.calls k a0_3 true _ A8.out).mono ?_); rintro e w12 ⟨rfl, hb⟩; have n0_ := Aside0.mk (blk_below (g := gb198) (o := .cells #[.string a0_0, .slice A0_1 l0_1.length c0_1, .bool true, .string a0_3] 46 (0, 0)) (by (with_reducible repeat (first | refine blk_drewN ?_ _ | refine blk_drew ?_ | refine blk_alloc ?_ _)); exact BK198.out) hb); have n1_ := Aside0.mk (below_step (by repeat (first | (with_reducible first | exact HB.out | apply below_alloc | apply pw_below_drewN | apply below_drew1 | refine below_set ?_ GE198.out) | exact HB.out)) hb); clear BK198; clear HB; have BK198 := n0_; have HB := n1_; clear n0_ n1_; (try clear hb); (try clear hb2); (try clear hk); (try clear hi); have hcz13_0 : w12.cell? ⟨gb198, 0, none⟩ = some (.string a0_0) := (blk_cell BK198.out 0).trans rfl; have hcz13_1 : w12.cell? ⟨gb198, 1, none⟩ = some (.slice A0_1 l0_1.length c0_1) := (blk_cell BK198.out 1).trans rfl; have hcz13_2 : w12.cell? ⟨gb198, 2, none⟩ = some (.bool true) := (blk_cell BK198.out 2).trans rfl; have hcz13_3 : w12.cell? ⟨gb198, 3, none⟩ = some (.string a0_3) := (blk_cell BK198.out 3).trans rfl; have hfz13_0 := blk_frozen BK198.out 0; have hfz13_1 := blk_frozen BK198.out 1; have hfz13_2 := blk_frozen BK198.out 2; have hfz13_3 := blk_frozen BK198.out 3))
            go_meet
            case rel => exact ⟨_, (false), (by first | rfl | (simp only [i64_w, i32_w]; done) | (simp only [aid_isEmpty, aid_isEmpty2]; done) | (simp; done) | (simp [*]; done)), H', ⟨by first | omega | exact Nat.le_refl _⟩, ⟨by (with_reducible repeat (first | refine blk_drewN ?_ _ | refine blk_drew ?_ | refine blk_alloc ?_ _)); exact BK198.out⟩, ⟨by repeat (first | (with_reducible first | exact HB.out | apply below_alloc | apply pw_below_drewN | apply below_drew1 | refine below_set ?_ GE198.out) | exact HB.out)⟩⟩
          · replace c10 := Bool.eq_false_iff.mpr c10
            subst c10
            have H1 : (spec_AddrOk.j0 k (a0_3.toList != ([] : List UInt8)) a0_0 l0_1 false a0_3) = some r := by rw [if_neg (show ¬ (false = true) by decide)] at H; exact H
            clear H
            have H := H1
            clear H1
            have H' := Aside0.mk H
            clear H
            have hcz14_0 : w3.cell? ⟨gb198, 0, none⟩ = some (.string a0_0) := (blk_cell BK198.out 0).trans rfl
            have hcz14_1 : w3.cell? ⟨gb198, 1, none⟩ = some (.slice A0_1 l0_1.length c0_1) := (blk_cell BK198.out 1).trans rfl
            have hcz14_2 : w3.cell? ⟨gb198, 2, none⟩ = some (.bool false) := (blk_cell BK198.out 2).trans rfl
            have hcz14_3 : w3.cell? ⟨gb198, 3, none⟩ = some (.string a0_3) := (blk_cell BK198.out 3).trans rfl
            have hfz14_0 := blk_frozen BK198.out 0
            have hfz14_1 := blk_frozen BK198.out 1
            have hfz14_2 := blk_frozen BK198.out 2
            have hfz14_3 := blk_frozen BK198.out 3
            go_wp2_with (first | ((with_reducible refine gate_callee (f := 37) rfl ?_); refine goesL_ (some 6) rfl rfl Try.func37 (by kernel_rfl) rfl #[.string a0_0] rfl (by (try simp only [List.map_toArray, List.map_cons, List.map_nil]); first | done | rfl | (simp only [List.length_drop, List.length_take]; rfl)) ?_; (with_reducible refine (spec_l1House.calls k a0_0 true _ A4.out).mono ?_); rintro e w' ⟨rfl, ⟨nd, rfl⟩⟩; refine ⟨_, rfl, ?_⟩) | (go_at_call 38; (with_reducible refine (spec_l1Norm.calls k a0_3 true _ A8.out).mono ?_); rintro e w15 ⟨rfl, hb⟩; have n0_ := Aside0.mk (blk_below (g := gb198) (o := .cells #[.string a0_0, .slice A0_1 l0_1.length c0_1, .bool false, .string a0_3] 46 (0, 0)) (by (with_reducible repeat (first | refine blk_drewN ?_ _ | refine blk_drew ?_ | refine blk_alloc ?_ _)); exact BK198.out) hb); have n1_ := Aside0.mk (below_step (by repeat (first | (with_reducible first | exact HB.out | apply below_alloc | apply pw_below_drewN | apply below_drew1 | refine below_set ?_ GE198.out) | exact HB.out)) hb); clear BK198; clear HB; have BK198 := n0_; have HB := n1_; clear n0_ n1_; (try clear hb); (try clear hb2); (try clear hk); (try clear hi); have hcz16_0 : w15.cell? ⟨gb198, 0, none⟩ = some (.string a0_0) := (blk_cell BK198.out 0).trans rfl; have hcz16_1 : w15.cell? ⟨gb198, 1, none⟩ = some (.slice A0_1 l0_1.length c0_1) := (blk_cell BK198.out 1).trans rfl; have hcz16_2 : w15.cell? ⟨gb198, 2, none⟩ = some (.bool false) := (blk_cell BK198.out 2).trans rfl; have hcz16_3 : w15.cell? ⟨gb198, 3, none⟩ = some (.string a0_3) := (blk_cell BK198.out 3).trans rfl; have hfz16_0 := blk_frozen BK198.out 0; have hfz16_1 := blk_frozen BK198.out 1; have hfz16_2 := blk_frozen BK198.out 2; have hfz16_3 := blk_frozen BK198.out 3))
            go_meet
            case rel => exact ⟨_, ((a0_3.toList != ([] : List UInt8))), (by first | rfl | (simp only [i64_w, i32_w]; done) | (simp only [aid_isEmpty, aid_isEmpty2]; done) | (simp; done) | (simp [*]; done)), H', ⟨by first | omega | exact Nat.le_refl _⟩, ⟨by (with_reducible repeat (first | refine blk_drewN ?_ _ | refine blk_drew ?_ | refine blk_alloc ?_ _)); exact BK198.out⟩, ⟨by repeat (first | (with_reducible first | exact HB.out | apply below_alloc | apply pw_below_drewN | apply below_drew1 | refine below_set ?_ GE198.out) | exact HB.out)⟩⟩
        · replace c9 := Bool.eq_false_iff.mpr c9
          subst c9
          have H1 : (spec_AddrOk.j0 k true a0_0 l0_1 a0_2 a0_3) = some r := by rw [if_neg (show ¬ (false = true) by decide)] at H; exact H
          clear H
          have H := H1
          clear H1
          have H' := Aside0.mk H
          clear H
          have hcz17_0 : w3.cell? ⟨gb198, 0, none⟩ = some (.string a0_0) := (blk_cell BK198.out 0).trans rfl
          have hcz17_1 : w3.cell? ⟨gb198, 1, none⟩ = some (.slice A0_1 l0_1.length c0_1) := (blk_cell BK198.out 1).trans rfl
          have hcz17_2 : w3.cell? ⟨gb198, 2, none⟩ = some (.bool a0_2) := (blk_cell BK198.out 2).trans rfl
          have hcz17_3 : w3.cell? ⟨gb198, 3, none⟩ = some (.string a0_3) := (blk_cell BK198.out 3).trans rfl
          have hfz17_0 := blk_frozen BK198.out 0
          have hfz17_1 := blk_frozen BK198.out 1
          have hfz17_2 := blk_frozen BK198.out 2
          have hfz17_3 := blk_frozen BK198.out 3
          go_wp2_with (first | ((with_reducible refine gate_callee (f := 37) rfl ?_); refine goesL_ (some 6) rfl rfl Try.func37 (by kernel_rfl) rfl #[.string a0_0] rfl (by (try simp only [List.map_toArray, List.map_cons, List.map_nil]); first | done | rfl | (simp only [List.length_drop, List.length_take]; rfl)) ?_; (with_reducible refine (spec_l1House.calls k a0_0 true _ A4.out).mono ?_); rintro e w' ⟨rfl, ⟨nd, rfl⟩⟩; refine ⟨_, rfl, ?_⟩) | (go_at_call 38; (with_reducible refine (spec_l1Norm.calls k a0_3 false _ A8.out).mono ?_); rintro e w18 ⟨rfl, hb⟩; have n0_ := Aside0.mk (blk_below (g := gb198) (o := .cells #[.string a0_0, .slice A0_1 l0_1.length c0_1, .bool a0_2, .string a0_3] 46 (0, 0)) (by (with_reducible repeat (first | refine blk_drewN ?_ _ | refine blk_drew ?_ | refine blk_alloc ?_ _)); exact BK198.out) hb); have n1_ := Aside0.mk (below_step (by repeat (first | (with_reducible first | exact HB.out | apply below_alloc | apply pw_below_drewN | apply below_drew1 | refine below_set ?_ GE198.out) | exact HB.out)) hb); clear BK198; clear HB; have BK198 := n0_; have HB := n1_; clear n0_ n1_; (try clear hb); (try clear hb2); (try clear hk); (try clear hi)))
          go_meet
          case rel => exact ⟨_, (true), (by first | rfl | (simp only [i64_w, i32_w]; done) | (simp only [aid_isEmpty, aid_isEmpty2]; done) | (simp; done) | (simp [*]; done)), H', ⟨by first | omega | exact Nat.le_refl _⟩, ⟨by (with_reducible repeat (first | refine blk_drewN ?_ _ | refine blk_drew ?_ | refine blk_alloc ?_ _)); exact BK198.out⟩, ⟨by repeat (first | (with_reducible first | exact HB.out | apply below_alloc | apply pw_below_drewN | apply below_drew1 | refine below_set ?_ GE198.out) | exact HB.out)⟩⟩
    · replace c5 := Bool.eq_false_iff.mpr c5
      subst c5
      have H1 : (spec_AddrOk.j0 k true a0_0 l0_1 a0_2 a0_3) = some r := by rw [if_neg (show ¬ (false = true) by decide)] at H; exact H
      clear H
      have H := H1
      clear H1
      have H' := Aside0.mk H
      clear H
      have hcz19_0 : w3.cell? ⟨gb198, 0, none⟩ = some (.string a0_0) := (blk_cell BK198.out 0).trans rfl
      have hcz19_1 : w3.cell? ⟨gb198, 1, none⟩ = some (.slice A0_1 l0_1.length c0_1) := (blk_cell BK198.out 1).trans rfl
      have hcz19_2 : w3.cell? ⟨gb198, 2, none⟩ = some (.bool a0_2) := (blk_cell BK198.out 2).trans rfl
      have hcz19_3 : w3.cell? ⟨gb198, 3, none⟩ = some (.string a0_3) := (blk_cell BK198.out 3).trans rfl
      have hfz19_0 := blk_frozen BK198.out 0
      have hfz19_1 := blk_frozen BK198.out 1
      have hfz19_2 := blk_frozen BK198.out 2
      have hfz19_3 := blk_frozen BK198.out 3
      go_wp2_with (first | ((with_reducible refine gate_callee (f := 37) rfl ?_); refine goesL_ (some 6) rfl rfl Try.func37 (by kernel_rfl) rfl #[.string a0_0] rfl (by (try simp only [List.map_toArray, List.map_cons, List.map_nil]); first | done | rfl | (simp only [List.length_drop, List.length_take]; rfl)) ?_; (with_reducible refine (spec_l1House.calls k a0_0 false _ A4.out).mono ?_); rintro e w' ⟨rfl, ⟨nd, rfl⟩⟩; refine ⟨_, rfl, ?_⟩))
      go_meet
      case rel => exact ⟨_, (true), (by first | rfl | (simp only [i64_w, i32_w]; done) | (simp only [aid_isEmpty, aid_isEmpty2]; done) | (simp; done) | (simp [*]; done)), H', ⟨by first | omega | exact Nat.le_refl _⟩, ⟨by (with_reducible repeat (first | refine blk_drewN ?_ _ | refine blk_drew ?_ | refine blk_alloc ?_ _)); exact BK198.out⟩, ⟨by repeat (first | (with_reducible first | exact HB.out | apply below_alloc | apply pw_below_drewN | apply below_drew1 | refine below_set ?_ GE198.out) | exact HB.out)⟩⟩
  case rest =>
    clear HC2
    try clear c1
    try clear p2
    try clear c3
    try clear c5
    try clear c6
    try clear c6b0
    try clear c6b1
    try clear c9
    try clear c10
    try clear hcz11_0
    try clear hcz11_1
    try clear hcz11_2
    try clear hcz11_3
    try clear hcz13_0
    try clear hcz13_1
    try clear hcz13_2
    try clear hcz13_3
    try clear hcz14_0
    try clear hcz14_1
    try clear hcz14_2
    try clear hcz14_3
    try clear hcz16_0
    try clear hcz16_1
    try clear hcz16_2
    try clear hcz16_3
    try clear hcz17_0
    try clear hcz17_1
    try clear hcz17_2
    try clear hcz17_3
    try clear hcz19_0
    try clear hcz19_1
    try clear hcz19_2
    try clear hcz19_3
    try clear hcz7_0
    try clear hcz7_1
    try clear hcz7_2
    try clear hcz7_3
    try clear hfz11_0
    try clear hfz11_1
    try clear hfz11_2
    try clear hfz11_3
    try clear hfz13_0
    try clear hfz13_1
    try clear hfz13_2
    try clear hfz13_3
    try clear hfz14_0
    try clear hfz14_1
    try clear hfz14_2
    try clear hfz14_3
    try clear hfz16_0
    try clear hfz16_1
    try clear hfz16_2
    try clear hfz16_3
    try clear hfz17_0
    try clear hfz17_1
    try clear hfz17_2
    try clear hfz17_3
    try clear hfz19_0
    try clear hfz19_1
    try clear hfz19_2
    try clear hfz19_3
    try clear hfz7_0
    try clear hfz7_1
    try clear hfz7_2
    try clear hfz7_3
    obtain ⟨kq, x29_1, rfl, HA, HJ1, BK198, HB⟩ := hcut
    cases kq with
    | zero => exact absurd HA.out (by simp [spec_AddrOk.j0])
    | succ kj1 =>
      have H := HA.out
      clear HA
      simp only [spec_AddrOk.j0] at H
      by_cases c20 : x29_1 = true
      · subst c20
        have H1 : (some false) = some r := by rw [if_pos rfl] at H; exact H
        clear H
        have H := H1
        clear H1
        obtain rfl := Option.some.inj H
        go_wp2
        go_ret
        exact ⟨by first | rfl | (simp [errW_none, errW_some] <;> rfl) | (simp [*, errW_none, errW_some] <;> rfl), by repeat (first | (with_reducible first | exact HB.out | apply below_alloc | apply pw_below_drewN | apply below_drew1 | refine below_set ?_ GE198.out) | exact HB.out)⟩
      · replace c20 := Bool.eq_false_iff.mpr c20
        subst c20
        have H1 : (spec_AddrOk.l0 kj1 0 a0_0 l0_1 a0_2 a0_3) = some r := by rw [if_neg (show ¬ (false = true) by decide)] at H; exact H
        clear H
        have H := H1
        clear H1
        have H' := Aside0.mk H
        clear H
        go_wp2
        go_loopg [3] kj1 (fun kq v3 w' => ∃ (x3_2 : Int), v3 = .int .i64 x3_2 ∧ Aside0 (spec_AddrOk.l0 kq x3_2 a0_0 l0_1 a0_2 a0_3 = some r) ∧ Aside0 (kq ≤ kj1) ∧ Aside0 (w'.heap[gb198]? = some (.cells #[.string a0_0, (.slice A0_1 l0_1.length c0_1), .bool a0_2, .string a0_3] 46 (0, 0))) ∧ Aside0 (Below w.heap.size w w'))
        case atStart => exact ⟨(0), (by first | rfl | (simp only [i64_w, i32_w]; done) | (simp only [aid_isEmpty, aid_isEmpty2]; done) | (simp; done) | (simp [*]; done)), H', ⟨Nat.le_refl _⟩, ⟨by (with_reducible repeat (first | refine blk_drewN ?_ _ | refine blk_drew ?_ | refine blk_alloc ?_ _)); exact BK198.out⟩, ⟨by repeat (first | (with_reducible first | exact HB.out | apply below_alloc | apply pw_below_drewN | apply below_drew1 | refine below_set ?_ GE198.out) | exact HB.out)⟩⟩
        case round =>
          clear H'
          try clear c1
          try clear c2
          try clear p2
          try clear c3
          try clear c5
          try clear c6
          try clear c6b0
          try clear c6b1
          try clear c9
          try clear c10
          try clear c20
          try clear hcz11_0
          try clear hcz11_1
          try clear hcz11_2
          try clear hcz11_3
          try clear hcz13_0
          try clear hcz13_1
          try clear hcz13_2
          try clear hcz13_3
          try clear hcz14_0
          try clear hcz14_1
          try clear hcz14_2
          try clear hcz14_3
          try clear hcz16_0
          try clear hcz16_1
          try clear hcz16_2
          try clear hcz16_3
          try clear hcz17_0
          try clear hcz17_1
          try clear hcz17_2
          try clear hcz17_3
          try clear hcz19_0
          try clear hcz19_1
          try clear hcz19_2
          try clear hcz19_3
          try clear hcz7_0
          try clear hcz7_1
          try clear hcz7_2
          try clear hcz7_3
          try clear hfz11_0
          try clear hfz11_1
          try clear hfz11_2
          try clear hfz11_3
          try clear hfz13_0
          try clear hfz13_1
          try clear hfz13_2
          try clear hfz13_3
          try clear hfz14_0
          try clear hfz14_1
          try clear hfz14_2
          try clear hfz14_3
          try clear hfz16_0
          try clear hfz16_1
          try clear hfz16_2
          try clear hfz16_3
          try clear hfz17_0
          try clear hfz17_1
          try clear hfz17_2
          try clear hfz17_3
          try clear hfz19_0
          try clear hfz19_1
          try clear hfz19_2
          try clear hfz19_3
          try clear hfz7_0
          try clear hfz7_1
          try clear hfz7_2
          try clear hfz7_3
          try clear p2
          obtain ⟨x3_2, rfl, HA, HK2, BK198, HB⟩ := hrel
          cases gk with
          | zero => exact absurd HA.out (by simp [spec_AddrOk.l0])
          | succ k2 =>
            have H := HA.out
            clear HA
            simp only [spec_AddrOk.l0] at H
            by_cases c21 : x3_2 < (l0_1.length : Int)
            · rw [if_pos c21] at H
              have c21b0 : decide (x3_2 < (l0_1.length : Int)) = true := decide_eq_true c21
              clear c21
              by_cases c22 : 0 ≤ x3_2
              · rw [if_pos c22] at H
                have c22b0 : decide (0 ≤ x3_2) = true := decide_eq_true c22
                clear c22
                replace H := Option.bind_eq_some_iff.mp H
                obtain ⟨t202, A230, H⟩ := H
                replace H : (if t202 = true then (if (rdOf ByteArray.empty l0_1 x3_2).toList = ([] : List UInt8) then (some false) else (if (rdOf ByteArray.empty l0_1 x3_2).toList = ([46] : List UInt8) then (some false) else (if (rdOf ByteArray.empty l0_1 x3_2).toList = ([46, 46] : List UInt8) then (some false) else (spec_AddrOk.l0 k2 (wrap64 (x3_2 + 1)) a0_0 l0_1 a0_2 a0_3)))) else (some false)) = some r := H
                have A23 := Aside0.mk A230
                clear A230
                by_cases c24 : t202 = true
                · subst c24
                  have H1 : (if (rdOf ByteArray.empty l0_1 x3_2).toList = ([] : List UInt8) then (some false) else (if (rdOf ByteArray.empty l0_1 x3_2).toList = ([46] : List UInt8) then (some false) else (if (rdOf ByteArray.empty l0_1 x3_2).toList = ([46, 46] : List UInt8) then (some false) else (spec_AddrOk.l0 k2 (wrap64 (x3_2 + 1)) a0_0 l0_1 a0_2 a0_3)))) = some r := by rw [if_pos rfl] at H; exact H
                  clear H
                  have H := H1
                  clear H1
                  by_cases c25 : (rdOf ByteArray.empty l0_1 x3_2).toList = ([] : List UInt8)
                  · rw [if_pos c25] at H
                    have c25b0 : ((rdOf ByteArray.empty l0_1 x3_2).toList == ([] : List UInt8)) = true := beq_iff_eq.mpr c25
                    have c25b1 : ((rdOf ByteArray.empty l0_1 x3_2).toList != ([] : List UInt8)) = false := bne_eq_false_iff_eq.mpr c25
                    clear c25
                    obtain rfl := Option.some.inj H
                    have hcz26_0 : wr.cell? ⟨gb198, 0, none⟩ = some (.string a0_0) := (blk_cell BK198.out 0).trans rfl
                    have hcz26_1 : wr.cell? ⟨gb198, 1, none⟩ = some (.slice A0_1 l0_1.length c0_1) := (blk_cell BK198.out 1).trans rfl
                    have hcz26_2 : wr.cell? ⟨gb198, 2, none⟩ = some (.bool a0_2) := (blk_cell BK198.out 2).trans rfl
                    have hcz26_3 : wr.cell? ⟨gb198, 3, none⟩ = some (.string a0_3) := (blk_cell BK198.out 3).trans rfl
                    have hfz26_0 := blk_frozen BK198.out 0
                    have hfz26_1 := blk_frozen BK198.out 1
                    have hfz26_2 := blk_frozen BK198.out 2
                    have hfz26_3 := blk_frozen BK198.out 3
                    have p201 : 0 ≤ (x3_2 : Int) := of_decide_eq_true (by first | (with_reducible assumption) | assumption)
                    have q201 : x3_2 < (l0_1.length : Int) := of_decide_eq_true (by first | (with_reducible assumption) | assumption)
                    obtain ⟨ad201, e201, hx201_0⟩ := Kd.at_string HR0_1.out x3_2 p201 q201
                    cases e201
                    replace hx201_0 := (HB.out.cell (World.block_lt_of_cell? w _ hx201_0)).trans hx201_0
                    replace p201 := eq_true p201
                    replace q201 := eq_true q201
                    go_wp2_with (first | ((with_reducible refine gate_callee (f := 38) rfl ?_); refine goesL_ (some 42) rfl rfl Try.func38 (by kernel_rfl) rfl #[.string (rdOf ByteArray.empty l0_1 x3_2)] rfl (by (try simp only [List.map_toArray, List.map_cons, List.map_nil]); first | done | rfl | (simp only [List.length_drop, List.length_take]; rfl)) ?_; (with_reducible refine (spec_l1Norm.calls k2 (rdOf ByteArray.empty l0_1 x3_2) true _ A23.out).mono ?_); rintro e w27 ⟨rfl, hb⟩; refine ⟨_, rfl, ?_⟩; have n0_ := Aside0.mk (blk_below (g := gb198) (o := .cells #[.string a0_0, .slice (some ad201) l0_1.length c0_1, .bool a0_2, .string a0_3] 46 (0, 0)) (by (with_reducible repeat (first | refine blk_drewN ?_ _ | refine blk_drew ?_ | refine blk_alloc ?_ _)); exact BK198.out) hb); have n1_ := Aside0.mk (below_step (by repeat (first | (with_reducible first | exact HB.out | apply below_alloc | apply pw_below_drewN | apply below_drew1 | refine below_set ?_ GE198.out) | exact HB.out)) hb); clear BK198; clear HB; have BK198 := n0_; have HB := n1_; clear n0_ n1_; (try clear hb); (try clear hb2); (try clear hk); (try clear hi); have hcz28_0 : w27.cell? ⟨gb198, 0, none⟩ = some (.string a0_0) := (blk_cell BK198.out 0).trans rfl; have hcz28_1 : w27.cell? ⟨gb198, 1, none⟩ = some (.slice (some ad201) l0_1.length c0_1) := (blk_cell BK198.out 1).trans rfl; have hcz28_2 : w27.cell? ⟨gb198, 2, none⟩ = some (.bool a0_2) := (blk_cell BK198.out 2).trans rfl; have hcz28_3 : w27.cell? ⟨gb198, 3, none⟩ = some (.string a0_3) := (blk_cell BK198.out 3).trans rfl; have hfz28_0 := blk_frozen BK198.out 0; have hfz28_1 := blk_frozen BK198.out 1; have hfz28_2 := blk_frozen BK198.out 2; have hfz28_3 := blk_frozen BK198.out 3; have p203 : 0 ≤ (x3_2 : Int) := of_decide_eq_true (by first | (with_reducible assumption) | assumption); have q203 : x3_2 < (l0_1.length : Int) := of_decide_eq_true (by first | (with_reducible assumption) | assumption); obtain ⟨ad203, e203, hx203_0⟩ := Kd.at_string HR0_1.out x3_2 p203 q203; obtain rfl : ad201 = ad203 := (by injection e203); replace hx203_0 := (HB.out.cell (World.block_lt_of_cell? w _ hx203_0)).trans hx203_0; replace p203 := eq_true p203; replace q203 := eq_true q203))
                    go_ret
                    exact ⟨by first | rfl | (simp [errW_none, errW_some] <;> rfl) | (simp [*, errW_none, errW_some] <;> rfl), by repeat (first | (with_reducible first | exact HB.out | apply below_alloc | apply pw_below_drewN | apply below_drew1 | refine below_set ?_ GE198.out) | exact HB.out)⟩
                  · rw [if_neg c25] at H
                    have c25b0 : ((rdOf ByteArray.empty l0_1 x3_2).toList == ([] : List UInt8)) = false := beq_eq_false_iff_ne.mpr c25
                    have c25b1 : ((rdOf ByteArray.empty l0_1 x3_2).toList != ([] : List UInt8)) = true := bne_iff_ne.mpr c25
                    by_cases c29 : (rdOf ByteArray.empty l0_1 x3_2).toList = ([46] : List UInt8)
                    · rw [if_pos c29] at H
                      have c29b0 : ((rdOf ByteArray.empty l0_1 x3_2).toList == ([46] : List UInt8)) = true := beq_iff_eq.mpr c29
                      have c29b1 : ((rdOf ByteArray.empty l0_1 x3_2).toList != ([46] : List UInt8)) = false := bne_eq_false_iff_eq.mpr c29
                      clear c29
                      obtain rfl := Option.some.inj H
                      have hcz30_0 : wr.cell? ⟨gb198, 0, none⟩ = some (.string a0_0) := (blk_cell BK198.out 0).trans rfl
                      have hcz30_1 : wr.cell? ⟨gb198, 1, none⟩ = some (.slice A0_1 l0_1.length c0_1) := (blk_cell BK198.out 1).trans rfl
                      have hcz30_2 : wr.cell? ⟨gb198, 2, none⟩ = some (.bool a0_2) := (blk_cell BK198.out 2).trans rfl
                      have hcz30_3 : wr.cell? ⟨gb198, 3, none⟩ = some (.string a0_3) := (blk_cell BK198.out 3).trans rfl
                      have hfz30_0 := blk_frozen BK198.out 0
                      have hfz30_1 := blk_frozen BK198.out 1
                      have hfz30_2 := blk_frozen BK198.out 2
                      have hfz30_3 := blk_frozen BK198.out 3
                      have p201 : 0 ≤ (x3_2 : Int) := of_decide_eq_true (by first | (with_reducible assumption) | assumption)
                      have q201 : x3_2 < (l0_1.length : Int) := of_decide_eq_true (by first | (with_reducible assumption) | assumption)
                      obtain ⟨ad201, e201, hx201_0⟩ := Kd.at_string HR0_1.out x3_2 p201 q201
                      cases e201
                      replace hx201_0 := (HB.out.cell (World.block_lt_of_cell? w _ hx201_0)).trans hx201_0
                      replace p201 := eq_true p201
                      replace q201 := eq_true q201
                      go_wp2_with (first | ((with_reducible refine gate_callee (f := 38) rfl ?_); refine goesL_ (some 42) rfl rfl Try.func38 (by kernel_rfl) rfl #[.string (rdOf ByteArray.empty l0_1 x3_2)] rfl (by (try simp only [List.map_toArray, List.map_cons, List.map_nil]); first | done | rfl | (simp only [List.length_drop, List.length_take]; rfl)) ?_; (with_reducible refine (spec_l1Norm.calls k2 (rdOf ByteArray.empty l0_1 x3_2) true _ A23.out).mono ?_); rintro e w31 ⟨rfl, hb⟩; refine ⟨_, rfl, ?_⟩; have n0_ := Aside0.mk (blk_below (g := gb198) (o := .cells #[.string a0_0, .slice (some ad201) l0_1.length c0_1, .bool a0_2, .string a0_3] 46 (0, 0)) (by (with_reducible repeat (first | refine blk_drewN ?_ _ | refine blk_drew ?_ | refine blk_alloc ?_ _)); exact BK198.out) hb); have n1_ := Aside0.mk (below_step (by repeat (first | (with_reducible first | exact HB.out | apply below_alloc | apply pw_below_drewN | apply below_drew1 | refine below_set ?_ GE198.out) | exact HB.out)) hb); clear BK198; clear HB; have BK198 := n0_; have HB := n1_; clear n0_ n1_; (try clear hb); (try clear hb2); (try clear hk); (try clear hi); have hcz32_0 : w31.cell? ⟨gb198, 0, none⟩ = some (.string a0_0) := (blk_cell BK198.out 0).trans rfl; have hcz32_1 : w31.cell? ⟨gb198, 1, none⟩ = some (.slice (some ad201) l0_1.length c0_1) := (blk_cell BK198.out 1).trans rfl; have hcz32_2 : w31.cell? ⟨gb198, 2, none⟩ = some (.bool a0_2) := (blk_cell BK198.out 2).trans rfl; have hcz32_3 : w31.cell? ⟨gb198, 3, none⟩ = some (.string a0_3) := (blk_cell BK198.out 3).trans rfl; have hfz32_0 := blk_frozen BK198.out 0; have hfz32_1 := blk_frozen BK198.out 1; have hfz32_2 := blk_frozen BK198.out 2; have hfz32_3 := blk_frozen BK198.out 3; have p203 : 0 ≤ (x3_2 : Int) := of_decide_eq_true (by first | (with_reducible assumption) | assumption); have q203 : x3_2 < (l0_1.length : Int) := of_decide_eq_true (by first | (with_reducible assumption) | assumption); obtain ⟨ad203, e203, hx203_0⟩ := Kd.at_string HR0_1.out x3_2 p203 q203; obtain rfl : ad201 = ad203 := (by injection e203); replace hx203_0 := (HB.out.cell (World.block_lt_of_cell? w _ hx203_0)).trans hx203_0; replace p203 := eq_true p203; replace q203 := eq_true q203; have p204 : 0 ≤ (x3_2 : Int) := of_decide_eq_true (by first | (with_reducible assumption) | assumption); have q204 : x3_2 < (l0_1.length : Int) := of_decide_eq_true (by first | (with_reducible assumption) | assumption); obtain ⟨ad204, e204, hx204_0⟩ := Kd.at_string HR0_1.out x3_2 p204 q204; obtain rfl : ad201 = ad204 := (by injection e204); replace hx204_0 := (HB.out.cell (World.block_lt_of_cell? w _ hx204_0)).trans hx204_0; replace p204 := eq_true p204; replace q204 := eq_true q204))
                      go_ret
                      exact ⟨by first | rfl | (simp [errW_none, errW_some] <;> rfl) | (simp [*, errW_none, errW_some] <;> rfl), by repeat (first | (with_reducible first | exact HB.out | apply below_alloc | apply pw_below_drewN | apply below_drew1 | refine below_set ?_ GE198.out) | exact HB.out)⟩
                    · rw [if_neg c29] at H
                      have c29b0 : ((rdOf ByteArray.empty l0_1 x3_2).toList == ([46] : List UInt8)) = false := beq_eq_false_iff_ne.mpr c29
                      have c29b1 : ((rdOf ByteArray.empty l0_1 x3_2).toList != ([46] : List UInt8)) = true := bne_iff_ne.mpr c29
                      by_cases c33 : (rdOf ByteArray.empty l0_1 x3_2).toList = ([46, 46] : List UInt8)
                      · rw [if_pos c33] at H
                        have c33b0 : ((rdOf ByteArray.empty l0_1 x3_2).toList == ([46, 46] : List UInt8)) = true := beq_iff_eq.mpr c33
                        have c33b1 : ((rdOf ByteArray.empty l0_1 x3_2).toList != ([46, 46] : List UInt8)) = false := bne_eq_false_iff_eq.mpr c33
                        clear c33
                        obtain rfl := Option.some.inj H
                        have hcz34_0 : wr.cell? ⟨gb198, 0, none⟩ = some (.string a0_0) := (blk_cell BK198.out 0).trans rfl
                        have hcz34_1 : wr.cell? ⟨gb198, 1, none⟩ = some (.slice A0_1 l0_1.length c0_1) := (blk_cell BK198.out 1).trans rfl
                        have hcz34_2 : wr.cell? ⟨gb198, 2, none⟩ = some (.bool a0_2) := (blk_cell BK198.out 2).trans rfl
                        have hcz34_3 : wr.cell? ⟨gb198, 3, none⟩ = some (.string a0_3) := (blk_cell BK198.out 3).trans rfl
                        have hfz34_0 := blk_frozen BK198.out 0
                        have hfz34_1 := blk_frozen BK198.out 1
                        have hfz34_2 := blk_frozen BK198.out 2
                        have hfz34_3 := blk_frozen BK198.out 3
                        have p201 : 0 ≤ (x3_2 : Int) := of_decide_eq_true (by first | (with_reducible assumption) | assumption)
                        have q201 : x3_2 < (l0_1.length : Int) := of_decide_eq_true (by first | (with_reducible assumption) | assumption)
                        obtain ⟨ad201, e201, hx201_0⟩ := Kd.at_string HR0_1.out x3_2 p201 q201
                        cases e201
                        replace hx201_0 := (HB.out.cell (World.block_lt_of_cell? w _ hx201_0)).trans hx201_0
                        replace p201 := eq_true p201
                        replace q201 := eq_true q201
                        go_wp2_with (first | ((with_reducible refine gate_callee (f := 38) rfl ?_); refine goesL_ (some 42) rfl rfl Try.func38 (by kernel_rfl) rfl #[.string (rdOf ByteArray.empty l0_1 x3_2)] rfl (by (try simp only [List.map_toArray, List.map_cons, List.map_nil]); first | done | rfl | (simp only [List.length_drop, List.length_take]; rfl)) ?_; (with_reducible refine (spec_l1Norm.calls k2 (rdOf ByteArray.empty l0_1 x3_2) true _ A23.out).mono ?_); rintro e w35 ⟨rfl, hb⟩; refine ⟨_, rfl, ?_⟩; have n0_ := Aside0.mk (blk_below (g := gb198) (o := .cells #[.string a0_0, .slice (some ad201) l0_1.length c0_1, .bool a0_2, .string a0_3] 46 (0, 0)) (by (with_reducible repeat (first | refine blk_drewN ?_ _ | refine blk_drew ?_ | refine blk_alloc ?_ _)); exact BK198.out) hb); have n1_ := Aside0.mk (below_step (by repeat (first | (with_reducible first | exact HB.out | apply below_alloc | apply pw_below_drewN | apply below_drew1 | refine below_set ?_ GE198.out) | exact HB.out)) hb); clear BK198; clear HB; have BK198 := n0_; have HB := n1_; clear n0_ n1_; (try clear hb); (try clear hb2); (try clear hk); (try clear hi); have hcz36_0 : w35.cell? ⟨gb198, 0, none⟩ = some (.string a0_0) := (blk_cell BK198.out 0).trans rfl; have hcz36_1 : w35.cell? ⟨gb198, 1, none⟩ = some (.slice (some ad201) l0_1.length c0_1) := (blk_cell BK198.out 1).trans rfl; have hcz36_2 : w35.cell? ⟨gb198, 2, none⟩ = some (.bool a0_2) := (blk_cell BK198.out 2).trans rfl; have hcz36_3 : w35.cell? ⟨gb198, 3, none⟩ = some (.string a0_3) := (blk_cell BK198.out 3).trans rfl; have hfz36_0 := blk_frozen BK198.out 0; have hfz36_1 := blk_frozen BK198.out 1; have hfz36_2 := blk_frozen BK198.out 2; have hfz36_3 := blk_frozen BK198.out 3; have p203 : 0 ≤ (x3_2 : Int) := of_decide_eq_true (by first | (with_reducible assumption) | assumption); have q203 : x3_2 < (l0_1.length : Int) := of_decide_eq_true (by first | (with_reducible assumption) | assumption); obtain ⟨ad203, e203, hx203_0⟩ := Kd.at_string HR0_1.out x3_2 p203 q203; obtain rfl : ad201 = ad203 := (by injection e203); replace hx203_0 := (HB.out.cell (World.block_lt_of_cell? w _ hx203_0)).trans hx203_0; replace p203 := eq_true p203; replace q203 := eq_true q203; have p204 : 0 ≤ (x3_2 : Int) := of_decide_eq_true (by first | (with_reducible assumption) | assumption); have q204 : x3_2 < (l0_1.length : Int) := of_decide_eq_true (by first | (with_reducible assumption) | assumption); obtain ⟨ad204, e204, hx204_0⟩ := Kd.at_string HR0_1.out x3_2 p204 q204; obtain rfl : ad201 = ad204 := (by injection e204); replace hx204_0 := (HB.out.cell (World.block_lt_of_cell? w _ hx204_0)).trans hx204_0; replace p204 := eq_true p204; replace q204 := eq_true q204; have p205 : 0 ≤ (x3_2 : Int) := of_decide_eq_true (by first | (with_reducible assumption) | assumption); have q205 : x3_2 < (l0_1.length : Int) := of_decide_eq_true (by first | (with_reducible assumption) | assumption); obtain ⟨ad205, e205, hx205_0⟩ := Kd.at_string HR0_1.out x3_2 p205 q205; obtain rfl : ad201 = ad205 := (by injection e205); replace hx205_0 := (HB.out.cell (World.block_lt_of_cell? w _ hx205_0)).trans hx205_0; replace p205 := eq_true p205; replace q205 := eq_true q205))
                        go_ret
                        exact ⟨by first | rfl | (simp [errW_none, errW_some] <;> rfl) | (simp [*, errW_none, errW_some] <;> rfl), by repeat (first | (with_reducible first | exact HB.out | apply below_alloc | apply pw_below_drewN | apply below_drew1 | refine below_set ?_ GE198.out) | exact HB.out)⟩
                      · rw [if_neg c33] at H
                        have c33b0 : ((rdOf ByteArray.empty l0_1 x3_2).toList == ([46, 46] : List UInt8)) = false := beq_eq_false_iff_ne.mpr c33
                        have c33b1 : ((rdOf ByteArray.empty l0_1 x3_2).toList != ([46, 46] : List UInt8)) = true := bne_iff_ne.mpr c33
                        have H' := Aside0.mk H
                        clear H
                        have hcz37_0 : wr.cell? ⟨gb198, 0, none⟩ = some (.string a0_0) := (blk_cell BK198.out 0).trans rfl
                        have hcz37_1 : wr.cell? ⟨gb198, 1, none⟩ = some (.slice A0_1 l0_1.length c0_1) := (blk_cell BK198.out 1).trans rfl
                        have hcz37_2 : wr.cell? ⟨gb198, 2, none⟩ = some (.bool a0_2) := (blk_cell BK198.out 2).trans rfl
                        have hcz37_3 : wr.cell? ⟨gb198, 3, none⟩ = some (.string a0_3) := (blk_cell BK198.out 3).trans rfl
                        have hfz37_0 := blk_frozen BK198.out 0
                        have hfz37_1 := blk_frozen BK198.out 1
                        have hfz37_2 := blk_frozen BK198.out 2
                        have hfz37_3 := blk_frozen BK198.out 3
                        have p201 : 0 ≤ (x3_2 : Int) := of_decide_eq_true (by first | (with_reducible assumption) | assumption)
                        have q201 : x3_2 < (l0_1.length : Int) := of_decide_eq_true (by first | (with_reducible assumption) | assumption)
                        obtain ⟨ad201, e201, hx201_0⟩ := Kd.at_string HR0_1.out x3_2 p201 q201
                        cases e201
                        replace hx201_0 := (HB.out.cell (World.block_lt_of_cell? w _ hx201_0)).trans hx201_0
                        replace p201 := eq_true p201
                        replace q201 := eq_true q201
                        go_wp2_with (first | ((with_reducible refine gate_callee (f := 38) rfl ?_); refine goesL_ (some 42) rfl rfl Try.func38 (by kernel_rfl) rfl #[.string (rdOf ByteArray.empty l0_1 x3_2)] rfl (by (try simp only [List.map_toArray, List.map_cons, List.map_nil]); first | done | rfl | (simp only [List.length_drop, List.length_take]; rfl)) ?_; (with_reducible refine (spec_l1Norm.calls k2 (rdOf ByteArray.empty l0_1 x3_2) true _ A23.out).mono ?_); rintro e w38 ⟨rfl, hb⟩; refine ⟨_, rfl, ?_⟩; have n0_ := Aside0.mk (blk_below (g := gb198) (o := .cells #[.string a0_0, .slice (some ad201) l0_1.length c0_1, .bool a0_2, .string a0_3] 46 (0, 0)) (by (with_reducible repeat (first | refine blk_drewN ?_ _ | refine blk_drew ?_ | refine blk_alloc ?_ _)); exact BK198.out) hb); have n1_ := Aside0.mk (below_step (by repeat (first | (with_reducible first | exact HB.out | apply below_alloc | apply pw_below_drewN | apply below_drew1 | refine below_set ?_ GE198.out) | exact HB.out)) hb); clear BK198; clear HB; have BK198 := n0_; have HB := n1_; clear n0_ n1_; (try clear hb); (try clear hb2); (try clear hk); (try clear hi); have hcz39_0 : w38.cell? ⟨gb198, 0, none⟩ = some (.string a0_0) := (blk_cell BK198.out 0).trans rfl; have hcz39_1 : w38.cell? ⟨gb198, 1, none⟩ = some (.slice (some ad201) l0_1.length c0_1) := (blk_cell BK198.out 1).trans rfl; have hcz39_2 : w38.cell? ⟨gb198, 2, none⟩ = some (.bool a0_2) := (blk_cell BK198.out 2).trans rfl; have hcz39_3 : w38.cell? ⟨gb198, 3, none⟩ = some (.string a0_3) := (blk_cell BK198.out 3).trans rfl; have hfz39_0 := blk_frozen BK198.out 0; have hfz39_1 := blk_frozen BK198.out 1; have hfz39_2 := blk_frozen BK198.out 2; have hfz39_3 := blk_frozen BK198.out 3; have p203 : 0 ≤ (x3_2 : Int) := of_decide_eq_true (by first | (with_reducible assumption) | assumption); have q203 : x3_2 < (l0_1.length : Int) := of_decide_eq_true (by first | (with_reducible assumption) | assumption); obtain ⟨ad203, e203, hx203_0⟩ := Kd.at_string HR0_1.out x3_2 p203 q203; obtain rfl : ad201 = ad203 := (by injection e203); replace hx203_0 := (HB.out.cell (World.block_lt_of_cell? w _ hx203_0)).trans hx203_0; replace p203 := eq_true p203; replace q203 := eq_true q203; have p204 : 0 ≤ (x3_2 : Int) := of_decide_eq_true (by first | (with_reducible assumption) | assumption); have q204 : x3_2 < (l0_1.length : Int) := of_decide_eq_true (by first | (with_reducible assumption) | assumption); obtain ⟨ad204, e204, hx204_0⟩ := Kd.at_string HR0_1.out x3_2 p204 q204; obtain rfl : ad201 = ad204 := (by injection e204); replace hx204_0 := (HB.out.cell (World.block_lt_of_cell? w _ hx204_0)).trans hx204_0; replace p204 := eq_true p204; replace q204 := eq_true q204; have p205 : 0 ≤ (x3_2 : Int) := of_decide_eq_true (by first | (with_reducible assumption) | assumption); have q205 : x3_2 < (l0_1.length : Int) := of_decide_eq_true (by first | (with_reducible assumption) | assumption); obtain ⟨ad205, e205, hx205_0⟩ := Kd.at_string HR0_1.out x3_2 p205 q205; obtain rfl : ad201 = ad205 := (by injection e205); replace hx205_0 := (HB.out.cell (World.block_lt_of_cell? w _ hx205_0)).trans hx205_0; replace p205 := eq_true p205; replace q205 := eq_true q205))
                        go_roundg k2
                        case measure => have := HJ1.out; have := HK2.out; omega
                        case rel => exact ⟨(wrap64 (x3_2 + 1)), (by first | rfl | (simp only [i64_w, i32_w]; done) | (simp only [aid_isEmpty, aid_isEmpty2]; done) | (simp; done) | (simp [*]; done)), H', ⟨by have := HJ1.out; have := HK2.out; omega⟩, ⟨by (with_reducible repeat (first | refine blk_drewN ?_ _ | refine blk_drew ?_ | refine blk_alloc ?_ _)); exact BK198.out⟩, ⟨by repeat (first | (with_reducible first | exact HB.out | apply below_alloc | apply pw_below_drewN | apply below_drew1 | refine below_set ?_ GE198.out) | exact HB.out)⟩⟩
                · replace c24 := Bool.eq_false_iff.mpr c24
                  subst c24
                  have H1 : (some false) = some r := by rw [if_neg (show ¬ (false = true) by decide)] at H; exact H
                  clear H
                  have H := H1
                  clear H1
                  obtain rfl := Option.some.inj H
                  have hcz40_0 : wr.cell? ⟨gb198, 0, none⟩ = some (.string a0_0) := (blk_cell BK198.out 0).trans rfl
                  have hcz40_1 : wr.cell? ⟨gb198, 1, none⟩ = some (.slice A0_1 l0_1.length c0_1) := (blk_cell BK198.out 1).trans rfl
                  have hcz40_2 : wr.cell? ⟨gb198, 2, none⟩ = some (.bool a0_2) := (blk_cell BK198.out 2).trans rfl
                  have hcz40_3 : wr.cell? ⟨gb198, 3, none⟩ = some (.string a0_3) := (blk_cell BK198.out 3).trans rfl
                  have hfz40_0 := blk_frozen BK198.out 0
                  have hfz40_1 := blk_frozen BK198.out 1
                  have hfz40_2 := blk_frozen BK198.out 2
                  have hfz40_3 := blk_frozen BK198.out 3
                  have p201 : 0 ≤ (x3_2 : Int) := of_decide_eq_true (by first | (with_reducible assumption) | assumption)
                  have q201 : x3_2 < (l0_1.length : Int) := of_decide_eq_true (by first | (with_reducible assumption) | assumption)
                  obtain ⟨ad201, e201, hx201_0⟩ := Kd.at_string HR0_1.out x3_2 p201 q201
                  cases e201
                  replace hx201_0 := (HB.out.cell (World.block_lt_of_cell? w _ hx201_0)).trans hx201_0
                  replace p201 := eq_true p201
                  replace q201 := eq_true q201
                  go_wp2_with (first | ((with_reducible refine gate_callee (f := 38) rfl ?_); refine goesL_ (some 42) rfl rfl Try.func38 (by kernel_rfl) rfl #[.string (rdOf ByteArray.empty l0_1 x3_2)] rfl (by (try simp only [List.map_toArray, List.map_cons, List.map_nil]); first | done | rfl | (simp only [List.length_drop, List.length_take]; rfl)) ?_; (with_reducible refine (spec_l1Norm.calls k2 (rdOf ByteArray.empty l0_1 x3_2) false _ A23.out).mono ?_); rintro e w41 ⟨rfl, hb⟩; refine ⟨_, rfl, ?_⟩; have n0_ := Aside0.mk (blk_below (g := gb198) (o := .cells #[.string a0_0, .slice (some ad201) l0_1.length c0_1, .bool a0_2, .string a0_3] 46 (0, 0)) (by (with_reducible repeat (first | refine blk_drewN ?_ _ | refine blk_drew ?_ | refine blk_alloc ?_ _)); exact BK198.out) hb); have n1_ := Aside0.mk (below_step (by repeat (first | (with_reducible first | exact HB.out | apply below_alloc | apply pw_below_drewN | apply below_drew1 | refine below_set ?_ GE198.out) | exact HB.out)) hb); clear BK198; clear HB; have BK198 := n0_; have HB := n1_; clear n0_ n1_; (try clear hb); (try clear hb2); (try clear hk); (try clear hi)))
                  go_ret
                  exact ⟨by first | rfl | (simp [errW_none, errW_some] <;> rfl) | (simp [*, errW_none, errW_some] <;> rfl), by repeat (first | (with_reducible first | exact HB.out | apply below_alloc | apply pw_below_drewN | apply below_drew1 | refine below_set ?_ GE198.out) | exact HB.out)⟩
              · rw [if_neg c22] at H
                exact absurd H (by simp)
            · rw [if_neg c21] at H
              have c21b0 : decide (x3_2 < (l0_1.length : Int)) = false := decide_eq_false c21
              clear c21
              replace H := Option.bind_eq_some_iff.mp H
              obtain ⟨t206, A420, H⟩ := H
              replace H : (some (decide ((t206.size : Int) ≤ 60))) = some r := H
              have A42 := Aside0.mk A420
              clear A420
              obtain rfl := Option.some.inj H
              have hcz43_0 : wr.cell? ⟨gb198, 0, none⟩ = some (.string a0_0) := (blk_cell BK198.out 0).trans rfl
              have hcz43_1 : wr.cell? ⟨gb198, 1, none⟩ = some (.slice A0_1 l0_1.length c0_1) := (blk_cell BK198.out 1).trans rfl
              have hcz43_2 : wr.cell? ⟨gb198, 2, none⟩ = some (.bool a0_2) := (blk_cell BK198.out 2).trans rfl
              have hcz43_3 : wr.cell? ⟨gb198, 3, none⟩ = some (.string a0_3) := (blk_cell BK198.out 3).trans rfl
              have hfz43_0 := blk_frozen BK198.out 0
              have hfz43_1 := blk_frozen BK198.out 1
              have hfz43_2 := blk_frozen BK198.out 2
              have hfz43_3 := blk_frozen BK198.out 3
              go_wp2_with (first | ((with_reducible refine gate_callee (f := 36) rfl ?_); refine goesL_ (some 69) rfl rfl Try.func36 (by kernel_rfl) rfl #[.agg #[.string a0_0, .slice A0_1 l0_1.length c0_1, .bool a0_2, .string a0_3]] rfl (by (try simp only [List.map_toArray, List.map_cons, List.map_nil]); first | done | rfl | (simp only [List.length_drop, List.length_take]; rfl)) ?_; (with_reducible refine (spec_l1Text.calls k2 a0_0 _ _ l0_1 a0_2 a0_3 t206 _ ?side1 ?side2 A42.out).mono ?_); (case side1 => repeat (first | exact (Kd.C_below HR0_1.out HB.out) | (with_reducible refine Kd.C_alloc ?_ _) | (with_reducible refine Kd.C_drewN ?_ _) | (with_reducible refine Kd.C_drew ?_))); (case side2 => exact HC0_1.out); rintro e w44 ⟨rfl, hb⟩; refine ⟨_, rfl, ?_⟩; have n0_ := Aside0.mk (blk_below (g := gb198) (o := .cells #[.string a0_0, .slice A0_1 l0_1.length c0_1, .bool a0_2, .string a0_3] 46 (0, 0)) (by (with_reducible repeat (first | refine blk_drewN ?_ _ | refine blk_drew ?_ | refine blk_alloc ?_ _)); exact BK198.out) hb); have n1_ := Aside0.mk (below_step (by repeat (first | (with_reducible first | exact HB.out | apply below_alloc | apply pw_below_drewN | apply below_drew1 | refine below_set ?_ GE198.out) | exact HB.out)) hb); clear BK198; clear HB; have BK198 := n0_; have HB := n1_; clear n0_ n1_; (try clear hb); (try clear hb2); (try clear hk); (try clear hi)))
              go_ret
              exact ⟨by first | rfl | (simp [errW_none, errW_some] <;> rfl) | (simp [*, errW_none, errW_some] <;> rfl), by repeat (first | (with_reducible first | exact HB.out | apply below_alloc | apply pw_below_drewN | apply below_drew1 | refine below_set ?_ GE198.out) | exact HB.out)⟩

end Go.Proofs.Ytmaleoldpmiilaa.P

/- The plain function of a Go function, and that Go comes to just its answer; its conditions are the theorem's own. Written by a program of this session (wip/pr.py). -/
namespace Go.Proofs.Ytmaleoldpmiilaa.P
open Go.RowKit Go.Proofs.YtmaleoldpmiilaaW.PrintWords Go.Proofs.YtmaleoldpmiilaaW.PrintLast Go.Proofs.YtmaleoldpmiilaaW.PrintMore
attribute [local go_sem] max2_int min2_int max_two min_two max_three min_three max_four min_four   -- for this text's walks alone
set_option linter.unusedVariables false
set_option linter.unusedSimpArgs false

/-! ### spec_AddrText: function 34 -/
def spec_AddrText.f (k : Nat) (a0_0 : ByteArray) (l0_1 : List ByteArray) (a0_2 : Bool) (a0_3 : ByteArray) : Option (ByteArray) := (spec_AddrOk.f k a0_0 l0_1 a0_2 a0_3).bind fun t208 => (if t208 = true then ((spec_l1Text.f k a0_0 l0_1 a0_2 a0_3).bind fun t209 => (some t209)) else (some (⟨#[]⟩ : ByteArray)))
theorem spec_AddrText.mono : ∀ a0 a1 a2 a3 k, LeO (spec_AddrText.f k a0 a1 a2 a3) (spec_AddrText.f (k + 1) a0 a1 a2 a3) := by
  intro a0 a1 a2 a3 k
  unfold spec_AddrText.f
  repeat' first
      | (with_reducible exact spec_AddrOk.mono _ _ _ _ _)
      | (with_reducible exact spec_l1Text.mono _ _ _ _ _)
      | (with_reducible exact LeO.refl _)
      | (with_reducible exact LeO.none _)
      | (with_reducible refine LeO.ite ?_ ?_)
      | (with_reducible refine LeO.bind ?_ (fun _ => ?_))
      | exact spec_AddrOk.mono _ _ _ _ _
      | exact spec_l1Text.mono _ _ _ _ _
      | exact LeO.none _
      | refine LeO.ite ?_ ?_
      | refine LeO.bind ?_ (fun _ => ?_)
set_option maxHeartbeats 8000000 in
set_option maxRecDepth 100000 in
theorem spec_AddrText.calls (k : Nat) (a0_0 : ByteArray) (A0_1 : Option Addr) (c0_1 : Nat) (l0_1 : List ByteArray) (a0_2 : Bool) (a0_3 : ByteArray) (r : ByteArray) (w : World) (hr0_1 : Kd.C Kd.string w A0_1 l0_1.length l0_1) (hc0_1 : l0_1.length ≤ c0_1) (h : spec_AddrText.f k a0_0 l0_1 a0_2 a0_3 = some r) :
    Calls Try.prog 34 #[.agg #[.string a0_0, .slice A0_1 l0_1.length c0_1, .bool a0_2, .string a0_3]] w fun e w' => e = .returned (.string r) ∧ Below w.heap.size w w' := by
  have hu46 := Try.underlying46
  have HR0_1 := Aside0.mk hr0_1
  have HC0_1 := Aside0.mk hc0_1
  clear hr0_1 hc0_1
  have HB := Aside0.mk (Below.refl w.heap.size w)
  have H : ((spec_AddrOk.f k a0_0 l0_1 a0_2 a0_3).bind fun t208 => (if t208 = true then ((spec_l1Text.f k a0_0 l0_1 a0_2 a0_3).bind fun t209 => (some t209)) else (some (⟨#[]⟩ : ByteArray)))) = some r := h
  clear h
  replace H := Option.bind_eq_some_iff.mp H
  obtain ⟨t208, A20, H⟩ := H
  replace H : (if t208 = true then ((spec_l1Text.f k a0_0 l0_1 a0_2 a0_3).bind fun t209 => (some t209)) else (some (⟨#[]⟩ : ByteArray))) = some r := H
  have A2 := Aside0.mk A20
  clear A20
  by_cases c3 : t208 = true
  · subst c3
    have H1 : ((spec_l1Text.f k a0_0 l0_1 a0_2 a0_3).bind fun t209 => (some t209)) = some r := by rw [if_pos rfl] at H; exact H
    clear H
    have H := H1
    clear H1
    replace H := Option.bind_eq_some_iff.mp H
    obtain ⟨t209, A40, H⟩ := H
    replace H : (some t209) = some r := H
    have A4 := Aside0.mk A40
    clear A40
    obtain rfl := Option.some.inj H
    go_enter Try.func34, Try.ntmps34
    go_wp2_with (first | ((with_reducible refine gate_dst (N := 1) rfl ?_); refine box_event ?hg (N := 1) ?hd (cs := #[.string a0_0, .slice A0_1 l0_1.length c0_1, .bool a0_2, .string a0_3]) (t := 46) ?hr ?_; (case hd => rfl); (case hg => rfl); (case hr => first | (go_simp; done) | (go_simp; rfl)); intro gb207 hg w5 hbox hb; have n0_ := Aside0.mk (below_step (by repeat (first | (with_reducible first | exact HB.out | apply below_alloc | apply pw_below_drewN | apply below_drew1) | exact HB.out)) hb); have n1_ := Aside0.mk (hbox); have n2_ := Aside0.mk ((by rw [hg]; exact (below_size (by repeat (first | (with_reducible first | exact HB.out | apply below_alloc | apply pw_below_drewN | apply below_drew1) | exact HB.out))) : w.heap.size ≤ gb207)); have n3_ := Aside0.mk ((by rw [hg]; exact (below_size (by repeat (first | (with_reducible first | exact HB.out | apply below_alloc | apply pw_below_drewN | apply below_drew1) | exact HB.out))) : w.heap.size ≤ gb207)); clear HB; have HB := n0_; have BK207 := n1_; have GW207 := n2_; have GE207 := n3_; clear n0_ n1_ n2_ n3_; clear hb hbox hg; have hcz6_0 : w5.cell? ⟨gb207, 0, none⟩ = some (.string a0_0) := (blk_cell BK207.out 0).trans rfl; have hcz6_1 : w5.cell? ⟨gb207, 1, none⟩ = some (.slice A0_1 l0_1.length c0_1) := (blk_cell BK207.out 1).trans rfl; have hcz6_2 : w5.cell? ⟨gb207, 2, none⟩ = some (.bool a0_2) := (blk_cell BK207.out 2).trans rfl; have hcz6_3 : w5.cell? ⟨gb207, 3, none⟩ = some (.string a0_3) := (blk_cell BK207.out 3).trans rfl; have hfz6_0 := blk_frozen BK207.out 0; have hfz6_1 := blk_frozen BK207.out 1; have hfz6_2 := blk_frozen BK207.out 2; have hfz6_3 := blk_frozen BK207.out 3) | ((with_reducible refine gate_callee (f := 35) rfl ?_); refine goesL_ (some 4) rfl rfl Try.func35 (by kernel_rfl) rfl #[.agg #[.string a0_0, .slice A0_1 l0_1.length c0_1, .bool a0_2, .string a0_3]] rfl (by (try simp only [List.map_toArray, List.map_cons, List.map_nil]); first | done | rfl | (simp only [List.length_drop, List.length_take]; rfl)) ?_; (with_reducible refine (spec_AddrOk.calls k a0_0 _ _ l0_1 a0_2 a0_3 true _ ?side1 ?side2 A2.out).mono ?_); (case side1 => repeat (first | exact (Kd.C_below HR0_1.out HB.out) | (with_reducible refine Kd.C_alloc ?_ _) | (with_reducible refine Kd.C_drewN ?_ _) | (with_reducible refine Kd.C_drew ?_))); (case side2 => exact HC0_1.out); rintro e w7 ⟨rfl, hb⟩; refine ⟨_, rfl, ?_⟩; have n0_ := Aside0.mk (blk_below (g := gb207) (o := .cells #[.string a0_0, .slice A0_1 l0_1.length c0_1, .bool a0_2, .string a0_3] 46 (0, 0)) (by (with_reducible repeat (first | refine blk_drewN ?_ _ | refine blk_drew ?_ | refine blk_alloc ?_ _)); exact BK207.out) hb); have n1_ := Aside0.mk (below_step (by repeat (first | (with_reducible first | exact HB.out | apply below_alloc | apply pw_below_drewN | apply below_drew1 | refine below_set ?_ GE207.out) | exact HB.out)) hb); clear BK207; clear HB; have BK207 := n0_; have HB := n1_; clear n0_ n1_; (try clear hb); (try clear hb2); (try clear hk); (try clear hi); have hcz8_0 : w7.cell? ⟨gb207, 0, none⟩ = some (.string a0_0) := (blk_cell BK207.out 0).trans rfl; have hcz8_1 : w7.cell? ⟨gb207, 1, none⟩ = some (.slice A0_1 l0_1.length c0_1) := (blk_cell BK207.out 1).trans rfl; have hcz8_2 : w7.cell? ⟨gb207, 2, none⟩ = some (.bool a0_2) := (blk_cell BK207.out 2).trans rfl; have hcz8_3 : w7.cell? ⟨gb207, 3, none⟩ = some (.string a0_3) := (blk_cell BK207.out 3).trans rfl; have hfz8_0 := blk_frozen BK207.out 0; have hfz8_1 := blk_frozen BK207.out 1; have hfz8_2 := blk_frozen BK207.out 2; have hfz8_3 := blk_frozen BK207.out 3) | ((with_reducible refine gate_callee (f := 36) rfl ?_); refine goesL_ (some 7) rfl rfl Try.func36 (by kernel_rfl) rfl #[.agg #[.string a0_0, .slice A0_1 l0_1.length c0_1, .bool a0_2, .string a0_3]] rfl (by (try simp only [List.map_toArray, List.map_cons, List.map_nil]); first | done | rfl | (simp only [List.length_drop, List.length_take]; rfl)) ?_; (with_reducible refine (spec_l1Text.calls k a0_0 _ _ l0_1 a0_2 a0_3 t209 _ ?side1 ?side2 A4.out).mono ?_); (case side1 => repeat (first | exact (Kd.C_below HR0_1.out HB.out) | (with_reducible refine Kd.C_alloc ?_ _) | (with_reducible refine Kd.C_drewN ?_ _) | (with_reducible refine Kd.C_drew ?_))); (case side2 => exact HC0_1.out); rintro e w9 ⟨rfl, hb⟩; refine ⟨_, rfl, ?_⟩; have n0_ := Aside0.mk (blk_below (g := gb207) (o := .cells #[.string a0_0, .slice A0_1 l0_1.length c0_1, .bool a0_2, .string a0_3] 46 (0, 0)) (by (with_reducible repeat (first | refine blk_drewN ?_ _ | refine blk_drew ?_ | refine blk_alloc ?_ _)); exact BK207.out) hb); have n1_ := Aside0.mk (below_step (by repeat (first | (with_reducible first | exact HB.out | apply below_alloc | apply pw_below_drewN | apply below_drew1 | refine below_set ?_ GE207.out) | exact HB.out)) hb); clear BK207; clear HB; have BK207 := n0_; have HB := n1_; clear n0_ n1_; (try clear hb); (try clear hb2); (try clear hk); (try clear hi)))
    go_ret
    exact ⟨by first | rfl | (simp [errW_none, errW_some] <;> rfl) | (simp [*, errW_none, errW_some] <;> rfl), by repeat (first | (with_reducible first | exact HB.out | apply below_alloc | apply pw_below_drewN | apply below_drew1 | refine below_set ?_ GE207.out) | exact HB.out)⟩
  · replace c3 := Bool.eq_false_iff.mpr c3
    subst c3
    have H1 : (some (⟨#[]⟩ : ByteArray)) = some r := by rw [if_neg (show ¬ (false = true) by decide)] at H; exact H
    clear H
    have H := H1
    clear H1
    obtain rfl := Option.some.inj H
    go_enter Try.func34, Try.ntmps34
    go_wp2_with (first | ((with_reducible refine gate_dst (N := 1) rfl ?_); refine box_event ?hg (N := 1) ?hd (cs := #[.string a0_0, .slice A0_1 l0_1.length c0_1, .bool a0_2, .string a0_3]) (t := 46) ?hr ?_; (case hd => rfl); (case hg => rfl); (case hr => first | (go_simp; done) | (go_simp; rfl)); intro gb207 hg w10 hbox hb; have n0_ := Aside0.mk (below_step (by repeat (first | (with_reducible first | exact HB.out | apply below_alloc | apply pw_below_drewN | apply below_drew1) | exact HB.out)) hb); have n1_ := Aside0.mk (hbox); have n2_ := Aside0.mk ((by rw [hg]; exact (below_size (by repeat (first | (with_reducible first | exact HB.out | apply below_alloc | apply pw_below_drewN | apply below_drew1) | exact HB.out))) : w.heap.size ≤ gb207)); have n3_ := Aside0.mk ((by rw [hg]; exact (below_size (by repeat (first | (with_reducible first | exact HB.out | apply below_alloc | apply pw_below_drewN | apply below_drew1) | exact HB.out))) : w.heap.size ≤ gb207)); clear HB; have HB := n0_; have BK207 := n1_; have GW207 := n2_; have GE207 := n3_; clear n0_ n1_ n2_ n3_; clear hb hbox hg; have hcz11_0 : w10.cell? ⟨gb207, 0, none⟩ = some (.string a0_0) := (blk_cell BK207.out 0).trans rfl; have hcz11_1 : w10.cell? ⟨gb207, 1, none⟩ = some (.slice A0_1 l0_1.length c0_1) := (blk_cell BK207.out 1).trans rfl; have hcz11_2 : w10.cell? ⟨gb207, 2, none⟩ = some (.bool a0_2) := (blk_cell BK207.out 2).trans rfl; have hcz11_3 : w10.cell? ⟨gb207, 3, none⟩ = some (.string a0_3) := (blk_cell BK207.out 3).trans rfl; have hfz11_0 := blk_frozen BK207.out 0; have hfz11_1 := blk_frozen BK207.out 1; have hfz11_2 := blk_frozen BK207.out 2; have hfz11_3 := blk_frozen BK207.out 3) | ((with_reducible refine gate_callee (f := 35) rfl ?_); refine goesL_ (some 4) rfl rfl Try.func35 (by kernel_rfl) rfl #[.agg #[.string a0_0, .slice A0_1 l0_1.length c0_1, .bool a0_2, .string a0_3]] rfl (by (try simp only [List.map_toArray, List.map_cons, List.map_nil]); first | done | rfl | (simp only [List.length_drop, List.length_take]; rfl)) ?_; (with_reducible refine (spec_AddrOk.calls k a0_0 _ _ l0_1 a0_2 a0_3 false _ ?side1 ?side2 A2.out).mono ?_); (case side1 => repeat (first | exact (Kd.C_below HR0_1.out HB.out) | (with_reducible refine Kd.C_alloc ?_ _) | (with_reducible refine Kd.C_drewN ?_ _) | (with_reducible refine Kd.C_drew ?_))); (case side2 => exact HC0_1.out); rintro e w12 ⟨rfl, hb⟩; refine ⟨_, rfl, ?_⟩; have n0_ := Aside0.mk (blk_below (g := gb207) (o := .cells #[.string a0_0, .slice A0_1 l0_1.length c0_1, .bool a0_2, .string a0_3] 46 (0, 0)) (by (with_reducible repeat (first | refine blk_drewN ?_ _ | refine blk_drew ?_ | refine blk_alloc ?_ _)); exact BK207.out) hb); have n1_ := Aside0.mk (below_step (by repeat (first | (with_reducible first | exact HB.out | apply below_alloc | apply pw_below_drewN | apply below_drew1 | refine below_set ?_ GE207.out) | exact HB.out)) hb); clear BK207; clear HB; have BK207 := n0_; have HB := n1_; clear n0_ n1_; (try clear hb); (try clear hb2); (try clear hk); (try clear hi)))
    go_ret
    exact ⟨by first | rfl | (simp [errW_none, errW_some] <;> rfl) | (simp [*, errW_none, errW_some] <;> rfl), by repeat (first | (with_reducible first | exact HB.out | apply below_alloc | apply pw_below_drewN | apply below_drew1 | refine below_set ?_ GE207.out) | exact HB.out)⟩

end Go.Proofs.Ytmaleoldpmiilaa.P

/- The plain function of a Go function, and that Go comes to just its answer; its conditions are the theorem's own. Written by a program of this session (wip/pr.py). -/
namespace Go.Proofs.Ytmaleoldpmiilaa.P
open Go.RowKit Go.Proofs.YtmaleoldpmiilaaW.PrintWords Go.Proofs.YtmaleoldpmiilaaW.PrintLast Go.Proofs.YtmaleoldpmiilaaW.PrintMore
attribute [local go_sem] max2_int min2_int max_two min_two max_three min_three max_four min_four   -- for this text's walks alone
set_option linter.unusedVariables false
set_option linter.unusedSimpArgs false

/-! ### spec_l71Addr: function 32 -/
def spec_l71Addr.l0 : Nat → Int → List Int → Int → ByteArray → List ByteArray → Bool → ByteArray → Option (ByteArray × Int)
  | 0, _, _, _, _, _, _, _ => none
  | k + 1, x4, x1000, x1001, x217000, x217001, x217002, x217003 => if x4 > 0 then ((spec_l6Rd_of.f k x1000 x1001 (([(⟨#[97]⟩ : ByteArray), (⟨#[98]⟩ : ByteArray), (⟨#[99]⟩ : ByteArray), (⟨#[110, 111, 116, 105, 99, 101]⟩ : ByteArray)] : List ByteArray))).bind fun bt222 => (if x217001.length < 8796093022208 then (spec_l71Addr.l0 k (wrap64 (x4 - 1)) x1000 bt222.2 x217000 (x217001 ++ [bt222.1]) x217002 x217003) else (none))) else ((spec_l6Rd_pick.f k x1000 x1001 8).bind fun bt227 => (if bt227.1 = 0 then ((spec_l6Rd_of.f k x1000 bt227.2 (([(⟨#[]⟩ : ByteArray), (⟨#[97]⟩ : ByteArray), (⟨#[98, 37, 51, 68]⟩ : ByteArray)] : List ByteArray))).bind fun bt232 => ((spec_AddrText.f k x217000 x217001 true bt232.1).bind fun t234 => (some (t234, bt232.2)))) else ((spec_AddrText.f k x217000 x217001 x217002 x217003).bind fun t235 => (some (t235, bt227.2)))))
def spec_l71Addr.f (k : Nat) (s0_0 : List Int) (s0_1 : Int) : Option (ByteArray × Int) := (spec_l71Houses.f).bind fun t210 => ((spec_l6Rd_pick.f k s0_0 s0_1 4).bind fun bt213 => (if 0 ≤ bt213.1 then (if bt213.1 < (t210.length : Int) then ((spec_l6Rd_pick.f k s0_0 bt213.2 3).bind fun bt217 => (spec_l71Addr.l0 k bt217.1 s0_0 bt217.2 (rdOf ByteArray.empty t210 bt213.1) ([] : List ByteArray) false (⟨#[]⟩ : ByteArray))) else (none)) else (none)))
theorem spec_l71Addr.mono_l : ∀ k, (∀ y0 y1 y2 y3 y4 y5 y6, LeO (spec_l71Addr.l0 k y0 y1 y2 y3 y4 y5 y6) (spec_l71Addr.l0 (k + 1) y0 y1 y2 y3 y4 y5 y6))
  | 0 => fun _ _ _ _ _ _ _ r h => by simp [spec_l71Addr.l0] at h
  | k + 1 => by
    have ih0 := spec_l71Addr.mono_l k
    · intro y0 y1 y2 y3 y4 y5 y6
      unfold spec_l71Addr.l0
      repeat' first
      | (with_reducible exact ih0 _ _ _ _ _ _ _)
      | (with_reducible exact spec_AddrText.mono _ _ _ _ _)
      | (with_reducible exact spec_l6Rd_of.mono _ _ _ _)
      | (with_reducible exact spec_l6Rd_pick.mono _ _ _ _)
      | (with_reducible exact LeO.refl _)
      | (with_reducible exact LeO.none _)
      | (with_reducible refine LeO.ite ?_ ?_)
      | (with_reducible refine LeO.bind ?_ (fun _ => ?_))
      | exact ih0 _ _ _ _ _ _ _
      | exact spec_AddrText.mono _ _ _ _ _
      | exact spec_l6Rd_of.mono _ _ _ _
      | exact spec_l6Rd_pick.mono _ _ _ _
      | exact LeO.none _
      | refine LeO.ite ?_ ?_
      | refine LeO.bind ?_ (fun _ => ?_)
theorem spec_l71Addr.mono : ∀ a0 a1 k, LeO (spec_l71Addr.f k a0 a1) (spec_l71Addr.f (k + 1) a0 a1) := by
  intro a0 a1 k
  have ih0 := spec_l71Addr.mono_l k
  unfold spec_l71Addr.f
  repeat' first
      | (with_reducible exact ih0 _ _ _ _ _ _ _)
      | (with_reducible exact spec_AddrText.mono _ _ _ _ _)
      | (with_reducible exact spec_l6Rd_of.mono _ _ _ _)
      | (with_reducible exact spec_l6Rd_pick.mono _ _ _ _)
      | (with_reducible exact LeO.refl _)
      | (with_reducible exact LeO.none _)
      | (with_reducible refine LeO.ite ?_ ?_)
      | (with_reducible refine LeO.bind ?_ (fun _ => ?_))
      | exact ih0 _ _ _ _ _ _ _
      | exact spec_AddrText.mono _ _ _ _ _
      | exact spec_l6Rd_of.mono _ _ _ _
      | exact spec_l6Rd_pick.mono _ _ _ _
      | exact LeO.none _
      | refine LeO.ite ?_ ?_
      | refine LeO.bind ?_ (fun _ => ?_)
def spec_l71Addr.T5 : Bool × List (List Nat × List Nat) := (true, [([], []), ([0], [0]), ([], []), ([], []), ([2, 3], [2, 3]), ([4], [4]), ([1, 5, 4], [1, 5]), ([0, 1, 2, 3, 4, 5, 6], []), ([7, 6, 6, 0, 1, 2, 3, 4, 5, 6], [6, 7])])
def spec_l71Addr.B5 : List Nat := [0, 1, 0, 0, 12, 28, 63, 127, 255]
theorem spec_l71Addr.tab5 : rtab .any (opsOf Try.f32 5) = spec_l71Addr.T5 := by kernel_rfl
theorem spec_l71Addr.bits5 : waitsOk spec_l71Addr.T5.2 spec_l71Addr.B5 = true := by kernel_rfl
set_option maxHeartbeats 8000000 in
set_option maxRecDepth 100000 in
theorem spec_l71Addr.calls (k : Nat) (g : Nat) (s0_0 : List Int) (s0_1 : Int) (r1 : ByteArray) (r2 : Int) (w0 w : World) (hI : IsS42 w0 w g s0_0 s0_1) (hB : Below w0.heap.size w0 w) (h : spec_l71Addr.f k s0_0 s0_1 = some (r1, r2)) :
    Calls Try.prog 32 #[.pointer (some ⟨g, 0, none⟩)] w fun e w' => e = .returned (.string r1) ∧ IsS42 w0 w' g s0_0 r2 ∧ Below w0.heap.size w0 w' ∧ KeepBut w w' g none := by
  have hu46 := Try.underlying46
  have HI0 := Aside0.mk hI
  have HK := Aside0.mk (KeepBut.refl w g none)
  have HL := Aside0.mk hB.size
  clear hI
  have HW0 := Aside0.mk hB.size
  have HB := Aside0.mk hB
  clear hB
  have H : ((spec_l71Houses.f).bind fun t210 => ((spec_l6Rd_pick.f k s0_0 s0_1 4).bind fun bt213 => (if 0 ≤ bt213.1 then (if bt213.1 < (t210.length : Int) then ((spec_l6Rd_pick.f k s0_0 bt213.2 3).bind fun bt217 => (spec_l71Addr.l0 k bt217.1 s0_0 bt217.2 (rdOf ByteArray.empty t210 bt213.1) ([] : List ByteArray) false (⟨#[]⟩ : ByteArray))) else (none)) else (none)))) = some (r1, r2) := h
  clear h
  replace H := Option.bind_eq_some_iff.mp H
  obtain ⟨t210, A20, H⟩ := H
  replace H : ((spec_l6Rd_pick.f k s0_0 s0_1 4).bind fun bt213 => (if 0 ≤ bt213.1 then (if bt213.1 < (t210.length : Int) then ((spec_l6Rd_pick.f k s0_0 bt213.2 3).bind fun bt217 => (spec_l71Addr.l0 k bt217.1 s0_0 bt217.2 (rdOf ByteArray.empty t210 bt213.1) ([] : List ByteArray) false (⟨#[]⟩ : ByteArray))) else (none)) else (none))) = some (r1, r2) := H
  have A2 := Aside0.mk A20
  clear A20
  replace H := Option.bind_eq_some_iff.mp H
  obtain ⟨⟨t213, t214⟩, A30, H⟩ := H
  replace H : (if 0 ≤ t213 then (if t213 < (t210.length : Int) then ((spec_l6Rd_pick.f k s0_0 t214 3).bind fun bt217 => (spec_l71Addr.l0 k bt217.1 s0_0 bt217.2 (rdOf ByteArray.empty t210 t213) ([] : List ByteArray) false (⟨#[]⟩ : ByteArray))) else (none)) else (none)) = some (r1, r2) := H
  have A3 := Aside0.mk A30
  clear A30
  by_cases c4 : 0 ≤ t213
  · rw [if_pos c4] at H
    have c4b0 : decide (0 ≤ t213) = true := decide_eq_true c4
    clear c4
    by_cases c5 : t213 < (t210.length : Int)
    · rw [if_pos c5] at H
      have c5b0 : decide (t213 < (t210.length : Int)) = true := decide_eq_true c5
      clear c5
      replace H := Option.bind_eq_some_iff.mp H
      obtain ⟨⟨t217, t218⟩, A60, H⟩ := H
      replace H : (spec_l71Addr.l0 k t217 s0_0 t218 (rdOf ByteArray.empty t210 t213) ([] : List ByteArray) false (⟨#[]⟩ : ByteArray)) = some (r1, r2) := H
      have A6 := Aside0.mk A60
      clear A60
      have H' := Aside0.mk H
      clear H
      go_enter Try.func32, Try.ntmps32
      go_wp2_with (first | ((with_reducible refine gate_callee (f := 33) rfl ?_); refine goesL_ (some 5) rfl rfl Try.func33 (by kernel_rfl) rfl #[] rfl (by (try simp only [List.map_toArray, List.map_cons, List.map_nil]); first | done | rfl | (simp only [List.length_drop, List.length_take]; rfl)) ?_; (with_reducible refine (spec_l71Houses.calls  t210 _ A2.out).mono ?_); rintro e w7 ⟨v211, rfl, ho0, hb⟩; refine ⟨_, rfl, ?_⟩; have n0_ := Aside0.mk (Kd.R_lower ho0 (keep_size (w := w) (g := g) (row := none) (by repeat (first | (with_reducible first | exact HK.out | apply KeepBut.set_ | apply keep_drewN | apply keep_drew | apply keep_alloc) | exact HK.out)))); have n1_ := Aside0.mk (IsS42.below (by repeat (first | (with_reducible first | exact HI0.out | apply IsS42.alloc | apply IsS42.drewN | apply IsS42.drew | apply IsS42.set_1) | exact HI0.out)) hb); have n2_ := Aside0.mk (KeepBut.trans (by repeat (first | (with_reducible first | exact HK.out | apply KeepBut.set_ | apply keep_drewN | apply keep_drew | apply keep_alloc) | exact HK.out)) (KeepBut.of_below hb g none) (.inl rfl)); have n3_ := Aside0.mk (below_step (by repeat (first | (with_reducible first | exact HB.out | apply below_alloc | apply pw_below_drewN | apply below_drew1 | refine below_set ?_ (IsS42.ge HI0.out)) | exact HB.out)) hb); clear HI0; clear HK; clear HB; have HO212 := n0_; have HI0 := n1_; have HK := n2_; have HB := n3_; clear n0_ n1_ n2_ n3_; (try clear hb); (try clear hb2); (try clear hk); (try clear hi); (try clear ho0)) | ((with_reducible refine gate_callee (f := 25) rfl ?_); refine goesL_ (some 7) rfl rfl Try.func25 (by kernel_rfl) rfl #[.pointer (some ⟨g, 0, none⟩), .int .i64 4] rfl (by (try simp only [List.map_toArray, List.map_cons, List.map_nil]); first | done | rfl | (simp only [List.length_drop, List.length_take]; rfl)) ?_; (with_reducible refine (spec_l6Rd_pick.calls k g s0_0 s0_1 4 t213 t214 w0 _ ?side1 ?side2 A3.out).mono ?_); (case side1 => repeat (first | (with_reducible first | exact HI0.out | apply IsS42.alloc | apply IsS42.drewN | apply IsS42.drew | apply IsS42.set_1) | exact HI0.out)); (case side2 => repeat (first | (with_reducible first | exact HB.out | apply below_alloc | apply pw_below_drewN | apply below_drew1 | refine below_set ?_ (IsS42.ge HI0.out)) | exact HB.out)); rintro e w8 ⟨rfl, hi, hb, hk⟩; refine ⟨_, rfl, ?_⟩; have n0_ := Aside0.mk (Kd.R_mono (Kd.R_keep (IsS42.apart (show IsS42 w0 _ g s0_0 s0_1 from by repeat (first | (with_reducible first | exact HI0.out | apply IsS42.alloc | apply IsS42.drewN | apply IsS42.drew | apply IsS42.set_1) | exact HI0.out)) (by (with_reducible repeat (first | apply Kd.R_alloc | apply Kd.R_drewN | apply Kd.R_drew)); exact HO212.out) (by decide)) hk (fun _ h => h.2)) (fun _ h => h.1)); have n1_ := Aside0.mk (KeepBut.trans (by repeat (first | (with_reducible first | exact HK.out | apply KeepBut.set_ | apply keep_drewN | apply keep_drew | apply keep_alloc) | exact HK.out)) hk (.inl rfl)); have n2_ := Aside0.mk (hb); have n3_ := Aside0.mk (hi); clear HO212; clear HK; clear HB; clear HI0; have HO212 := n0_; have HK := n1_; have HB := n2_; have HI0 := n3_; clear n0_ n1_ n2_ n3_; (try clear hb); (try clear hb2); (try clear hk); (try clear hi); obtain ⟨Ao9, co9, eo9⟩ := Kd.R_slice HO212.out; subst eo9; have p215 : 0 ≤ (t213 : Int) := of_decide_eq_true (by first | (with_reducible assumption) | assumption); have q215 : t213 < (t210.length : Int) := of_decide_eq_true (by first | (with_reducible assumption) | assumption); obtain ⟨ad215, e215, hx215_0⟩ := Kd.at_string (Kd.R_reads' HO212.out).2.2 t213 p215 q215; cases e215; replace p215 := eq_true p215; replace q215 := eq_true q215) | ((with_reducible refine gate_dst (N := 3) rfl ?_); refine box_event ?hg (N := 3) ?hd (cs := #[.string (⟨#[]⟩ : ByteArray), .slice none 0 0, .bool false, .string (⟨#[]⟩ : ByteArray)]) (t := 46) ?hr ?_; (case hd => rfl); (case hg => rfl); (case hr => first | (go_simp; done) | (go_simp; rfl)); intro gb216 hg w10 hbox hb; have n0_ := Aside0.mk (Kd.R_below (by (with_reducible repeat (first | apply Kd.R_alloc | apply Kd.R_drewN | apply Kd.R_drew)); exact HO212.out) hb); have n1_ := Aside0.mk (IsS42.below (by repeat (first | (with_reducible first | exact HI0.out | apply IsS42.alloc | apply IsS42.drewN | apply IsS42.drew | apply IsS42.set_1) | exact HI0.out)) hb); have n2_ := Aside0.mk (KeepBut.trans (by repeat (first | (with_reducible first | exact HK.out | apply KeepBut.set_ | apply keep_drewN | apply keep_drew | apply keep_alloc) | exact HK.out)) (KeepBut.of_below hb g none) (.inl rfl)); have n3_ := Aside0.mk (below_step (by repeat (first | (with_reducible first | exact HB.out | apply below_alloc | apply pw_below_drewN | apply below_drew1 | refine below_set ?_ (IsS42.ge HI0.out)) | exact HB.out)) hb); have n4_ := Aside0.mk (hbox); have n5_ := Aside0.mk ((by rw [hg]; exact (keep_size (w := w) (g := g) (row := none) (by repeat (first | (with_reducible first | exact HK.out | apply KeepBut.set_ | apply keep_drewN | apply keep_drew | apply keep_alloc) | exact HK.out))) : w.heap.size ≤ gb216)); have n6_ := Aside0.mk ((Nat.le_trans HW0.out (by rw [hg]; exact (keep_size (w := w) (g := g) (row := none) (by repeat (first | (with_reducible first | exact HK.out | apply KeepBut.set_ | apply keep_drewN | apply keep_drew | apply keep_alloc) | exact HK.out))) : w.heap.size ≤ gb216) : w0.heap.size ≤ gb216)); have n7_ := Aside0.mk ((by rw [hg]; exact Nat.ne_of_lt (IsS42.lt (show IsS42 w0 _ g s0_0 t214 from by repeat (first | (with_reducible first | exact HI0.out | apply IsS42.alloc | apply IsS42.drewN | apply IsS42.drew | apply IsS42.set_1) | exact HI0.out))) : g ≠ gb216)); have n8_ := Aside0.mk ((by rw [hg]; exact Nat.ne_of_gt (IsS42.lt (show IsS42 w0 _ g s0_0 t214 from by repeat (first | (with_reducible first | exact HI0.out | apply IsS42.alloc | apply IsS42.drewN | apply IsS42.drew | apply IsS42.set_1) | exact HI0.out))) : gb216 ≠ g)); clear HO212; clear HI0; clear HK; clear HB; have HO212 := n0_; have HI0 := n1_; have HK := n2_; have HB := n3_; have BK216 := n4_; have GW216 := n5_; have GE216 := n6_; have NB0_216 := n7_; have NB216_0 := n8_; clear n0_ n1_ n2_ n3_ n4_ n5_ n6_ n7_ n8_; clear hb hbox hg; have hnb11 := NB216_0.out; have hnc11 := NB0_216.out; have hcz12_0 : w10.cell? ⟨gb216, 0, none⟩ = some (.string (⟨#[]⟩ : ByteArray)) := (blk_cell BK216.out 0).trans rfl; have hcz12_1 : w10.cell? ⟨gb216, 1, none⟩ = some (.slice none 0 0) := (blk_cell BK216.out 1).trans rfl; have hcz12_2 : w10.cell? ⟨gb216, 2, none⟩ = some (.bool false) := (blk_cell BK216.out 2).trans rfl; have hcz12_3 : w10.cell? ⟨gb216, 3, none⟩ = some (.string (⟨#[]⟩ : ByteArray)) := (blk_cell BK216.out 3).trans rfl; have hfz12_0 := blk_frozen BK216.out 0; have hfz12_1 := blk_frozen BK216.out 1; have hfz12_2 := blk_frozen BK216.out 2; have hfz12_3 := blk_frozen BK216.out 3) | ((with_reducible refine gate_callee (f := 25) rfl ?_); refine goesL_ (some 12) rfl rfl Try.func25 (by kernel_rfl) rfl #[.pointer (some ⟨g, 0, none⟩), .int .i64 3] rfl (by (try simp only [List.map_toArray, List.map_cons, List.map_nil]); first | done | rfl | (simp only [List.length_drop, List.length_take]; rfl)) ?_; (with_reducible refine (spec_l6Rd_pick.calls k g s0_0 t214 3 t217 t218 w0 _ ?side1 ?side2 A6.out).mono ?_); (case side1 => repeat (first | (with_reducible first | exact HI0.out | apply IsS42.alloc | apply IsS42.drewN | apply IsS42.drew | apply IsS42.set_1 | refine IsS42.far ?_ NB0_216.out _) | exact HI0.out)); (case side2 => repeat (first | (with_reducible first | exact HB.out | apply below_alloc | apply pw_below_drewN | apply below_drew1 | refine below_set ?_ (IsS42.ge HI0.out) | refine below_set ?_ GE216.out) | exact HB.out)); rintro e w13 ⟨rfl, hi, hb, hk⟩; refine ⟨_, rfl, ?_⟩; have n0_ := Aside0.mk (Kd.R_mono (Kd.R_keep (IsS42.apart (show IsS42 w0 _ g s0_0 t214 from by repeat (first | (with_reducible first | exact HI0.out | apply IsS42.alloc | apply IsS42.drewN | apply IsS42.drew | apply IsS42.set_1 | refine IsS42.far ?_ NB0_216.out _) | exact HI0.out)) (by (with_reducible repeat (first | apply Kd.R_alloc | apply Kd.R_drewN | apply Kd.R_drew)); exact (Kd.R_mono (Kd.R_far (p := ⟨gb216, 3, none⟩) (Kd.R_far (p := ⟨gb216, 2, none⟩) (Kd.R_far (p := ⟨gb216, 1, none⟩) (Kd.R_far (p := ⟨gb216, 0, none⟩) (Kd.R_types HO212.out BK216.out (by decide)) (fun _ hk => hk.2) (.string (rdOf ByteArray.empty t210 t213))) (fun _ hk => hk.2) (.slice none 0 0)) (fun _ hk => hk.2) (.bool false)) (fun _ hk => hk.2) (.string (⟨#[]⟩ : ByteArray))) (fun _ h_ => h_.1))) (by decide)) hk (fun _ h => h.2)) (fun _ h => h.1)); have n1_ := Aside0.mk (KeepBut.blk hk (g' := gb216) (o := .cells #[.string (rdOf ByteArray.empty t210 t213), .slice none 0 0, .bool false, .string (⟨#[]⟩ : ByteArray)] 46 (0, 0)) (by (with_reducible repeat (first | refine blk_drewN ?_ _ | refine blk_drew ?_ | refine blk_alloc ?_ _)); refine blk_put (cs := #[.string (rdOf ByteArray.empty t210 t213), .slice none 0 0, .bool false, .string (⟨#[]⟩ : ByteArray)]) ?_ 3 _ rfl; (with_reducible repeat (first | refine blk_drewN ?_ _ | refine blk_drew ?_ | refine blk_alloc ?_ _)); refine blk_put (cs := #[.string (rdOf ByteArray.empty t210 t213), .slice none 0 0, .bool false, .string (⟨#[]⟩ : ByteArray)]) ?_ 2 _ rfl; (with_reducible repeat (first | refine blk_drewN ?_ _ | refine blk_drew ?_ | refine blk_alloc ?_ _)); refine blk_put (cs := #[.string (rdOf ByteArray.empty t210 t213), .slice none 0 0, .bool false, .string (⟨#[]⟩ : ByteArray)]) ?_ 1 _ rfl; (with_reducible repeat (first | refine blk_drewN ?_ _ | refine blk_drew ?_ | refine blk_alloc ?_ _)); refine blk_put (cs := #[.string (⟨#[]⟩ : ByteArray), .slice none 0 0, .bool false, .string (⟨#[]⟩ : ByteArray)]) ?_ 0 _ rfl; (with_reducible repeat (first | refine blk_drewN ?_ _ | refine blk_drew ?_ | refine blk_alloc ?_ _)); exact BK216.out) NB216_0.out (by simp)); have n2_ := Aside0.mk (KeepBut.trans (by repeat (first | (with_reducible first | exact HK.out | apply KeepBut.set_ | apply keep_drewN | apply keep_drew | apply keep_alloc | refine keep_far ?_ GW216.out _) | exact HK.out)) hk (.inl rfl)); have n3_ := Aside0.mk (hb); have n4_ := Aside0.mk (hi); clear HO212; clear BK216; clear HK; clear HB; clear HI0; have HO212 := n0_; have BK216 := n1_; have HK := n2_; have HB := n3_; have HI0 := n4_; clear n0_ n1_ n2_ n3_ n4_; (try clear hb); (try clear hb2); (try clear hk); (try clear hi)))
      go_loopg [4] k (fun kq v4 w' => ∃ (x4_1 : Int) (x1001_1 : Int) (x217001_1 : List ByteArray) (u217001 : Value), v4 = .int .i64 x4_1 ∧ Aside0 (spec_l71Addr.l0 kq x4_1 s0_0 x1001_1 (rdOf ByteArray.empty t210 t213) x217001_1 false (⟨#[]⟩ : ByteArray) = some (r1, r2)) ∧ Aside0 (kq ≤ k) ∧ Aside0 (Kd.R Kd.string 9 w' w.heap.size (fun _ => True) u217001 x217001_1) ∧ Aside0 (w'.heap[gb216]? = some (.cells #[.string (rdOf ByteArray.empty t210 t213), u217001, .bool false, .string (⟨#[]⟩ : ByteArray)] 46 (0, 0))) ∧ Aside0 (IsS42 w0 w' g s0_0 x1001_1) ∧ Aside0 (KeepBut w w' g none) ∧ Aside0 (Below w0.heap.size w0 w'))
      case atStart => exact ⟨(t217), (t218), (([] : List ByteArray)), (.slice none 0 0), (by first | rfl | (simp only [i64_w, i32_w]; done) | (simp only [aid_isEmpty, aid_isEmpty2]; done) | (simp; done) | (simp [*]; done)), H', ⟨Nat.le_refl _⟩, ⟨by first | exact Kd.R_nil _ _ _ _ _ | exact Kd.N_nil _ _ _ _ _ | exact Kd.V_nil _ _ _ _ _ | exact Kd.Q_nil _ _ _ _ _ | exact Kd.S_nil _ _ _ _ _⟩, ⟨by (with_reducible repeat (first | refine blk_drewN ?_ _ | refine blk_drew ?_ | refine blk_alloc ?_ _)); exact BK216.out⟩, ⟨by repeat (first | (with_reducible first | exact HI0.out | apply IsS42.alloc | apply IsS42.drewN | apply IsS42.drew | apply IsS42.set_1 | refine IsS42.far ?_ NB0_216.out _) | exact HI0.out)⟩, ⟨by repeat (first | (with_reducible first | exact HK.out | apply KeepBut.set_ | apply keep_drewN | apply keep_drew | apply keep_alloc | refine keep_far ?_ GW216.out _) | exact HK.out)⟩, ⟨by repeat (first | (with_reducible first | exact HB.out | apply below_alloc | apply pw_below_drewN | apply below_drew1 | refine below_set ?_ (IsS42.ge HI0.out) | refine below_set ?_ GE216.out) | exact HB.out)⟩⟩
      case round =>
        clear H'
        try clear c1
        try clear c2
        try clear p2
        try clear q2
        try clear hx2
        try clear c3
        try clear c4
        try clear c4b0
        try clear c5
        try clear c5b0
        try clear c11
        try clear hcz12_0
        try clear hcz12_1
        try clear hcz12_2
        try clear hcz12_3
        try clear hfz12_0
        try clear hfz12_1
        try clear hfz12_2
        try clear hfz12_3
        try clear hx215_0
        try clear p215
        try clear q215
        obtain ⟨x4_1, x1001_1, x217001_1, u217001, rfl, HA, HK1, HO_217001, BK216, HI0, HK, HB⟩ := hrel
        cases gk with
        | zero => exact absurd HA.out (by simp [spec_l71Addr.l0])
        | succ k1 =>
          have H := HA.out
          clear HA
          simp only [spec_l71Addr.l0] at H
          by_cases c14 : x4_1 > 0
          · rw [if_pos c14] at H
            have c14b0 : decide (0 < x4_1) = true := decide_eq_true c14
            clear c14
            obtain ⟨y219, hy219⟩ : ∃ y_ : List ByteArray, y_ = (([(⟨#[97]⟩ : ByteArray), (⟨#[98]⟩ : ByteArray), (⟨#[99]⟩ : ByteArray), (⟨#[110, 111, 116, 105, 99, 101]⟩ : ByteArray)] : List ByteArray)) := ⟨_, rfl⟩
            replace H : ((spec_l6Rd_of.f k1 s0_0 x1001_1 y219).bind fun bt222 => (if x217001_1.length < 8796093022208 then (spec_l71Addr.l0 k1 (wrap64 (x4_1 - 1)) s0_0 bt222.2 (rdOf ByteArray.empty t210 t213) (x217001_1 ++ [bt222.1]) false (⟨#[]⟩ : ByteArray)) else (none))) = some (r1, r2) := by first | (rw [hy219]; with_reducible exact H) | (have H2_ := (Option.bind_some _ _).symm.trans H; rw [hy219]; with_reducible exact H2_) | (have H2_ := (Option.bind_some _ _).symm.trans H; with_reducible exact H2_) | with_reducible exact H | (rw [hy219]; exact H) | exact H
            have Ny219 := Aside0.mk hy219
            clear hy219
            replace H := Option.bind_eq_some_iff.mp H
            obtain ⟨⟨t222, t223⟩, A150, H⟩ := H
            replace H : (if x217001_1.length < 8796093022208 then (spec_l71Addr.l0 k1 (wrap64 (x4_1 - 1)) s0_0 t223 (rdOf ByteArray.empty t210 t213) (x217001_1 ++ [t222]) false (⟨#[]⟩ : ByteArray)) else (none)) = some (r1, r2) := H
            have A15 := Aside0.mk A150
            clear A150
            by_cases c16 : x217001_1.length < 8796093022208
            · rw [if_pos c16] at H
              have LMc16 := Aside0.mk c16
              clear c16
              obtain ⟨y224, hy224⟩ : ∃ y_ : List ByteArray, y_ = (x217001_1 ++ [t222]) := ⟨_, rfl⟩
              replace H : (spec_l71Addr.l0 k1 (wrap64 (x4_1 - 1)) s0_0 t223 (rdOf ByteArray.empty t210 t213) y224 false (⟨#[]⟩ : ByteArray)) = some (r1, r2) := by first | (rw [hy224]; with_reducible exact H) | (have H2_ := (Option.bind_some _ _).symm.trans H; rw [hy224]; with_reducible exact H2_) | (have H2_ := (Option.bind_some _ _).symm.trans H; with_reducible exact H2_) | with_reducible exact H | (rw [hy224]; exact H) | exact H
              have Ny224 := Aside0.mk hy224
              clear hy224
              have H' := Aside0.mk H
              clear H
              try go_wp2
              have n0_ := Aside0.mk (Kd.R_drew HO_217001.out)
              have n1_ := Aside0.mk (blk_drew BK216.out)
              have n2_ := Aside0.mk (IsS42.drew HI0.out)
              have n3_ := Aside0.mk (keep_drew HK.out)
              have n4_ := Aside0.mk (below_drew1 HB.out)
              clear HO_217001
              clear BK216
              clear HI0
              clear HK
              clear HB
              have HO_217001 := n0_
              have BK216 := n1_
              have HI0 := n2_
              have HK := n3_
              have HB := n4_
              clear n0_ n1_ n2_ n3_ n4_
              refine start_ (n := 9) (S := fun w' => w'.cell? ⟨gb216, 0, none⟩ = some (.string (rdOf ByteArray.empty t210 t213)) ∧ w'.cell? ⟨gb216, 1, none⟩ = some (u217001) ∧ w'.cell? ⟨gb216, 2, none⟩ = some (.bool false) ∧ w'.cell? ⟨gb216, 3, none⟩ = some (.string (⟨#[]⟩ : ByteArray))) (ds := [8]) #[false, false, false, false, false, false, false, false, false] (by kernel_rfl) rfl rfl ⟨(blk_cell BK216.out 0).trans rfl, (blk_cell BK216.out 1).trans rfl, (blk_cell BK216.out 2).trans rfl, (blk_cell BK216.out 3).trans rfl⟩ (fun hHeld => ?_); refine with_tabW spec_l71Addr.tab5 spec_l71Addr.bits5 (fun HT_ HW_ => ?_)
              generalize wr.drew = w17 at HO_217001 BK216 HI0 HK HB hHeld ⊢
              refine pure_ (i := 0) (N := some 17) (v := ?_) (a' := ?_) #[true, false, false, false, false, false, false, false, false] rfl rfl (any_of HT_.out (by kernel_rfl)) (fun _ _ _ h => h) (Or.inl ⟨by rfl, ?_⟩) ?_ ?_
              rotate_left
              · intro w'
                go_simp
                with_reducible rfl
              rotate_left
              · simp only [Act.put, List.setIfInBounds_toArray, List.set_cons_zero, List.set_cons_succ, i64_w, i32_w]
                rfl
              refine pure_ (i := 2) (N := some 19) (v := ?_) (a' := ?_) #[true, false, true, false, false, false, false, false, false] rfl rfl (any_of HT_.out (by kernel_rfl)) (fun _ _ _ h => h) (Or.inl ⟨by rfl, ?_⟩) ?_ ?_
              rotate_left
              · intro w'
                go_simp
                with_reducible rfl
              rotate_left
              · simp only [Act.put, List.setIfInBounds_toArray, List.set_cons_zero, List.set_cons_succ, i64_w, i32_w]
                rfl
              refine take_ (i := 1) (N := some 18) (v := ?_) (a' := ?_) #[true, true, true, false, false, false, false, false, false] rfl rfl (take_ofW HT_.out HW_.out (by kernel_rfl)) (fun _ _ _ h => h) (Or.inl ⟨by rfl, ?_⟩) hHeld ?_ ?_
              rotate_left
              · rintro w' ⟨s0, s1, s2, s3⟩
                go_simp
                with_reducible rfl
              rotate_left
              · simp only [Act.put, List.setIfInBounds_toArray, List.set_cons_zero, List.set_cons_succ, i64_w, i32_w]
                rfl
              refine one_ (i := 3) (N := some 20) #[true, true, true, true, false, false, false, false, false] rfl rfl (one_of HT_.out (by kernel_rfl)) (by decide) (fun K hK => ?_)
              refine Kd.R_lit_step Kd.string _ 9 ?hg (N := 20) ?hd (xs := ([(⟨#[97]⟩ : ByteArray), (⟨#[98]⟩ : ByteArray), (⟨#[99]⟩ : ByteArray), (⟨#[110, 111, 116, 105, 99, 101]⟩ : ByteArray)] : List ByteArray)) (inner := [.string (⟨#[97]⟩ : ByteArray), .string (⟨#[98]⟩ : ByteArray), .string (⟨#[99]⟩ : ByteArray), .string (⟨#[110, 111, 116, 105, 99, 101]⟩ : ByteArray)]) (ok := fun _ => True) (okp := fun _ => True) ?hr ?hp (fun _ hk => hk) trivial (Below.refl _ _) (Nat.le_refl _) (by simp) ?_; (case hd => rfl); (case hg => rfl); (case hr => first | (go_simp; done) | (go_simp; rfl)); (case hp => exact (Reps.one (show Kd.M Kd.string _ _ _ (⟨#[97]⟩ : ByteArray) [.string (⟨#[97]⟩ : ByteArray)] from rfl) (Reps.one (show Kd.M Kd.string _ _ _ (⟨#[98]⟩ : ByteArray) [.string (⟨#[98]⟩ : ByteArray)] from rfl) (Reps.one (show Kd.M Kd.string _ _ _ (⟨#[99]⟩ : ByteArray) [.string (⟨#[99]⟩ : ByteArray)] from rfl) (Reps.one (show Kd.M Kd.string _ _ _ (⟨#[110, 111, 116, 105, 99, 101]⟩ : ByteArray) [.string (⟨#[110, 111, 116, 105, 99, 101]⟩ : ByteArray)] from rfl) (Reps.none _ _))))))
              intro v220 w18 ho19 hb hg_ hnew_
              clear hg_ hnew_
              (first | rw [← Ny219.out] at ho19 | (simp only [Int.reduceToNat] at ho19; rw [← Ny219.out] at ho19))
              have n0_ := Aside0.mk (Kd.R_elder' (by (with_reducible repeat (first | apply Kd.R_alloc | apply Kd.R_drewN | apply Kd.R_drew)); exact HO_217001.out) (Kd.R_base ho19) hb)
              have n1_ := Aside0.mk (Kd.R_lower (Kd.R_new' ho19 (Kd.R_lt (by (with_reducible repeat (first | apply Kd.R_alloc | apply Kd.R_drewN | apply Kd.R_drew)); exact HO_217001.out))) (keep_size (w := w) (g := g) (row := none) (by repeat (first | (with_reducible first | exact HK.out | apply KeepBut.set_ | apply keep_drewN | apply keep_drew | apply keep_alloc | refine keep_far ?_ GW216.out _) | exact HK.out))))
              have n2_ := Aside0.mk (blk_below (g := gb216) (o := .cells #[.string (rdOf ByteArray.empty t210 t213), u217001, .bool false, .string (⟨#[]⟩ : ByteArray)] 46 (0, 0)) (by (with_reducible repeat (first | refine blk_drewN ?_ _ | refine blk_drew ?_ | refine blk_alloc ?_ _)); exact BK216.out) hb)
              have n3_ := Aside0.mk (IsS42.below (by repeat (first | (with_reducible first | exact HI0.out | apply IsS42.alloc | apply IsS42.drewN | apply IsS42.drew | apply IsS42.set_1 | refine IsS42.far ?_ NB0_216.out _) | exact HI0.out)) hb)
              have n4_ := Aside0.mk (KeepBut.trans (by repeat (first | (with_reducible first | exact HK.out | apply KeepBut.set_ | apply keep_drewN | apply keep_drew | apply keep_alloc | refine keep_far ?_ GW216.out _) | exact HK.out)) (KeepBut.of_below hb g none) (.inl rfl))
              have n5_ := Aside0.mk (below_step (by repeat (first | (with_reducible first | exact HB.out | apply below_alloc | apply pw_below_drewN | apply below_drew1 | refine below_set ?_ (IsS42.ge HI0.out) | refine below_set ?_ GE216.out) | exact HB.out)) hb)
              clear HO_217001
              clear BK216
              clear HI0
              clear HK
              clear HB
              have HO_217001 := n0_
              have HO221 := n1_
              have BK216 := n2_
              have HI0 := n3_
              have HK := n4_
              have HB := n5_
              clear n0_ n1_ n2_ n3_ n4_ n5_
              clear hb ho19
              obtain ⟨Ao20, co20, eo20⟩ := Kd.R_slice HO221.out
              (first | subst eo20 | (injection eo20 with f1_ f2_ f3_; have f4_ := f1_.symm; have f5_ := f3_.symm; clear f1_ f2_ f3_; subst f4_; subst f5_))
              refine hK.out _ _ ⟨(blk_cell BK216.out 0).trans rfl, (blk_cell BK216.out 1).trans rfl, (blk_cell BK216.out 2).trans rfl, (blk_cell BK216.out 3).trans rfl⟩ (fun hHeld => ?_)
              clear hK K
              refine norm_ (a' := ?_) ?_ ?_
              rotate_left
              · show Act.put _ (some 20) _ = _
                simp only [Act.put, List.setIfInBounds_toArray, List.set_cons_zero, List.set_cons_succ, i64_w, i32_w]
                rfl
              refine one_ (i := 4) (N := some 21) #[true, true, true, true, true, false, false, false, false] rfl rfl (one_of HT_.out (by kernel_rfl)) (by decide) (fun K hK => ?_)
              refine goes_ Try.func31 (by kernel_rfl) rfl #[.pointer (some ⟨g, 0, none⟩), .slice Ao20 y219.length co20] (by rfl) rfl rfl (by (try simp only [List.map_toArray, List.map_cons, List.map_nil]); first | done | rfl | (simp only [List.length_drop, List.length_take]; rfl)) ?_
              with_reducible refine (spec_l6Rd_of.calls k1 g s0_0 x1001_1 _ _ y219 t222 t223 w0 _ ?side1 ?side2 ?side3 ?side4 ?side5 A15.out).mono ?_
              (case side1 => repeat (first | (with_reducible first | exact HI0.out | apply IsS42.alloc | apply IsS42.drewN | apply IsS42.drew | apply IsS42.set_1 | refine IsS42.far ?_ NB0_216.out _) | exact HI0.out))
              (case side2 => repeat (first | (with_reducible first | exact HB.out | apply below_alloc | apply pw_below_drewN | apply below_drew1 | refine below_set ?_ (IsS42.ge HI0.out) | refine below_set ?_ GE216.out) | exact HB.out))
              (case side3 => repeat (first | exact (Kd.R_reads' HO221.out).2.2 | (with_reducible refine Kd.C_alloc ?_ _) | (with_reducible refine Kd.C_drewN ?_ _) | (with_reducible refine Kd.C_drew ?_)))
              (case side4 => exact (Kd.R_reads' HO221.out).2.1)
              (case side5 => exact far_slice (IsS42.own_ne HI0.out HO221.out (by decide)))
              rintro e w21 ⟨rfl, hi, hb, hk⟩
              refine ⟨_, rfl, ?_⟩
              have n0_ := Aside0.mk (Kd.R_mono (Kd.R_keep (IsS42.apart (show IsS42 w0 _ g s0_0 x1001_1 from by repeat (first | (with_reducible first | exact HI0.out | apply IsS42.alloc | apply IsS42.drewN | apply IsS42.drew | apply IsS42.set_1 | refine IsS42.far ?_ NB0_216.out _) | exact HI0.out)) (by (with_reducible repeat (first | apply Kd.R_alloc | apply Kd.R_drewN | apply Kd.R_drew)); exact HO_217001.out) (by decide)) hk (fun _ h => h.2)) (fun _ h => h.1))
              have n1_ := Aside0.mk (KeepBut.blk hk (g' := gb216) (o := .cells #[.string (rdOf ByteArray.empty t210 t213), u217001, .bool false, .string (⟨#[]⟩ : ByteArray)] 46 (0, 0)) (by (with_reducible repeat (first | refine blk_drewN ?_ _ | refine blk_drew ?_ | refine blk_alloc ?_ _)); exact BK216.out) NB216_0.out (by simp))
              have n2_ := Aside0.mk (Kd.R_mono (Kd.R_keep (IsS42.apart (show IsS42 w0 _ g s0_0 x1001_1 from by repeat (first | (with_reducible first | exact HI0.out | apply IsS42.alloc | apply IsS42.drewN | apply IsS42.drew | apply IsS42.set_1 | refine IsS42.far ?_ NB0_216.out _) | exact HI0.out)) (by (with_reducible repeat (first | apply Kd.R_alloc | apply Kd.R_drewN | apply Kd.R_drew)); exact HO221.out) (by decide)) hk (fun _ h => h.2)) (fun _ h => h.1))
              have n3_ := Aside0.mk (KeepBut.trans (by repeat (first | (with_reducible first | exact HK.out | apply KeepBut.set_ | apply keep_drewN | apply keep_drew | apply keep_alloc | refine keep_far ?_ GW216.out _) | exact HK.out)) hk (.inl rfl))
              have n4_ := Aside0.mk (hb)
              have n5_ := Aside0.mk (hi)
              clear HO_217001
              clear BK216
              clear HO221
              clear HK
              clear HB
              clear HI0
              have HO_217001 := n0_
              have BK216 := n1_
              have HO221 := n2_
              have HK := n3_
              have HB := n4_
              have HI0 := n5_
              clear n0_ n1_ n2_ n3_ n4_ n5_
              (try clear hb)
              (try clear hb2)
              (try clear hk)
              (try clear hi)
              refine hK.out _ _ ⟨(blk_cell BK216.out 0).trans rfl, (blk_cell BK216.out 1).trans rfl, (blk_cell BK216.out 2).trans rfl, (blk_cell BK216.out 3).trans rfl⟩ (fun hHeld => ?_)
              clear hK K
              refine norm_ (a' := ?_) ?_ ?_
              rotate_left
              · show Act.put _ (some 21) _ = _
                simp only [Act.put, List.setIfInBounds_toArray, List.set_cons_zero, List.set_cons_succ, i64_w, i32_w]
                rfl
              refine one_ (i := 5) (N := some 22) #[true, true, true, true, true, true, false, false, false] rfl rfl (one_of HT_.out (by kernel_rfl)) (by decide) (fun K hK => ?_)
              refine value_ (w1 := ?_) (v := ?_) (by rfl) rfl ?_ ?_
              rotate_left 2
              · go_simp
                constructor
                · rfl
                · rfl
              refine hK.out _ _ ⟨(blk_cell (blk_alloc BK216.out _) 0).trans rfl, (blk_cell (blk_alloc BK216.out _) 1).trans rfl, (blk_cell (blk_alloc BK216.out _) 2).trans rfl, (blk_cell (blk_alloc BK216.out _) 3).trans rfl⟩ (fun hHeld => ?_)
              clear hK K
              refine norm_ (a' := ?_) ?_ ?_
              rotate_left
              · show Act.put _ (some 22) _ = _
                simp only [Act.put, List.setIfInBounds_toArray, List.set_cons_zero, List.set_cons_succ, i64_w, i32_w]
                rfl
              refine one_ (i := 6) (N := some 23) #[true, true, true, true, true, true, true, false, false] rfl rfl (one_of HT_.out (by kernel_rfl)) (by decide) (fun K hK => ?_)
              refine Kd.R_append_step Kd.string w.heap.size (by rfl) (.tmp 18) (.tmp 22) 25 9 (.string ⟨#[]⟩) 16 rfl Try.underlying25 info9 rfl (by decide) (by omega) u217001 x217001_1 t222 [.string t222] (fun k_ => some k_ ≠ (.slice Ao20 y219.length co20 : Value).ownBlock) (fun _ => False) rfl rfl ?aP (fun _ hk => hk.elim) ?aF ?aO (Below.refl _ _) ?aS ?aL ?_
              (case aP => exact rfl)
              (case aF => exact (fun k_ hk => Kd.fresh' (Kd.R_lt (by (with_reducible repeat (first | apply Kd.R_alloc | apply Kd.R_drewN | apply Kd.R_drew)); exact HO221.out)) k_ hk))
              (case aO => exact (by (with_reducible repeat (first | apply Kd.R_alloc | apply Kd.R_drewN | apply Kd.R_drew)); exact Kd.R_mono HO_217001.out (fun _ hk => hk.2)))
              (case aS => exact (keep_size (w := w) (g := g) (row := none) (by repeat (first | (with_reducible first | exact HK.out | apply KeepBut.set_ | apply keep_drewN | apply keep_drew | apply keep_alloc | refine keep_far ?_ GW216.out _) | exact HK.out))))
              (case aL => have := LMc16.out; omega)
              intro v225 w22 ho hb hg hat
              rw [← Ny224.out] at ho
              have n0_ := Aside0.mk (blk_grown (g := gb216) (o := .cells #[.string (rdOf ByteArray.empty t210 t213), u217001, .bool false, .string (⟨#[]⟩ : ByteArray)] 46 (0, 0)) (by (with_reducible repeat (first | refine blk_drewN ?_ _ | refine blk_drew ?_ | refine blk_alloc ?_ _)); exact BK216.out) hg (Kd.R_ne HO_217001.out BK216.out (by decide)))
              have n1_ := Aside0.mk (IsS42.grown (by repeat (first | (with_reducible first | exact HI0.out | apply IsS42.alloc | apply IsS42.drewN | apply IsS42.drew | apply IsS42.set_1 | refine IsS42.far ?_ NB0_216.out _) | exact HI0.out)) hg (IsS42.own_ne HI0.out HO_217001.out (by decide)))
              have n2_ := Aside0.mk (Kd.R_after (ok := (fun _ => True)) (by (with_reducible repeat (first | apply Kd.R_alloc | apply Kd.R_drewN | apply Kd.R_drew)); exact HO221.out) hg hat)
              have n3_ := Aside0.mk (below_weaken (by repeat (first | (with_reducible first | exact HB.out | apply below_alloc | apply pw_below_drewN | apply below_drew1 | refine below_set ?_ (IsS42.ge HI0.out) | refine below_set ?_ GE216.out) | exact HB.out)) HL.out hb)
              have n4_ := Aside0.mk (KeepBut.trans (by repeat (first | (with_reducible first | exact HK.out | apply KeepBut.set_ | apply keep_drewN | apply keep_drew | apply keep_alloc | refine keep_far ?_ GW216.out _) | exact HK.out)) (KeepBut.of_grown hg g) (Kd.R_base2 HO_217001.out))
              have n5_ := Aside0.mk (ho)
              clear BK216
              clear HI0
              clear HO221
              clear HB
              clear HK
              clear HO_217001
              have BK216 := n0_
              have HI0 := n1_
              have HO221 := n2_
              have HB := n3_
              have HK := n4_
              have HO226 := n5_
              clear n0_ n1_ n2_ n3_ n4_ n5_
              clear ho hb hg hat
              obtain ⟨Ao23, co23, eo23⟩ := Kd.R_slice HO226.out
              (first | subst eo23 | (injection eo23 with f1_ f2_ f3_; have f4_ := f1_.symm; have f5_ := f3_.symm; clear f1_ f2_ f3_; subst f4_; subst f5_))
              refine hK.out _ _ ⟨(blk_cell BK216.out 0).trans rfl, (blk_cell BK216.out 1).trans rfl, (blk_cell BK216.out 2).trans rfl, (blk_cell BK216.out 3).trans rfl⟩ (fun hHeld => ?_)
              clear hK K
              refine norm_ (a' := ?_) ?_ ?_
              rotate_left
              · show Act.put _ (some 23) _ = _
                simp only [Act.put, List.setIfInBounds_toArray, List.set_cons_zero, List.set_cons_succ, i64_w, i32_w]
                rfl
              refine pure_ (i := 7) (N := some 24) (v := ?_) (a' := ?_) #[true, true, true, true, true, true, true, true, false] rfl rfl (any_of HT_.out (by kernel_rfl)) (fun _ _ _ h => h) (Or.inl ⟨by rfl, ?_⟩) ?_ ?_
              rotate_left
              · intro w'
                go_simp
                with_reducible rfl
              rotate_left
              · simp only [Act.put, List.setIfInBounds_toArray, List.set_cons_zero, List.set_cons_succ, i64_w, i32_w]
                rfl
              refine last_ (i := 8) (N := none) #[true, true, true, true, true, true, true, true, true] rfl rfl (one_of HT_.out (by kernel_rfl)) (by decide) (fun K hK => ?_)
              have hs24 : w22.cell? ⟨gb216, 1, none⟩ = some (u217001) := (blk_cell BK216.out 1).trans rfl
              have hfs24 := blk_frozen BK216.out 1
              refine skip_ (w1 := ?_) (by rfl) rfl ?_ ?_
              rotate_left
              · go_simp
                rfl
              refine hK.out _ _ ?_
              clear hK K
              refine done_ (done_of HT_.out (by kernel_rfl)) ?_
              try go_wp2
              go_roundg k1
              case measure => have := HK1.out; omega
              case rel => exact ⟨(wrap64 (x4_1 - 1)), (t223), (y224), (.slice Ao23 y224.length co23), (by first | rfl | (simp only [i64_w, i32_w]; done) | (simp only [aid_isEmpty, aid_isEmpty2]; done) | (simp; done) | (simp [*]; done)), H', ⟨by have := HK1.out; omega⟩, ⟨by (with_reducible repeat (first | apply Kd.R_alloc | apply Kd.R_drewN | apply Kd.R_drew)); exact Kd.R_mono (Kd.R_far (p := ⟨gb216, 1, none⟩) (Kd.R_types HO226.out BK216.out (by decide)) (fun _ hk => hk.2) (.slice Ao23 y224.length co23)) (fun _ hk => trivial)⟩, ⟨by (with_reducible repeat (first | refine blk_drewN ?_ _ | refine blk_drew ?_ | refine blk_alloc ?_ _)); refine blk_put (cs := #[.string (rdOf ByteArray.empty t210 t213), u217001, .bool false, .string (⟨#[]⟩ : ByteArray)]) ?_ 1 _ rfl; (with_reducible repeat (first | refine blk_drewN ?_ _ | refine blk_drew ?_ | refine blk_alloc ?_ _)); exact BK216.out⟩, ⟨by repeat (first | (with_reducible first | exact HI0.out | apply IsS42.alloc | apply IsS42.drewN | apply IsS42.drew | apply IsS42.set_1 | refine IsS42.far ?_ NB0_216.out _) | exact HI0.out)⟩, ⟨by repeat (first | (with_reducible first | exact HK.out | apply KeepBut.set_ | apply keep_drewN | apply keep_drew | apply keep_alloc | refine keep_far ?_ GW216.out _) | exact HK.out)⟩, ⟨by repeat (first | (with_reducible first | exact HB.out | apply below_alloc | apply pw_below_drewN | apply below_drew1 | refine below_set ?_ (IsS42.ge HI0.out) | refine below_set ?_ GE216.out) | exact HB.out)⟩⟩
            · rw [if_neg c16] at H
              exact absurd H (by simp)
          · rw [if_neg c14] at H
            have c14b0 : decide (0 < x4_1) = false := decide_eq_false c14
            clear c14
            replace H := Option.bind_eq_some_iff.mp H
            obtain ⟨⟨t227, t228⟩, A250, H⟩ := H
            replace H : (if t227 = 0 then ((spec_l6Rd_of.f k1 s0_0 t228 (([(⟨#[]⟩ : ByteArray), (⟨#[97]⟩ : ByteArray), (⟨#[98, 37, 51, 68]⟩ : ByteArray)] : List ByteArray))).bind fun bt232 => ((spec_AddrText.f k1 (rdOf ByteArray.empty t210 t213) x217001_1 true bt232.1).bind fun t234 => (some (t234, bt232.2)))) else ((spec_AddrText.f k1 (rdOf ByteArray.empty t210 t213) x217001_1 false (⟨#[]⟩ : ByteArray)).bind fun t235 => (some (t235, t228)))) = some (r1, r2) := H
            have A25 := Aside0.mk A250
            clear A250
            by_cases c26 : t227 = 0
            · rw [if_pos c26] at H
              have c26b0 : (t227 == 0) = true := beq_iff_eq.mpr c26
              have c26b1 : (t227 != 0) = false := bne_eq_false_iff_eq.mpr c26
              clear c26
              obtain ⟨y229, hy229⟩ : ∃ y_ : List ByteArray, y_ = (([(⟨#[]⟩ : ByteArray), (⟨#[97]⟩ : ByteArray), (⟨#[98, 37, 51, 68]⟩ : ByteArray)] : List ByteArray)) := ⟨_, rfl⟩
              replace H : ((spec_l6Rd_of.f k1 s0_0 t228 y229).bind fun bt232 => ((spec_AddrText.f k1 (rdOf ByteArray.empty t210 t213) x217001_1 true bt232.1).bind fun t234 => (some (t234, bt232.2)))) = some (r1, r2) := by first | (rw [hy229]; with_reducible exact H) | (have H2_ := (Option.bind_some _ _).symm.trans H; rw [hy229]; with_reducible exact H2_) | (have H2_ := (Option.bind_some _ _).symm.trans H; with_reducible exact H2_) | with_reducible exact H | (rw [hy229]; exact H) | exact H
              have Ny229 := Aside0.mk hy229
              clear hy229
              replace H := Option.bind_eq_some_iff.mp H
              obtain ⟨⟨t232, t233⟩, A270, H⟩ := H
              replace H : ((spec_AddrText.f k1 (rdOf ByteArray.empty t210 t213) x217001_1 true t232).bind fun t234 => (some (t234, t233))) = some (r1, r2) := H
              have A27 := Aside0.mk A270
              clear A270
              replace H := Option.bind_eq_some_iff.mp H
              obtain ⟨t234, A280, H⟩ := H
              replace H : (some (t234, t233)) = some (r1, r2) := H
              have A28 := Aside0.mk A280
              clear A280
              simp only [Option.some.injEq, Prod.mk.injEq] at H
              obtain ⟨rfl, rfl⟩ := H
              go_wp2_with (first | ((with_reducible refine gate_callee (f := 25) rfl ?_); refine goesL_ (some 26) rfl rfl Try.func25 (by kernel_rfl) rfl #[.pointer (some ⟨g, 0, none⟩), .int .i64 8] rfl (by (try simp only [List.map_toArray, List.map_cons, List.map_nil]); first | done | rfl | (simp only [List.length_drop, List.length_take]; rfl)) ?_; (with_reducible refine (spec_l6Rd_pick.calls k1 g s0_0 x1001_1 8 t227 t228 w0 _ ?side1 ?side2 A25.out).mono ?_); (case side1 => repeat (first | (with_reducible first | exact HI0.out | apply IsS42.alloc | apply IsS42.drewN | apply IsS42.drew | apply IsS42.set_1 | refine IsS42.far ?_ NB0_216.out _) | exact HI0.out)); (case side2 => repeat (first | (with_reducible first | exact HB.out | apply below_alloc | apply pw_below_drewN | apply below_drew1 | refine below_set ?_ (IsS42.ge HI0.out) | refine below_set ?_ GE216.out) | exact HB.out)); rintro e w29 ⟨rfl, hi, hb, hk⟩; refine ⟨_, rfl, ?_⟩; have n0_ := Aside0.mk (Kd.R_mono (Kd.R_keep (IsS42.apart (show IsS42 w0 _ g s0_0 x1001_1 from by repeat (first | (with_reducible first | exact HI0.out | apply IsS42.alloc | apply IsS42.drewN | apply IsS42.drew | apply IsS42.set_1 | refine IsS42.far ?_ NB0_216.out _) | exact HI0.out)) (by (with_reducible repeat (first | apply Kd.R_alloc | apply Kd.R_drewN | apply Kd.R_drew)); exact HO_217001.out) (by decide)) hk (fun _ h => h.2)) (fun _ h => h.1)); have n1_ := Aside0.mk (KeepBut.blk hk (g' := gb216) (o := .cells #[.string (rdOf ByteArray.empty t210 t213), u217001, .bool false, .string (⟨#[]⟩ : ByteArray)] 46 (0, 0)) (by (with_reducible repeat (first | refine blk_drewN ?_ _ | refine blk_drew ?_ | refine blk_alloc ?_ _)); exact BK216.out) NB216_0.out (by simp)); have n2_ := Aside0.mk (KeepBut.trans (by repeat (first | (with_reducible first | exact HK.out | apply KeepBut.set_ | apply keep_drewN | apply keep_drew | apply keep_alloc | refine keep_far ?_ GW216.out _) | exact HK.out)) hk (.inl rfl)); have n3_ := Aside0.mk (hb); have n4_ := Aside0.mk (hi); clear HO_217001; clear BK216; clear HK; clear HB; clear HI0; have HO_217001 := n0_; have BK216 := n1_; have HK := n2_; have HB := n3_; have HI0 := n4_; clear n0_ n1_ n2_ n3_ n4_; (try clear hb); (try clear hb2); (try clear hk); (try clear hi); have hnb30 := NB216_0.out; have hnc30 := NB0_216.out; have hcz31_0 : w29.cell? ⟨gb216, 0, none⟩ = some (.string (rdOf ByteArray.empty t210 t213)) := (blk_cell BK216.out 0).trans rfl; have hcz31_1 : w29.cell? ⟨gb216, 1, none⟩ = some (u217001) := (blk_cell BK216.out 1).trans rfl; have hcz31_2 : w29.cell? ⟨gb216, 2, none⟩ = some (.bool false) := (blk_cell BK216.out 2).trans rfl; have hcz31_3 : w29.cell? ⟨gb216, 3, none⟩ = some (.string (⟨#[]⟩ : ByteArray)) := (blk_cell BK216.out 3).trans rfl; have hfz31_0 := blk_frozen BK216.out 0; have hfz31_1 := blk_frozen BK216.out 1; have hfz31_2 := blk_frozen BK216.out 2; have hfz31_3 := blk_frozen BK216.out 3) | ((with_reducible refine gate_dst (N := 30) rfl ?_); refine Kd.R_lit Kd.string _ 9 ?hg (N := 30) ?hd (xs := ([(⟨#[]⟩ : ByteArray), (⟨#[97]⟩ : ByteArray), (⟨#[98, 37, 51, 68]⟩ : ByteArray)] : List ByteArray)) (inner := [.string (⟨#[]⟩ : ByteArray), .string (⟨#[97]⟩ : ByteArray), .string (⟨#[98, 37, 51, 68]⟩ : ByteArray)]) (ok := fun _ => True) (okp := fun _ => True) ?hr ?hp (fun _ hk => hk) trivial (Below.refl _ _) (Nat.le_refl _) (by simp) ?_; (case hd => rfl); (case hg => rfl); (case hr => first | (go_simp; done) | (go_simp; rfl)); (case hp => exact (Reps.one (show Kd.M Kd.string _ _ _ (⟨#[]⟩ : ByteArray) [.string (⟨#[]⟩ : ByteArray)] from rfl) (Reps.one (show Kd.M Kd.string _ _ _ (⟨#[97]⟩ : ByteArray) [.string (⟨#[97]⟩ : ByteArray)] from rfl) (Reps.one (show Kd.M Kd.string _ _ _ (⟨#[98, 37, 51, 68]⟩ : ByteArray) [.string (⟨#[98, 37, 51, 68]⟩ : ByteArray)] from rfl) (Reps.none _ _))))); intro v230 w32 ho33 hb hg_ hnew_; clear hg_ hnew_; (first | rw [← Ny229.out] at ho33 | (simp only [Int.reduceToNat] at ho33; rw [← Ny229.out] at ho33)); have n0_ := Aside0.mk (Kd.R_elder' (by (with_reducible repeat (first | apply Kd.R_alloc | apply Kd.R_drewN | apply Kd.R_drew)); exact (Kd.R_mono (Kd.R_far (p := ⟨gb216, 2, none⟩) (Kd.R_types HO_217001.out BK216.out (by decide)) (fun _ hk => hk.2) (.bool true)) (fun _ h_ => h_.1))) (Kd.R_base ho33) hb); have n1_ := Aside0.mk (Kd.R_lower (Kd.R_new' ho33 (Kd.R_lt (by (with_reducible repeat (first | apply Kd.R_alloc | apply Kd.R_drewN | apply Kd.R_drew)); exact (Kd.R_mono (Kd.R_far (p := ⟨gb216, 2, none⟩) (Kd.R_types HO_217001.out BK216.out (by decide)) (fun _ hk => hk.2) (.bool true)) (fun _ h_ => h_.1))))) (keep_size (w := w) (g := g) (row := none) (by repeat (first | (with_reducible first | exact HK.out | apply KeepBut.set_ | apply keep_drewN | apply keep_drew | apply keep_alloc | refine keep_far ?_ GW216.out _) | exact HK.out)))); have n2_ := Aside0.mk (blk_below (g := gb216) (o := .cells #[.string (rdOf ByteArray.empty t210 t213), u217001, .bool true, .string (⟨#[]⟩ : ByteArray)] 46 (0, 0)) (by (with_reducible repeat (first | refine blk_drewN ?_ _ | refine blk_drew ?_ | refine blk_alloc ?_ _)); refine blk_put (cs := #[.string (rdOf ByteArray.empty t210 t213), u217001, .bool false, .string (⟨#[]⟩ : ByteArray)]) ?_ 2 _ rfl; (with_reducible repeat (first | refine blk_drewN ?_ _ | refine blk_drew ?_ | refine blk_alloc ?_ _)); exact BK216.out) hb); have n3_ := Aside0.mk (IsS42.below (show IsS42 w0 (w29.setCell ⟨gb216, 2, none⟩ (.bool true)) g s0_0 t228 from by repeat (first | (with_reducible first | exact HI0.out | apply IsS42.alloc | apply IsS42.drewN | apply IsS42.drew | apply IsS42.set_1 | refine IsS42.far ?_ NB0_216.out _) | exact HI0.out)) hb); have n4_ := Aside0.mk (KeepBut.trans (by repeat (first | (with_reducible first | exact HK.out | apply KeepBut.set_ | apply keep_drewN | apply keep_drew | apply keep_alloc | refine keep_far ?_ GW216.out _) | exact HK.out)) (KeepBut.of_below hb g none) (.inl rfl)); have n5_ := Aside0.mk (below_step (by repeat (first | (with_reducible first | exact HB.out | apply below_alloc | apply pw_below_drewN | apply below_drew1 | refine below_set ?_ (IsS42.ge HI0.out) | refine below_set ?_ GE216.out) | exact HB.out)) hb); clear HO_217001; clear BK216; clear HI0; clear HK; clear HB; have HO_217001 := n0_; have HO231 := n1_; have BK216 := n2_; have HI0 := n3_; have HK := n4_; have HB := n5_; clear n0_ n1_ n2_ n3_ n4_ n5_; clear hb ho33; obtain ⟨Ao34, co34, eo34⟩ := Kd.R_slice HO231.out; subst eo34) | ((with_reducible refine gate_callee (f := 31) rfl ?_); refine goesL_ (some 31) rfl rfl Try.func31 (by kernel_rfl) rfl #[.pointer (some ⟨g, 0, none⟩), .slice Ao34 y229.length co34] rfl (by (try simp only [List.map_toArray, List.map_cons, List.map_nil]); first | done | rfl | (simp only [List.length_drop, List.length_take]; rfl)) ?_; (with_reducible refine (spec_l6Rd_of.calls k1 g s0_0 t228 _ _ y229 t232 t233 w0 _ ?side1 ?side2 ?side3 ?side4 ?side5 A27.out).mono ?_); (case side1 => repeat (first | (with_reducible first | exact HI0.out | apply IsS42.alloc | apply IsS42.drewN | apply IsS42.drew | apply IsS42.set_1 | refine IsS42.far ?_ NB0_216.out _) | exact HI0.out)); (case side2 => repeat (first | (with_reducible first | exact HB.out | apply below_alloc | apply pw_below_drewN | apply below_drew1 | refine below_set ?_ (IsS42.ge HI0.out) | refine below_set ?_ GE216.out) | exact HB.out)); (case side3 => repeat (first | exact (Kd.R_reads' HO231.out).2.2 | (with_reducible refine Kd.C_alloc ?_ _) | (with_reducible refine Kd.C_drewN ?_ _) | (with_reducible refine Kd.C_drew ?_))); (case side4 => exact (Kd.R_reads' HO231.out).2.1); (case side5 => exact far_slice (IsS42.own_ne HI0.out HO231.out (by decide))); rintro e w35 ⟨rfl, hi, hb, hk⟩; refine ⟨_, rfl, ?_⟩; have n0_ := Aside0.mk (Kd.R_mono (Kd.R_keep (IsS42.apart (show IsS42 w0 _ g s0_0 t228 from by repeat (first | (with_reducible first | exact HI0.out | apply IsS42.alloc | apply IsS42.drewN | apply IsS42.drew | apply IsS42.set_1 | refine IsS42.far ?_ NB0_216.out _) | exact HI0.out)) (by (with_reducible repeat (first | apply Kd.R_alloc | apply Kd.R_drewN | apply Kd.R_drew)); exact HO_217001.out) (by decide)) hk (fun _ h => h.2)) (fun _ h => h.1)); have n1_ := Aside0.mk (KeepBut.blk hk (g' := gb216) (o := .cells #[.string (rdOf ByteArray.empty t210 t213), u217001, .bool true, .string (⟨#[]⟩ : ByteArray)] 46 (0, 0)) (by (with_reducible repeat (first | refine blk_drewN ?_ _ | refine blk_drew ?_ | refine blk_alloc ?_ _)); exact BK216.out) NB216_0.out (by simp)); have n2_ := Aside0.mk (Kd.R_mono (Kd.R_keep (IsS42.apart (show IsS42 w0 _ g s0_0 t228 from by repeat (first | (with_reducible first | exact HI0.out | apply IsS42.alloc | apply IsS42.drewN | apply IsS42.drew | apply IsS42.set_1 | refine IsS42.far ?_ NB0_216.out _) | exact HI0.out)) (by (with_reducible repeat (first | apply Kd.R_alloc | apply Kd.R_drewN | apply Kd.R_drew)); exact HO231.out) (by decide)) hk (fun _ h => h.2)) (fun _ h => h.1)); have n3_ := Aside0.mk (KeepBut.trans (by repeat (first | (with_reducible first | exact HK.out | apply KeepBut.set_ | apply keep_drewN | apply keep_drew | apply keep_alloc | refine keep_far ?_ GW216.out _) | exact HK.out)) hk (.inl rfl)); have n4_ := Aside0.mk (hb); have n5_ := Aside0.mk (hi); clear HO_217001; clear BK216; clear HO231; clear HK; clear HB; clear HI0; have HO_217001 := n0_; have BK216 := n1_; have HO231 := n2_; have HK := n3_; have HB := n4_; have HI0 := n5_; clear n0_ n1_ n2_ n3_ n4_ n5_; (try clear hb); (try clear hb2); (try clear hk); (try clear hi); have hcz36_0 : w35.cell? ⟨gb216, 0, none⟩ = some (.string (rdOf ByteArray.empty t210 t213)) := (blk_cell BK216.out 0).trans rfl; have hcz36_1 : w35.cell? ⟨gb216, 1, none⟩ = some (u217001) := (blk_cell BK216.out 1).trans rfl; have hcz36_2 : w35.cell? ⟨gb216, 2, none⟩ = some (.bool true) := (blk_cell BK216.out 2).trans rfl; have hcz36_3 : w35.cell? ⟨gb216, 3, none⟩ = some (.string (⟨#[]⟩ : ByteArray)) := (blk_cell BK216.out 3).trans rfl; have hfz36_0 := blk_frozen BK216.out 0; have hfz36_1 := blk_frozen BK216.out 1; have hfz36_2 := blk_frozen BK216.out 2; have hfz36_3 := blk_frozen BK216.out 3; obtain ⟨Ao37, co37, eo37⟩ := Kd.R_slice HO_217001.out; subst eo37) | ((with_reducible refine gate_callee (f := 34) rfl ?_); refine goesL_ (some 34) rfl rfl Try.func34 (by kernel_rfl) rfl #[.agg #[.string (rdOf ByteArray.empty t210 t213), .slice Ao37 x217001_1.length co37, .bool true, .string t232]] rfl (by (try simp only [List.map_toArray, List.map_cons, List.map_nil]); first | done | rfl | (simp only [List.length_drop, List.length_take]; rfl)) ?_; (with_reducible refine (spec_AddrText.calls k1 (rdOf ByteArray.empty t210 t213) _ _ x217001_1 true t232 t234 _ ?side1 ?side2 A28.out).mono ?_); (case side1 => refine (Kd.R_reads' (e := 9) (base := w.heap.size) (ok := fun k_ => (True ∧ some k_ ≠ (.slice Ao34 y229.length co34 : Value).ownBlock)) (n := x217001_1.length) (c := co37) ?_).2.2; exact (by (with_reducible repeat (first | apply Kd.R_alloc | apply Kd.R_drewN | apply Kd.R_drew)); exact (Kd.R_mono (Kd.R_far (p := ⟨gb216, 3, none⟩) (Kd.R_types HO_217001.out BK216.out (by decide)) (fun _ hk => hk.2) (.string t232)) (fun _ h_ => h_.1)))); (case side2 => exact (Kd.R_reads' HO_217001.out).2.1); rintro e w38 ⟨rfl, hb⟩; refine ⟨_, rfl, ?_⟩; have n0_ := Aside0.mk (Kd.R_below (by (with_reducible repeat (first | apply Kd.R_alloc | apply Kd.R_drewN | apply Kd.R_drew)); exact (Kd.R_mono (Kd.R_far (p := ⟨gb216, 3, none⟩) (Kd.R_types HO_217001.out BK216.out (by decide)) (fun _ hk => hk.2) (.string t232)) (fun _ h_ => h_.1))) hb); have n1_ := Aside0.mk (Kd.R_below (by (with_reducible repeat (first | apply Kd.R_alloc | apply Kd.R_drewN | apply Kd.R_drew)); exact (Kd.R_mono (Kd.R_far (p := ⟨gb216, 3, none⟩) (Kd.R_types HO231.out BK216.out (by decide)) (fun _ hk => hk.2) (.string t232)) (fun _ h_ => h_.1))) hb); have n2_ := Aside0.mk (blk_below (g := gb216) (o := .cells #[.string (rdOf ByteArray.empty t210 t213), .slice Ao37 x217001_1.length co37, .bool true, .string t232] 46 (0, 0)) (by (with_reducible repeat (first | refine blk_drewN ?_ _ | refine blk_drew ?_ | refine blk_alloc ?_ _)); refine blk_put (cs := #[.string (rdOf ByteArray.empty t210 t213), .slice Ao37 x217001_1.length co37, .bool true, .string (⟨#[]⟩ : ByteArray)]) ?_ 3 _ rfl; (with_reducible repeat (first | refine blk_drewN ?_ _ | refine blk_drew ?_ | refine blk_alloc ?_ _)); exact BK216.out) hb); have n3_ := Aside0.mk (IsS42.below (show IsS42 w0 (w35.setCell ⟨gb216, 3, none⟩ (.string t232)) g s0_0 t233 from by repeat (first | (with_reducible first | exact HI0.out | apply IsS42.alloc | apply IsS42.drewN | apply IsS42.drew | apply IsS42.set_1 | refine IsS42.far ?_ NB0_216.out _) | exact HI0.out)) hb); have n4_ := Aside0.mk (KeepBut.trans (by repeat (first | (with_reducible first | exact HK.out | apply KeepBut.set_ | apply keep_drewN | apply keep_drew | apply keep_alloc | refine keep_far ?_ GW216.out _) | exact HK.out)) (KeepBut.of_below hb g none) (.inl rfl)); have n5_ := Aside0.mk (below_step (by repeat (first | (with_reducible first | exact HB.out | apply below_alloc | apply pw_below_drewN | apply below_drew1 | refine below_set ?_ (IsS42.ge HI0.out) | refine below_set ?_ GE216.out) | exact HB.out)) hb); clear HO_217001; clear HO231; clear BK216; clear HI0; clear HK; clear HB; have HO_217001 := n0_; have HO231 := n1_; have BK216 := n2_; have HI0 := n3_; have HK := n4_; have HB := n5_; clear n0_ n1_ n2_ n3_ n4_ n5_; (try clear hb); (try clear hb2); (try clear hk); (try clear hi)))
              go_ret
              exact ⟨by first | rfl | (simp [errW_none, errW_some] <;> rfl) | (simp [*, errW_none, errW_some] <;> rfl), by repeat (first | (with_reducible first | exact HI0.out | apply IsS42.alloc | apply IsS42.drewN | apply IsS42.drew | apply IsS42.set_1 | refine IsS42.far ?_ NB0_216.out _) | exact HI0.out), by repeat (first | (with_reducible first | exact HB.out | apply below_alloc | apply pw_below_drewN | apply below_drew1 | refine below_set ?_ (IsS42.ge HI0.out) | refine below_set ?_ GE216.out) | exact HB.out), by repeat (first | (with_reducible first | exact HK.out | apply KeepBut.set_ | apply keep_drewN | apply keep_drew | apply keep_alloc | refine keep_far ?_ GW216.out _) | exact HK.out)⟩
            · rw [if_neg c26] at H
              have c26b0 : (t227 == 0) = false := beq_eq_false_iff_ne.mpr c26
              have c26b1 : (t227 != 0) = true := bne_iff_ne.mpr c26
              replace H := Option.bind_eq_some_iff.mp H
              obtain ⟨t235, A390, H⟩ := H
              replace H : (some (t235, t228)) = some (r1, r2) := H
              have A39 := Aside0.mk A390
              clear A390
              simp only [Option.some.injEq, Prod.mk.injEq] at H
              obtain ⟨rfl, rfl⟩ := H
              go_wp2_with (first | ((with_reducible refine gate_callee (f := 25) rfl ?_); refine goesL_ (some 26) rfl rfl Try.func25 (by kernel_rfl) rfl #[.pointer (some ⟨g, 0, none⟩), .int .i64 8] rfl (by (try simp only [List.map_toArray, List.map_cons, List.map_nil]); first | done | rfl | (simp only [List.length_drop, List.length_take]; rfl)) ?_; (with_reducible refine (spec_l6Rd_pick.calls k1 g s0_0 x1001_1 8 t227 t228 w0 _ ?side1 ?side2 A25.out).mono ?_); (case side1 => repeat (first | (with_reducible first | exact HI0.out | apply IsS42.alloc | apply IsS42.drewN | apply IsS42.drew | apply IsS42.set_1 | refine IsS42.far ?_ NB0_216.out _) | exact HI0.out)); (case side2 => repeat (first | (with_reducible first | exact HB.out | apply below_alloc | apply pw_below_drewN | apply below_drew1 | refine below_set ?_ (IsS42.ge HI0.out) | refine below_set ?_ GE216.out) | exact HB.out)); rintro e w40 ⟨rfl, hi, hb, hk⟩; refine ⟨_, rfl, ?_⟩; have n0_ := Aside0.mk (Kd.R_mono (Kd.R_keep (IsS42.apart (show IsS42 w0 _ g s0_0 x1001_1 from by repeat (first | (with_reducible first | exact HI0.out | apply IsS42.alloc | apply IsS42.drewN | apply IsS42.drew | apply IsS42.set_1 | refine IsS42.far ?_ NB0_216.out _) | exact HI0.out)) (by (with_reducible repeat (first | apply Kd.R_alloc | apply Kd.R_drewN | apply Kd.R_drew)); exact HO_217001.out) (by decide)) hk (fun _ h => h.2)) (fun _ h => h.1)); have n1_ := Aside0.mk (KeepBut.blk hk (g' := gb216) (o := .cells #[.string (rdOf ByteArray.empty t210 t213), u217001, .bool false, .string (⟨#[]⟩ : ByteArray)] 46 (0, 0)) (by (with_reducible repeat (first | refine blk_drewN ?_ _ | refine blk_drew ?_ | refine blk_alloc ?_ _)); exact BK216.out) NB216_0.out (by simp)); have n2_ := Aside0.mk (KeepBut.trans (by repeat (first | (with_reducible first | exact HK.out | apply KeepBut.set_ | apply keep_drewN | apply keep_drew | apply keep_alloc | refine keep_far ?_ GW216.out _) | exact HK.out)) hk (.inl rfl)); have n3_ := Aside0.mk (hb); have n4_ := Aside0.mk (hi); clear HO_217001; clear BK216; clear HK; clear HB; clear HI0; have HO_217001 := n0_; have BK216 := n1_; have HK := n2_; have HB := n3_; have HI0 := n4_; clear n0_ n1_ n2_ n3_ n4_; (try clear hb); (try clear hb2); (try clear hk); (try clear hi); have hnb41 := NB216_0.out; have hnc41 := NB0_216.out; have hcz42_0 : w40.cell? ⟨gb216, 0, none⟩ = some (.string (rdOf ByteArray.empty t210 t213)) := (blk_cell BK216.out 0).trans rfl; have hcz42_1 : w40.cell? ⟨gb216, 1, none⟩ = some (u217001) := (blk_cell BK216.out 1).trans rfl; have hcz42_2 : w40.cell? ⟨gb216, 2, none⟩ = some (.bool false) := (blk_cell BK216.out 2).trans rfl; have hcz42_3 : w40.cell? ⟨gb216, 3, none⟩ = some (.string (⟨#[]⟩ : ByteArray)) := (blk_cell BK216.out 3).trans rfl; have hfz42_0 := blk_frozen BK216.out 0; have hfz42_1 := blk_frozen BK216.out 1; have hfz42_2 := blk_frozen BK216.out 2; have hfz42_3 := blk_frozen BK216.out 3; obtain ⟨Ao43, co43, eo43⟩ := Kd.R_slice HO_217001.out; subst eo43) | ((with_reducible refine gate_callee (f := 34) rfl ?_); refine goesL_ (some 34) rfl rfl Try.func34 (by kernel_rfl) rfl #[.agg #[.string (rdOf ByteArray.empty t210 t213), .slice Ao43 x217001_1.length co43, .bool false, .string (⟨#[]⟩ : ByteArray)]] rfl (by (try simp only [List.map_toArray, List.map_cons, List.map_nil]); first | done | rfl | (simp only [List.length_drop, List.length_take]; rfl)) ?_; (with_reducible refine (spec_AddrText.calls k1 (rdOf ByteArray.empty t210 t213) _ _ x217001_1 false (⟨#[]⟩ : ByteArray) t235 _ ?side1 ?side2 A39.out).mono ?_); (case side1 => repeat (first | exact (Kd.R_reads' HO_217001.out).2.2 | (with_reducible refine Kd.C_alloc ?_ _) | (with_reducible refine Kd.C_drewN ?_ _) | (with_reducible refine Kd.C_drew ?_))); (case side2 => exact (Kd.R_reads' HO_217001.out).2.1); rintro e w44 ⟨rfl, hb⟩; refine ⟨_, rfl, ?_⟩; have n0_ := Aside0.mk (Kd.R_below (by (with_reducible repeat (first | apply Kd.R_alloc | apply Kd.R_drewN | apply Kd.R_drew)); exact HO_217001.out) hb); have n1_ := Aside0.mk (blk_below (g := gb216) (o := .cells #[.string (rdOf ByteArray.empty t210 t213), .slice Ao43 x217001_1.length co43, .bool false, .string (⟨#[]⟩ : ByteArray)] 46 (0, 0)) (by (with_reducible repeat (first | refine blk_drewN ?_ _ | refine blk_drew ?_ | refine blk_alloc ?_ _)); exact BK216.out) hb); have n2_ := Aside0.mk (IsS42.below (by repeat (first | (with_reducible first | exact HI0.out | apply IsS42.alloc | apply IsS42.drewN | apply IsS42.drew | apply IsS42.set_1 | refine IsS42.far ?_ NB0_216.out _) | exact HI0.out)) hb); have n3_ := Aside0.mk (KeepBut.trans (by repeat (first | (with_reducible first | exact HK.out | apply KeepBut.set_ | apply keep_drewN | apply keep_drew | apply keep_alloc | refine keep_far ?_ GW216.out _) | exact HK.out)) (KeepBut.of_below hb g none) (.inl rfl)); have n4_ := Aside0.mk (below_step (by repeat (first | (with_reducible first | exact HB.out | apply below_alloc | apply pw_below_drewN | apply below_drew1 | refine below_set ?_ (IsS42.ge HI0.out) | refine below_set ?_ GE216.out) | exact HB.out)) hb); clear HO_217001; clear BK216; clear HI0; clear HK; clear HB; have HO_217001 := n0_; have BK216 := n1_; have HI0 := n2_; have HK := n3_; have HB := n4_; clear n0_ n1_ n2_ n3_ n4_; (try clear hb); (try clear hb2); (try clear hk); (try clear hi)))
              go_ret
              exact ⟨by first | rfl | (simp [errW_none, errW_some] <;> rfl) | (simp [*, errW_none, errW_some] <;> rfl), by repeat (first | (with_reducible first | exact HI0.out | apply IsS42.alloc | apply IsS42.drewN | apply IsS42.drew | apply IsS42.set_1 | refine IsS42.far ?_ NB0_216.out _) | exact HI0.out), by repeat (first | (with_reducible first | exact HB.out | apply below_alloc | apply pw_below_drewN | apply below_drew1 | refine below_set ?_ (IsS42.ge HI0.out) | refine below_set ?_ GE216.out) | exact HB.out), by repeat (first | (with_reducible first | exact HK.out | apply KeepBut.set_ | apply keep_drewN | apply keep_drew | apply keep_alloc | refine keep_far ?_ GW216.out _) | exact HK.out)⟩
    · rw [if_neg c5] at H
      exact absurd H (by simp)
  · rw [if_neg c4] at H
    exact absurd H (by simp)

end Go.Proofs.Ytmaleoldpmiilaa.P

/- The plain function of a Go function, and that Go comes to just its answer; its conditions are the theorem's own. Written by a program of this session (wip/pr.py). -/
namespace Go.Proofs.Ytmaleoldpmiilaa.P
open Go.RowKit Go.Proofs.YtmaleoldpmiilaaW.PrintWords Go.Proofs.YtmaleoldpmiilaaW.PrintLast Go.Proofs.YtmaleoldpmiilaaW.PrintMore
attribute [local go_sem] max2_int min2_int max_two min_two max_three min_three max_four min_four   -- for this text's walks alone
set_option linter.unusedVariables false
set_option linter.unusedSimpArgs false

/-! ### spec_l71Ref: function 27 -/
def spec_l71Ref.j0 : Nat → Int → Bool → List Int → Int → Option (ByteArray × Int)
  | 0, _, _, _, _ => none
  | k + 1, x4, x5, x1000, x1001 => if x5 = true then ((spec_l71Addr.f k x1000 x1001).bind fun bt238 => (some (bt238.1, bt238.2))) else (if x4 = 2 then ((spec_l6Rd_of.f k x1000 x1001 (([(⟨#[97]⟩ : ByteArray), (⟨#[98]⟩ : ByteArray), (⟨#[97, 47, 98]⟩ : ByteArray), (⟨#[99, 47, 46, 46, 47, 98]⟩ : ByteArray), (⟨#[]⟩ : ByteArray), (⟨#[120, 47, 46, 47, 99]⟩ : ByteArray)] : List ByteArray))).bind fun bt243 => (if 1 + bt243.1.size ≤ 9223372036854775807 then (some ((⟨#[47]⟩ : ByteArray) ++ bt243.1, bt243.2)) else (none))) else (if x4 = 3 then ((spec_l6Rd_of.f k x1000 x1001 (([(⟨#[46, 46]⟩ : ByteArray), (⟨#[46, 46, 47, 99]⟩ : ByteArray), (⟨#[46, 46, 47, 46, 46, 47, 46, 46]⟩ : ByteArray), (⟨#[46]⟩ : ByteArray), (⟨#[46, 47, 97]⟩ : ByteArray)] : List ByteArray))).bind fun bt248 => (some (bt248.1, bt248.2))) else (if x4 = 4 then ((spec_l6Rd_of.f k x1000 x1001 (([(⟨#[63, 97]⟩ : ByteArray), (⟨#[63]⟩ : ByteArray), (⟨#[35, 116, 111, 112]⟩ : ByteArray), (⟨#[]⟩ : ByteArray), (⟨#[97, 35, 98]⟩ : ByteArray), (⟨#[98, 63, 97]⟩ : ByteArray)] : List ByteArray))).bind fun bt253 => (some (bt253.1, bt253.2))) else (if x4 = 5 then ((spec_l6Rd_of.f k x1000 x1001 (([(⟨#[47, 47, 65, 66, 47, 97]⟩ : ByteArray), (⟨#[47, 47, 99, 100]⟩ : ByteArray), (⟨#[47, 47, 99, 100, 63, 120]⟩ : ByteArray), (⟨#[47, 47, 97, 98, 47, 37, 54, 49]⟩ : ByteArray), (⟨#[47, 47, 116, 111, 111, 108, 111, 110, 103, 47, 97]⟩ : ByteArray), (⟨#[47, 47, 97, 49, 47, 98]⟩ : ByteArray), (⟨#[47, 47, 47, 97]⟩ : ByteArray)] : List ByteArray))).bind fun bt258 => (some (bt258.1, bt258.2))) else ((spec_l6Rd_of.f k x1000 x1001 (([(⟨#[97]⟩ : ByteArray), (⟨#[98]⟩ : ByteArray), (⟨#[99]⟩ : ByteArray), (⟨#[97, 47, 98]⟩ : ByteArray)] : List ByteArray))).bind fun bt263 => (some (bt263.1, bt263.2)))))))
def spec_l71Ref.f (k : Nat) (s0_0 : List Int) (s0_1 : Int) : Option (ByteArray × Int) := (spec_l6Rd_pick.f k s0_0 s0_1 8).bind fun bt236 => (if bt236.1 = 0 then (spec_l71Ref.j0 k bt236.1 (bt236.1 == 0) s0_0 bt236.2) else (spec_l71Ref.j0 k bt236.1 (bt236.1 == 1) s0_0 bt236.2))
theorem spec_l71Ref.mono_l : ∀ k, (∀ y0 y1 y2 y3, LeO (spec_l71Ref.j0 k y0 y1 y2 y3) (spec_l71Ref.j0 (k + 1) y0 y1 y2 y3))
  | 0 => fun _ _ _ _ r h => by simp [spec_l71Ref.j0] at h
  | k + 1 => by
    have ih0 := spec_l71Ref.mono_l k
    · intro y0 y1 y2 y3
      unfold spec_l71Ref.j0
      repeat' first
      | (with_reducible exact ih0 _ _ _ _)
      | (with_reducible exact spec_l6Rd_of.mono _ _ _ _)
      | (with_reducible exact spec_l6Rd_pick.mono _ _ _ _)
      | (with_reducible exact spec_l71Addr.mono _ _ _)
      | (with_reducible exact LeO.refl _)
      | (with_reducible exact LeO.none _)
      | (with_reducible refine LeO.ite ?_ ?_)
      | (with_reducible refine LeO.bind ?_ (fun _ => ?_))
      | exact ih0 _ _ _ _
      | exact spec_l6Rd_of.mono _ _ _ _
      | exact spec_l6Rd_pick.mono _ _ _ _
      | exact spec_l71Addr.mono _ _ _
      | exact LeO.none _
      | refine LeO.ite ?_ ?_
      | refine LeO.bind ?_ (fun _ => ?_)
theorem spec_l71Ref.mono : ∀ a0 a1 k, LeO (spec_l71Ref.f k a0 a1) (spec_l71Ref.f (k + 1) a0 a1) := by
  intro a0 a1 k
  have ih0 := spec_l71Ref.mono_l k
  unfold spec_l71Ref.f
  repeat' first
      | (with_reducible exact ih0 _ _ _ _)
      | (with_reducible exact spec_l6Rd_of.mono _ _ _ _)
      | (with_reducible exact spec_l6Rd_pick.mono _ _ _ _)
      | (with_reducible exact spec_l71Addr.mono _ _ _)
      | (with_reducible exact LeO.refl _)
      | (with_reducible exact LeO.none _)
      | (with_reducible refine LeO.ite ?_ ?_)
      | (with_reducible refine LeO.bind ?_ (fun _ => ?_))
      | exact ih0 _ _ _ _
      | exact spec_l6Rd_of.mono _ _ _ _
      | exact spec_l6Rd_pick.mono _ _ _ _
      | exact spec_l71Addr.mono _ _ _
      | exact LeO.none _
      | refine LeO.ite ?_ ?_
      | refine LeO.bind ?_ (fun _ => ?_)
set_option maxHeartbeats 8000000 in
set_option maxRecDepth 100000 in
theorem spec_l71Ref.calls (k : Nat) (g : Nat) (s0_0 : List Int) (s0_1 : Int) (r1 : ByteArray) (r2 : Int) (w0 w : World) (hI : IsS42 w0 w g s0_0 s0_1) (hB : Below w0.heap.size w0 w) (h : spec_l71Ref.f k s0_0 s0_1 = some (r1, r2)) :
    Calls Try.prog 27 #[.pointer (some ⟨g, 0, none⟩)] w fun e w' => e = .returned (.string r1) ∧ IsS42 w0 w' g s0_0 r2 ∧ Below w0.heap.size w0 w' ∧ KeepBut w w' g none := by
  have HI0 := Aside0.mk hI
  have HK := Aside0.mk (KeepBut.refl w g none)
  have HL := Aside0.mk hB.size
  clear hI
  have HW0 := Aside0.mk hB.size
  have HB := Aside0.mk hB
  clear hB
  have H : ((spec_l6Rd_pick.f k s0_0 s0_1 8).bind fun bt236 => (if bt236.1 = 0 then (spec_l71Ref.j0 k bt236.1 (bt236.1 == 0) s0_0 bt236.2) else (spec_l71Ref.j0 k bt236.1 (bt236.1 == 1) s0_0 bt236.2))) = some (r1, r2) := h
  clear h
  replace H := Option.bind_eq_some_iff.mp H
  obtain ⟨⟨t236, t237⟩, A20, H⟩ := H
  replace H : (if t236 = 0 then (spec_l71Ref.j0 k t236 (t236 == 0) s0_0 t237) else (spec_l71Ref.j0 k t236 (t236 == 1) s0_0 t237)) = some (r1, r2) := H
  have A2 := Aside0.mk A20
  clear A20
  have HC3 := Aside0.mk H
  clear H
  go_enter Try.func27, Try.ntmps27
  go_upto_if 5 with (first | ((with_reducible refine gate_callee (f := 25) rfl ?_); refine goesL_ (some 4) rfl rfl Try.func25 (by kernel_rfl) rfl #[.pointer (some ⟨g, 0, none⟩), .int .i64 8] rfl (by (try simp only [List.map_toArray, List.map_cons, List.map_nil]); first | done | rfl | (simp only [List.length_drop, List.length_take]; rfl)) ?_; (with_reducible refine (spec_l6Rd_pick.calls k g s0_0 s0_1 8 t236 t237 w0 _ ?side1 ?side2 A2.out).mono ?_); (case side1 => repeat (first | (with_reducible first | exact HI0.out | apply IsS42.alloc | apply IsS42.drewN | apply IsS42.drew | apply IsS42.set_1) | exact HI0.out)); (case side2 => repeat (first | (with_reducible first | exact HB.out | apply below_alloc | apply pw_below_drewN | apply below_drew1 | refine below_set ?_ (IsS42.ge HI0.out)) | exact HB.out)); rintro e w4 ⟨rfl, hi, hb, hk⟩; refine ⟨_, rfl, ?_⟩; have n0_ := Aside0.mk (KeepBut.trans (by repeat (first | (with_reducible first | exact HK.out | apply KeepBut.set_ | apply keep_drewN | apply keep_drew | apply keep_alloc) | exact HK.out)) hk (.inl rfl)); have n1_ := Aside0.mk (hb); have n2_ := Aside0.mk (hi); clear HK; clear HB; clear HI0; have HK := n0_; have HB := n1_; have HI0 := n2_; clear n0_ n1_ n2_; (try clear hb); (try clear hb2); (try clear hk); (try clear hi)))
  (try simp only [Act.put, List.setIfInBounds_toArray, List.set_cons_zero, List.set_cons_succ])
  go_cut [5] (fun v5 wc => ∃ (kq : Nat) (x5_2 : Bool), v5 = .bool x5_2 ∧ Aside0 (spec_l71Ref.j0 kq t236 x5_2 s0_0 t237 = some (r1, r2)) ∧ Aside0 (kq ≤ k) ∧ Aside0 (IsS42 w0 wc g s0_0 t237) ∧ Aside0 (KeepBut w wc g none) ∧ Aside0 (Below w0.heap.size w0 wc))
  case first =>
    have H := HC3.out
    clear HC3
    by_cases c5 : t236 = 0
    · rw [if_pos c5] at H
      have c5b0 : (t236 == 0) = true := beq_iff_eq.mpr c5
      have c5b1 : (t236 != 0) = false := bne_eq_false_iff_eq.mpr c5
      clear c5
      (first | rw [c5b0] | (simp only [i64_w, i32_w]; rw [c5b0]) | skip)
      have H' := Aside0.mk H
      clear H
      go_wp2
      go_meet
      case rel => exact ⟨_, ((t236 == 0)), (by first | rfl | (simp only [i64_w, i32_w]; done) | (simp only [aid_isEmpty, aid_isEmpty2]; done) | (simp; done) | (simp [*]; done)), H', ⟨by first | omega | exact Nat.le_refl _⟩, ⟨by repeat (first | (with_reducible first | exact HI0.out | apply IsS42.alloc | apply IsS42.drewN | apply IsS42.drew | apply IsS42.set_1) | exact HI0.out)⟩, ⟨by repeat (first | (with_reducible first | exact HK.out | apply KeepBut.set_ | apply keep_drewN | apply keep_drew | apply keep_alloc) | exact HK.out)⟩, ⟨by repeat (first | (with_reducible first | exact HB.out | apply below_alloc | apply pw_below_drewN | apply below_drew1 | refine below_set ?_ (IsS42.ge HI0.out)) | exact HB.out)⟩⟩
    · rw [if_neg c5] at H
      have c5b0 : (t236 == 0) = false := beq_eq_false_iff_ne.mpr c5
      have c5b1 : (t236 != 0) = true := bne_iff_ne.mpr c5
      (first | rw [c5b0] | (simp only [i64_w, i32_w]; rw [c5b0]) | skip)
      have H' := Aside0.mk H
      clear H
      go_wp2
      go_meet
      case rel => exact ⟨_, ((t236 == 1)), (by first | rfl | (simp only [i64_w, i32_w]; done) | (simp only [aid_isEmpty, aid_isEmpty2]; done) | (simp; done) | (simp [*]; done)), H', ⟨by first | omega | exact Nat.le_refl _⟩, ⟨by repeat (first | (with_reducible first | exact HI0.out | apply IsS42.alloc | apply IsS42.drewN | apply IsS42.drew | apply IsS42.set_1) | exact HI0.out)⟩, ⟨by repeat (first | (with_reducible first | exact HK.out | apply KeepBut.set_ | apply keep_drewN | apply keep_drew | apply keep_alloc) | exact HK.out)⟩, ⟨by repeat (first | (with_reducible first | exact HB.out | apply below_alloc | apply pw_below_drewN | apply below_drew1 | refine below_set ?_ (IsS42.ge HI0.out)) | exact HB.out)⟩⟩
  case rest =>
    clear HC3
    try clear c2
    try clear p2
    try clear c5
    try clear c5b0
    try clear c5b1
    obtain ⟨kq, x5_2, rfl, HA, HJ2, HI0, HK, HB⟩ := hcut
    cases kq with
    | zero => exact absurd HA.out (by simp [spec_l71Ref.j0])
    | succ kj2 =>
      have H := HA.out
      clear HA
      simp only [spec_l71Ref.j0] at H
      by_cases c6 : x5_2 = true
      · subst c6
        have H1 : ((spec_l71Addr.f kj2 s0_0 t237).bind fun bt238 => (some (bt238.1, bt238.2))) = some (r1, r2) := by rw [if_pos rfl] at H; exact H
        clear H
        have H := H1
        clear H1
        replace H := Option.bind_eq_some_iff.mp H
        obtain ⟨⟨t238, t239⟩, A70, H⟩ := H
        replace H : (some (t238, t239)) = some (r1, r2) := H
        have A7 := Aside0.mk A70
        clear A70
        simp only [Option.some.injEq, Prod.mk.injEq] at H
        obtain ⟨rfl, rfl⟩ := H
        go_wp2_with (first | ((with_reducible refine gate_callee (f := 32) rfl ?_); refine goesL_ (some 9) rfl rfl Try.func32 (by kernel_rfl) rfl #[.pointer (some ⟨g, 0, none⟩)] rfl (by (try simp only [List.map_toArray, List.map_cons, List.map_nil]); first | done | rfl | (simp only [List.length_drop, List.length_take]; rfl)) ?_; (with_reducible refine (spec_l71Addr.calls kj2 g s0_0 t237 t238 t239 w0 _ ?side1 ?side2 A7.out).mono ?_); (case side1 => repeat (first | (with_reducible first | exact HI0.out | apply IsS42.alloc | apply IsS42.drewN | apply IsS42.drew | apply IsS42.set_1) | exact HI0.out)); (case side2 => repeat (first | (with_reducible first | exact HB.out | apply below_alloc | apply pw_below_drewN | apply below_drew1 | refine below_set ?_ (IsS42.ge HI0.out)) | exact HB.out)); rintro e w8 ⟨rfl, hi, hb, hk⟩; refine ⟨_, rfl, ?_⟩; have n0_ := Aside0.mk (KeepBut.trans (by repeat (first | (with_reducible first | exact HK.out | apply KeepBut.set_ | apply keep_drewN | apply keep_drew | apply keep_alloc) | exact HK.out)) hk (.inl rfl)); have n1_ := Aside0.mk (hb); have n2_ := Aside0.mk (hi); clear HK; clear HB; clear HI0; have HK := n0_; have HB := n1_; have HI0 := n2_; clear n0_ n1_ n2_; (try clear hb); (try clear hb2); (try clear hk); (try clear hi)))
        go_ret
        exact ⟨by first | rfl | (simp [errW_none, errW_some] <;> rfl) | (simp [*, errW_none, errW_some] <;> rfl), by repeat (first | (with_reducible first | exact HI0.out | apply IsS42.alloc | apply IsS42.drewN | apply IsS42.drew | apply IsS42.set_1) | exact HI0.out), by repeat (first | (with_reducible first | exact HB.out | apply below_alloc | apply pw_below_drewN | apply below_drew1 | refine below_set ?_ (IsS42.ge HI0.out)) | exact HB.out), by repeat (first | (with_reducible first | exact HK.out | apply KeepBut.set_ | apply keep_drewN | apply keep_drew | apply keep_alloc) | exact HK.out)⟩
      · replace c6 := Bool.eq_false_iff.mpr c6
        subst c6
        have H1 : (if t236 = 2 then ((spec_l6Rd_of.f kj2 s0_0 t237 (([(⟨#[97]⟩ : ByteArray), (⟨#[98]⟩ : ByteArray), (⟨#[97, 47, 98]⟩ : ByteArray), (⟨#[99, 47, 46, 46, 47, 98]⟩ : ByteArray), (⟨#[]⟩ : ByteArray), (⟨#[120, 47, 46, 47, 99]⟩ : ByteArray)] : List ByteArray))).bind fun bt243 => (if 1 + bt243.1.size ≤ 9223372036854775807 then (some ((⟨#[47]⟩ : ByteArray) ++ bt243.1, bt243.2)) else (none))) else (if t236 = 3 then ((spec_l6Rd_of.f kj2 s0_0 t237 (([(⟨#[46, 46]⟩ : ByteArray), (⟨#[46, 46, 47, 99]⟩ : ByteArray), (⟨#[46, 46, 47, 46, 46, 47, 46, 46]⟩ : ByteArray), (⟨#[46]⟩ : ByteArray), (⟨#[46, 47, 97]⟩ : ByteArray)] : List ByteArray))).bind fun bt248 => (some (bt248.1, bt248.2))) else (if t236 = 4 then ((spec_l6Rd_of.f kj2 s0_0 t237 (([(⟨#[63, 97]⟩ : ByteArray), (⟨#[63]⟩ : ByteArray), (⟨#[35, 116, 111, 112]⟩ : ByteArray), (⟨#[]⟩ : ByteArray), (⟨#[97, 35, 98]⟩ : ByteArray), (⟨#[98, 63, 97]⟩ : ByteArray)] : List ByteArray))).bind fun bt253 => (some (bt253.1, bt253.2))) else (if t236 = 5 then ((spec_l6Rd_of.f kj2 s0_0 t237 (([(⟨#[47, 47, 65, 66, 47, 97]⟩ : ByteArray), (⟨#[47, 47, 99, 100]⟩ : ByteArray), (⟨#[47, 47, 99, 100, 63, 120]⟩ : ByteArray), (⟨#[47, 47, 97, 98, 47, 37, 54, 49]⟩ : ByteArray), (⟨#[47, 47, 116, 111, 111, 108, 111, 110, 103, 47, 97]⟩ : ByteArray), (⟨#[47, 47, 97, 49, 47, 98]⟩ : ByteArray), (⟨#[47, 47, 47, 97]⟩ : ByteArray)] : List ByteArray))).bind fun bt258 => (some (bt258.1, bt258.2))) else ((spec_l6Rd_of.f kj2 s0_0 t237 (([(⟨#[97]⟩ : ByteArray), (⟨#[98]⟩ : ByteArray), (⟨#[99]⟩ : ByteArray), (⟨#[97, 47, 98]⟩ : ByteArray)] : List ByteArray))).bind fun bt263 => (some (bt263.1, bt263.2))))))) = some (r1, r2) := by rw [if_neg (show ¬ (false = true) by decide)] at H; exact H
        clear H
        have H := H1
        clear H1
        by_cases c9 : t236 = 2
        · rw [if_pos c9] at H
          have c9b0 : (t236 == 2) = true := beq_iff_eq.mpr c9
          have c9b1 : (t236 != 2) = false := bne_eq_false_iff_eq.mpr c9
          clear c9
          obtain ⟨y240, hy240⟩ : ∃ y_ : List ByteArray, y_ = (([(⟨#[97]⟩ : ByteArray), (⟨#[98]⟩ : ByteArray), (⟨#[97, 47, 98]⟩ : ByteArray), (⟨#[99, 47, 46, 46, 47, 98]⟩ : ByteArray), (⟨#[]⟩ : ByteArray), (⟨#[120, 47, 46, 47, 99]⟩ : ByteArray)] : List ByteArray)) := ⟨_, rfl⟩
          replace H : ((spec_l6Rd_of.f kj2 s0_0 t237 y240).bind fun bt243 => (if 1 + bt243.1.size ≤ 9223372036854775807 then (some ((⟨#[47]⟩ : ByteArray) ++ bt243.1, bt243.2)) else (none))) = some (r1, r2) := by first | (rw [hy240]; with_reducible exact H) | (have H2_ := (Option.bind_some _ _).symm.trans H; rw [hy240]; with_reducible exact H2_) | (have H2_ := (Option.bind_some _ _).symm.trans H; with_reducible exact H2_) | with_reducible exact H | (rw [hy240]; exact H) | exact H
          have Ny240 := Aside0.mk hy240
          clear hy240
          replace H := Option.bind_eq_some_iff.mp H
          obtain ⟨⟨t243, t244⟩, A100, H⟩ := H
          replace H : (if 1 + t243.size ≤ 9223372036854775807 then (some ((⟨#[47]⟩ : ByteArray) ++ t243, t244)) else (none)) = some (r1, r2) := H
          have A10 := Aside0.mk A100
          clear A100
          by_cases c11 : 1 + t243.size ≤ 9223372036854775807
          · rw [if_pos c11] at H
            have c11b0 := eq_true c11
            have c11b1 : decide (1 + t243.size ≤ 9223372036854775807) = true := decide_eq_true c11
            try have c11b2 : (9223372036854775807 < 1 + t243.size) = False := eq_false (Nat.not_lt.2 c11)
            simp only [Option.some.injEq, Prod.mk.injEq] at H
            obtain ⟨rfl, rfl⟩ := H
            go_wp2_with (first | ((with_reducible refine gate_dst (N := 13) rfl ?_); refine Kd.R_lit Kd.string _ 9 ?hg (N := 13) ?hd (xs := ([(⟨#[97]⟩ : ByteArray), (⟨#[98]⟩ : ByteArray), (⟨#[97, 47, 98]⟩ : ByteArray), (⟨#[99, 47, 46, 46, 47, 98]⟩ : ByteArray), (⟨#[]⟩ : ByteArray), (⟨#[120, 47, 46, 47, 99]⟩ : ByteArray)] : List ByteArray)) (inner := [.string (⟨#[97]⟩ : ByteArray), .string (⟨#[98]⟩ : ByteArray), .string (⟨#[97, 47, 98]⟩ : ByteArray), .string (⟨#[99, 47, 46, 46, 47, 98]⟩ : ByteArray), .string (⟨#[]⟩ : ByteArray), .string (⟨#[120, 47, 46, 47, 99]⟩ : ByteArray)]) (ok := fun _ => True) (okp := fun _ => True) ?hr ?hp (fun _ hk => hk) trivial (Below.refl _ _) (Nat.le_refl _) (by simp) ?_; (case hd => rfl); (case hg => rfl); (case hr => first | (go_simp; done) | (go_simp; rfl)); (case hp => exact (Reps.one (show Kd.M Kd.string _ _ _ (⟨#[97]⟩ : ByteArray) [.string (⟨#[97]⟩ : ByteArray)] from rfl) (Reps.one (show Kd.M Kd.string _ _ _ (⟨#[98]⟩ : ByteArray) [.string (⟨#[98]⟩ : ByteArray)] from rfl) (Reps.one (show Kd.M Kd.string _ _ _ (⟨#[97, 47, 98]⟩ : ByteArray) [.string (⟨#[97, 47, 98]⟩ : ByteArray)] from rfl) (Reps.one (show Kd.M Kd.string _ _ _ (⟨#[99, 47, 46, 46, 47, 98]⟩ : ByteArray) [.string (⟨#[99, 47, 46, 46, 47, 98]⟩ : ByteArray)] from rfl) (Reps.one (show Kd.M Kd.string _ _ _ (⟨#[]⟩ : ByteArray) [.string (⟨#[]⟩ : ByteArray)] from rfl) (Reps.one (show Kd.M Kd.string _ _ _ (⟨#[120, 47, 46, 47, 99]⟩ : ByteArray) [.string (⟨#[120, 47, 46, 47, 99]⟩ : ByteArray)] from rfl) (Reps.none _ _)))))))); intro v241 w12 ho13 hb hg_ hnew_; clear hg_ hnew_; (first | rw [← Ny240.out] at ho13 | (simp only [Int.reduceToNat] at ho13; rw [← Ny240.out] at ho13)); have n0_ := Aside0.mk (Kd.R_lower ho13 (keep_size (w := w) (g := g) (row := none) (by repeat (first | (with_reducible first | exact HK.out | apply KeepBut.set_ | apply keep_drewN | apply keep_drew | apply keep_alloc) | exact HK.out)))); have n1_ := Aside0.mk (IsS42.below (by repeat (first | (with_reducible first | exact HI0.out | apply IsS42.alloc | apply IsS42.drewN | apply IsS42.drew | apply IsS42.set_1) | exact HI0.out)) hb); have n2_ := Aside0.mk (KeepBut.trans (by repeat (first | (with_reducible first | exact HK.out | apply KeepBut.set_ | apply keep_drewN | apply keep_drew | apply keep_alloc) | exact HK.out)) (KeepBut.of_below hb g none) (.inl rfl)); have n3_ := Aside0.mk (below_step (by repeat (first | (with_reducible first | exact HB.out | apply below_alloc | apply pw_below_drewN | apply below_drew1 | refine below_set ?_ (IsS42.ge HI0.out)) | exact HB.out)) hb); clear HI0; clear HK; clear HB; have HO242 := n0_; have HI0 := n1_; have HK := n2_; have HB := n3_; clear n0_ n1_ n2_ n3_; clear hb ho13; obtain ⟨Ao14, co14, eo14⟩ := Kd.R_slice HO242.out; subst eo14) | ((with_reducible refine gate_callee (f := 31) rfl ?_); refine goesL_ (some 14) rfl rfl Try.func31 (by kernel_rfl) rfl #[.pointer (some ⟨g, 0, none⟩), .slice Ao14 y240.length co14] rfl (by (try simp only [List.map_toArray, List.map_cons, List.map_nil]); first | done | rfl | (simp only [List.length_drop, List.length_take]; rfl)) ?_; (with_reducible refine (spec_l6Rd_of.calls kj2 g s0_0 t237 _ _ y240 t243 t244 w0 _ ?side1 ?side2 ?side3 ?side4 ?side5 A10.out).mono ?_); (case side1 => repeat (first | (with_reducible first | exact HI0.out | apply IsS42.alloc | apply IsS42.drewN | apply IsS42.drew | apply IsS42.set_1) | exact HI0.out)); (case side2 => repeat (first | (with_reducible first | exact HB.out | apply below_alloc | apply pw_below_drewN | apply below_drew1 | refine below_set ?_ (IsS42.ge HI0.out)) | exact HB.out)); (case side3 => repeat (first | exact (Kd.R_reads' HO242.out).2.2 | (with_reducible refine Kd.C_alloc ?_ _) | (with_reducible refine Kd.C_drewN ?_ _) | (with_reducible refine Kd.C_drew ?_))); (case side4 => exact (Kd.R_reads' HO242.out).2.1); (case side5 => exact far_slice (IsS42.own_ne HI0.out HO242.out (by decide))); rintro e w15 ⟨rfl, hi, hb, hk⟩; refine ⟨_, rfl, ?_⟩; have n0_ := Aside0.mk (Kd.R_mono (Kd.R_keep (IsS42.apart (show IsS42 w0 _ g s0_0 t237 from by repeat (first | (with_reducible first | exact HI0.out | apply IsS42.alloc | apply IsS42.drewN | apply IsS42.drew | apply IsS42.set_1) | exact HI0.out)) (by (with_reducible repeat (first | apply Kd.R_alloc | apply Kd.R_drewN | apply Kd.R_drew)); exact HO242.out) (by decide)) hk (fun _ h => h.2)) (fun _ h => h.1)); have n1_ := Aside0.mk (KeepBut.trans (by repeat (first | (with_reducible first | exact HK.out | apply KeepBut.set_ | apply keep_drewN | apply keep_drew | apply keep_alloc) | exact HK.out)) hk (.inl rfl)); have n2_ := Aside0.mk (hb); have n3_ := Aside0.mk (hi); clear HO242; clear HK; clear HB; clear HI0; have HO242 := n0_; have HK := n1_; have HB := n2_; have HI0 := n3_; clear n0_ n1_ n2_ n3_; (try clear hb); (try clear hb2); (try clear hk); (try clear hi)))
            go_ret
            exact ⟨by first | rfl | (simp [errW_none, errW_some] <;> rfl) | (simp [*, errW_none, errW_some] <;> rfl), by repeat (first | (with_reducible first | exact HI0.out | apply IsS42.alloc | apply IsS42.drewN | apply IsS42.drew | apply IsS42.set_1) | exact HI0.out), by repeat (first | (with_reducible first | exact HB.out | apply below_alloc | apply pw_below_drewN | apply below_drew1 | refine below_set ?_ (IsS42.ge HI0.out)) | exact HB.out), by repeat (first | (with_reducible first | exact HK.out | apply KeepBut.set_ | apply keep_drewN | apply keep_drew | apply keep_alloc) | exact HK.out)⟩
          · rw [if_neg c11] at H
            exact absurd H (by simp)
        · rw [if_neg c9] at H
          have c9b0 : (t236 == 2) = false := beq_eq_false_iff_ne.mpr c9
          have c9b1 : (t236 != 2) = true := bne_iff_ne.mpr c9
          by_cases c16 : t236 = 3
          · rw [if_pos c16] at H
            have c16b0 : (t236 == 3) = true := beq_iff_eq.mpr c16
            have c16b1 : (t236 != 3) = false := bne_eq_false_iff_eq.mpr c16
            clear c16
            obtain ⟨y245, hy245⟩ : ∃ y_ : List ByteArray, y_ = (([(⟨#[46, 46]⟩ : ByteArray), (⟨#[46, 46, 47, 99]⟩ : ByteArray), (⟨#[46, 46, 47, 46, 46, 47, 46, 46]⟩ : ByteArray), (⟨#[46]⟩ : ByteArray), (⟨#[46, 47, 97]⟩ : ByteArray)] : List ByteArray)) := ⟨_, rfl⟩
            replace H : ((spec_l6Rd_of.f kj2 s0_0 t237 y245).bind fun bt248 => (some (bt248.1, bt248.2))) = some (r1, r2) := by first | (rw [hy245]; with_reducible exact H) | (have H2_ := (Option.bind_some _ _).symm.trans H; rw [hy245]; with_reducible exact H2_) | (have H2_ := (Option.bind_some _ _).symm.trans H; with_reducible exact H2_) | with_reducible exact H | (rw [hy245]; exact H) | exact H
            have Ny245 := Aside0.mk hy245
            clear hy245
            replace H := Option.bind_eq_some_iff.mp H
            obtain ⟨⟨t248, t249⟩, A170, H⟩ := H
            replace H : (some (t248, t249)) = some (r1, r2) := H
            have A17 := Aside0.mk A170
            clear A170
            simp only [Option.some.injEq, Prod.mk.injEq] at H
            obtain ⟨rfl, rfl⟩ := H
            go_wp2_with (first | ((with_reducible refine gate_dst (N := 19) rfl ?_); refine Kd.R_lit Kd.string _ 9 ?hg (N := 19) ?hd (xs := ([(⟨#[46, 46]⟩ : ByteArray), (⟨#[46, 46, 47, 99]⟩ : ByteArray), (⟨#[46, 46, 47, 46, 46, 47, 46, 46]⟩ : ByteArray), (⟨#[46]⟩ : ByteArray), (⟨#[46, 47, 97]⟩ : ByteArray)] : List ByteArray)) (inner := [.string (⟨#[46, 46]⟩ : ByteArray), .string (⟨#[46, 46, 47, 99]⟩ : ByteArray), .string (⟨#[46, 46, 47, 46, 46, 47, 46, 46]⟩ : ByteArray), .string (⟨#[46]⟩ : ByteArray), .string (⟨#[46, 47, 97]⟩ : ByteArray)]) (ok := fun _ => True) (okp := fun _ => True) ?hr ?hp (fun _ hk => hk) trivial (Below.refl _ _) (Nat.le_refl _) (by simp) ?_; (case hd => rfl); (case hg => rfl); (case hr => first | (go_simp; done) | (go_simp; rfl)); (case hp => exact (Reps.one (show Kd.M Kd.string _ _ _ (⟨#[46, 46]⟩ : ByteArray) [.string (⟨#[46, 46]⟩ : ByteArray)] from rfl) (Reps.one (show Kd.M Kd.string _ _ _ (⟨#[46, 46, 47, 99]⟩ : ByteArray) [.string (⟨#[46, 46, 47, 99]⟩ : ByteArray)] from rfl) (Reps.one (show Kd.M Kd.string _ _ _ (⟨#[46, 46, 47, 46, 46, 47, 46, 46]⟩ : ByteArray) [.string (⟨#[46, 46, 47, 46, 46, 47, 46, 46]⟩ : ByteArray)] from rfl) (Reps.one (show Kd.M Kd.string _ _ _ (⟨#[46]⟩ : ByteArray) [.string (⟨#[46]⟩ : ByteArray)] from rfl) (Reps.one (show Kd.M Kd.string _ _ _ (⟨#[46, 47, 97]⟩ : ByteArray) [.string (⟨#[46, 47, 97]⟩ : ByteArray)] from rfl) (Reps.none _ _))))))); intro v246 w18 ho19 hb hg_ hnew_; clear hg_ hnew_; (first | rw [← Ny245.out] at ho19 | (simp only [Int.reduceToNat] at ho19; rw [← Ny245.out] at ho19)); have n0_ := Aside0.mk (Kd.R_lower ho19 (keep_size (w := w) (g := g) (row := none) (by repeat (first | (with_reducible first | exact HK.out | apply KeepBut.set_ | apply keep_drewN | apply keep_drew | apply keep_alloc) | exact HK.out)))); have n1_ := Aside0.mk (IsS42.below (by repeat (first | (with_reducible first | exact HI0.out | apply IsS42.alloc | apply IsS42.drewN | apply IsS42.drew | apply IsS42.set_1) | exact HI0.out)) hb); have n2_ := Aside0.mk (KeepBut.trans (by repeat (first | (with_reducible first | exact HK.out | apply KeepBut.set_ | apply keep_drewN | apply keep_drew | apply keep_alloc) | exact HK.out)) (KeepBut.of_below hb g none) (.inl rfl)); have n3_ := Aside0.mk (below_step (by repeat (first | (with_reducible first | exact HB.out | apply below_alloc | apply pw_below_drewN | apply below_drew1 | refine below_set ?_ (IsS42.ge HI0.out)) | exact HB.out)) hb); clear HI0; clear HK; clear HB; have HO247 := n0_; have HI0 := n1_; have HK := n2_; have HB := n3_; clear n0_ n1_ n2_ n3_; clear hb ho19; obtain ⟨Ao20, co20, eo20⟩ := Kd.R_slice HO247.out; subst eo20) | ((with_reducible refine gate_callee (f := 31) rfl ?_); refine goesL_ (some 20) rfl rfl Try.func31 (by kernel_rfl) rfl #[.pointer (some ⟨g, 0, none⟩), .slice Ao20 y245.length co20] rfl (by (try simp only [List.map_toArray, List.map_cons, List.map_nil]); first | done | rfl | (simp only [List.length_drop, List.length_take]; rfl)) ?_; (with_reducible refine (spec_l6Rd_of.calls kj2 g s0_0 t237 _ _ y245 t248 t249 w0 _ ?side1 ?side2 ?side3 ?side4 ?side5 A17.out).mono ?_); (case side1 => repeat (first | (with_reducible first | exact HI0.out | apply IsS42.alloc | apply IsS42.drewN | apply IsS42.drew | apply IsS42.set_1) | exact HI0.out)); (case side2 => repeat (first | (with_reducible first | exact HB.out | apply below_alloc | apply pw_below_drewN | apply below_drew1 | refine below_set ?_ (IsS42.ge HI0.out)) | exact HB.out)); (case side3 => repeat (first | exact (Kd.R_reads' HO247.out).2.2 | (with_reducible refine Kd.C_alloc ?_ _) | (with_reducible refine Kd.C_drewN ?_ _) | (with_reducible refine Kd.C_drew ?_))); (case side4 => exact (Kd.R_reads' HO247.out).2.1); (case side5 => exact far_slice (IsS42.own_ne HI0.out HO247.out (by decide))); rintro e w21 ⟨rfl, hi, hb, hk⟩; refine ⟨_, rfl, ?_⟩; have n0_ := Aside0.mk (Kd.R_mono (Kd.R_keep (IsS42.apart (show IsS42 w0 _ g s0_0 t237 from by repeat (first | (with_reducible first | exact HI0.out | apply IsS42.alloc | apply IsS42.drewN | apply IsS42.drew | apply IsS42.set_1) | exact HI0.out)) (by (with_reducible repeat (first | apply Kd.R_alloc | apply Kd.R_drewN | apply Kd.R_drew)); exact HO247.out) (by decide)) hk (fun _ h => h.2)) (fun _ h => h.1)); have n1_ := Aside0.mk (KeepBut.trans (by repeat (first | (with_reducible first | exact HK.out | apply KeepBut.set_ | apply keep_drewN | apply keep_drew | apply keep_alloc) | exact HK.out)) hk (.inl rfl)); have n2_ := Aside0.mk (hb); have n3_ := Aside0.mk (hi); clear HO247; clear HK; clear HB; clear HI0; have HO247 := n0_; have HK := n1_; have HB := n2_; have HI0 := n3_; clear n0_ n1_ n2_ n3_; (try clear hb); (try clear hb2); (try clear hk); (try clear hi)))
            go_ret
            exact ⟨by first | rfl | (simp [errW_none, errW_some] <;> rfl) | (simp [*, errW_none, errW_some] <;> rfl), by repeat (first | (with_reducible first | exact HI0.out | apply IsS42.alloc | apply IsS42.drewN | apply IsS42.drew | apply IsS42.set_1) | exact HI0.out), by repeat (first | (with_reducible first | exact HB.out | apply below_alloc | apply pw_below_drewN | apply below_drew1 | refine below_set ?_ (IsS42.ge HI0.out)) | exact HB.out), by repeat (first | (with_reducible first | exact HK.out | apply KeepBut.set_ | apply keep_drewN | apply keep_drew | apply keep_alloc) | exact HK.out)⟩
          · rw [if_neg c16] at H
            have c16b0 : (t236 == 3) = false := beq_eq_false_iff_ne.mpr c16
            have c16b1 : (t236 != 3) = true := bne_iff_ne.mpr c16
            by_cases c22 : t236 = 4
            · rw [if_pos c22] at H
              have c22b0 : (t236 == 4) = true := beq_iff_eq.mpr c22
              have c22b1 : (t236 != 4) = false := bne_eq_false_iff_eq.mpr c22
              clear c22
              obtain ⟨y250, hy250⟩ : ∃ y_ : List ByteArray, y_ = (([(⟨#[63, 97]⟩ : ByteArray), (⟨#[63]⟩ : ByteArray), (⟨#[35, 116, 111, 112]⟩ : ByteArray), (⟨#[]⟩ : ByteArray), (⟨#[97, 35, 98]⟩ : ByteArray), (⟨#[98, 63, 97]⟩ : ByteArray)] : List ByteArray)) := ⟨_, rfl⟩
              replace H : ((spec_l6Rd_of.f kj2 s0_0 t237 y250).bind fun bt253 => (some (bt253.1, bt253.2))) = some (r1, r2) := by first | (rw [hy250]; with_reducible exact H) | (have H2_ := (Option.bind_some _ _).symm.trans H; rw [hy250]; with_reducible exact H2_) | (have H2_ := (Option.bind_some _ _).symm.trans H; with_reducible exact H2_) | with_reducible exact H | (rw [hy250]; exact H) | exact H
              have Ny250 := Aside0.mk hy250
              clear hy250
              replace H := Option.bind_eq_some_iff.mp H
              obtain ⟨⟨t253, t254⟩, A230, H⟩ := H
              replace H : (some (t253, t254)) = some (r1, r2) := H
              have A23 := Aside0.mk A230
              clear A230
              simp only [Option.some.injEq, Prod.mk.injEq] at H
              obtain ⟨rfl, rfl⟩ := H
              go_wp2_with (first | ((with_reducible refine gate_dst (N := 24) rfl ?_); refine Kd.R_lit Kd.string _ 9 ?hg (N := 24) ?hd (xs := ([(⟨#[63, 97]⟩ : ByteArray), (⟨#[63]⟩ : ByteArray), (⟨#[35, 116, 111, 112]⟩ : ByteArray), (⟨#[]⟩ : ByteArray), (⟨#[97, 35, 98]⟩ : ByteArray), (⟨#[98, 63, 97]⟩ : ByteArray)] : List ByteArray)) (inner := [.string (⟨#[63, 97]⟩ : ByteArray), .string (⟨#[63]⟩ : ByteArray), .string (⟨#[35, 116, 111, 112]⟩ : ByteArray), .string (⟨#[]⟩ : ByteArray), .string (⟨#[97, 35, 98]⟩ : ByteArray), .string (⟨#[98, 63, 97]⟩ : ByteArray)]) (ok := fun _ => True) (okp := fun _ => True) ?hr ?hp (fun _ hk => hk) trivial (Below.refl _ _) (Nat.le_refl _) (by simp) ?_; (case hd => rfl); (case hg => rfl); (case hr => first | (go_simp; done) | (go_simp; rfl)); (case hp => exact (Reps.one (show Kd.M Kd.string _ _ _ (⟨#[63, 97]⟩ : ByteArray) [.string (⟨#[63, 97]⟩ : ByteArray)] from rfl) (Reps.one (show Kd.M Kd.string _ _ _ (⟨#[63]⟩ : ByteArray) [.string (⟨#[63]⟩ : ByteArray)] from rfl) (Reps.one (show Kd.M Kd.string _ _ _ (⟨#[35, 116, 111, 112]⟩ : ByteArray) [.string (⟨#[35, 116, 111, 112]⟩ : ByteArray)] from rfl) (Reps.one (show Kd.M Kd.string _ _ _ (⟨#[]⟩ : ByteArray) [.string (⟨#[]⟩ : ByteArray)] from rfl) (Reps.one (show Kd.M Kd.string _ _ _ (⟨#[97, 35, 98]⟩ : ByteArray) [.string (⟨#[97, 35, 98]⟩ : ByteArray)] from rfl) (Reps.one (show Kd.M Kd.string _ _ _ (⟨#[98, 63, 97]⟩ : ByteArray) [.string (⟨#[98, 63, 97]⟩ : ByteArray)] from rfl) (Reps.none _ _)))))))); intro v251 w24 ho25 hb hg_ hnew_; clear hg_ hnew_; (first | rw [← Ny250.out] at ho25 | (simp only [Int.reduceToNat] at ho25; rw [← Ny250.out] at ho25)); have n0_ := Aside0.mk (Kd.R_lower ho25 (keep_size (w := w) (g := g) (row := none) (by repeat (first | (with_reducible first | exact HK.out | apply KeepBut.set_ | apply keep_drewN | apply keep_drew | apply keep_alloc) | exact HK.out)))); have n1_ := Aside0.mk (IsS42.below (by repeat (first | (with_reducible first | exact HI0.out | apply IsS42.alloc | apply IsS42.drewN | apply IsS42.drew | apply IsS42.set_1) | exact HI0.out)) hb); have n2_ := Aside0.mk (KeepBut.trans (by repeat (first | (with_reducible first | exact HK.out | apply KeepBut.set_ | apply keep_drewN | apply keep_drew | apply keep_alloc) | exact HK.out)) (KeepBut.of_below hb g none) (.inl rfl)); have n3_ := Aside0.mk (below_step (by repeat (first | (with_reducible first | exact HB.out | apply below_alloc | apply pw_below_drewN | apply below_drew1 | refine below_set ?_ (IsS42.ge HI0.out)) | exact HB.out)) hb); clear HI0; clear HK; clear HB; have HO252 := n0_; have HI0 := n1_; have HK := n2_; have HB := n3_; clear n0_ n1_ n2_ n3_; clear hb ho25; obtain ⟨Ao26, co26, eo26⟩ := Kd.R_slice HO252.out; subst eo26) | ((with_reducible refine gate_callee (f := 31) rfl ?_); refine goesL_ (some 25) rfl rfl Try.func31 (by kernel_rfl) rfl #[.pointer (some ⟨g, 0, none⟩), .slice Ao26 y250.length co26] rfl (by (try simp only [List.map_toArray, List.map_cons, List.map_nil]); first | done | rfl | (simp only [List.length_drop, List.length_take]; rfl)) ?_; (with_reducible refine (spec_l6Rd_of.calls kj2 g s0_0 t237 _ _ y250 t253 t254 w0 _ ?side1 ?side2 ?side3 ?side4 ?side5 A23.out).mono ?_); (case side1 => repeat (first | (with_reducible first | exact HI0.out | apply IsS42.alloc | apply IsS42.drewN | apply IsS42.drew | apply IsS42.set_1) | exact HI0.out)); (case side2 => repeat (first | (with_reducible first | exact HB.out | apply below_alloc | apply pw_below_drewN | apply below_drew1 | refine below_set ?_ (IsS42.ge HI0.out)) | exact HB.out)); (case side3 => repeat (first | exact (Kd.R_reads' HO252.out).2.2 | (with_reducible refine Kd.C_alloc ?_ _) | (with_reducible refine Kd.C_drewN ?_ _) | (with_reducible refine Kd.C_drew ?_))); (case side4 => exact (Kd.R_reads' HO252.out).2.1); (case side5 => exact far_slice (IsS42.own_ne HI0.out HO252.out (by decide))); rintro e w27 ⟨rfl, hi, hb, hk⟩; refine ⟨_, rfl, ?_⟩; have n0_ := Aside0.mk (Kd.R_mono (Kd.R_keep (IsS42.apart (show IsS42 w0 _ g s0_0 t237 from by repeat (first | (with_reducible first | exact HI0.out | apply IsS42.alloc | apply IsS42.drewN | apply IsS42.drew | apply IsS42.set_1) | exact HI0.out)) (by (with_reducible repeat (first | apply Kd.R_alloc | apply Kd.R_drewN | apply Kd.R_drew)); exact HO252.out) (by decide)) hk (fun _ h => h.2)) (fun _ h => h.1)); have n1_ := Aside0.mk (KeepBut.trans (by repeat (first | (with_reducible first | exact HK.out | apply KeepBut.set_ | apply keep_drewN | apply keep_drew | apply keep_alloc) | exact HK.out)) hk (.inl rfl)); have n2_ := Aside0.mk (hb); have n3_ := Aside0.mk (hi); clear HO252; clear HK; clear HB; clear HI0; have HO252 := n0_; have HK := n1_; have HB := n2_; have HI0 := n3_; clear n0_ n1_ n2_ n3_; (try clear hb); (try clear hb2); (try clear hk); (try clear hi)))
              go_ret
              exact ⟨by first | rfl | (simp [errW_none, errW_some] <;> rfl) | (simp [*, errW_none, errW_some] <;> rfl), by repeat (first | (with_reducible first | exact HI0.out | apply IsS42.alloc | apply IsS42.drewN | apply IsS42.drew | apply IsS42.set_1) | exact HI0.out), by repeat (first | (with_reducible first | exact HB.out | apply below_alloc | apply pw_below_drewN | apply below_drew1 | refine below_set ?_ (IsS42.ge HI0.out)) | exact HB.out), by repeat (first | (with_reducible first | exact HK.out | apply KeepBut.set_ | apply keep_drewN | apply keep_drew | apply keep_alloc) | exact HK.out)⟩
            · rw [if_neg c22] at H
              have c22b0 : (t236 == 4) = false := beq_eq_false_iff_ne.mpr c22
              have c22b1 : (t236 != 4) = true := bne_iff_ne.mpr c22
              by_cases c28 : t236 = 5
              · rw [if_pos c28] at H
                have c28b0 : (t236 == 5) = true := beq_iff_eq.mpr c28
                have c28b1 : (t236 != 5) = false := bne_eq_false_iff_eq.mpr c28
                clear c28
                obtain ⟨y255, hy255⟩ : ∃ y_ : List ByteArray, y_ = (([(⟨#[47, 47, 65, 66, 47, 97]⟩ : ByteArray), (⟨#[47, 47, 99, 100]⟩ : ByteArray), (⟨#[47, 47, 99, 100, 63, 120]⟩ : ByteArray), (⟨#[47, 47, 97, 98, 47, 37, 54, 49]⟩ : ByteArray), (⟨#[47, 47, 116, 111, 111, 108, 111, 110, 103, 47, 97]⟩ : ByteArray), (⟨#[47, 47, 97, 49, 47, 98]⟩ : ByteArray), (⟨#[47, 47, 47, 97]⟩ : ByteArray)] : List ByteArray)) := ⟨_, rfl⟩
                replace H : ((spec_l6Rd_of.f kj2 s0_0 t237 y255).bind fun bt258 => (some (bt258.1, bt258.2))) = some (r1, r2) := by first | (rw [hy255]; with_reducible exact H) | (have H2_ := (Option.bind_some _ _).symm.trans H; rw [hy255]; with_reducible exact H2_) | (have H2_ := (Option.bind_some _ _).symm.trans H; with_reducible exact H2_) | with_reducible exact H | (rw [hy255]; exact H) | exact H
                have Ny255 := Aside0.mk hy255
                clear hy255
                replace H := Option.bind_eq_some_iff.mp H
                obtain ⟨⟨t258, t259⟩, A290, H⟩ := H
                replace H : (some (t258, t259)) = some (r1, r2) := H
                have A29 := Aside0.mk A290
                clear A290
                simp only [Option.some.injEq, Prod.mk.injEq] at H
                obtain ⟨rfl, rfl⟩ := H
                go_wp2_with (first | ((with_reducible refine gate_dst (N := 29) rfl ?_); refine Kd.R_lit Kd.string _ 9 ?hg (N := 29) ?hd (xs := ([(⟨#[47, 47, 65, 66, 47, 97]⟩ : ByteArray), (⟨#[47, 47, 99, 100]⟩ : ByteArray), (⟨#[47, 47, 99, 100, 63, 120]⟩ : ByteArray), (⟨#[47, 47, 97, 98, 47, 37, 54, 49]⟩ : ByteArray), (⟨#[47, 47, 116, 111, 111, 108, 111, 110, 103, 47, 97]⟩ : ByteArray), (⟨#[47, 47, 97, 49, 47, 98]⟩ : ByteArray), (⟨#[47, 47, 47, 97]⟩ : ByteArray)] : List ByteArray)) (inner := [.string (⟨#[47, 47, 65, 66, 47, 97]⟩ : ByteArray), .string (⟨#[47, 47, 99, 100]⟩ : ByteArray), .string (⟨#[47, 47, 99, 100, 63, 120]⟩ : ByteArray), .string (⟨#[47, 47, 97, 98, 47, 37, 54, 49]⟩ : ByteArray), .string (⟨#[47, 47, 116, 111, 111, 108, 111, 110, 103, 47, 97]⟩ : ByteArray), .string (⟨#[47, 47, 97, 49, 47, 98]⟩ : ByteArray), .string (⟨#[47, 47, 47, 97]⟩ : ByteArray)]) (ok := fun _ => True) (okp := fun _ => True) ?hr ?hp (fun _ hk => hk) trivial (Below.refl _ _) (Nat.le_refl _) (by simp) ?_; (case hd => rfl); (case hg => rfl); (case hr => first | (go_simp; done) | (go_simp; rfl)); (case hp => exact (Reps.one (show Kd.M Kd.string _ _ _ (⟨#[47, 47, 65, 66, 47, 97]⟩ : ByteArray) [.string (⟨#[47, 47, 65, 66, 47, 97]⟩ : ByteArray)] from rfl) (Reps.one (show Kd.M Kd.string _ _ _ (⟨#[47, 47, 99, 100]⟩ : ByteArray) [.string (⟨#[47, 47, 99, 100]⟩ : ByteArray)] from rfl) (Reps.one (show Kd.M Kd.string _ _ _ (⟨#[47, 47, 99, 100, 63, 120]⟩ : ByteArray) [.string (⟨#[47, 47, 99, 100, 63, 120]⟩ : ByteArray)] from rfl) (Reps.one (show Kd.M Kd.string _ _ _ (⟨#[47, 47, 97, 98, 47, 37, 54, 49]⟩ : ByteArray) [.string (⟨#[47, 47, 97, 98, 47, 37, 54, 49]⟩ : ByteArray)] from rfl) (Reps.one (show Kd.M Kd.string _ _ _ (⟨#[47, 47, 116, 111, 111, 108, 111, 110, 103, 47, 97]⟩ : ByteArray) [.string (⟨#[47, 47, 116, 111, 111, 108, 111, 110, 103, 47, 97]⟩ : ByteArray)] from rfl) (Reps.one (show Kd.M Kd.string _ _ _ (⟨#[47, 47, 97, 49, 47, 98]⟩ : ByteArray) [.string (⟨#[47, 47, 97, 49, 47, 98]⟩ : ByteArray)] from rfl) (Reps.one (show Kd.M Kd.string _ _ _ (⟨#[47, 47, 47, 97]⟩ : ByteArray) [.string (⟨#[47, 47, 47, 97]⟩ : ByteArray)] from rfl) (Reps.none _ _))))))))); intro v256 w30 ho31 hb hg_ hnew_; clear hg_ hnew_; (first | rw [← Ny255.out] at ho31 | (simp only [Int.reduceToNat] at ho31; rw [← Ny255.out] at ho31)); have n0_ := Aside0.mk (Kd.R_lower ho31 (keep_size (w := w) (g := g) (row := none) (by repeat (first | (with_reducible first | exact HK.out | apply KeepBut.set_ | apply keep_drewN | apply keep_drew | apply keep_alloc) | exact HK.out)))); have n1_ := Aside0.mk (IsS42.below (by repeat (first | (with_reducible first | exact HI0.out | apply IsS42.alloc | apply IsS42.drewN | apply IsS42.drew | apply IsS42.set_1) | exact HI0.out)) hb); have n2_ := Aside0.mk (KeepBut.trans (by repeat (first | (with_reducible first | exact HK.out | apply KeepBut.set_ | apply keep_drewN | apply keep_drew | apply keep_alloc) | exact HK.out)) (KeepBut.of_below hb g none) (.inl rfl)); have n3_ := Aside0.mk (below_step (by repeat (first | (with_reducible first | exact HB.out | apply below_alloc | apply pw_below_drewN | apply below_drew1 | refine below_set ?_ (IsS42.ge HI0.out)) | exact HB.out)) hb); clear HI0; clear HK; clear HB; have HO257 := n0_; have HI0 := n1_; have HK := n2_; have HB := n3_; clear n0_ n1_ n2_ n3_; clear hb ho31; obtain ⟨Ao32, co32, eo32⟩ := Kd.R_slice HO257.out; subst eo32) | ((with_reducible refine gate_callee (f := 31) rfl ?_); refine goesL_ (some 30) rfl rfl Try.func31 (by kernel_rfl) rfl #[.pointer (some ⟨g, 0, none⟩), .slice Ao32 y255.length co32] rfl (by (try simp only [List.map_toArray, List.map_cons, List.map_nil]); first | done | rfl | (simp only [List.length_drop, List.length_take]; rfl)) ?_; (with_reducible refine (spec_l6Rd_of.calls kj2 g s0_0 t237 _ _ y255 t258 t259 w0 _ ?side1 ?side2 ?side3 ?side4 ?side5 A29.out).mono ?_); (case side1 => repeat (first | (with_reducible first | exact HI0.out | apply IsS42.alloc | apply IsS42.drewN | apply IsS42.drew | apply IsS42.set_1) | exact HI0.out)); (case side2 => repeat (first | (with_reducible first | exact HB.out | apply below_alloc | apply pw_below_drewN | apply below_drew1 | refine below_set ?_ (IsS42.ge HI0.out)) | exact HB.out)); (case side3 => repeat (first | exact (Kd.R_reads' HO257.out).2.2 | (with_reducible refine Kd.C_alloc ?_ _) | (with_reducible refine Kd.C_drewN ?_ _) | (with_reducible refine Kd.C_drew ?_))); (case side4 => exact (Kd.R_reads' HO257.out).2.1); (case side5 => exact far_slice (IsS42.own_ne HI0.out HO257.out (by decide))); rintro e w33 ⟨rfl, hi, hb, hk⟩; refine ⟨_, rfl, ?_⟩; have n0_ := Aside0.mk (Kd.R_mono (Kd.R_keep (IsS42.apart (show IsS42 w0 _ g s0_0 t237 from by repeat (first | (with_reducible first | exact HI0.out | apply IsS42.alloc | apply IsS42.drewN | apply IsS42.drew | apply IsS42.set_1) | exact HI0.out)) (by (with_reducible repeat (first | apply Kd.R_alloc | apply Kd.R_drewN | apply Kd.R_drew)); exact HO257.out) (by decide)) hk (fun _ h => h.2)) (fun _ h => h.1)); have n1_ := Aside0.mk (KeepBut.trans (by repeat (first | (with_reducible first | exact HK.out | apply KeepBut.set_ | apply keep_drewN | apply keep_drew | apply keep_alloc) | exact HK.out)) hk (.inl rfl)); have n2_ := Aside0.mk (hb); have n3_ := Aside0.mk (hi); clear HO257; clear HK; clear HB; clear HI0; have HO257 := n0_; have HK := n1_; have HB := n2_; have HI0 := n3_; clear n0_ n1_ n2_ n3_; (try clear hb); (try clear hb2); (try clear hk); (try clear hi)))
                go_ret
                exact ⟨by first | rfl | (simp [errW_none, errW_some] <;> rfl) | (simp [*, errW_none, errW_some] <;> rfl), by repeat (first | (with_reducible first | exact HI0.out | apply IsS42.alloc | apply IsS42.drewN | apply IsS42.drew | apply IsS42.set_1) | exact HI0.out), by repeat (first | (with_reducible first | exact HB.out | apply below_alloc | apply pw_below_drewN | apply below_drew1 | refine below_set ?_ (IsS42.ge HI0.out)) | exact HB.out), by repeat (first | (with_reducible first | exact HK.out | apply KeepBut.set_ | apply keep_drewN | apply keep_drew | apply keep_alloc) | exact HK.out)⟩
              · rw [if_neg c28] at H
                have c28b0 : (t236 == 5) = false := beq_eq_false_iff_ne.mpr c28
                have c28b1 : (t236 != 5) = true := bne_iff_ne.mpr c28
                obtain ⟨y260, hy260⟩ : ∃ y_ : List ByteArray, y_ = (([(⟨#[97]⟩ : ByteArray), (⟨#[98]⟩ : ByteArray), (⟨#[99]⟩ : ByteArray), (⟨#[97, 47, 98]⟩ : ByteArray)] : List ByteArray)) := ⟨_, rfl⟩
                replace H : ((spec_l6Rd_of.f kj2 s0_0 t237 y260).bind fun bt263 => (some (bt263.1, bt263.2))) = some (r1, r2) := by first | (rw [hy260]; with_reducible exact H) | (have H2_ := (Option.bind_some _ _).symm.trans H; rw [hy260]; with_reducible exact H2_) | (have H2_ := (Option.bind_some _ _).symm.trans H; with_reducible exact H2_) | with_reducible exact H | (rw [hy260]; exact H) | exact H
                have Ny260 := Aside0.mk hy260
                clear hy260
                replace H := Option.bind_eq_some_iff.mp H
                obtain ⟨⟨t263, t264⟩, A340, H⟩ := H
                replace H : (some (t263, t264)) = some (r1, r2) := H
                have A34 := Aside0.mk A340
                clear A340
                simp only [Option.some.injEq, Prod.mk.injEq] at H
                obtain ⟨rfl, rfl⟩ := H
                go_wp2_with (first | ((with_reducible refine gate_dst (N := 32) rfl ?_); refine Kd.R_lit Kd.string _ 9 ?hg (N := 32) ?hd (xs := ([(⟨#[97]⟩ : ByteArray), (⟨#[98]⟩ : ByteArray), (⟨#[99]⟩ : ByteArray), (⟨#[97, 47, 98]⟩ : ByteArray)] : List ByteArray)) (inner := [.string (⟨#[97]⟩ : ByteArray), .string (⟨#[98]⟩ : ByteArray), .string (⟨#[99]⟩ : ByteArray), .string (⟨#[97, 47, 98]⟩ : ByteArray)]) (ok := fun _ => True) (okp := fun _ => True) ?hr ?hp (fun _ hk => hk) trivial (Below.refl _ _) (Nat.le_refl _) (by simp) ?_; (case hd => rfl); (case hg => rfl); (case hr => first | (go_simp; done) | (go_simp; rfl)); (case hp => exact (Reps.one (show Kd.M Kd.string _ _ _ (⟨#[97]⟩ : ByteArray) [.string (⟨#[97]⟩ : ByteArray)] from rfl) (Reps.one (show Kd.M Kd.string _ _ _ (⟨#[98]⟩ : ByteArray) [.string (⟨#[98]⟩ : ByteArray)] from rfl) (Reps.one (show Kd.M Kd.string _ _ _ (⟨#[99]⟩ : ByteArray) [.string (⟨#[99]⟩ : ByteArray)] from rfl) (Reps.one (show Kd.M Kd.string _ _ _ (⟨#[97, 47, 98]⟩ : ByteArray) [.string (⟨#[97, 47, 98]⟩ : ByteArray)] from rfl) (Reps.none _ _)))))); intro v261 w35 ho36 hb hg_ hnew_; clear hg_ hnew_; (first | rw [← Ny260.out] at ho36 | (simp only [Int.reduceToNat] at ho36; rw [← Ny260.out] at ho36)); have n0_ := Aside0.mk (Kd.R_lower ho36 (keep_size (w := w) (g := g) (row := none) (by repeat (first | (with_reducible first | exact HK.out | apply KeepBut.set_ | apply keep_drewN | apply keep_drew | apply keep_alloc) | exact HK.out)))); have n1_ := Aside0.mk (IsS42.below (by repeat (first | (with_reducible first | exact HI0.out | apply IsS42.alloc | apply IsS42.drewN | apply IsS42.drew | apply IsS42.set_1) | exact HI0.out)) hb); have n2_ := Aside0.mk (KeepBut.trans (by repeat (first | (with_reducible first | exact HK.out | apply KeepBut.set_ | apply keep_drewN | apply keep_drew | apply keep_alloc) | exact HK.out)) (KeepBut.of_below hb g none) (.inl rfl)); have n3_ := Aside0.mk (below_step (by repeat (first | (with_reducible first | exact HB.out | apply below_alloc | apply pw_below_drewN | apply below_drew1 | refine below_set ?_ (IsS42.ge HI0.out)) | exact HB.out)) hb); clear HI0; clear HK; clear HB; have HO262 := n0_; have HI0 := n1_; have HK := n2_; have HB := n3_; clear n0_ n1_ n2_ n3_; clear hb ho36; obtain ⟨Ao37, co37, eo37⟩ := Kd.R_slice HO262.out; subst eo37) | ((with_reducible refine gate_callee (f := 31) rfl ?_); refine goesL_ (some 33) rfl rfl Try.func31 (by kernel_rfl) rfl #[.pointer (some ⟨g, 0, none⟩), .slice Ao37 y260.length co37] rfl (by (try simp only [List.map_toArray, List.map_cons, List.map_nil]); first | done | rfl | (simp only [List.length_drop, List.length_take]; rfl)) ?_; (with_reducible refine (spec_l6Rd_of.calls kj2 g s0_0 t237 _ _ y260 t263 t264 w0 _ ?side1 ?side2 ?side3 ?side4 ?side5 A34.out).mono ?_); (case side1 => repeat (first | (with_reducible first | exact HI0.out | apply IsS42.alloc | apply IsS42.drewN | apply IsS42.drew | apply IsS42.set_1) | exact HI0.out)); (case side2 => repeat (first | (with_reducible first | exact HB.out | apply below_alloc | apply pw_below_drewN | apply below_drew1 | refine below_set ?_ (IsS42.ge HI0.out)) | exact HB.out)); (case side3 => repeat (first | exact (Kd.R_reads' HO262.out).2.2 | (with_reducible refine Kd.C_alloc ?_ _) | (with_reducible refine Kd.C_drewN ?_ _) | (with_reducible refine Kd.C_drew ?_))); (case side4 => exact (Kd.R_reads' HO262.out).2.1); (case side5 => exact far_slice (IsS42.own_ne HI0.out HO262.out (by decide))); rintro e w38 ⟨rfl, hi, hb, hk⟩; refine ⟨_, rfl, ?_⟩; have n0_ := Aside0.mk (Kd.R_mono (Kd.R_keep (IsS42.apart (show IsS42 w0 _ g s0_0 t237 from by repeat (first | (with_reducible first | exact HI0.out | apply IsS42.alloc | apply IsS42.drewN | apply IsS42.drew | apply IsS42.set_1) | exact HI0.out)) (by (with_reducible repeat (first | apply Kd.R_alloc | apply Kd.R_drewN | apply Kd.R_drew)); exact HO262.out) (by decide)) hk (fun _ h => h.2)) (fun _ h => h.1)); have n1_ := Aside0.mk (KeepBut.trans (by repeat (first | (with_reducible first | exact HK.out | apply KeepBut.set_ | apply keep_drewN | apply keep_drew | apply keep_alloc) | exact HK.out)) hk (.inl rfl)); have n2_ := Aside0.mk (hb); have n3_ := Aside0.mk (hi); clear HO262; clear HK; clear HB; clear HI0; have HO262 := n0_; have HK := n1_; have HB := n2_; have HI0 := n3_; clear n0_ n1_ n2_ n3_; (try clear hb); (try clear hb2); (try clear hk); (try clear hi)))
                go_ret
                exact ⟨by first | rfl | (simp [errW_none, errW_some] <;> rfl) | (simp [*, errW_none, errW_some] <;> rfl), by repeat (first | (with_reducible first | exact HI0.out | apply IsS42.alloc | apply IsS42.drewN | apply IsS42.drew | apply IsS42.set_1) | exact HI0.out), by repeat (first | (with_reducible first | exact HB.out | apply below_alloc | apply pw_below_drewN | apply below_drew1 | refine below_set ?_ (IsS42.ge HI0.out)) | exact HB.out), by repeat (first | (with_reducible first | exact HK.out | apply KeepBut.set_ | apply keep_drewN | apply keep_drew | apply keep_alloc) | exact HK.out)⟩

end Go.Proofs.Ytmaleoldpmiilaa.P
