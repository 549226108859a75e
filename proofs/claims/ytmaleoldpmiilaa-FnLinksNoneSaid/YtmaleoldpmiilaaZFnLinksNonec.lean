/- FnLinksNone holds of the given program at every input: There are no more ways than marks. So there are not in a drawn page. No condition. Written by a program of this session (wip/pr.py). -/
import Derived.Test.YtmaleoldpmiilaaZFnLinksNonea
import Derived.Test.YtmaleoldpmiilaaZFnLinksNoneb
import Derived.Test.YtmaleoldpmiilaaRows
import Derived.WalkKit
import Derived.ProofKit
import Derived.OpenShut
import Derived.ShutString
import Derived.ChangeOld
import Derived.Below
import Derived.SizedLaws
import Derived.Test.YtmaleoldpmiilaaWSized

/- The plain function of a Go function, and that Go comes to just its answer; its conditions are the theorem's own. Written by a program of this session (wip/pr.py). -/
namespace Go.Proofs.Ytmaleoldpmiilaa.P
open Go.RowKit Go.Proofs.YtmaleoldpmiilaaW.PrintWords Go.Proofs.YtmaleoldpmiilaaW.PrintLast Go.Proofs.YtmaleoldpmiilaaW.PrintMore
attribute [local go_sem] max2_int min2_int max_two min_two max_three min_three max_four min_four   -- for this text's walks alone
set_option linter.unusedVariables false
set_option linter.unusedSimpArgs false

/-! ### spec_l71Page: function 26 -/
def spec_l71Page.l0 : Nat → ByteArray → Int → List Int → Int → Option (ByteArray × Int)
  | 0, _, _, _, _ => none
  | k + 1, x3, x4, x1000, x1001 => if x4 > 0 then ((spec_l6Rd_pick.f k x1000 x1001 9).bind fun bt267 => (if bt267.1 = 0 then (if x3.size + 1 ≤ 9223372036854775807 then ((spec_l71Ref.f k x1000 bt267.2).bind fun bt269 => (if x3.size + 1 + bt269.1.size ≤ 9223372036854775807 then (if x3.size + 1 + bt269.1.size + 1 ≤ 9223372036854775807 then ((spec_l71Ref.f k x1000 bt269.2).bind fun bt271 => (if x3.size + 1 + bt269.1.size + 1 + bt271.1.size ≤ 9223372036854775807 then (if x3.size + 1 + bt269.1.size + 1 + bt271.1.size + 2 ≤ 9223372036854775807 then (spec_l71Page.l0 k (((((x3 ++ (⟨#[40]⟩ : ByteArray)) ++ bt269.1) ++ (⟨#[60]⟩ : ByteArray)) ++ bt271.1) ++ (⟨#[62, 41]⟩ : ByteArray)) (wrap64 (x4 - 1)) x1000 bt271.2) else (none)) else (none))) else (none)) else (none))) else (none)) else (if bt267.1 = 1 then (if x3.size + 2 ≤ 9223372036854775807 then ((spec_l71Ref.f k x1000 bt267.2).bind fun bt273 => (if x3.size + 2 + bt273.1.size ≤ 9223372036854775807 then (if x3.size + 2 + bt273.1.size + 1 ≤ 9223372036854775807 then (spec_l71Page.l0 k (((x3 ++ (⟨#[60, 33]⟩ : ByteArray)) ++ bt273.1) ++ (⟨#[62]⟩ : ByteArray)) (wrap64 (x4 - 1)) x1000 bt273.2) else (none)) else (none))) else (none)) else (if bt267.1 = 2 then (if x3.size + 2 ≤ 9223372036854775807 then ((spec_l71Ref.f k x1000 bt267.2).bind fun bt275 => (if x3.size + 2 + bt275.1.size ≤ 9223372036854775807 then (if x3.size + 2 + bt275.1.size + 1 ≤ 9223372036854775807 then (spec_l71Page.l0 k (((x3 ++ (⟨#[60, 64]⟩ : ByteArray)) ++ bt275.1) ++ (⟨#[62]⟩ : ByteArray)) (wrap64 (x4 - 1)) x1000 bt275.2) else (none)) else (none))) else (none)) else (if bt267.1 = 3 then ((spec_l6Rd_of.f k x1000 bt267.2 (([(⟨#[116, 101, 120, 116, 32]⟩ : ByteArray), (⟨#[60]⟩ : ByteArray), (⟨#[62]⟩ : ByteArray), (⟨#[40]⟩ : ByteArray), (⟨#[41]⟩ : ByteArray), (⟨#[60, 97]⟩ : ByteArray)] : List ByteArray))).bind fun bt280 => (if x3.size + bt280.1.size ≤ 9223372036854775807 then (spec_l71Page.l0 k (x3 ++ bt280.1) (wrap64 (x4 - 1)) x1000 bt280.2) else (none))) else (if x3.size + 1 ≤ 9223372036854775807 then ((spec_l71Ref.f k x1000 bt267.2).bind fun bt282 => (if x3.size + 1 + bt282.1.size ≤ 9223372036854775807 then (if x3.size + 1 + bt282.1.size + 1 ≤ 9223372036854775807 then (spec_l71Page.l0 k (((x3 ++ (⟨#[60]⟩ : ByteArray)) ++ bt282.1) ++ (⟨#[62]⟩ : ByteArray)) (wrap64 (x4 - 1)) x1000 bt282.2) else (none)) else (none))) else (none))))))) else (some (x3, x1001))
def spec_l71Page.f (k : Nat) (s0_0 : List Int) (s0_1 : Int) : Option (ByteArray × Int) := (spec_l6Rd_pick.f k s0_0 s0_1 5).bind fun bt265 => (spec_l71Page.l0 k (⟨#[]⟩ : ByteArray) bt265.1 s0_0 bt265.2)
theorem spec_l71Page.mono_l : ∀ k, (∀ y0 y1 y2 y3, LeO (spec_l71Page.l0 k y0 y1 y2 y3) (spec_l71Page.l0 (k + 1) y0 y1 y2 y3))
  | 0 => fun _ _ _ _ r h => by simp [spec_l71Page.l0] at h
  | k + 1 => by
    have ih0 := spec_l71Page.mono_l k
    · intro y0 y1 y2 y3
      unfold spec_l71Page.l0
      repeat' first
      | (with_reducible exact ih0 _ _ _ _)
      | (with_reducible exact spec_l6Rd_of.mono _ _ _ _)
      | (with_reducible exact spec_l6Rd_pick.mono _ _ _ _)
      | (with_reducible exact spec_l71Ref.mono _ _ _)
      | (with_reducible exact LeO.refl _)
      | (with_reducible exact LeO.none _)
      | (with_reducible refine LeO.ite ?_ ?_)
      | (with_reducible refine LeO.bind ?_ (fun _ => ?_))
      | exact ih0 _ _ _ _
      | exact spec_l6Rd_of.mono _ _ _ _
      | exact spec_l6Rd_pick.mono _ _ _ _
      | exact spec_l71Ref.mono _ _ _
      | exact LeO.none _
      | refine LeO.ite ?_ ?_
      | refine LeO.bind ?_ (fun _ => ?_)
theorem spec_l71Page.mono : ∀ a0 a1 k, LeO (spec_l71Page.f k a0 a1) (spec_l71Page.f (k + 1) a0 a1) := by
  intro a0 a1 k
  have ih0 := spec_l71Page.mono_l k
  unfold spec_l71Page.f
  repeat' first
      | (with_reducible exact ih0 _ _ _ _)
      | (with_reducible exact spec_l6Rd_of.mono _ _ _ _)
      | (with_reducible exact spec_l6Rd_pick.mono _ _ _ _)
      | (with_reducible exact spec_l71Ref.mono _ _ _)
      | (with_reducible exact LeO.refl _)
      | (with_reducible exact LeO.none _)
      | (with_reducible refine LeO.ite ?_ ?_)
      | (with_reducible refine LeO.bind ?_ (fun _ => ?_))
      | exact ih0 _ _ _ _
      | exact spec_l6Rd_of.mono _ _ _ _
      | exact spec_l6Rd_pick.mono _ _ _ _
      | exact spec_l71Ref.mono _ _ _
      | exact LeO.none _
      | refine LeO.ite ?_ ?_
      | refine LeO.bind ?_ (fun _ => ?_)
set_option maxHeartbeats 8000000 in
set_option maxRecDepth 100000 in
theorem spec_l71Page.calls (k : Nat) (g : Nat) (s0_0 : List Int) (s0_1 : Int) (r1 : ByteArray) (r2 : Int) (w0 w : World) (hI : IsS42 w0 w g s0_0 s0_1) (hB : Below w0.heap.size w0 w) (h : spec_l71Page.f k s0_0 s0_1 = some (r1, r2)) :
    Calls Try.prog 26 #[.pointer (some ⟨g, 0, none⟩)] w fun e w' => e = .returned (.string r1) ∧ IsS42 w0 w' g s0_0 r2 ∧ Below w0.heap.size w0 w' ∧ KeepBut w w' g none := by
  have HI0 := Aside0.mk hI
  have HK := Aside0.mk (KeepBut.refl w g none)
  have HL := Aside0.mk hB.size
  clear hI
  have HW0 := Aside0.mk hB.size
  have HB := Aside0.mk hB
  clear hB
  have H : ((spec_l6Rd_pick.f k s0_0 s0_1 5).bind fun bt265 => (spec_l71Page.l0 k (⟨#[]⟩ : ByteArray) bt265.1 s0_0 bt265.2)) = some (r1, r2) := h
  clear h
  replace H := Option.bind_eq_some_iff.mp H
  obtain ⟨⟨t265, t266⟩, A20, H⟩ := H
  replace H : (spec_l71Page.l0 k (⟨#[]⟩ : ByteArray) t265 s0_0 t266) = some (r1, r2) := H
  have A2 := Aside0.mk A20
  clear A20
  have H' := Aside0.mk H
  clear H
  go_enter Try.func26, Try.ntmps26
  go_wp2_with (first | ((with_reducible refine gate_callee (f := 25) rfl ?_); refine goesL_ (some 6) rfl rfl Try.func25 (by kernel_rfl) rfl #[.pointer (some ⟨g, 0, none⟩), .int .i64 5] rfl (by (try simp only [List.map_toArray, List.map_cons, List.map_nil]); first | done | rfl | (simp only [List.length_drop, List.length_take]; rfl)) ?_; (with_reducible refine (spec_l6Rd_pick.calls k g s0_0 s0_1 5 t265 t266 w0 _ ?side1 ?side2 A2.out).mono ?_); (case side1 => repeat (first | (with_reducible first | exact HI0.out | apply IsS42.alloc | apply IsS42.drewN | apply IsS42.drew | apply IsS42.set_1) | exact HI0.out)); (case side2 => repeat (first | (with_reducible first | exact HB.out | apply below_alloc | apply pw_below_drewN | apply below_drew1 | refine below_set ?_ (IsS42.ge HI0.out)) | exact HB.out)); rintro e w3 ⟨rfl, hi, hb, hk⟩; refine ⟨_, rfl, ?_⟩; have n0_ := Aside0.mk (KeepBut.trans (by repeat (first | (with_reducible first | exact HK.out | apply KeepBut.set_ | apply keep_drewN | apply keep_drew | apply keep_alloc) | exact HK.out)) hk (.inl rfl)); have n1_ := Aside0.mk (hb); have n2_ := Aside0.mk (hi); clear HK; clear HB; clear HI0; have HK := n0_; have HB := n1_; have HI0 := n2_; clear n0_ n1_ n2_; (try clear hb); (try clear hb2); (try clear hk); (try clear hi)))
  go_loopg [3, 4] k (fun kq v3 v4 w' => ∃ (x3_1 : ByteArray) (x4_1 : Int) (x1001_1 : Int), v3 = .string x3_1 ∧ v4 = .int .i64 x4_1 ∧ Aside0 (spec_l71Page.l0 kq x3_1 x4_1 s0_0 x1001_1 = some (r1, r2)) ∧ Aside0 (kq ≤ k) ∧ Aside0 (IsS42 w0 w' g s0_0 x1001_1) ∧ Aside0 (KeepBut w w' g none) ∧ Aside0 (Below w0.heap.size w0 w'))
  case atStart => exact ⟨((⟨#[]⟩ : ByteArray)), (t265), (t266), (by first | rfl | (simp only [i64_w, i32_w]; done) | (simp only [aid_isEmpty, aid_isEmpty2]; done) | (simp; done) | (simp [*]; done)), (by first | rfl | (simp only [i64_w, i32_w]; done) | (simp only [aid_isEmpty, aid_isEmpty2]; done) | (simp; done) | (simp [*]; done)), H', ⟨Nat.le_refl _⟩, ⟨by repeat (first | (with_reducible first | exact HI0.out | apply IsS42.alloc | apply IsS42.drewN | apply IsS42.drew | apply IsS42.set_1) | exact HI0.out)⟩, ⟨by repeat (first | (with_reducible first | exact HK.out | apply KeepBut.set_ | apply keep_drewN | apply keep_drew | apply keep_alloc) | exact HK.out)⟩, ⟨by repeat (first | (with_reducible first | exact HB.out | apply below_alloc | apply pw_below_drewN | apply below_drew1 | refine below_set ?_ (IsS42.ge HI0.out)) | exact HB.out)⟩⟩
  case round =>
    clear H'
    try clear c2
    try clear p2
    obtain ⟨x3_1, x4_1, x1001_1, rfl, rfl, HA, HK1, HI0, HK, HB⟩ := hrel
    cases gk with
    | zero => exact absurd HA.out (by simp [spec_l71Page.l0])
    | succ k1 =>
      have H := HA.out
      clear HA
      simp only [spec_l71Page.l0] at H
      by_cases c4 : x4_1 > 0
      · rw [if_pos c4] at H
        have c4b0 : decide (0 < x4_1) = true := decide_eq_true c4
        clear c4
        replace H := Option.bind_eq_some_iff.mp H
        obtain ⟨⟨t267, t268⟩, A50, H⟩ := H
        replace H : (if t267 = 0 then (if x3_1.size + 1 ≤ 9223372036854775807 then ((spec_l71Ref.f k1 s0_0 t268).bind fun bt269 => (if x3_1.size + 1 + bt269.1.size ≤ 9223372036854775807 then (if x3_1.size + 1 + bt269.1.size + 1 ≤ 9223372036854775807 then ((spec_l71Ref.f k1 s0_0 bt269.2).bind fun bt271 => (if x3_1.size + 1 + bt269.1.size + 1 + bt271.1.size ≤ 9223372036854775807 then (if x3_1.size + 1 + bt269.1.size + 1 + bt271.1.size + 2 ≤ 9223372036854775807 then (spec_l71Page.l0 k1 (((((x3_1 ++ (⟨#[40]⟩ : ByteArray)) ++ bt269.1) ++ (⟨#[60]⟩ : ByteArray)) ++ bt271.1) ++ (⟨#[62, 41]⟩ : ByteArray)) (wrap64 (x4_1 - 1)) s0_0 bt271.2) else (none)) else (none))) else (none)) else (none))) else (none)) else (if t267 = 1 then (if x3_1.size + 2 ≤ 9223372036854775807 then ((spec_l71Ref.f k1 s0_0 t268).bind fun bt273 => (if x3_1.size + 2 + bt273.1.size ≤ 9223372036854775807 then (if x3_1.size + 2 + bt273.1.size + 1 ≤ 9223372036854775807 then (spec_l71Page.l0 k1 (((x3_1 ++ (⟨#[60, 33]⟩ : ByteArray)) ++ bt273.1) ++ (⟨#[62]⟩ : ByteArray)) (wrap64 (x4_1 - 1)) s0_0 bt273.2) else (none)) else (none))) else (none)) else (if t267 = 2 then (if x3_1.size + 2 ≤ 9223372036854775807 then ((spec_l71Ref.f k1 s0_0 t268).bind fun bt275 => (if x3_1.size + 2 + bt275.1.size ≤ 9223372036854775807 then (if x3_1.size + 2 + bt275.1.size + 1 ≤ 9223372036854775807 then (spec_l71Page.l0 k1 (((x3_1 ++ (⟨#[60, 64]⟩ : ByteArray)) ++ bt275.1) ++ (⟨#[62]⟩ : ByteArray)) (wrap64 (x4_1 - 1)) s0_0 bt275.2) else (none)) else (none))) else (none)) else (if t267 = 3 then ((spec_l6Rd_of.f k1 s0_0 t268 (([(⟨#[116, 101, 120, 116, 32]⟩ : ByteArray), (⟨#[60]⟩ : ByteArray), (⟨#[62]⟩ : ByteArray), (⟨#[40]⟩ : ByteArray), (⟨#[41]⟩ : ByteArray), (⟨#[60, 97]⟩ : ByteArray)] : List ByteArray))).bind fun bt280 => (if x3_1.size + bt280.1.size ≤ 9223372036854775807 then (spec_l71Page.l0 k1 (x3_1 ++ bt280.1) (wrap64 (x4_1 - 1)) s0_0 bt280.2) else (none))) else (if x3_1.size + 1 ≤ 9223372036854775807 then ((spec_l71Ref.f k1 s0_0 t268).bind fun bt282 => (if x3_1.size + 1 + bt282.1.size ≤ 9223372036854775807 then (if x3_1.size + 1 + bt282.1.size + 1 ≤ 9223372036854775807 then (spec_l71Page.l0 k1 (((x3_1 ++ (⟨#[60]⟩ : ByteArray)) ++ bt282.1) ++ (⟨#[62]⟩ : ByteArray)) (wrap64 (x4_1 - 1)) s0_0 bt282.2) else (none)) else (none))) else (none)))))) = some (r1, r2) := H
        have A5 := Aside0.mk A50
        clear A50
        by_cases c6 : t267 = 0
        · rw [if_pos c6] at H
          have c6b0 : (t267 == 0) = true := beq_iff_eq.mpr c6
          have c6b1 : (t267 != 0) = false := bne_eq_false_iff_eq.mpr c6
          clear c6
          by_cases c7 : x3_1.size + 1 ≤ 9223372036854775807
          · rw [if_pos c7] at H
            have c7b0 := eq_true c7
            have c7b1 : decide (x3_1.size + 1 ≤ 9223372036854775807) = true := decide_eq_true c7
            try have c7b2 : (9223372036854775807 < x3_1.size + 1) = False := eq_false (Nat.not_lt.2 c7)
            replace H := Option.bind_eq_some_iff.mp H
            obtain ⟨⟨t269, t270⟩, A80, H⟩ := H
            replace H : (if x3_1.size + 1 + t269.size ≤ 9223372036854775807 then (if x3_1.size + 1 + t269.size + 1 ≤ 9223372036854775807 then ((spec_l71Ref.f k1 s0_0 t270).bind fun bt271 => (if x3_1.size + 1 + t269.size + 1 + bt271.1.size ≤ 9223372036854775807 then (if x3_1.size + 1 + t269.size + 1 + bt271.1.size + 2 ≤ 9223372036854775807 then (spec_l71Page.l0 k1 (((((x3_1 ++ (⟨#[40]⟩ : ByteArray)) ++ t269) ++ (⟨#[60]⟩ : ByteArray)) ++ bt271.1) ++ (⟨#[62, 41]⟩ : ByteArray)) (wrap64 (x4_1 - 1)) s0_0 bt271.2) else (none)) else (none))) else (none)) else (none)) = some (r1, r2) := H
            have A8 := Aside0.mk A80
            clear A80
            by_cases c9 : x3_1.size + 1 + t269.size ≤ 9223372036854775807
            · rw [if_pos c9] at H
              have c9b0 := eq_true c9
              have c9b1 : decide (x3_1.size + 1 + t269.size ≤ 9223372036854775807) = true := decide_eq_true c9
              try have c9b2 : (9223372036854775807 < x3_1.size + 1 + t269.size) = False := eq_false (Nat.not_lt.2 c9)
              by_cases c10 : x3_1.size + 1 + t269.size + 1 ≤ 9223372036854775807
              · rw [if_pos c10] at H
                have c10b0 := eq_true c10
                have c10b1 : decide (x3_1.size + 1 + t269.size + 1 ≤ 9223372036854775807) = true := decide_eq_true c10
                try have c10b2 : (9223372036854775807 < x3_1.size + 1 + t269.size + 1) = False := eq_false (Nat.not_lt.2 c10)
                replace H := Option.bind_eq_some_iff.mp H
                obtain ⟨⟨t271, t272⟩, A110, H⟩ := H
                replace H : (if x3_1.size + 1 + t269.size + 1 + t271.size ≤ 9223372036854775807 then (if x3_1.size + 1 + t269.size + 1 + t271.size + 2 ≤ 9223372036854775807 then (spec_l71Page.l0 k1 (((((x3_1 ++ (⟨#[40]⟩ : ByteArray)) ++ t269) ++ (⟨#[60]⟩ : ByteArray)) ++ t271) ++ (⟨#[62, 41]⟩ : ByteArray)) (wrap64 (x4_1 - 1)) s0_0 t272) else (none)) else (none)) = some (r1, r2) := H
                have A11 := Aside0.mk A110
                clear A110
                by_cases c12 : x3_1.size + 1 + t269.size + 1 + t271.size ≤ 9223372036854775807
                · rw [if_pos c12] at H
                  have c12b0 := eq_true c12
                  have c12b1 : decide (x3_1.size + 1 + t269.size + 1 + t271.size ≤ 9223372036854775807) = true := decide_eq_true c12
                  try have c12b2 : (9223372036854775807 < x3_1.size + 1 + t269.size + 1 + t271.size) = False := eq_false (Nat.not_lt.2 c12)
                  by_cases c13 : x3_1.size + 1 + t269.size + 1 + t271.size + 2 ≤ 9223372036854775807
                  · rw [if_pos c13] at H
                    have c13b0 := eq_true c13
                    have c13b1 : decide (x3_1.size + 1 + t269.size + 1 + t271.size + 2 ≤ 9223372036854775807) = true := decide_eq_true c13
                    try have c13b2 : (9223372036854775807 < x3_1.size + 1 + t269.size + 1 + t271.size + 2) = False := eq_false (Nat.not_lt.2 c13)
                    have H' := Aside0.mk H
                    clear H
                    go_wp2_with (first | ((with_reducible refine gate_callee (f := 25) rfl ?_); refine goesL_ (some 12) rfl rfl Try.func25 (by kernel_rfl) rfl #[.pointer (some ⟨g, 0, none⟩), .int .i64 9] rfl (by (try simp only [List.map_toArray, List.map_cons, List.map_nil]); first | done | rfl | (simp only [List.length_drop, List.length_take]; rfl)) ?_; (with_reducible refine (spec_l6Rd_pick.calls k1 g s0_0 x1001_1 9 t267 t268 w0 _ ?side1 ?side2 A5.out).mono ?_); (case side1 => repeat (first | (with_reducible first | exact HI0.out | apply IsS42.alloc | apply IsS42.drewN | apply IsS42.drew | apply IsS42.set_1) | exact HI0.out)); (case side2 => repeat (first | (with_reducible first | exact HB.out | apply below_alloc | apply pw_below_drewN | apply below_drew1 | refine below_set ?_ (IsS42.ge HI0.out)) | exact HB.out)); rintro e w14 ⟨rfl, hi, hb, hk⟩; refine ⟨_, rfl, ?_⟩; have n0_ := Aside0.mk (KeepBut.trans (by repeat (first | (with_reducible first | exact HK.out | apply KeepBut.set_ | apply keep_drewN | apply keep_drew | apply keep_alloc) | exact HK.out)) hk (.inl rfl)); have n1_ := Aside0.mk (hb); have n2_ := Aside0.mk (hi); clear HK; clear HB; clear HI0; have HK := n0_; have HB := n1_; have HI0 := n2_; clear n0_ n1_ n2_; (try clear hb); (try clear hb2); (try clear hk); (try clear hi)) | ((with_reducible refine gate_callee (f := 27) rfl ?_); refine goesL_ (some 24) rfl rfl Try.func27 (by kernel_rfl) rfl #[.pointer (some ⟨g, 0, none⟩)] rfl (by (try simp only [List.map_toArray, List.map_cons, List.map_nil]); first | done | rfl | (simp only [List.length_drop, List.length_take]; rfl)) ?_; (with_reducible refine (spec_l71Ref.calls k1 g s0_0 t268 t269 t270 w0 _ ?side1 ?side2 A8.out).mono ?_); (case side1 => repeat (first | (with_reducible first | exact HI0.out | apply IsS42.alloc | apply IsS42.drewN | apply IsS42.drew | apply IsS42.set_1) | exact HI0.out)); (case side2 => repeat (first | (with_reducible first | exact HB.out | apply below_alloc | apply pw_below_drewN | apply below_drew1 | refine below_set ?_ (IsS42.ge HI0.out)) | exact HB.out)); rintro e w15 ⟨rfl, hi, hb, hk⟩; refine ⟨_, rfl, ?_⟩; have n0_ := Aside0.mk (KeepBut.trans (by repeat (first | (with_reducible first | exact HK.out | apply KeepBut.set_ | apply keep_drewN | apply keep_drew | apply keep_alloc) | exact HK.out)) hk (.inl rfl)); have n1_ := Aside0.mk (hb); have n2_ := Aside0.mk (hi); clear HK; clear HB; clear HI0; have HK := n0_; have HB := n1_; have HI0 := n2_; clear n0_ n1_ n2_; (try clear hb); (try clear hb2); (try clear hk); (try clear hi)) | ((with_reducible refine gate_callee (f := 27) rfl ?_); refine goesL_ (some 28) rfl rfl Try.func27 (by kernel_rfl) rfl #[.pointer (some ⟨g, 0, none⟩)] rfl (by (try simp only [List.map_toArray, List.map_cons, List.map_nil]); first | done | rfl | (simp only [List.length_drop, List.length_take]; rfl)) ?_; (with_reducible refine (spec_l71Ref.calls k1 g s0_0 t270 t271 t272 w0 _ ?side1 ?side2 A11.out).mono ?_); (case side1 => repeat (first | (with_reducible first | exact HI0.out | apply IsS42.alloc | apply IsS42.drewN | apply IsS42.drew | apply IsS42.set_1) | exact HI0.out)); (case side2 => repeat (first | (with_reducible first | exact HB.out | apply below_alloc | apply pw_below_drewN | apply below_drew1 | refine below_set ?_ (IsS42.ge HI0.out)) | exact HB.out)); rintro e w16 ⟨rfl, hi, hb, hk⟩; refine ⟨_, rfl, ?_⟩; have n0_ := Aside0.mk (KeepBut.trans (by repeat (first | (with_reducible first | exact HK.out | apply KeepBut.set_ | apply keep_drewN | apply keep_drew | apply keep_alloc) | exact HK.out)) hk (.inl rfl)); have n1_ := Aside0.mk (hb); have n2_ := Aside0.mk (hi); clear HK; clear HB; clear HI0; have HK := n0_; have HB := n1_; have HI0 := n2_; clear n0_ n1_ n2_; (try clear hb); (try clear hb2); (try clear hk); (try clear hi)))
                    go_roundg k1
                    case measure => have := HK1.out; omega
                    case rel => exact ⟨(((((x3_1 ++ (⟨#[40]⟩ : ByteArray)) ++ t269) ++ (⟨#[60]⟩ : ByteArray)) ++ t271) ++ (⟨#[62, 41]⟩ : ByteArray)), (wrap64 (x4_1 - 1)), (t272), (by first | rfl | (simp only [i64_w, i32_w]; done) | (simp only [aid_isEmpty, aid_isEmpty2]; done) | (simp; done) | (simp [*]; done)), (by first | rfl | (simp only [i64_w, i32_w]; done) | (simp only [aid_isEmpty, aid_isEmpty2]; done) | (simp; done) | (simp [*]; done)), H', ⟨by have := HK1.out; omega⟩, ⟨by repeat (first | (with_reducible first | exact HI0.out | apply IsS42.alloc | apply IsS42.drewN | apply IsS42.drew | apply IsS42.set_1) | exact HI0.out)⟩, ⟨by repeat (first | (with_reducible first | exact HK.out | apply KeepBut.set_ | apply keep_drewN | apply keep_drew | apply keep_alloc) | exact HK.out)⟩, ⟨by repeat (first | (with_reducible first | exact HB.out | apply below_alloc | apply pw_below_drewN | apply below_drew1 | refine below_set ?_ (IsS42.ge HI0.out)) | exact HB.out)⟩⟩
                  · rw [if_neg c13] at H
                    exact absurd H (by simp)
                · rw [if_neg c12] at H
                  exact absurd H (by simp)
              · rw [if_neg c10] at H
                exact absurd H (by simp)
            · rw [if_neg c9] at H
              exact absurd H (by simp)
          · rw [if_neg c7] at H
            exact absurd H (by simp)
        · rw [if_neg c6] at H
          have c6b0 : (t267 == 0) = false := beq_eq_false_iff_ne.mpr c6
          have c6b1 : (t267 != 0) = true := bne_iff_ne.mpr c6
          by_cases c17 : t267 = 1
          · rw [if_pos c17] at H
            have c17b0 : (t267 == 1) = true := beq_iff_eq.mpr c17
            have c17b1 : (t267 != 1) = false := bne_eq_false_iff_eq.mpr c17
            clear c17
            by_cases c18 : x3_1.size + 2 ≤ 9223372036854775807
            · rw [if_pos c18] at H
              have c18b0 := eq_true c18
              have c18b1 : decide (x3_1.size + 2 ≤ 9223372036854775807) = true := decide_eq_true c18
              try have c18b2 : (9223372036854775807 < x3_1.size + 2) = False := eq_false (Nat.not_lt.2 c18)
              replace H := Option.bind_eq_some_iff.mp H
              obtain ⟨⟨t273, t274⟩, A190, H⟩ := H
              replace H : (if x3_1.size + 2 + t273.size ≤ 9223372036854775807 then (if x3_1.size + 2 + t273.size + 1 ≤ 9223372036854775807 then (spec_l71Page.l0 k1 (((x3_1 ++ (⟨#[60, 33]⟩ : ByteArray)) ++ t273) ++ (⟨#[62]⟩ : ByteArray)) (wrap64 (x4_1 - 1)) s0_0 t274) else (none)) else (none)) = some (r1, r2) := H
              have A19 := Aside0.mk A190
              clear A190
              by_cases c20 : x3_1.size + 2 + t273.size ≤ 9223372036854775807
              · rw [if_pos c20] at H
                have c20b0 := eq_true c20
                have c20b1 : decide (x3_1.size + 2 + t273.size ≤ 9223372036854775807) = true := decide_eq_true c20
                try have c20b2 : (9223372036854775807 < x3_1.size + 2 + t273.size) = False := eq_false (Nat.not_lt.2 c20)
                by_cases c21 : x3_1.size + 2 + t273.size + 1 ≤ 9223372036854775807
                · rw [if_pos c21] at H
                  have c21b0 := eq_true c21
                  have c21b1 : decide (x3_1.size + 2 + t273.size + 1 ≤ 9223372036854775807) = true := decide_eq_true c21
                  try have c21b2 : (9223372036854775807 < x3_1.size + 2 + t273.size + 1) = False := eq_false (Nat.not_lt.2 c21)
                  have H' := Aside0.mk H
                  clear H
                  go_wp2_with (first | ((with_reducible refine gate_callee (f := 25) rfl ?_); refine goesL_ (some 12) rfl rfl Try.func25 (by kernel_rfl) rfl #[.pointer (some ⟨g, 0, none⟩), .int .i64 9] rfl (by (try simp only [List.map_toArray, List.map_cons, List.map_nil]); first | done | rfl | (simp only [List.length_drop, List.length_take]; rfl)) ?_; (with_reducible refine (spec_l6Rd_pick.calls k1 g s0_0 x1001_1 9 t267 t268 w0 _ ?side1 ?side2 A5.out).mono ?_); (case side1 => repeat (first | (with_reducible first | exact HI0.out | apply IsS42.alloc | apply IsS42.drewN | apply IsS42.drew | apply IsS42.set_1) | exact HI0.out)); (case side2 => repeat (first | (with_reducible first | exact HB.out | apply below_alloc | apply pw_below_drewN | apply below_drew1 | refine below_set ?_ (IsS42.ge HI0.out)) | exact HB.out)); rintro e w22 ⟨rfl, hi, hb, hk⟩; refine ⟨_, rfl, ?_⟩; have n0_ := Aside0.mk (KeepBut.trans (by repeat (first | (with_reducible first | exact HK.out | apply KeepBut.set_ | apply keep_drewN | apply keep_drew | apply keep_alloc) | exact HK.out)) hk (.inl rfl)); have n1_ := Aside0.mk (hb); have n2_ := Aside0.mk (hi); clear HK; clear HB; clear HI0; have HK := n0_; have HB := n1_; have HI0 := n2_; clear n0_ n1_ n2_; (try clear hb); (try clear hb2); (try clear hk); (try clear hi)) | ((with_reducible refine gate_callee (f := 27) rfl ?_); refine goesL_ (some 36) rfl rfl Try.func27 (by kernel_rfl) rfl #[.pointer (some ⟨g, 0, none⟩)] rfl (by (try simp only [List.map_toArray, List.map_cons, List.map_nil]); first | done | rfl | (simp only [List.length_drop, List.length_take]; rfl)) ?_; (with_reducible refine (spec_l71Ref.calls k1 g s0_0 t268 t273 t274 w0 _ ?side1 ?side2 A19.out).mono ?_); (case side1 => repeat (first | (with_reducible first | exact HI0.out | apply IsS42.alloc | apply IsS42.drewN | apply IsS42.drew | apply IsS42.set_1) | exact HI0.out)); (case side2 => repeat (first | (with_reducible first | exact HB.out | apply below_alloc | apply pw_below_drewN | apply below_drew1 | refine below_set ?_ (IsS42.ge HI0.out)) | exact HB.out)); rintro e w23 ⟨rfl, hi, hb, hk⟩; refine ⟨_, rfl, ?_⟩; have n0_ := Aside0.mk (KeepBut.trans (by repeat (first | (with_reducible first | exact HK.out | apply KeepBut.set_ | apply keep_drewN | apply keep_drew | apply keep_alloc) | exact HK.out)) hk (.inl rfl)); have n1_ := Aside0.mk (hb); have n2_ := Aside0.mk (hi); clear HK; clear HB; clear HI0; have HK := n0_; have HB := n1_; have HI0 := n2_; clear n0_ n1_ n2_; (try clear hb); (try clear hb2); (try clear hk); (try clear hi)))
                  go_roundg k1
                  case measure => have := HK1.out; omega
                  case rel => exact ⟨(((x3_1 ++ (⟨#[60, 33]⟩ : ByteArray)) ++ t273) ++ (⟨#[62]⟩ : ByteArray)), (wrap64 (x4_1 - 1)), (t274), (by first | rfl | (simp only [i64_w, i32_w]; done) | (simp only [aid_isEmpty, aid_isEmpty2]; done) | (simp; done) | (simp [*]; done)), (by first | rfl | (simp only [i64_w, i32_w]; done) | (simp only [aid_isEmpty, aid_isEmpty2]; done) | (simp; done) | (simp [*]; done)), H', ⟨by have := HK1.out; omega⟩, ⟨by repeat (first | (with_reducible first | exact HI0.out | apply IsS42.alloc | apply IsS42.drewN | apply IsS42.drew | apply IsS42.set_1) | exact HI0.out)⟩, ⟨by repeat (first | (with_reducible first | exact HK.out | apply KeepBut.set_ | apply keep_drewN | apply keep_drew | apply keep_alloc) | exact HK.out)⟩, ⟨by repeat (first | (with_reducible first | exact HB.out | apply below_alloc | apply pw_below_drewN | apply below_drew1 | refine below_set ?_ (IsS42.ge HI0.out)) | exact HB.out)⟩⟩
                · rw [if_neg c21] at H
                  exact absurd H (by simp)
              · rw [if_neg c20] at H
                exact absurd H (by simp)
            · rw [if_neg c18] at H
              exact absurd H (by simp)
          · rw [if_neg c17] at H
            have c17b0 : (t267 == 1) = false := beq_eq_false_iff_ne.mpr c17
            have c17b1 : (t267 != 1) = true := bne_iff_ne.mpr c17
            by_cases c24 : t267 = 2
            · rw [if_pos c24] at H
              have c24b0 : (t267 == 2) = true := beq_iff_eq.mpr c24
              have c24b1 : (t267 != 2) = false := bne_eq_false_iff_eq.mpr c24
              clear c24
              by_cases c25 : x3_1.size + 2 ≤ 9223372036854775807
              · rw [if_pos c25] at H
                have c25b0 := eq_true c25
                have c25b1 : decide (x3_1.size + 2 ≤ 9223372036854775807) = true := decide_eq_true c25
                try have c25b2 : (9223372036854775807 < x3_1.size + 2) = False := eq_false (Nat.not_lt.2 c25)
                replace H := Option.bind_eq_some_iff.mp H
                obtain ⟨⟨t275, t276⟩, A260, H⟩ := H
                replace H : (if x3_1.size + 2 + t275.size ≤ 9223372036854775807 then (if x3_1.size + 2 + t275.size + 1 ≤ 9223372036854775807 then (spec_l71Page.l0 k1 (((x3_1 ++ (⟨#[60, 64]⟩ : ByteArray)) ++ t275) ++ (⟨#[62]⟩ : ByteArray)) (wrap64 (x4_1 - 1)) s0_0 t276) else (none)) else (none)) = some (r1, r2) := H
                have A26 := Aside0.mk A260
                clear A260
                by_cases c27 : x3_1.size + 2 + t275.size ≤ 9223372036854775807
                · rw [if_pos c27] at H
                  have c27b0 := eq_true c27
                  have c27b1 : decide (x3_1.size + 2 + t275.size ≤ 9223372036854775807) = true := decide_eq_true c27
                  try have c27b2 : (9223372036854775807 < x3_1.size + 2 + t275.size) = False := eq_false (Nat.not_lt.2 c27)
                  by_cases c28 : x3_1.size + 2 + t275.size + 1 ≤ 9223372036854775807
                  · rw [if_pos c28] at H
                    have c28b0 := eq_true c28
                    have c28b1 : decide (x3_1.size + 2 + t275.size + 1 ≤ 9223372036854775807) = true := decide_eq_true c28
                    try have c28b2 : (9223372036854775807 < x3_1.size + 2 + t275.size + 1) = False := eq_false (Nat.not_lt.2 c28)
                    have H' := Aside0.mk H
                    clear H
                    go_wp2_with (first | ((with_reducible refine gate_callee (f := 25) rfl ?_); refine goesL_ (some 12) rfl rfl Try.func25 (by kernel_rfl) rfl #[.pointer (some ⟨g, 0, none⟩), .int .i64 9] rfl (by (try simp only [List.map_toArray, List.map_cons, List.map_nil]); first | done | rfl | (simp only [List.length_drop, List.length_take]; rfl)) ?_; (with_reducible refine (spec_l6Rd_pick.calls k1 g s0_0 x1001_1 9 t267 t268 w0 _ ?side1 ?side2 A5.out).mono ?_); (case side1 => repeat (first | (with_reducible first | exact HI0.out | apply IsS42.alloc | apply IsS42.drewN | apply IsS42.drew | apply IsS42.set_1) | exact HI0.out)); (case side2 => repeat (first | (with_reducible first | exact HB.out | apply below_alloc | apply pw_below_drewN | apply below_drew1 | refine below_set ?_ (IsS42.ge HI0.out)) | exact HB.out)); rintro e w29 ⟨rfl, hi, hb, hk⟩; refine ⟨_, rfl, ?_⟩; have n0_ := Aside0.mk (KeepBut.trans (by repeat (first | (with_reducible first | exact HK.out | apply KeepBut.set_ | apply keep_drewN | apply keep_drew | apply keep_alloc) | exact HK.out)) hk (.inl rfl)); have n1_ := Aside0.mk (hb); have n2_ := Aside0.mk (hi); clear HK; clear HB; clear HI0; have HK := n0_; have HB := n1_; have HI0 := n2_; clear n0_ n1_ n2_; (try clear hb); (try clear hb2); (try clear hk); (try clear hi)) | ((with_reducible refine gate_callee (f := 27) rfl ?_); refine goesL_ (some 44) rfl rfl Try.func27 (by kernel_rfl) rfl #[.pointer (some ⟨g, 0, none⟩)] rfl (by (try simp only [List.map_toArray, List.map_cons, List.map_nil]); first | done | rfl | (simp only [List.length_drop, List.length_take]; rfl)) ?_; (with_reducible refine (spec_l71Ref.calls k1 g s0_0 t268 t275 t276 w0 _ ?side1 ?side2 A26.out).mono ?_); (case side1 => repeat (first | (with_reducible first | exact HI0.out | apply IsS42.alloc | apply IsS42.drewN | apply IsS42.drew | apply IsS42.set_1) | exact HI0.out)); (case side2 => repeat (first | (with_reducible first | exact HB.out | apply below_alloc | apply pw_below_drewN | apply below_drew1 | refine below_set ?_ (IsS42.ge HI0.out)) | exact HB.out)); rintro e w30 ⟨rfl, hi, hb, hk⟩; refine ⟨_, rfl, ?_⟩; have n0_ := Aside0.mk (KeepBut.trans (by repeat (first | (with_reducible first | exact HK.out | apply KeepBut.set_ | apply keep_drewN | apply keep_drew | apply keep_alloc) | exact HK.out)) hk (.inl rfl)); have n1_ := Aside0.mk (hb); have n2_ := Aside0.mk (hi); clear HK; clear HB; clear HI0; have HK := n0_; have HB := n1_; have HI0 := n2_; clear n0_ n1_ n2_; (try clear hb); (try clear hb2); (try clear hk); (try clear hi)))
                    go_roundg k1
                    case measure => have := HK1.out; omega
                    case rel => exact ⟨(((x3_1 ++ (⟨#[60, 64]⟩ : ByteArray)) ++ t275) ++ (⟨#[62]⟩ : ByteArray)), (wrap64 (x4_1 - 1)), (t276), (by first | rfl | (simp only [i64_w, i32_w]; done) | (simp only [aid_isEmpty, aid_isEmpty2]; done) | (simp; done) | (simp [*]; done)), (by first | rfl | (simp only [i64_w, i32_w]; done) | (simp only [aid_isEmpty, aid_isEmpty2]; done) | (simp; done) | (simp [*]; done)), H', ⟨by have := HK1.out; omega⟩, ⟨by repeat (first | (with_reducible first | exact HI0.out | apply IsS42.alloc | apply IsS42.drewN | apply IsS42.drew | apply IsS42.set_1) | exact HI0.out)⟩, ⟨by repeat (first | (with_reducible first | exact HK.out | apply KeepBut.set_ | apply keep_drewN | apply keep_drew | apply keep_alloc) | exact HK.out)⟩, ⟨by repeat (first | (with_reducible first | exact HB.out | apply below_alloc | apply pw_below_drewN | apply below_drew1 | refine below_set ?_ (IsS42.ge HI0.out)) | exact HB.out)⟩⟩
                  · rw [if_neg c28] at H
                    exact absurd H (by simp)
                · rw [if_neg c27] at H
                  exact absurd H (by simp)
              · rw [if_neg c25] at H
                exact absurd H (by simp)
            · rw [if_neg c24] at H
              have c24b0 : (t267 == 2) = false := beq_eq_false_iff_ne.mpr c24
              have c24b1 : (t267 != 2) = true := bne_iff_ne.mpr c24
              by_cases c31 : t267 = 3
              · rw [if_pos c31] at H
                have c31b0 : (t267 == 3) = true := beq_iff_eq.mpr c31
                have c31b1 : (t267 != 3) = false := bne_eq_false_iff_eq.mpr c31
                clear c31
                obtain ⟨y277, hy277⟩ : ∃ y_ : List ByteArray, y_ = (([(⟨#[116, 101, 120, 116, 32]⟩ : ByteArray), (⟨#[60]⟩ : ByteArray), (⟨#[62]⟩ : ByteArray), (⟨#[40]⟩ : ByteArray), (⟨#[41]⟩ : ByteArray), (⟨#[60, 97]⟩ : ByteArray)] : List ByteArray)) := ⟨_, rfl⟩
                replace H : ((spec_l6Rd_of.f k1 s0_0 t268 y277).bind fun bt280 => (if x3_1.size + bt280.1.size ≤ 9223372036854775807 then (spec_l71Page.l0 k1 (x3_1 ++ bt280.1) (wrap64 (x4_1 - 1)) s0_0 bt280.2) else (none))) = some (r1, r2) := by first | (rw [hy277]; with_reducible exact H) | (have H2_ := (Option.bind_some _ _).symm.trans H; rw [hy277]; with_reducible exact H2_) | (have H2_ := (Option.bind_some _ _).symm.trans H; with_reducible exact H2_) | with_reducible exact H | (rw [hy277]; exact H) | exact H
                have Ny277 := Aside0.mk hy277
                clear hy277
                replace H := Option.bind_eq_some_iff.mp H
                obtain ⟨⟨t280, t281⟩, A320, H⟩ := H
                replace H : (if x3_1.size + t280.size ≤ 9223372036854775807 then (spec_l71Page.l0 k1 (x3_1 ++ t280) (wrap64 (x4_1 - 1)) s0_0 t281) else (none)) = some (r1, r2) := H
                have A32 := Aside0.mk A320
                clear A320
                by_cases c33 : x3_1.size + t280.size ≤ 9223372036854775807
                · rw [if_pos c33] at H
                  have c33b0 := eq_true c33
                  have c33b1 : decide (x3_1.size + t280.size ≤ 9223372036854775807) = true := decide_eq_true c33
                  try have c33b2 : (9223372036854775807 < x3_1.size + t280.size) = False := eq_false (Nat.not_lt.2 c33)
                  have H' := Aside0.mk H
                  clear H
                  go_wp2_with (first | ((with_reducible refine gate_callee (f := 25) rfl ?_); refine goesL_ (some 12) rfl rfl Try.func25 (by kernel_rfl) rfl #[.pointer (some ⟨g, 0, none⟩), .int .i64 9] rfl (by (try simp only [List.map_toArray, List.map_cons, List.map_nil]); first | done | rfl | (simp only [List.length_drop, List.length_take]; rfl)) ?_; (with_reducible refine (spec_l6Rd_pick.calls k1 g s0_0 x1001_1 9 t267 t268 w0 _ ?side1 ?side2 A5.out).mono ?_); (case side1 => repeat (first | (with_reducible first | exact HI0.out | apply IsS42.alloc | apply IsS42.drewN | apply IsS42.drew | apply IsS42.set_1) | exact HI0.out)); (case side2 => repeat (first | (with_reducible first | exact HB.out | apply below_alloc | apply pw_below_drewN | apply below_drew1 | refine below_set ?_ (IsS42.ge HI0.out)) | exact HB.out)); rintro e w34 ⟨rfl, hi, hb, hk⟩; refine ⟨_, rfl, ?_⟩; have n0_ := Aside0.mk (KeepBut.trans (by repeat (first | (with_reducible first | exact HK.out | apply KeepBut.set_ | apply keep_drewN | apply keep_drew | apply keep_alloc) | exact HK.out)) hk (.inl rfl)); have n1_ := Aside0.mk (hb); have n2_ := Aside0.mk (hi); clear HK; clear HB; clear HI0; have HK := n0_; have HB := n1_; have HI0 := n2_; clear n0_ n1_ n2_; (try clear hb); (try clear hb2); (try clear hk); (try clear hi)) | ((with_reducible refine gate_dst (N := 51) rfl ?_); refine Kd.R_lit Kd.string _ 9 ?hg (N := 51) ?hd (xs := ([(⟨#[116, 101, 120, 116, 32]⟩ : ByteArray), (⟨#[60]⟩ : ByteArray), (⟨#[62]⟩ : ByteArray), (⟨#[40]⟩ : ByteArray), (⟨#[41]⟩ : ByteArray), (⟨#[60, 97]⟩ : ByteArray)] : List ByteArray)) (inner := [.string (⟨#[116, 101, 120, 116, 32]⟩ : ByteArray), .string (⟨#[60]⟩ : ByteArray), .string (⟨#[62]⟩ : ByteArray), .string (⟨#[40]⟩ : ByteArray), .string (⟨#[41]⟩ : ByteArray), .string (⟨#[60, 97]⟩ : ByteArray)]) (ok := fun _ => True) (okp := fun _ => True) ?hr ?hp (fun _ hk => hk) trivial (Below.refl _ _) (Nat.le_refl _) (by simp) ?_; (case hd => rfl); (case hg => rfl); (case hr => first | (go_simp; done) | (go_simp; rfl)); (case hp => exact (Reps.one (show Kd.M Kd.string _ _ _ (⟨#[116, 101, 120, 116, 32]⟩ : ByteArray) [.string (⟨#[116, 101, 120, 116, 32]⟩ : ByteArray)] from rfl) (Reps.one (show Kd.M Kd.string _ _ _ (⟨#[60]⟩ : ByteArray) [.string (⟨#[60]⟩ : ByteArray)] from rfl) (Reps.one (show Kd.M Kd.string _ _ _ (⟨#[62]⟩ : ByteArray) [.string (⟨#[62]⟩ : ByteArray)] from rfl) (Reps.one (show Kd.M Kd.string _ _ _ (⟨#[40]⟩ : ByteArray) [.string (⟨#[40]⟩ : ByteArray)] from rfl) (Reps.one (show Kd.M Kd.string _ _ _ (⟨#[41]⟩ : ByteArray) [.string (⟨#[41]⟩ : ByteArray)] from rfl) (Reps.one (show Kd.M Kd.string _ _ _ (⟨#[60, 97]⟩ : ByteArray) [.string (⟨#[60, 97]⟩ : ByteArray)] from rfl) (Reps.none _ _)))))))); intro v278 w35 ho36 hb hg_ hnew_; clear hg_ hnew_; (first | rw [← Ny277.out] at ho36 | (simp only [Int.reduceToNat] at ho36; rw [← Ny277.out] at ho36)); have n0_ := Aside0.mk (Kd.R_lower ho36 (keep_size (w := w) (g := g) (row := none) (by repeat (first | (with_reducible first | exact HK.out | apply KeepBut.set_ | apply keep_drewN | apply keep_drew | apply keep_alloc) | exact HK.out)))); have n1_ := Aside0.mk (IsS42.below (by repeat (first | (with_reducible first | exact HI0.out | apply IsS42.alloc | apply IsS42.drewN | apply IsS42.drew | apply IsS42.set_1) | exact HI0.out)) hb); have n2_ := Aside0.mk (KeepBut.trans (by repeat (first | (with_reducible first | exact HK.out | apply KeepBut.set_ | apply keep_drewN | apply keep_drew | apply keep_alloc) | exact HK.out)) (KeepBut.of_below hb g none) (.inl rfl)); have n3_ := Aside0.mk (below_step (by repeat (first | (with_reducible first | exact HB.out | apply below_alloc | apply pw_below_drewN | apply below_drew1 | refine below_set ?_ (IsS42.ge HI0.out)) | exact HB.out)) hb); clear HI0; clear HK; clear HB; have HO279 := n0_; have HI0 := n1_; have HK := n2_; have HB := n3_; clear n0_ n1_ n2_ n3_; clear hb ho36; obtain ⟨Ao37, co37, eo37⟩ := Kd.R_slice HO279.out; subst eo37) | ((with_reducible refine gate_callee (f := 31) rfl ?_); refine goesL_ (some 52) rfl rfl Try.func31 (by kernel_rfl) rfl #[.pointer (some ⟨g, 0, none⟩), .slice Ao37 y277.length co37] rfl (by (try simp only [List.map_toArray, List.map_cons, List.map_nil]); first | done | rfl | (simp only [List.length_drop, List.length_take]; rfl)) ?_; (with_reducible refine (spec_l6Rd_of.calls k1 g s0_0 t268 _ _ y277 t280 t281 w0 _ ?side1 ?side2 ?side3 ?side4 ?side5 A32.out).mono ?_); (case side1 => repeat (first | (with_reducible first | exact HI0.out | apply IsS42.alloc | apply IsS42.drewN | apply IsS42.drew | apply IsS42.set_1) | exact HI0.out)); (case side2 => repeat (first | (with_reducible first | exact HB.out | apply below_alloc | apply pw_below_drewN | apply below_drew1 | refine below_set ?_ (IsS42.ge HI0.out)) | exact HB.out)); (case side3 => repeat (first | exact (Kd.R_reads' HO279.out).2.2 | (with_reducible refine Kd.C_alloc ?_ _) | (with_reducible refine Kd.C_drewN ?_ _) | (with_reducible refine Kd.C_drew ?_))); (case side4 => exact (Kd.R_reads' HO279.out).2.1); (case side5 => exact far_slice (IsS42.own_ne HI0.out HO279.out (by decide))); rintro e w38 ⟨rfl, hi, hb, hk⟩; refine ⟨_, rfl, ?_⟩; have n0_ := Aside0.mk (Kd.R_mono (Kd.R_keep (IsS42.apart (show IsS42 w0 _ g s0_0 t268 from by repeat (first | (with_reducible first | exact HI0.out | apply IsS42.alloc | apply IsS42.drewN | apply IsS42.drew | apply IsS42.set_1) | exact HI0.out)) (by (with_reducible repeat (first | apply Kd.R_alloc | apply Kd.R_drewN | apply Kd.R_drew)); exact HO279.out) (by decide)) hk (fun _ h => h.2)) (fun _ h => h.1)); have n1_ := Aside0.mk (KeepBut.trans (by repeat (first | (with_reducible first | exact HK.out | apply KeepBut.set_ | apply keep_drewN | apply keep_drew | apply keep_alloc) | exact HK.out)) hk (.inl rfl)); have n2_ := Aside0.mk (hb); have n3_ := Aside0.mk (hi); clear HO279; clear HK; clear HB; clear HI0; have HO279 := n0_; have HK := n1_; have HB := n2_; have HI0 := n3_; clear n0_ n1_ n2_ n3_; (try clear hb); (try clear hb2); (try clear hk); (try clear hi)))
                  go_roundg k1
                  case measure => have := HK1.out; omega
                  case rel => exact ⟨(x3_1 ++ t280), (wrap64 (x4_1 - 1)), (t281), (by first | rfl | (simp only [i64_w, i32_w]; done) | (simp only [aid_isEmpty, aid_isEmpty2]; done) | (simp; done) | (simp [*]; done)), (by first | rfl | (simp only [i64_w, i32_w]; done) | (simp only [aid_isEmpty, aid_isEmpty2]; done) | (simp; done) | (simp [*]; done)), H', ⟨by have := HK1.out; omega⟩, ⟨by repeat (first | (with_reducible first | exact HI0.out | apply IsS42.alloc | apply IsS42.drewN | apply IsS42.drew | apply IsS42.set_1) | exact HI0.out)⟩, ⟨by repeat (first | (with_reducible first | exact HK.out | apply KeepBut.set_ | apply keep_drewN | apply keep_drew | apply keep_alloc) | exact HK.out)⟩, ⟨by repeat (first | (with_reducible first | exact HB.out | apply below_alloc | apply pw_below_drewN | apply below_drew1 | refine below_set ?_ (IsS42.ge HI0.out)) | exact HB.out)⟩⟩
                · rw [if_neg c33] at H
                  exact absurd H (by simp)
              · rw [if_neg c31] at H
                have c31b0 : (t267 == 3) = false := beq_eq_false_iff_ne.mpr c31
                have c31b1 : (t267 != 3) = true := bne_iff_ne.mpr c31
                by_cases c39 : x3_1.size + 1 ≤ 9223372036854775807
                · rw [if_pos c39] at H
                  have c39b0 := eq_true c39
                  have c39b1 : decide (x3_1.size + 1 ≤ 9223372036854775807) = true := decide_eq_true c39
                  try have c39b2 : (9223372036854775807 < x3_1.size + 1) = False := eq_false (Nat.not_lt.2 c39)
                  replace H := Option.bind_eq_some_iff.mp H
                  obtain ⟨⟨t282, t283⟩, A400, H⟩ := H
                  replace H : (if x3_1.size + 1 + t282.size ≤ 9223372036854775807 then (if x3_1.size + 1 + t282.size + 1 ≤ 9223372036854775807 then (spec_l71Page.l0 k1 (((x3_1 ++ (⟨#[60]⟩ : ByteArray)) ++ t282) ++ (⟨#[62]⟩ : ByteArray)) (wrap64 (x4_1 - 1)) s0_0 t283) else (none)) else (none)) = some (r1, r2) := H
                  have A40 := Aside0.mk A400
                  clear A400
                  by_cases c41 : x3_1.size + 1 + t282.size ≤ 9223372036854775807
                  · rw [if_pos c41] at H
                    have c41b0 := eq_true c41
                    have c41b1 : decide (x3_1.size + 1 + t282.size ≤ 9223372036854775807) = true := decide_eq_true c41
                    try have c41b2 : (9223372036854775807 < x3_1.size + 1 + t282.size) = False := eq_false (Nat.not_lt.2 c41)
                    by_cases c42 : x3_1.size + 1 + t282.size + 1 ≤ 9223372036854775807
                    · rw [if_pos c42] at H
                      have c42b0 := eq_true c42
                      have c42b1 : decide (x3_1.size + 1 + t282.size + 1 ≤ 9223372036854775807) = true := decide_eq_true c42
                      try have c42b2 : (9223372036854775807 < x3_1.size + 1 + t282.size + 1) = False := eq_false (Nat.not_lt.2 c42)
                      have H' := Aside0.mk H
                      clear H
                      go_wp2_with (first | ((with_reducible refine gate_callee (f := 25) rfl ?_); refine goesL_ (some 12) rfl rfl Try.func25 (by kernel_rfl) rfl #[.pointer (some ⟨g, 0, none⟩), .int .i64 9] rfl (by (try simp only [List.map_toArray, List.map_cons, List.map_nil]); first | done | rfl | (simp only [List.length_drop, List.length_take]; rfl)) ?_; (with_reducible refine (spec_l6Rd_pick.calls k1 g s0_0 x1001_1 9 t267 t268 w0 _ ?side1 ?side2 A5.out).mono ?_); (case side1 => repeat (first | (with_reducible first | exact HI0.out | apply IsS42.alloc | apply IsS42.drewN | apply IsS42.drew | apply IsS42.set_1) | exact HI0.out)); (case side2 => repeat (first | (with_reducible first | exact HB.out | apply below_alloc | apply pw_below_drewN | apply below_drew1 | refine below_set ?_ (IsS42.ge HI0.out)) | exact HB.out)); rintro e w43 ⟨rfl, hi, hb, hk⟩; refine ⟨_, rfl, ?_⟩; have n0_ := Aside0.mk (KeepBut.trans (by repeat (first | (with_reducible first | exact HK.out | apply KeepBut.set_ | apply keep_drewN | apply keep_drew | apply keep_alloc) | exact HK.out)) hk (.inl rfl)); have n1_ := Aside0.mk (hb); have n2_ := Aside0.mk (hi); clear HK; clear HB; clear HI0; have HK := n0_; have HB := n1_; have HI0 := n2_; clear n0_ n1_ n2_; (try clear hb); (try clear hb2); (try clear hk); (try clear hi)) | ((with_reducible refine gate_callee (f := 27) rfl ?_); refine goesL_ (some 16) rfl rfl Try.func27 (by kernel_rfl) rfl #[.pointer (some ⟨g, 0, none⟩)] rfl (by (try simp only [List.map_toArray, List.map_cons, List.map_nil]); first | done | rfl | (simp only [List.length_drop, List.length_take]; rfl)) ?_; (with_reducible refine (spec_l71Ref.calls k1 g s0_0 t268 t282 t283 w0 _ ?side1 ?side2 A40.out).mono ?_); (case side1 => repeat (first | (with_reducible first | exact HI0.out | apply IsS42.alloc | apply IsS42.drewN | apply IsS42.drew | apply IsS42.set_1) | exact HI0.out)); (case side2 => repeat (first | (with_reducible first | exact HB.out | apply below_alloc | apply pw_below_drewN | apply below_drew1 | refine below_set ?_ (IsS42.ge HI0.out)) | exact HB.out)); rintro e w44 ⟨rfl, hi, hb, hk⟩; refine ⟨_, rfl, ?_⟩; have n0_ := Aside0.mk (KeepBut.trans (by repeat (first | (with_reducible first | exact HK.out | apply KeepBut.set_ | apply keep_drewN | apply keep_drew | apply keep_alloc) | exact HK.out)) hk (.inl rfl)); have n1_ := Aside0.mk (hb); have n2_ := Aside0.mk (hi); clear HK; clear HB; clear HI0; have HK := n0_; have HB := n1_; have HI0 := n2_; clear n0_ n1_ n2_; (try clear hb); (try clear hb2); (try clear hk); (try clear hi)))
                      go_roundg k1
                      case measure => have := HK1.out; omega
                      case rel => exact ⟨(((x3_1 ++ (⟨#[60]⟩ : ByteArray)) ++ t282) ++ (⟨#[62]⟩ : ByteArray)), (wrap64 (x4_1 - 1)), (t283), (by first | rfl | (simp only [i64_w, i32_w]; done) | (simp only [aid_isEmpty, aid_isEmpty2]; done) | (simp; done) | (simp [*]; done)), (by first | rfl | (simp only [i64_w, i32_w]; done) | (simp only [aid_isEmpty, aid_isEmpty2]; done) | (simp; done) | (simp [*]; done)), H', ⟨by have := HK1.out; omega⟩, ⟨by repeat (first | (with_reducible first | exact HI0.out | apply IsS42.alloc | apply IsS42.drewN | apply IsS42.drew | apply IsS42.set_1) | exact HI0.out)⟩, ⟨by repeat (first | (with_reducible first | exact HK.out | apply KeepBut.set_ | apply keep_drewN | apply keep_drew | apply keep_alloc) | exact HK.out)⟩, ⟨by repeat (first | (with_reducible first | exact HB.out | apply below_alloc | apply pw_below_drewN | apply below_drew1 | refine below_set ?_ (IsS42.ge HI0.out)) | exact HB.out)⟩⟩
                    · rw [if_neg c42] at H
                      exact absurd H (by simp)
                  · rw [if_neg c41] at H
                    exact absurd H (by simp)
                · rw [if_neg c39] at H
                  exact absurd H (by simp)
      · rw [if_neg c4] at H
        have c4b0 : decide (0 < x4_1) = false := decide_eq_false c4
        clear c4
        simp only [Option.some.injEq, Prod.mk.injEq] at H
        obtain ⟨rfl, rfl⟩ := H
        go_wp2
        go_ret
        exact ⟨by first | rfl | (simp [errW_none, errW_some] <;> rfl) | (simp [*, errW_none, errW_some] <;> rfl), by repeat (first | (with_reducible first | exact HI0.out | apply IsS42.alloc | apply IsS42.drewN | apply IsS42.drew | apply IsS42.set_1) | exact HI0.out), by repeat (first | (with_reducible first | exact HB.out | apply below_alloc | apply pw_below_drewN | apply below_drew1 | refine below_set ?_ (IsS42.ge HI0.out)) | exact HB.out), by repeat (first | (with_reducible first | exact HK.out | apply KeepBut.set_ | apply keep_drewN | apply keep_drew | apply keep_alloc) | exact HK.out)⟩

end Go.Proofs.Ytmaleoldpmiilaa.P

/- The plain function of a Go function, and that Go comes to just its answer; its conditions are the theorem's own. Written by a program of this session (wip/pr.py). -/
namespace Go.Proofs.Ytmaleoldpmiilaa.P
open Go.RowKit Go.Proofs.YtmaleoldpmiilaaW.PrintWords Go.Proofs.YtmaleoldpmiilaaW.PrintLast Go.Proofs.YtmaleoldpmiilaaW.PrintMore
attribute [local go_sem] max2_int min2_int max_two min_two max_three min_three max_four min_four   -- for this text's walks alone
set_option linter.unusedVariables false
set_option linter.unusedSimpArgs false

/-! ### spec_DrawPageLinks: function 17 -/
def spec_DrawPageLinks.f (k : Nat) (l0 : List Int) : Option (ByteArray) := (spec_l6Open.f l0).bind fun bt306 => ((spec_l71Page.f k bt306.1 bt306.2).bind fun bt309 => (some bt309.1))
theorem spec_DrawPageLinks.mono : ∀ a0 k, LeO (spec_DrawPageLinks.f k a0) (spec_DrawPageLinks.f (k + 1) a0) := by
  intro a0 k
  unfold spec_DrawPageLinks.f
  repeat' first
      | (with_reducible exact spec_l71Page.mono _ _ _)
      | (with_reducible exact LeO.refl _)
      | (with_reducible exact LeO.none _)
      | (with_reducible refine LeO.ite ?_ ?_)
      | (with_reducible refine LeO.bind ?_ (fun _ => ?_))
      | exact spec_l71Page.mono _ _ _
      | exact LeO.none _
      | refine LeO.ite ?_ ?_
      | refine LeO.bind ?_ (fun _ => ?_)
set_option maxHeartbeats 8000000 in
set_option maxRecDepth 100000 in
theorem spec_DrawPageLinks.calls (k : Nat) (A0 : Option Addr) (c0 : Nat) (l0 : List Int) (r : ByteArray) (w : World) (hr0 : Kd.C (Kd.int .u8) w A0 l0.length l0) (hc0 : l0.length ≤ c0) (h : spec_DrawPageLinks.f k l0 = some r) :
    Calls Try.prog 17 #[.slice A0 l0.length c0] w fun e w' => e = .returned (.string r) ∧ Below w.heap.size w w' := by
  have HR0 := Aside0.mk hr0
  have HC0 := Aside0.mk hc0
  clear hr0 hc0
  have HB := Aside0.mk (Below.refl w.heap.size w)
  have H : ((spec_l6Open.f l0).bind fun bt306 => ((spec_l71Page.f k bt306.1 bt306.2).bind fun bt309 => (some bt309.1))) = some r := h
  clear h
  replace H := Option.bind_eq_some_iff.mp H
  obtain ⟨⟨t306, t307⟩, A20, H⟩ := H
  replace H : ((spec_l71Page.f k t306 t307).bind fun bt309 => (some bt309.1)) = some r := H
  have A2 := Aside0.mk A20
  clear A20
  replace H := Option.bind_eq_some_iff.mp H
  obtain ⟨⟨t309, t310⟩, A30, H⟩ := H
  replace H : (some t309) = some r := H
  have A3 := Aside0.mk A30
  clear A30
  obtain rfl := Option.some.inj H
  go_enter Try.func17, Try.ntmps17
  go_wp2_with (first | ((with_reducible refine gate_callee (f := 24) rfl ?_); refine goesL_ (some 4) rfl rfl Try.func24 (by kernel_rfl) rfl #[.slice A0 l0.length c0] rfl (by (try simp only [List.map_toArray, List.map_cons, List.map_nil]); first | done | rfl | (simp only [List.length_drop, List.length_take]; rfl)) ?_; (with_reducible refine (spec_l6Open.calls _ _ l0 t306 t307 w _ ?side1 ?side2 ?side3 A2.out).mono ?_); (case side1 => repeat (first | (with_reducible first | exact HB.out | apply below_alloc | apply pw_below_drewN | apply below_drew1) | exact HB.out)); (case side2 => exact HR0.out); (case side3 => exact HC0.out); rintro e w4 ⟨g308, rfl, hi, hb, hb2⟩; refine ⟨_, rfl, ?_⟩; have n0_ := Aside0.mk (hb); have n1_ := Aside0.mk (hi); clear HB; have HB := n0_; have HI308 := n1_; clear n0_ n1_; (try clear hb); (try clear hb2); (try clear hk); (try clear hi)) | ((with_reducible refine gate_callee (f := 26) rfl ?_); refine goesL_ (some 5) rfl rfl Try.func26 (by kernel_rfl) rfl #[.pointer (some ⟨g308, 0, none⟩)] rfl (by (try simp only [List.map_toArray, List.map_cons, List.map_nil]); first | done | rfl | (simp only [List.length_drop, List.length_take]; rfl)) ?_; (with_reducible refine (spec_l71Page.calls k g308 t306 t307 t309 t310 w _ ?side1 ?side2 A3.out).mono ?_); (case side1 => repeat (first | (with_reducible first | exact HI308.out | apply IsS42.alloc | apply IsS42.drewN | apply IsS42.drew | apply IsS42.set_1) | exact HI308.out)); (case side2 => repeat (first | (with_reducible first | exact HB.out | apply below_alloc | apply pw_below_drewN | apply below_drew1 | refine below_set ?_ (IsS42.ge HI308.out)) | exact HB.out)); rintro e w5 ⟨rfl, hi, hb, hk⟩; refine ⟨_, rfl, ?_⟩; have n0_ := Aside0.mk (hb); have n1_ := Aside0.mk (hi); clear HB; clear HI308; have HB := n0_; have HI308 := n1_; clear n0_ n1_; (try clear hb); (try clear hb2); (try clear hk); (try clear hi)))
  go_ret
  exact ⟨by first | rfl | (simp [errW_none, errW_some] <;> rfl) | (simp [*, errW_none, errW_some] <;> rfl), by repeat (first | (with_reducible first | exact HB.out | apply below_alloc | apply pw_below_drewN | apply below_drew1 | refine below_set ?_ (IsS42.ge HI308.out)) | exact HB.out)⟩

end Go.Proofs.Ytmaleoldpmiilaa.P

/- The plain function of a Go function, and that Go comes to just its answer; its conditions are the theorem's own. Written by a program of this session (wip/pr.py). -/
namespace Go.Proofs.Ytmaleoldpmiilaa.P
open Go.RowKit Go.Proofs.YtmaleoldpmiilaaW.PrintWords Go.Proofs.YtmaleoldpmiilaaW.PrintLast Go.Proofs.YtmaleoldpmiilaaW.PrintMore
attribute [local go_sem] max2_int min2_int max_two min_two max_three min_three max_four min_four   -- for this text's walks alone
set_option linter.unusedVariables false
set_option linter.unusedSimpArgs false

/-! ### laws_lpTexts: function 18 -/
def laws_lpTexts.l0 : Nat → List ByteArray → List ByteArray → Int → Option (Bool)
  | 0, _, _, _ => none
  | k + 1, x0, x1, x5 => if x5 < (x0.length : Int) then (if 0 ≤ x5 then (if x5 < (x1.length : Int) then (if (rdOf ByteArray.empty x0 x5).toList = (rdOf ByteArray.empty x1 x5).toList then (laws_lpTexts.l0 k x0 x1 (wrap64 (x5 + 1))) else (some false)) else (none)) else (none)) else (some true)
def laws_lpTexts.f (k : Nat) (l0 : List ByteArray) (l1 : List ByteArray) : Option (Bool) := if (l0.length : Int) = (l1.length : Int) then (laws_lpTexts.l0 k l0 l1 0) else (some false)
theorem laws_lpTexts.mono_l : ∀ k, (∀ y0 y1 y2, LeO (laws_lpTexts.l0 k y0 y1 y2) (laws_lpTexts.l0 (k + 1) y0 y1 y2))
  | 0 => fun _ _ _ r h => by simp [laws_lpTexts.l0] at h
  | k + 1 => by
    have ih0 := laws_lpTexts.mono_l k
    · intro y0 y1 y2
      unfold laws_lpTexts.l0
      repeat' first
      | (with_reducible exact ih0 _ _ _)
      | (with_reducible exact LeO.refl _)
      | (with_reducible exact LeO.none _)
      | (with_reducible refine LeO.ite ?_ ?_)
      | (with_reducible refine LeO.bind ?_ (fun _ => ?_))
      | exact ih0 _ _ _
      | exact LeO.none _
      | refine LeO.ite ?_ ?_
      | refine LeO.bind ?_ (fun _ => ?_)
theorem laws_lpTexts.mono : ∀ a0 a1 k, LeO (laws_lpTexts.f k a0 a1) (laws_lpTexts.f (k + 1) a0 a1) := by
  intro a0 a1 k
  have ih0 := laws_lpTexts.mono_l k
  unfold laws_lpTexts.f
  repeat' first
      | (with_reducible exact ih0 _ _ _)
      | (with_reducible exact LeO.refl _)
      | (with_reducible exact LeO.none _)
      | (with_reducible refine LeO.ite ?_ ?_)
      | (with_reducible refine LeO.bind ?_ (fun _ => ?_))
      | exact ih0 _ _ _
      | exact LeO.none _
      | refine LeO.ite ?_ ?_
      | refine LeO.bind ?_ (fun _ => ?_)
set_option maxHeartbeats 8000000 in
set_option maxRecDepth 100000 in
theorem laws_lpTexts.calls (k : Nat) (A0 : Option Addr) (c0 : Nat) (l0 : List ByteArray) (A1 : Option Addr) (c1 : Nat) (l1 : List ByteArray) (r : Bool) (w : World) (hr0 : Kd.C Kd.string w A0 l0.length l0) (hc0 : l0.length ≤ c0) (hr1 : Kd.C Kd.string w A1 l1.length l1) (hc1 : l1.length ≤ c1) (h : laws_lpTexts.f k l0 l1 = some r) :
    Calls Try.prog 18 #[.slice A0 l0.length c0, .slice A1 l1.length c1] w fun e w' => e = .returned (.bool r) ∧ Drawn0 w w' := by
  have HR0 := Aside0.mk hr0
  have HC0 := Aside0.mk hc0
  clear hr0 hc0
  have HR1 := Aside0.mk hr1
  have HC1 := Aside0.mk hc1
  clear hr1 hc1
  have H : (if (l0.length : Int) = (l1.length : Int) then (laws_lpTexts.l0 k l0 l1 0) else (some false)) = some r := h
  clear h
  by_cases c3 : (l0.length : Int) = (l1.length : Int)
  · rw [if_pos c3] at H
    have c3b0 : ((l0.length : Int) == (l1.length : Int)) = true := beq_iff_eq.mpr c3
    have c3b1 : ((l0.length : Int) != (l1.length : Int)) = false := bne_eq_false_iff_eq.mpr c3
    have c3b2 : (l0.length == l1.length) = true := by first | simpa using c3 | (simp at c3 ⊢; omega)
    clear c3
    have H' := Aside0.mk H
    clear H
    go_enter Try.func18, Try.ntmps18
    go_wp2
    repeat (go_quiet (fail); try go_wp2)
    go_loopg [5] k (fun kq v5 w' => ∃ (x5_1 : Int), v5 = .int .i64 x5_1 ∧ Aside0 (laws_lpTexts.l0 kq l0 l1 x5_1 = some r) ∧ Aside0 (kq ≤ k) ∧ Drawn0 w w')
    case atStart => exact ⟨(0), (by first | rfl | (simp only [i64_w, i32_w]; done) | (simp only [aid_isEmpty, aid_isEmpty2]; done) | (simp; done) | (simp [*]; done)), H', ⟨Nat.le_refl _⟩, by repeat (first | exact Drawn0.refl _ | apply Drawn0.step)⟩
    case round =>
      clear H'
      try clear c1
      try clear p2
      try clear c3
      try clear c3b0
      try clear c3b1
      try clear c3b2
      obtain ⟨x5_1, rfl, HA, HK1, ⟨m1, rfl⟩⟩ := hrel
      cases gk with
      | zero => exact absurd HA.out (by simp [laws_lpTexts.l0])
      | succ k1 =>
        have H := HA.out
        clear HA
        simp only [laws_lpTexts.l0] at H
        by_cases c4 : x5_1 < (l0.length : Int)
        · rw [if_pos c4] at H
          have c4b0 : decide (x5_1 < (l0.length : Int)) = true := decide_eq_true c4
          clear c4
          by_cases c5 : 0 ≤ x5_1
          · rw [if_pos c5] at H
            have c5b0 : decide (0 ≤ x5_1) = true := decide_eq_true c5
            clear c5
            by_cases c6 : x5_1 < (l1.length : Int)
            · rw [if_pos c6] at H
              have c6b0 : decide (x5_1 < (l1.length : Int)) = true := decide_eq_true c6
              clear c6
              by_cases c7 : (rdOf ByteArray.empty l0 x5_1).toList = (rdOf ByteArray.empty l1 x5_1).toList
              · rw [if_pos c7] at H
                have c7b0 : ((rdOf ByteArray.empty l0 x5_1).toList == (rdOf ByteArray.empty l1 x5_1).toList) = true := beq_iff_eq.mpr c7
                have c7b1 : ((rdOf ByteArray.empty l0 x5_1).toList != (rdOf ByteArray.empty l1 x5_1).toList) = false := bne_eq_false_iff_eq.mpr c7
                clear c7
                have H' := Aside0.mk H
                clear H
                have p311 : 0 ≤ (x5_1 : Int) := of_decide_eq_true (by first | (with_reducible assumption) | assumption)
                have q311 : x5_1 < (l0.length : Int) := of_decide_eq_true (by first | (with_reducible assumption) | assumption)
                obtain ⟨ad311, e311, hx311_0⟩ := Kd.at_string HR0.out x5_1 p311 q311
                cases e311
                replace p311 := eq_true p311
                replace q311 := eq_true q311
                have p312 : 0 ≤ (x5_1 : Int) := of_decide_eq_true (by first | (with_reducible assumption) | assumption)
                have q312 : x5_1 < (l1.length : Int) := of_decide_eq_true (by first | (with_reducible assumption) | assumption)
                obtain ⟨ad312, e312, hx312_0⟩ := Kd.at_string HR1.out x5_1 p312 q312
                cases e312
                replace p312 := eq_true p312
                replace q312 := eq_true q312
                go_wp2
                repeat (go_quiet (fail); try go_wp2)
                go_roundg k1
                case measure => have := HK1.out; omega
                case rel => exact ⟨(wrap64 (x5_1 + 1)), (by first | rfl | (simp only [i64_w, i32_w]; done) | (simp only [aid_isEmpty, aid_isEmpty2]; done) | (simp; done) | (simp [*]; done)), H', ⟨by have := HK1.out; omega⟩, by repeat (first | exact Drawn0.refl _ | apply Drawn0.step)⟩
              · rw [if_neg c7] at H
                have c7b0 : ((rdOf ByteArray.empty l0 x5_1).toList == (rdOf ByteArray.empty l1 x5_1).toList) = false := beq_eq_false_iff_ne.mpr c7
                have c7b1 : ((rdOf ByteArray.empty l0 x5_1).toList != (rdOf ByteArray.empty l1 x5_1).toList) = true := bne_iff_ne.mpr c7
                obtain rfl := Option.some.inj H
                have p311 : 0 ≤ (x5_1 : Int) := of_decide_eq_true (by first | (with_reducible assumption) | assumption)
                have q311 : x5_1 < (l0.length : Int) := of_decide_eq_true (by first | (with_reducible assumption) | assumption)
                obtain ⟨ad311, e311, hx311_0⟩ := Kd.at_string HR0.out x5_1 p311 q311
                cases e311
                replace p311 := eq_true p311
                replace q311 := eq_true q311
                have p312 : 0 ≤ (x5_1 : Int) := of_decide_eq_true (by first | (with_reducible assumption) | assumption)
                have q312 : x5_1 < (l1.length : Int) := of_decide_eq_true (by first | (with_reducible assumption) | assumption)
                obtain ⟨ad312, e312, hx312_0⟩ := Kd.at_string HR1.out x5_1 p312 q312
                cases e312
                replace p312 := eq_true p312
                replace q312 := eq_true q312
                go_wp2
                repeat (go_quiet (fail); try go_wp2)
                go_ret
                exact ⟨by first | rfl | (simp only [i64_w, i32_w]; done) | (simp only [aid_isEmpty, aid_isEmpty2]; done) | (simp; done) | (simp [*]; done), by repeat (first | exact Drawn0.refl _ | apply Drawn0.step)⟩
            · rw [if_neg c6] at H
              exact absurd H (by simp)
          · rw [if_neg c5] at H
            exact absurd H (by simp)
        · rw [if_neg c4] at H
          have c4b0 : decide (x5_1 < (l0.length : Int)) = false := decide_eq_false c4
          clear c4
          obtain rfl := Option.some.inj H
          go_wp2
          repeat (go_quiet (fail); try go_wp2)
          go_ret
          exact ⟨by first | rfl | (simp only [i64_w, i32_w]; done) | (simp only [aid_isEmpty, aid_isEmpty2]; done) | (simp; done) | (simp [*]; done), by repeat (first | exact Drawn0.refl _ | apply Drawn0.step)⟩
  · rw [if_neg c3] at H
    have c3b0 : ((l0.length : Int) == (l1.length : Int)) = false := beq_eq_false_iff_ne.mpr c3
    have c3b1 : ((l0.length : Int) != (l1.length : Int)) = true := bne_iff_ne.mpr c3
    have c3b2 : (l0.length == l1.length) = false := by first | simpa using c3 | (simp at c3 ⊢; omega)
    obtain rfl := Option.some.inj H
    go_enter Try.func18, Try.ntmps18
    go_wp2
    repeat (go_quiet (fail); try go_wp2)
    go_ret
    exact ⟨by first | rfl | (simp only [i64_w, i32_w]; done) | (simp only [aid_isEmpty, aid_isEmpty2]; done) | (simp; done) | (simp [*]; done), by repeat (first | exact Drawn0.refl _ | apply Drawn0.step)⟩

end Go.Proofs.Ytmaleoldpmiilaa.P

/- The plain function of a Go function, and that Go comes to just its answer; its conditions are the theorem's own. Written by a program of this session (wip/pr.py). -/
namespace Go.Proofs.Ytmaleoldpmiilaa.P
open Go.RowKit Go.Proofs.YtmaleoldpmiilaaW.PrintWords Go.Proofs.YtmaleoldpmiilaaW.PrintLast Go.Proofs.YtmaleoldpmiilaaW.PrintMore
attribute [local go_sem] max2_int min2_int max_two min_two max_three min_three max_four min_four   -- for this text's walks alone
set_option linter.unusedVariables false
set_option linter.unusedSimpArgs false

/-! ### laws_FnLinksNone: function 7 -/
def laws_FnLinksNone.l0 : Nat → ByteArray → List ByteArray → Int → Int → Option (Bool)
  | 0, _, _, _, _ => none
  | k + 1, x3, x4, x5, x6 => if x6 < (x3.size : Int) then (if 0 ≤ x6 then (if (bt x3 x6) = 62 then (laws_FnLinksNone.l0 k x3 x4 (wrap64 (x5 + 1)) (wrap64 (x6 + 1))) else (laws_FnLinksNone.l0 k x3 x4 x5 (wrap64 (x6 + 1)))) else (none)) else (if (x4.length : Int) ≤ x5 then ((impl_PageLinks.f k (⟨#[]⟩ : ByteArray)).bind fun t351 => (some ((t351.length : Int) == 0))) else (some false))
def laws_FnLinksNone.f (k : Nat) (l0 : List Int) : Option (Bool) := if (l0.length : Int) > 1048576 then (some true) else ((spec_DrawPageLinks.f k l0).bind fun t343 => ((impl_PageLinks.f k t343).bind fun t344 => ((spec_PageLinks.f k t343).bind fun t347 => ((laws_lpTexts.f k t344 t347).bind fun t350 => (if t350 = true then (laws_FnLinksNone.l0 k t343 t344 0 0) else (some false))))))
theorem laws_FnLinksNone.mono_l : ∀ k, (∀ y0 y1 y2 y3, LeO (laws_FnLinksNone.l0 k y0 y1 y2 y3) (laws_FnLinksNone.l0 (k + 1) y0 y1 y2 y3))
  | 0 => fun _ _ _ _ r h => by simp [laws_FnLinksNone.l0] at h
  | k + 1 => by
    have ih0 := laws_FnLinksNone.mono_l k
    · intro y0 y1 y2 y3
      unfold laws_FnLinksNone.l0
      repeat' first
      | (with_reducible exact ih0 _ _ _ _)
      | (with_reducible exact impl_PageLinks.mono _ _)
      | (with_reducible exact laws_lpTexts.mono _ _ _)
      | (with_reducible exact spec_DrawPageLinks.mono _ _)
      | (with_reducible exact spec_PageLinks.mono _ _)
      | (with_reducible exact LeO.refl _)
      | (with_reducible exact LeO.none _)
      | (with_reducible refine LeO.ite ?_ ?_)
      | (with_reducible refine LeO.bind ?_ (fun _ => ?_))
      | exact ih0 _ _ _ _
      | exact impl_PageLinks.mono _ _
      | exact laws_lpTexts.mono _ _ _
      | exact spec_DrawPageLinks.mono _ _
      | exact spec_PageLinks.mono _ _
      | exact LeO.none _
      | refine LeO.ite ?_ ?_
      | refine LeO.bind ?_ (fun _ => ?_)
theorem laws_FnLinksNone.mono : ∀ a0 k, LeO (laws_FnLinksNone.f k a0) (laws_FnLinksNone.f (k + 1) a0) := by
  intro a0 k
  have ih0 := laws_FnLinksNone.mono_l k
  unfold laws_FnLinksNone.f
  repeat' first
      | (with_reducible exact ih0 _ _ _ _)
      | (with_reducible exact impl_PageLinks.mono _ _)
      | (with_reducible exact laws_lpTexts.mono _ _ _)
      | (with_reducible exact spec_DrawPageLinks.mono _ _)
      | (with_reducible exact spec_PageLinks.mono _ _)
      | (with_reducible exact LeO.refl _)
      | (with_reducible exact LeO.none _)
      | (with_reducible refine LeO.ite ?_ ?_)
      | (with_reducible refine LeO.bind ?_ (fun _ => ?_))
      | exact ih0 _ _ _ _
      | exact impl_PageLinks.mono _ _
      | exact laws_lpTexts.mono _ _ _
      | exact spec_DrawPageLinks.mono _ _
      | exact spec_PageLinks.mono _ _
      | exact LeO.none _
      | refine LeO.ite ?_ ?_
      | refine LeO.bind ?_ (fun _ => ?_)
set_option maxHeartbeats 8000000 in
set_option maxRecDepth 100000 in
theorem laws_FnLinksNone.calls (k : Nat) (A0 : Option Addr) (c0 : Nat) (l0 : List Int) (r : Bool) (w : World) (hr0 : Kd.C (Kd.int .u8) w A0 l0.length l0) (hc0 : l0.length ≤ c0) (h : laws_FnLinksNone.f k l0 = some r) :
    Calls Try.prog 7 #[.slice A0 l0.length c0] w fun e w' => e = .returned (.bool r) ∧ Below w.heap.size w w' := by
  have HR0 := Aside0.mk hr0
  have HC0 := Aside0.mk hc0
  clear hr0 hc0
  have HB := Aside0.mk (Below.refl w.heap.size w)
  have H : (if (l0.length : Int) > 1048576 then (some true) else ((spec_DrawPageLinks.f k l0).bind fun t343 => ((impl_PageLinks.f k t343).bind fun t344 => ((spec_PageLinks.f k t343).bind fun t347 => ((laws_lpTexts.f k t344 t347).bind fun t350 => (if t350 = true then (laws_FnLinksNone.l0 k t343 t344 0 0) else (some false))))))) = some r := h
  clear h
  by_cases c2 : (l0.length : Int) > 1048576
  · rw [if_pos c2] at H
    have c2b0 : decide (1048576 < (l0.length : Int)) = true := decide_eq_true c2
    have c2b1 : decide (1048576 < l0.length) = true := decide_eq_true (by omega)
    clear c2
    obtain rfl := Option.some.inj H
    go_enter Try.func7, Try.ntmps7
    go_wp2
    go_ret
    exact ⟨by first | rfl | (simp [errW_none, errW_some] <;> rfl) | (simp [*, errW_none, errW_some] <;> rfl), by repeat (first | (with_reducible first | exact HB.out | apply below_alloc | apply pw_below_drewN | apply below_drew1) | exact HB.out)⟩
  · rw [if_neg c2] at H
    have c2b0 : decide (1048576 < (l0.length : Int)) = false := decide_eq_false c2
    have c2b1 : decide (1048576 < l0.length) = false := decide_eq_false (by omega)
    clear c2
    replace H := Option.bind_eq_some_iff.mp H
    obtain ⟨t343, A30, H⟩ := H
    replace H : ((impl_PageLinks.f k t343).bind fun t344 => ((spec_PageLinks.f k t343).bind fun t347 => ((laws_lpTexts.f k t344 t347).bind fun t350 => (if t350 = true then (laws_FnLinksNone.l0 k t343 t344 0 0) else (some false))))) = some r := H
    have A3 := Aside0.mk A30
    clear A30
    replace H := Option.bind_eq_some_iff.mp H
    obtain ⟨t344, A40, H⟩ := H
    replace H : ((spec_PageLinks.f k t343).bind fun t347 => ((laws_lpTexts.f k t344 t347).bind fun t350 => (if t350 = true then (laws_FnLinksNone.l0 k t343 t344 0 0) else (some false)))) = some r := H
    have A4 := Aside0.mk A40
    clear A40
    replace H := Option.bind_eq_some_iff.mp H
    obtain ⟨t347, A50, H⟩ := H
    replace H : ((laws_lpTexts.f k t344 t347).bind fun t350 => (if t350 = true then (laws_FnLinksNone.l0 k t343 t344 0 0) else (some false))) = some r := H
    have A5 := Aside0.mk A50
    clear A50
    replace H := Option.bind_eq_some_iff.mp H
    obtain ⟨t350, A60, H⟩ := H
    replace H : (if t350 = true then (laws_FnLinksNone.l0 k t343 t344 0 0) else (some false)) = some r := H
    have A6 := Aside0.mk A60
    clear A60
    by_cases c7 : t350 = true
    · subst c7
      have H1 : (laws_FnLinksNone.l0 k t343 t344 0 0) = some r := by rw [if_pos rfl] at H; exact H
      clear H
      have H := H1
      clear H1
      have H' := Aside0.mk H
      clear H
      go_enter Try.func7, Try.ntmps7
      go_wp2_with (first | ((with_reducible refine gate_callee (f := 17) rfl ?_); refine goesL_ (some 11) rfl rfl Try.func17 (by kernel_rfl) rfl #[.slice A0 l0.length c0] rfl (by (try simp only [List.map_toArray, List.map_cons, List.map_nil]); first | done | rfl | (simp only [List.length_drop, List.length_take]; rfl)) ?_; (with_reducible refine (spec_DrawPageLinks.calls k _ _ l0 t343 _ ?side1 ?side2 A3.out).mono ?_); (case side1 => repeat (first | exact HR0.out | (with_reducible refine Kd.C_alloc ?_ _) | (with_reducible refine Kd.C_drewN ?_ _) | (with_reducible refine Kd.C_drew ?_))); (case side2 => exact HC0.out); rintro e w8 ⟨rfl, hb⟩; refine ⟨_, rfl, ?_⟩; have n0_ := Aside0.mk (below_step (by repeat (first | (with_reducible first | exact HB.out | apply below_alloc | apply pw_below_drewN | apply below_drew1) | exact HB.out)) hb); clear HB; have HB := n0_; clear n0_; (try clear hb); (try clear hb2); (try clear hk); (try clear hi)) | ((with_reducible refine gate_callee (f := 12) rfl ?_); refine goesL_ (some 13) rfl rfl Try.func12 (by kernel_rfl) rfl #[.string t343] rfl (by (try simp only [List.map_toArray, List.map_cons, List.map_nil]); first | done | rfl | (simp only [List.length_drop, List.length_take]; rfl)) ?_; (with_reducible refine (impl_PageLinks.calls k t343 t344 _ A4.out).mono ?_); rintro e w9 ⟨v345, rfl, ho0, hb⟩; refine ⟨_, rfl, ?_⟩; have n0_ := Aside0.mk (Kd.R_lower ho0 (below_size (by repeat (first | (with_reducible first | exact HB.out | apply below_alloc | apply pw_below_drewN | apply below_drew1) | exact HB.out)))); have n1_ := Aside0.mk (below_step (by repeat (first | (with_reducible first | exact HB.out | apply below_alloc | apply pw_below_drewN | apply below_drew1) | exact HB.out)) hb); clear HB; have HO346 := n0_; have HB := n1_; clear n0_ n1_; (try clear hb); (try clear hb2); (try clear hk); (try clear hi); (try clear ho0)) | ((with_reducible refine gate_callee (f := 11) rfl ?_); refine goesL_ (some 16) rfl rfl Try.func11 (by kernel_rfl) rfl #[.string t343] rfl (by (try simp only [List.map_toArray, List.map_cons, List.map_nil]); first | done | rfl | (simp only [List.length_drop, List.length_take]; rfl)) ?_; (with_reducible refine (spec_PageLinks.calls k t343 t347 _ A5.out).mono ?_); rintro e w10 ⟨v348, rfl, ho0, hb⟩; refine ⟨_, rfl, ?_⟩; have n0_ := Aside0.mk (Kd.R_elder' (by (with_reducible repeat (first | apply Kd.R_alloc | apply Kd.R_drewN | apply Kd.R_drew)); exact HO346.out) (Kd.R_base ho0) hb); have n1_ := Aside0.mk (Kd.R_lower (Kd.R_new' ho0 (Kd.R_lt (by (with_reducible repeat (first | apply Kd.R_alloc | apply Kd.R_drewN | apply Kd.R_drew)); exact HO346.out))) (below_size (by repeat (first | (with_reducible first | exact HB.out | apply below_alloc | apply pw_below_drewN | apply below_drew1) | exact HB.out)))); have n2_ := Aside0.mk (below_step (by repeat (first | (with_reducible first | exact HB.out | apply below_alloc | apply pw_below_drewN | apply below_drew1) | exact HB.out)) hb); clear HO346; clear HB; have HO346 := n0_; have HO349 := n1_; have HB := n2_; clear n0_ n1_ n2_; (try clear hb); (try clear hb2); (try clear hk); (try clear hi); (try clear ho0); obtain ⟨Ao11, co11, eo11⟩ := Kd.R_slice HO346.out; subst eo11; obtain ⟨Ao12, co12, eo12⟩ := Kd.R_slice HO349.out; subst eo12) | ((with_reducible refine gate_callee (f := 18) rfl ?_); refine goesL_ (some 17) rfl rfl Try.func18 (by kernel_rfl) rfl #[.slice Ao11 t344.length co11, .slice Ao12 t347.length co12] rfl (by (try simp only [List.map_toArray, List.map_cons, List.map_nil]); first | done | rfl | (simp only [List.length_drop, List.length_take]; rfl)) ?_; (with_reducible refine (laws_lpTexts.calls k _ _ t344 _ _ t347 true _ ?side1 ?side2 ?side3 ?side4 A6.out).mono ?_); (case side1 => repeat (first | exact (Kd.R_reads' HO346.out).2.2 | (with_reducible refine Kd.C_alloc ?_ _) | (with_reducible refine Kd.C_drewN ?_ _) | (with_reducible refine Kd.C_drew ?_))); (case side2 => exact (Kd.R_reads' HO346.out).2.1); (case side3 => repeat (first | exact (Kd.R_reads' HO349.out).2.2 | (with_reducible refine Kd.C_alloc ?_ _) | (with_reducible refine Kd.C_drewN ?_ _) | (with_reducible refine Kd.C_drew ?_))); (case side4 => exact (Kd.R_reads' HO349.out).2.1); rintro e w' ⟨rfl, ⟨nd, rfl⟩⟩; refine ⟨_, rfl, ?_⟩))
      go_loopg [5, 6] k (fun kq v5 v6 w' => ∃ (x5_1 : Int) (x6_1 : Int), v5 = .int .i64 x5_1 ∧ v6 = .int .i64 x6_1 ∧ Aside0 (laws_FnLinksNone.l0 kq t343 t344 x5_1 x6_1 = some r) ∧ Aside0 (kq ≤ k) ∧ Aside0 (Kd.R Kd.string 9 w' w.heap.size (fun _ => True) (.slice Ao11 t344.length co11) t344) ∧ Aside0 (Below w.heap.size w w'))
      case atStart => exact ⟨(0), (0), (by first | rfl | (simp only [i64_w, i32_w]; done) | (simp only [aid_isEmpty, aid_isEmpty2]; done) | (simp; done) | (simp [*]; done)), (by first | rfl | (simp only [i64_w, i32_w]; done) | (simp only [aid_isEmpty, aid_isEmpty2]; done) | (simp; done) | (simp [*]; done)), H', ⟨Nat.le_refl _⟩, ⟨by (with_reducible repeat (first | apply Kd.R_alloc | apply Kd.R_drewN | apply Kd.R_drew)); exact Kd.R_mono HO346.out (fun _ hk => trivial)⟩, ⟨by repeat (first | (with_reducible first | exact HB.out | apply below_alloc | apply pw_below_drewN | apply below_drew1) | exact HB.out)⟩⟩
      case round =>
        clear H'
        try clear c1
        try clear c2
        try clear c2b0
        try clear c2b1
        try clear p2
        try clear c7
        try clear c11
        try clear c12
        obtain ⟨x5_1, x6_1, rfl, rfl, HA, HK1, HO_4, HB⟩ := hrel
        cases gk with
        | zero => exact absurd HA.out (by simp [laws_FnLinksNone.l0])
        | succ k1 =>
          have H := HA.out
          clear HA
          simp only [laws_FnLinksNone.l0] at H
          by_cases c13 : x6_1 < (t343.size : Int)
          · rw [if_pos c13] at H
            have c13b0 : decide (x6_1 < (t343.size : Int)) = true := decide_eq_true c13
            clear c13
            by_cases c14 : 0 ≤ x6_1
            · rw [if_pos c14] at H
              have c14b0 : decide (0 ≤ x6_1) = true := decide_eq_true c14
              clear c14
              by_cases c16 : (bt t343 x6_1) = 62
              · rw [if_pos c16] at H
                have c16b0 : ((bt t343 x6_1) == 62) = true := beq_iff_eq.mpr c16
                have c16b1 : ((bt t343 x6_1) != 62) = false := bne_eq_false_iff_eq.mpr c16
                clear c16
                have H' := Aside0.mk H
                clear H
                have p15 : 0 ≤ (x6_1 : Int) := of_decide_eq_true (by first | (with_reducible assumption) | assumption)
                have q15 : x6_1 < (t343.size : Int) := of_decide_eq_true (by first | (with_reducible assumption) | assumption)
                have hx15 := bt_at t343 x6_1
                replace p15 := eq_true p15
                replace q15 := eq_true q15
                go_wp2
                go_roundg k1
                case measure => have := HK1.out; omega
                case rel => exact ⟨(wrap64 (x5_1 + 1)), (wrap64 (x6_1 + 1)), (by first | rfl | (simp only [i64_w, i32_w]; done) | (simp only [aid_isEmpty, aid_isEmpty2]; done) | (simp; done) | (simp [*]; done)), (by first | rfl | (simp only [i64_w, i32_w]; done) | (simp only [aid_isEmpty, aid_isEmpty2]; done) | (simp; done) | (simp [*]; done)), H', ⟨by have := HK1.out; omega⟩, ⟨by (with_reducible repeat (first | apply Kd.R_alloc | apply Kd.R_drewN | apply Kd.R_drew)); exact HO_4.out⟩, ⟨by repeat (first | (with_reducible first | exact HB.out | apply below_alloc | apply pw_below_drewN | apply below_drew1) | exact HB.out)⟩⟩
              · rw [if_neg c16] at H
                have c16b0 : ((bt t343 x6_1) == 62) = false := beq_eq_false_iff_ne.mpr c16
                have c16b1 : ((bt t343 x6_1) != 62) = true := bne_iff_ne.mpr c16
                have H' := Aside0.mk H
                clear H
                have p15 : 0 ≤ (x6_1 : Int) := of_decide_eq_true (by first | (with_reducible assumption) | assumption)
                have q15 : x6_1 < (t343.size : Int) := of_decide_eq_true (by first | (with_reducible assumption) | assumption)
                have hx15 := bt_at t343 x6_1
                replace p15 := eq_true p15
                replace q15 := eq_true q15
                go_wp2
                go_roundg k1
                case measure => have := HK1.out; omega
                case rel => exact ⟨(x5_1), (wrap64 (x6_1 + 1)), (by first | rfl | (simp only [i64_w, i32_w]; done) | (simp only [aid_isEmpty, aid_isEmpty2]; done) | (simp; done) | (simp [*]; done)), (by first | rfl | (simp only [i64_w, i32_w]; done) | (simp only [aid_isEmpty, aid_isEmpty2]; done) | (simp; done) | (simp [*]; done)), H', ⟨by have := HK1.out; omega⟩, ⟨by (with_reducible repeat (first | apply Kd.R_alloc | apply Kd.R_drewN | apply Kd.R_drew)); exact HO_4.out⟩, ⟨by repeat (first | (with_reducible first | exact HB.out | apply below_alloc | apply pw_below_drewN | apply below_drew1) | exact HB.out)⟩⟩
            · rw [if_neg c14] at H
              exact absurd H (by simp)
          · rw [if_neg c13] at H
            have c13b0 : decide (x6_1 < (t343.size : Int)) = false := decide_eq_false c13
            clear c13
            by_cases c17 : (t344.length : Int) ≤ x5_1
            · rw [if_pos c17] at H
              have c17b0 : decide ((t344.length : Int) ≤ x5_1) = true := decide_eq_true c17
              clear c17
              replace H := Option.bind_eq_some_iff.mp H
              obtain ⟨t351, A180, H⟩ := H
              replace H : (some ((t351.length : Int) == 0)) = some r := H
              have A18 := Aside0.mk A180
              clear A180
              obtain rfl := Option.some.inj H
              go_wp2_with (first | (go_at_call 12; (with_reducible refine (impl_PageLinks.calls k1 (⟨#[]⟩ : ByteArray) t351 _ A18.out).mono ?_); rintro e w19 ⟨v352, rfl, ho0, hb⟩; have n0_ := Aside0.mk (Kd.R_elder' (by (with_reducible repeat (first | apply Kd.R_alloc | apply Kd.R_drewN | apply Kd.R_drew)); exact HO_4.out) (Kd.R_base ho0) hb); have n1_ := Aside0.mk (Kd.R_lower (Kd.R_new' ho0 (Kd.R_lt (by (with_reducible repeat (first | apply Kd.R_alloc | apply Kd.R_drewN | apply Kd.R_drew)); exact HO_4.out))) (below_size (by repeat (first | (with_reducible first | exact HB.out | apply below_alloc | apply pw_below_drewN | apply below_drew1) | exact HB.out)))); have n2_ := Aside0.mk (below_step (by repeat (first | (with_reducible first | exact HB.out | apply below_alloc | apply pw_below_drewN | apply below_drew1) | exact HB.out)) hb); clear HO_4; clear HB; have HO_4 := n0_; have HO353 := n1_; have HB := n2_; clear n0_ n1_ n2_; (try clear hb); (try clear hb2); (try clear hk); (try clear hi); (try clear ho0); obtain ⟨Ao20, co20, eo20⟩ := Kd.R_slice HO353.out; subst eo20))
              go_ret
              exact ⟨by first | rfl | (simp [errW_none, errW_some] <;> rfl) | (simp [*, errW_none, errW_some] <;> rfl), by repeat (first | (with_reducible first | exact HB.out | apply below_alloc | apply pw_below_drewN | apply below_drew1) | exact HB.out)⟩
            · rw [if_neg c17] at H
              have c17b0 : decide ((t344.length : Int) ≤ x5_1) = false := decide_eq_false c17
              clear c17
              obtain rfl := Option.some.inj H
              go_wp2
              go_ret
              exact ⟨by first | rfl | (simp [errW_none, errW_some] <;> rfl) | (simp [*, errW_none, errW_some] <;> rfl), by repeat (first | (with_reducible first | exact HB.out | apply below_alloc | apply pw_below_drewN | apply below_drew1) | exact HB.out)⟩
    · replace c7 := Bool.eq_false_iff.mpr c7
      subst c7
      have H1 : (some false) = some r := by rw [if_neg (show ¬ (false = true) by decide)] at H; exact H
      clear H
      have H := H1
      clear H1
      obtain rfl := Option.some.inj H
      go_enter Try.func7, Try.ntmps7
      go_wp2_with (first | ((with_reducible refine gate_callee (f := 17) rfl ?_); refine goesL_ (some 11) rfl rfl Try.func17 (by kernel_rfl) rfl #[.slice A0 l0.length c0] rfl (by (try simp only [List.map_toArray, List.map_cons, List.map_nil]); first | done | rfl | (simp only [List.length_drop, List.length_take]; rfl)) ?_; (with_reducible refine (spec_DrawPageLinks.calls k _ _ l0 t343 _ ?side1 ?side2 A3.out).mono ?_); (case side1 => repeat (first | exact HR0.out | (with_reducible refine Kd.C_alloc ?_ _) | (with_reducible refine Kd.C_drewN ?_ _) | (with_reducible refine Kd.C_drew ?_))); (case side2 => exact HC0.out); rintro e w21 ⟨rfl, hb⟩; refine ⟨_, rfl, ?_⟩; have n0_ := Aside0.mk (below_step (by repeat (first | (with_reducible first | exact HB.out | apply below_alloc | apply pw_below_drewN | apply below_drew1) | exact HB.out)) hb); clear HB; have HB := n0_; clear n0_; (try clear hb); (try clear hb2); (try clear hk); (try clear hi)) | ((with_reducible refine gate_callee (f := 12) rfl ?_); refine goesL_ (some 13) rfl rfl Try.func12 (by kernel_rfl) rfl #[.string t343] rfl (by (try simp only [List.map_toArray, List.map_cons, List.map_nil]); first | done | rfl | (simp only [List.length_drop, List.length_take]; rfl)) ?_; (with_reducible refine (impl_PageLinks.calls k t343 t344 _ A4.out).mono ?_); rintro e w22 ⟨v345, rfl, ho0, hb⟩; refine ⟨_, rfl, ?_⟩; have n0_ := Aside0.mk (Kd.R_lower ho0 (below_size (by repeat (first | (with_reducible first | exact HB.out | apply below_alloc | apply pw_below_drewN | apply below_drew1) | exact HB.out)))); have n1_ := Aside0.mk (below_step (by repeat (first | (with_reducible first | exact HB.out | apply below_alloc | apply pw_below_drewN | apply below_drew1) | exact HB.out)) hb); clear HB; have HO346 := n0_; have HB := n1_; clear n0_ n1_; (try clear hb); (try clear hb2); (try clear hk); (try clear hi); (try clear ho0)) | ((with_reducible refine gate_callee (f := 11) rfl ?_); refine goesL_ (some 16) rfl rfl Try.func11 (by kernel_rfl) rfl #[.string t343] rfl (by (try simp only [List.map_toArray, List.map_cons, List.map_nil]); first | done | rfl | (simp only [List.length_drop, List.length_take]; rfl)) ?_; (with_reducible refine (spec_PageLinks.calls k t343 t347 _ A5.out).mono ?_); rintro e w23 ⟨v348, rfl, ho0, hb⟩; refine ⟨_, rfl, ?_⟩; have n0_ := Aside0.mk (Kd.R_elder' (by (with_reducible repeat (first | apply Kd.R_alloc | apply Kd.R_drewN | apply Kd.R_drew)); exact HO346.out) (Kd.R_base ho0) hb); have n1_ := Aside0.mk (Kd.R_lower (Kd.R_new' ho0 (Kd.R_lt (by (with_reducible repeat (first | apply Kd.R_alloc | apply Kd.R_drewN | apply Kd.R_drew)); exact HO346.out))) (below_size (by repeat (first | (with_reducible first | exact HB.out | apply below_alloc | apply pw_below_drewN | apply below_drew1) | exact HB.out)))); have n2_ := Aside0.mk (below_step (by repeat (first | (with_reducible first | exact HB.out | apply below_alloc | apply pw_below_drewN | apply below_drew1) | exact HB.out)) hb); clear HO346; clear HB; have HO346 := n0_; have HO349 := n1_; have HB := n2_; clear n0_ n1_ n2_; (try clear hb); (try clear hb2); (try clear hk); (try clear hi); (try clear ho0); obtain ⟨Ao24, co24, eo24⟩ := Kd.R_slice HO346.out; subst eo24; obtain ⟨Ao25, co25, eo25⟩ := Kd.R_slice HO349.out; subst eo25) | ((with_reducible refine gate_callee (f := 18) rfl ?_); refine goesL_ (some 17) rfl rfl Try.func18 (by kernel_rfl) rfl #[.slice Ao24 t344.length co24, .slice Ao25 t347.length co25] rfl (by (try simp only [List.map_toArray, List.map_cons, List.map_nil]); first | done | rfl | (simp only [List.length_drop, List.length_take]; rfl)) ?_; (with_reducible refine (laws_lpTexts.calls k _ _ t344 _ _ t347 false _ ?side1 ?side2 ?side3 ?side4 A6.out).mono ?_); (case side1 => repeat (first | exact (Kd.R_reads' HO346.out).2.2 | (with_reducible refine Kd.C_alloc ?_ _) | (with_reducible refine Kd.C_drewN ?_ _) | (with_reducible refine Kd.C_drew ?_))); (case side2 => exact (Kd.R_reads' HO346.out).2.1); (case side3 => repeat (first | exact (Kd.R_reads' HO349.out).2.2 | (with_reducible refine Kd.C_alloc ?_ _) | (with_reducible refine Kd.C_drewN ?_ _) | (with_reducible refine Kd.C_drew ?_))); (case side4 => exact (Kd.R_reads' HO349.out).2.1); rintro e w' ⟨rfl, ⟨nd, rfl⟩⟩; refine ⟨_, rfl, ?_⟩))
      go_ret
      exact ⟨by first | rfl | (simp [errW_none, errW_some] <;> rfl) | (simp [*, errW_none, errW_some] <;> rfl), by repeat (first | (with_reducible first | exact HB.out | apply below_alloc | apply pw_below_drewN | apply below_drew1) | exact HB.out)⟩

/-- THE ONE PURE STATEMENT of laws_FnLinksNone: yours. -/
def laws_FnLinksNone.Pure : Prop := ∀ (l0 : List Int), l0.length ≤ maxLen → l0.length * 1 ≤ 140737488351232 → (∀ x ∈ l0, (Lit.int .u8 x).wf = true) → ∃ k, laws_FnLinksNone.f k l0 = some true
theorem laws_FnLinksNone.walk (P : laws_FnLinksNone.Pure) (a0 : Option Addr) (len0 cap0 : Nat) (z0 : List Int) (w : World) (w0 : (a0 = none ∧ len0 = 0 ∧ cap0 = 0 ∧ z0 = []) ∨ ∃ x, a0 = some x ∧ len0 ≤ cap0 ∧ cap0 ≤ maxLen ∧ z0.length = cap0 ∧ (∀ i, i < z0.length → w.cell? (x.add i) = some (.int .u8 (z0.getD i 0))) ∧ ∀ n ∈ z0, (Lit.int .u8 n).wf = true) (y0 : len0 * 1 ≤ 140737488351232) :
    Calls Try.prog 7 #[.slice a0 len0 cap0] w fun e w' => e = .returned (.bool true) ∧ Below w.heap.size w w' := by
  obtain ⟨l0, rfl, hr0, hm0, hw0, hc0⟩ := ReadsInt.ofRowC w0
  obtain ⟨k, h⟩ := P l0 hm0 y0 hw0
  refine (laws_FnLinksNone.calls k _ _ l0 true w (Kd.C_of_reads (d := (0 : Int)) (h1 := fun _ => rfl) hr0) hc0 h).mono ?_
  rintro e w' ⟨rfl, hd⟩
  exact ⟨rfl, hd⟩

end Go.Proofs.Ytmaleoldpmiilaa.P

/- The plain function of a Go function, and that Go comes to just its answer; its conditions are the theorem's own. Written by a program of this session (wip/pr.py). -/
namespace Go.Proofs.Ytmaleoldpmiilaa.P
open Go.RowKit Go.Proofs.YtmaleoldpmiilaaW.PrintWords Go.Proofs.YtmaleoldpmiilaaW.PrintLast Go.Proofs.YtmaleoldpmiilaaW.PrintMore
attribute [local go_sem] max2_int min2_int max_two min_two max_three min_three max_four min_four   -- for this text's walks alone
set_option linter.unusedVariables false
set_option linter.unusedSimpArgs false

/-! ### spec_PageBase: function 9 -/
def spec_PageBase.l0 : Nat → List ByteArray → Int → Option (ByteArray × Bool)
  | 0, _, _ => none
  | k + 1, x4, x5 => if x5 < (x4.length : Int) then (if 0 ≤ x5 then ((spec_l3Head.f (rdOf ByteArray.empty x4 x5)).bind fun t111 => (if t111 = 64 then (if 1 ≤ ((rdOf ByteArray.empty x4 x5).size : Int) then (some ((rdOf ByteArray.empty x4 x5).extract 1 (rdOf ByteArray.empty x4 x5).size, true)) else (none)) else (spec_PageBase.l0 k x4 (wrap64 (x5 + 1))))) else (none)) else (some ((⟨#[]⟩ : ByteArray), false))
def spec_PageBase.f (k : Nat) (a0 : ByteArray) : Option (ByteArray × Bool) := (spec_l3Marks.f k a0).bind fun t107 => (spec_PageBase.l0 k t107 0)
theorem spec_PageBase.mono_l : ∀ k, (∀ y0 y1, LeO (spec_PageBase.l0 k y0 y1) (spec_PageBase.l0 (k + 1) y0 y1))
  | 0 => fun _ _ r h => by simp [spec_PageBase.l0] at h
  | k + 1 => by
    have ih0 := spec_PageBase.mono_l k
    · intro y0 y1
      unfold spec_PageBase.l0
      repeat' first
      | (with_reducible exact ih0 _ _)
      | (with_reducible exact spec_l3Marks.mono _ _)
      | (with_reducible exact LeO.refl _)
      | (with_reducible exact LeO.none _)
      | (with_reducible refine LeO.ite ?_ ?_)
      | (with_reducible refine LeO.bind ?_ (fun _ => ?_))
      | exact ih0 _ _
      | exact spec_l3Marks.mono _ _
      | exact LeO.none _
      | refine LeO.ite ?_ ?_
      | refine LeO.bind ?_ (fun _ => ?_)
theorem spec_PageBase.mono : ∀ a0 k, LeO (spec_PageBase.f k a0) (spec_PageBase.f (k + 1) a0) := by
  intro a0 k
  have ih0 := spec_PageBase.mono_l k
  unfold spec_PageBase.f
  repeat' first
      | (with_reducible exact ih0 _ _)
      | (with_reducible exact spec_l3Marks.mono _ _)
      | (with_reducible exact LeO.refl _)
      | (with_reducible exact LeO.none _)
      | (with_reducible refine LeO.ite ?_ ?_)
      | (with_reducible refine LeO.bind ?_ (fun _ => ?_))
      | exact ih0 _ _
      | exact spec_l3Marks.mono _ _
      | exact LeO.none _
      | refine LeO.ite ?_ ?_
      | refine LeO.bind ?_ (fun _ => ?_)
set_option maxHeartbeats 8000000 in
set_option maxRecDepth 100000 in
theorem spec_PageBase.calls (k : Nat) (a0 : ByteArray) (r1 : ByteArray) (r2 : Bool) (w : World) (h : spec_PageBase.f k a0 = some (r1, r2)) :
    Calls Try.prog 9 #[.string a0] w fun e w' => e = .returned (.tuple #[.string r1, .bool r2]) ∧ Below w.heap.size w w' := by
  have HB := Aside0.mk (Below.refl w.heap.size w)
  have H : ((spec_l3Marks.f k a0).bind fun t107 => (spec_PageBase.l0 k t107 0)) = some (r1, r2) := h
  clear h
  replace H := Option.bind_eq_some_iff.mp H
  obtain ⟨t107, A20, H⟩ := H
  replace H : (spec_PageBase.l0 k t107 0) = some (r1, r2) := H
  have A2 := Aside0.mk A20
  clear A20
  have H' := Aside0.mk H
  clear H
  go_enter Try.func9, Try.ntmps9
  go_wp2_with (first | ((with_reducible refine gate_callee (f := 19) rfl ?_); refine goesL_ (some 7) rfl rfl Try.func19 (by kernel_rfl) rfl #[.string a0] rfl (by (try simp only [List.map_toArray, List.map_cons, List.map_nil]); first | done | rfl | (simp only [List.length_drop, List.length_take]; rfl)) ?_; (with_reducible refine (spec_l3Marks.calls k a0 t107 _ A2.out).mono ?_); rintro e w3 ⟨v108, rfl, ho0, hb⟩; refine ⟨_, rfl, ?_⟩; have n0_ := Aside0.mk (Kd.R_lower ho0 (below_size (by repeat (first | (with_reducible first | exact HB.out | apply below_alloc | apply pw_below_drewN | apply below_drew1) | exact HB.out)))); have n1_ := Aside0.mk (below_step (by repeat (first | (with_reducible first | exact HB.out | apply below_alloc | apply pw_below_drewN | apply below_drew1) | exact HB.out)) hb); clear HB; have HO109 := n0_; have HB := n1_; clear n0_ n1_; (try clear hb); (try clear hb2); (try clear hk); (try clear hi); (try clear ho0)))
  go_loopg [5] k (fun kq v5 w' => ∃ (x5_1 : Int), v5 = .int .i64 x5_1 ∧ Aside0 (spec_PageBase.l0 kq t107 x5_1 = some (r1, r2)) ∧ Aside0 (kq ≤ k) ∧ Aside0 (Kd.R Kd.string 9 w' w.heap.size (fun _ => True) v108 t107) ∧ Aside0 (Below w.heap.size w w'))
  case atStart => exact ⟨(0), (by first | rfl | (simp only [i64_w, i32_w]; done) | (simp only [aid_isEmpty, aid_isEmpty2]; done) | (simp; done) | (simp [*]; done)), H', ⟨Nat.le_refl _⟩, ⟨by (with_reducible repeat (first | apply Kd.R_alloc | apply Kd.R_drewN | apply Kd.R_drew)); exact HO109.out⟩, ⟨by repeat (first | (with_reducible first | exact HB.out | apply below_alloc | apply pw_below_drewN | apply below_drew1) | exact HB.out)⟩⟩
  case round =>
    clear H'
    try clear c1
    try clear p2
    obtain ⟨x5_1, rfl, HA, HK1, HO_4, HB⟩ := hrel
    cases gk with
    | zero => exact absurd HA.out (by simp [spec_PageBase.l0])
    | succ k1 =>
      have H := HA.out
      clear HA
      simp only [spec_PageBase.l0] at H
      by_cases c4 : x5_1 < (t107.length : Int)
      · rw [if_pos c4] at H
        have c4b0 : decide (x5_1 < (t107.length : Int)) = true := decide_eq_true c4
        clear c4
        by_cases c5 : 0 ≤ x5_1
        · rw [if_pos c5] at H
          have c5b0 : decide (0 ≤ x5_1) = true := decide_eq_true c5
          clear c5
          replace H := Option.bind_eq_some_iff.mp H
          obtain ⟨t111, A60, H⟩ := H
          replace H : (if t111 = 64 then (if 1 ≤ ((rdOf ByteArray.empty t107 x5_1).size : Int) then (some ((rdOf ByteArray.empty t107 x5_1).extract 1 (rdOf ByteArray.empty t107 x5_1).size, true)) else (none)) else (spec_PageBase.l0 k1 t107 (wrap64 (x5_1 + 1)))) = some (r1, r2) := H
          have A6 := Aside0.mk A60
          clear A60
          by_cases c7 : t111 = 64
          · rw [if_pos c7] at H
            have c7b0 : (t111 == 64) = true := beq_iff_eq.mpr c7
            have c7b1 : (t111 != 64) = false := bne_eq_false_iff_eq.mpr c7
            clear c7
            by_cases c8 : 1 ≤ ((rdOf ByteArray.empty t107 x5_1).size : Int)
            · rw [if_pos c8] at H
              have c8b0 := eq_true c8
              have c8b1 : decide (1 ≤ ((rdOf ByteArray.empty t107 x5_1).size : Int)) = true := decide_eq_true c8
              clear c8
              simp only [Option.some.injEq, Prod.mk.injEq] at H
              obtain ⟨rfl, rfl⟩ := H
              obtain ⟨Ao9, co9, eo9⟩ := Kd.R_slice HO_4.out
              subst eo9
              have p110 : 0 ≤ (x5_1 : Int) := of_decide_eq_true (by first | (with_reducible assumption) | assumption)
              have q110 : x5_1 < (t107.length : Int) := of_decide_eq_true (by first | (with_reducible assumption) | assumption)
              obtain ⟨ad110, e110, hx110_0⟩ := Kd.at_string (Kd.R_reads' HO_4.out).2.2 x5_1 p110 q110
              cases e110
              replace p110 := eq_true p110
              replace q110 := eq_true q110
              go_wp2_with (first | ((with_reducible refine gate_callee (f := 20) rfl ?_); refine goesL_ (some 18) rfl rfl Try.func20 (by kernel_rfl) rfl #[.string (rdOf ByteArray.empty t107 x5_1)] rfl (by (try simp only [List.map_toArray, List.map_cons, List.map_nil]); first | done | rfl | (simp only [List.length_drop, List.length_take]; rfl)) ?_; (with_reducible refine (spec_l3Head.calls (rdOf ByteArray.empty t107 x5_1) t111 _ A6.out).mono ?_); rintro e w' ⟨rfl, ⟨nd, rfl⟩⟩; refine ⟨_, rfl, ?_⟩; have p112 : 0 ≤ (x5_1 : Int) := of_decide_eq_true (by first | (with_reducible assumption) | assumption); have q112 : x5_1 < (t107.length : Int) := of_decide_eq_true (by first | (with_reducible assumption) | assumption); obtain ⟨ad112, e112, hx112_0⟩ := Kd.at_string (Kd.R_reads' HO_4.out).2.2 x5_1 p112 q112; obtain rfl : ad110 = ad112 := (by injection e112); replace p112 := eq_true p112; replace q112 := eq_true q112))
              go_ret2
              exact ⟨by first | rfl | (simp [errW_none, errW_some] <;> rfl) | (simp [*, errW_none, errW_some] <;> rfl), by repeat (first | (with_reducible first | exact HB.out | apply below_alloc | apply pw_below_drewN | apply below_drew1) | exact HB.out)⟩
            · rw [if_neg c8] at H
              exact absurd H (by simp)
          · rw [if_neg c7] at H
            have c7b0 : (t111 == 64) = false := beq_eq_false_iff_ne.mpr c7
            have c7b1 : (t111 != 64) = true := bne_iff_ne.mpr c7
            have H' := Aside0.mk H
            clear H
            obtain ⟨Ao10, co10, eo10⟩ := Kd.R_slice HO_4.out
            subst eo10
            have p110 : 0 ≤ (x5_1 : Int) := of_decide_eq_true (by first | (with_reducible assumption) | assumption)
            have q110 : x5_1 < (t107.length : Int) := of_decide_eq_true (by first | (with_reducible assumption) | assumption)
            obtain ⟨ad110, e110, hx110_0⟩ := Kd.at_string (Kd.R_reads' HO_4.out).2.2 x5_1 p110 q110
            cases e110
            replace p110 := eq_true p110
            replace q110 := eq_true q110
            go_wp2_with (first | ((with_reducible refine gate_callee (f := 20) rfl ?_); refine goesL_ (some 18) rfl rfl Try.func20 (by kernel_rfl) rfl #[.string (rdOf ByteArray.empty t107 x5_1)] rfl (by (try simp only [List.map_toArray, List.map_cons, List.map_nil]); first | done | rfl | (simp only [List.length_drop, List.length_take]; rfl)) ?_; (with_reducible refine (spec_l3Head.calls (rdOf ByteArray.empty t107 x5_1) t111 _ A6.out).mono ?_); rintro e w' ⟨rfl, ⟨nd, rfl⟩⟩; refine ⟨_, rfl, ?_⟩))
            go_roundg k1
            case measure => have := HK1.out; omega
            case rel => exact ⟨(wrap64 (x5_1 + 1)), (by first | rfl | (simp only [i64_w, i32_w]; done) | (simp only [aid_isEmpty, aid_isEmpty2]; done) | (simp; done) | (simp [*]; done)), H', ⟨by have := HK1.out; omega⟩, ⟨by (with_reducible repeat (first | apply Kd.R_alloc | apply Kd.R_drewN | apply Kd.R_drew)); exact HO_4.out⟩, ⟨by repeat (first | (with_reducible first | exact HB.out | apply below_alloc | apply pw_below_drewN | apply below_drew1) | exact HB.out)⟩⟩
        · rw [if_neg c5] at H
          exact absurd H (by simp)
      · rw [if_neg c4] at H
        have c4b0 : decide (x5_1 < (t107.length : Int)) = false := decide_eq_false c4
        clear c4
        simp only [Option.some.injEq, Prod.mk.injEq] at H
        obtain ⟨rfl, rfl⟩ := H
        obtain ⟨Ao11, co11, eo11⟩ := Kd.R_slice HO_4.out
        subst eo11
        go_wp2
        go_ret2
        exact ⟨by first | rfl | (simp [errW_none, errW_some] <;> rfl) | (simp [*, errW_none, errW_some] <;> rfl), by repeat (first | (with_reducible first | exact HB.out | apply below_alloc | apply pw_below_drewN | apply below_drew1) | exact HB.out)⟩

end Go.Proofs.Ytmaleoldpmiilaa.P

/- The plain function of a Go function, and that Go comes to just its answer; its conditions are the theorem's own. Written by a program of this session (wip/pr.py). -/
namespace Go.Proofs.Ytmaleoldpmiilaa.P
open Go.RowKit Go.Proofs.YtmaleoldpmiilaaW.PrintWords Go.Proofs.YtmaleoldpmiilaaW.PrintLast Go.Proofs.YtmaleoldpmiilaaW.PrintMore
attribute [local go_sem] max2_int min2_int max_two min_two max_three min_three max_four min_four   -- for this text's walks alone
set_option linter.unusedVariables false
set_option linter.unusedSimpArgs false

/-! ### impl_PageBase: function 10 -/
def impl_PageBase.l0 : Nat → List ByteArray → Int → Int → Option (ByteArray × Bool)
  | 0, _, _, _ => none
  | k + 1, x7, x8, x9 => if x9 < x8 then (if 0 ≤ x9 then (if x9 < (x7.length : Int) then ((impl_beginsWith.f (rdOf ByteArray.empty x7 x9) 64).bind fun t117 => (if t117 = true then (if 1 ≤ ((rdOf ByteArray.empty x7 x9).size : Int) then (some ((rdOf ByteArray.empty x7 x9).extract 1 (rdOf ByteArray.empty x7 x9).size, true)) else (none)) else (impl_PageBase.l0 k x7 x8 (wrap64 (x9 + 1))))) else (none)) else (none)) else (some ((⟨#[]⟩ : ByteArray), false))
def impl_PageBase.f (k : Nat) (a0 : ByteArray) : Option (ByteArray × Bool) := (impl_pageMarks.f a0).bind fun t113 => (impl_PageBase.l0 k t113 (t113.length : Int) 0)
theorem impl_PageBase.mono_l : ∀ k, (∀ y0 y1 y2, LeO (impl_PageBase.l0 k y0 y1 y2) (impl_PageBase.l0 (k + 1) y0 y1 y2))
  | 0 => fun _ _ _ r h => by simp [impl_PageBase.l0] at h
  | k + 1 => by
    have ih0 := impl_PageBase.mono_l k
    · intro y0 y1 y2
      unfold impl_PageBase.l0
      repeat' first
      | (with_reducible exact ih0 _ _ _)
      | (with_reducible exact LeO.refl _)
      | (with_reducible exact LeO.none _)
      | (with_reducible refine LeO.ite ?_ ?_)
      | (with_reducible refine LeO.bind ?_ (fun _ => ?_))
      | exact ih0 _ _ _
      | exact LeO.none _
      | refine LeO.ite ?_ ?_
      | refine LeO.bind ?_ (fun _ => ?_)
theorem impl_PageBase.mono : ∀ a0 k, LeO (impl_PageBase.f k a0) (impl_PageBase.f (k + 1) a0) := by
  intro a0 k
  have ih0 := impl_PageBase.mono_l k
  unfold impl_PageBase.f
  repeat' first
      | (with_reducible exact ih0 _ _ _)
      | (with_reducible exact LeO.refl _)
      | (with_reducible exact LeO.none _)
      | (with_reducible refine LeO.ite ?_ ?_)
      | (with_reducible refine LeO.bind ?_ (fun _ => ?_))
      | exact ih0 _ _ _
      | exact LeO.none _
      | refine LeO.ite ?_ ?_
      | refine LeO.bind ?_ (fun _ => ?_)
set_option maxHeartbeats 8000000 in
set_option maxRecDepth 100000 in
theorem impl_PageBase.calls (k : Nat) (a0 : ByteArray) (r1 : ByteArray) (r2 : Bool) (w : World) (h : impl_PageBase.f k a0 = some (r1, r2)) :
    Calls Try.prog 10 #[.string a0] w fun e w' => e = .returned (.tuple #[.string r1, .bool r2]) ∧ Below w.heap.size w w' := by
  have HB := Aside0.mk (Below.refl w.heap.size w)
  have H : ((impl_pageMarks.f a0).bind fun t113 => (impl_PageBase.l0 k t113 (t113.length : Int) 0)) = some (r1, r2) := h
  clear h
  replace H := Option.bind_eq_some_iff.mp H
  obtain ⟨t113, A20, H⟩ := H
  replace H : (impl_PageBase.l0 k t113 (t113.length : Int) 0) = some (r1, r2) := H
  have A2 := Aside0.mk A20
  clear A20
  have H' := Aside0.mk H
  clear H
  go_enter Try.func10, Try.ntmps10
  go_wp2_with (first | ((with_reducible refine gate_callee (f := 21) rfl ?_); refine goesL_ (some 7) rfl rfl Try.func21 (by kernel_rfl) rfl #[.string a0] rfl (by (try simp only [List.map_toArray, List.map_cons, List.map_nil]); first | done | rfl | (simp only [List.length_drop, List.length_take]; rfl)) ?_; (with_reducible refine (impl_pageMarks.calls a0 t113 _ A2.out).mono ?_); rintro e w3 ⟨v114, rfl, ho0, hb⟩; refine ⟨_, rfl, ?_⟩; have n0_ := Aside0.mk (Kd.R_lower ho0 (below_size (by repeat (first | (with_reducible first | exact HB.out | apply below_alloc | apply pw_below_drewN | apply below_drew1) | exact HB.out)))); have n1_ := Aside0.mk (below_step (by repeat (first | (with_reducible first | exact HB.out | apply below_alloc | apply pw_below_drewN | apply below_drew1) | exact HB.out)) hb); clear HB; have HO115 := n0_; have HB := n1_; clear n0_ n1_; (try clear hb); (try clear hb2); (try clear hk); (try clear hi); (try clear ho0); obtain ⟨Ao4, co4, eo4⟩ := Kd.R_slice HO115.out; subst eo4))
  go_loopg [9] k (fun kq v9 w' => ∃ (x9_1 : Int), v9 = .int .i64 x9_1 ∧ Aside0 (impl_PageBase.l0 kq t113 (t113.length : Int) x9_1 = some (r1, r2)) ∧ Aside0 (kq ≤ k) ∧ Aside0 (Kd.R Kd.string 9 w' w.heap.size (fun _ => True) (.slice Ao4 t113.length co4) t113) ∧ Aside0 (Below w.heap.size w w'))
  case atStart => exact ⟨(0), (by first | rfl | (simp only [i64_w, i32_w]; done) | (simp only [aid_isEmpty, aid_isEmpty2]; done) | (simp; done) | (simp [*]; done)), H', ⟨Nat.le_refl _⟩, ⟨by (with_reducible repeat (first | apply Kd.R_alloc | apply Kd.R_drewN | apply Kd.R_drew)); exact HO115.out⟩, ⟨by repeat (first | (with_reducible first | exact HB.out | apply below_alloc | apply pw_below_drewN | apply below_drew1) | exact HB.out)⟩⟩
  case round =>
    clear H'
    try clear c1
    try clear c2
    try clear p2
    obtain ⟨x9_1, rfl, HA, HK1, HO_7, HB⟩ := hrel
    cases gk with
    | zero => exact absurd HA.out (by simp [impl_PageBase.l0])
    | succ k1 =>
      have H := HA.out
      clear HA
      simp only [impl_PageBase.l0] at H
      by_cases c5 : x9_1 < (t113.length : Int)
      · rw [if_pos c5] at H
        have c5b0 : decide (x9_1 < (t113.length : Int)) = true := decide_eq_true c5
        clear c5
        by_cases c6 : 0 ≤ x9_1
        · rw [if_pos c6] at H
          have c6b0 : decide (0 ≤ x9_1) = true := decide_eq_true c6
          clear c6
          by_cases c7 : x9_1 < (t113.length : Int)
          · rw [if_pos c7] at H
            have c7b0 : decide (x9_1 < (t113.length : Int)) = true := decide_eq_true c7
            clear c7
            replace H := Option.bind_eq_some_iff.mp H
            obtain ⟨t117, A80, H⟩ := H
            replace H : (if t117 = true then (if 1 ≤ ((rdOf ByteArray.empty t113 x9_1).size : Int) then (some ((rdOf ByteArray.empty t113 x9_1).extract 1 (rdOf ByteArray.empty t113 x9_1).size, true)) else (none)) else (impl_PageBase.l0 k1 t113 (t113.length : Int) (wrap64 (x9_1 + 1)))) = some (r1, r2) := H
            have A8 := Aside0.mk A80
            clear A80
            by_cases c9 : t117 = true
            · subst c9
              have H1 : (if 1 ≤ ((rdOf ByteArray.empty t113 x9_1).size : Int) then (some ((rdOf ByteArray.empty t113 x9_1).extract 1 (rdOf ByteArray.empty t113 x9_1).size, true)) else (none)) = some (r1, r2) := by rw [if_pos rfl] at H; exact H
              clear H
              have H := H1
              clear H1
              by_cases c10 : 1 ≤ ((rdOf ByteArray.empty t113 x9_1).size : Int)
              · rw [if_pos c10] at H
                have c10b0 := eq_true c10
                have c10b1 : decide (1 ≤ ((rdOf ByteArray.empty t113 x9_1).size : Int)) = true := decide_eq_true c10
                clear c10
                simp only [Option.some.injEq, Prod.mk.injEq] at H
                obtain ⟨rfl, rfl⟩ := H
                have p116 : 0 ≤ (x9_1 : Int) := of_decide_eq_true (by first | (with_reducible assumption) | assumption)
                have q116 : x9_1 < (t113.length : Int) := of_decide_eq_true (by first | (with_reducible assumption) | assumption)
                obtain ⟨ad116, e116, hx116_0⟩ := Kd.at_string (Kd.R_reads' HO_7.out).2.2 x9_1 p116 q116
                cases e116
                replace p116 := eq_true p116
                replace q116 := eq_true q116
                go_wp2_with (first | ((with_reducible refine gate_callee (f := 22) rfl ?_); refine goesL_ (some 14) rfl rfl Try.func22 (by kernel_rfl) rfl #[.string (rdOf ByteArray.empty t113 x9_1), .int .u8 64] rfl (by (try simp only [List.map_toArray, List.map_cons, List.map_nil]); first | done | rfl | (simp only [List.length_drop, List.length_take]; rfl)) ?_; (with_reducible refine (impl_beginsWith.calls (rdOf ByteArray.empty t113 x9_1) 64 true _ A8.out).mono ?_); rintro e w' ⟨rfl, ⟨nd, rfl⟩⟩; refine ⟨_, rfl, ?_⟩))
                go_ret2
                exact ⟨by first | rfl | (simp [errW_none, errW_some] <;> rfl) | (simp [*, errW_none, errW_some] <;> rfl), by repeat (first | (with_reducible first | exact HB.out | apply below_alloc | apply pw_below_drewN | apply below_drew1) | exact HB.out)⟩
              · rw [if_neg c10] at H
                exact absurd H (by simp)
            · replace c9 := Bool.eq_false_iff.mpr c9
              subst c9
              have H1 : (impl_PageBase.l0 k1 t113 (t113.length : Int) (wrap64 (x9_1 + 1))) = some (r1, r2) := by rw [if_neg (show ¬ (false = true) by decide)] at H; exact H
              clear H
              have H := H1
              clear H1
              have H' := Aside0.mk H
              clear H
              have p116 : 0 ≤ (x9_1 : Int) := of_decide_eq_true (by first | (with_reducible assumption) | assumption)
              have q116 : x9_1 < (t113.length : Int) := of_decide_eq_true (by first | (with_reducible assumption) | assumption)
              obtain ⟨ad116, e116, hx116_0⟩ := Kd.at_string (Kd.R_reads' HO_7.out).2.2 x9_1 p116 q116
              cases e116
              replace p116 := eq_true p116
              replace q116 := eq_true q116
              go_wp2_with (first | ((with_reducible refine gate_callee (f := 22) rfl ?_); refine goesL_ (some 14) rfl rfl Try.func22 (by kernel_rfl) rfl #[.string (rdOf ByteArray.empty t113 x9_1), .int .u8 64] rfl (by (try simp only [List.map_toArray, List.map_cons, List.map_nil]); first | done | rfl | (simp only [List.length_drop, List.length_take]; rfl)) ?_; (with_reducible refine (impl_beginsWith.calls (rdOf ByteArray.empty t113 x9_1) 64 false _ A8.out).mono ?_); rintro e w' ⟨rfl, ⟨nd, rfl⟩⟩; refine ⟨_, rfl, ?_⟩))
              go_roundg k1
              case measure => have := HK1.out; omega
              case rel => exact ⟨(wrap64 (x9_1 + 1)), (by first | rfl | (simp only [i64_w, i32_w]; done) | (simp only [aid_isEmpty, aid_isEmpty2]; done) | (simp; done) | (simp [*]; done)), H', ⟨by have := HK1.out; omega⟩, ⟨by (with_reducible repeat (first | apply Kd.R_alloc | apply Kd.R_drewN | apply Kd.R_drew)); exact HO_7.out⟩, ⟨by repeat (first | (with_reducible first | exact HB.out | apply below_alloc | apply pw_below_drewN | apply below_drew1) | exact HB.out)⟩⟩
          · rw [if_neg c7] at H
            exact absurd H (by simp)
        · rw [if_neg c6] at H
          exact absurd H (by simp)
      · rw [if_neg c5] at H
        have c5b0 : decide (x9_1 < (t113.length : Int)) = false := decide_eq_false c5
        clear c5
        simp only [Option.some.injEq, Prod.mk.injEq] at H
        obtain ⟨rfl, rfl⟩ := H
        go_wp2
        go_ret2
        exact ⟨by first | rfl | (simp [errW_none, errW_some] <;> rfl) | (simp [*, errW_none, errW_some] <;> rfl), by repeat (first | (with_reducible first | exact HB.out | apply below_alloc | apply pw_below_drewN | apply below_drew1) | exact HB.out)⟩

end Go.Proofs.Ytmaleoldpmiilaa.P

/- What leads on from a page, and from where one goes: the program and the reference find the same, in every text of at most 140737488351232 bytes. -/
namespace Go.Proofs.Ytmaleoldpmiilaa.Mk
open Go.RowKit Go.Proofs.Ytmaleoldpmiilaa.P Go.Proofs.YtmaleoldpmiilaaW.PrintWords Go.Proofs.YtmaleoldpmiilaaW.PrintLast Go.Proofs.YtmaleoldpmiilaaW.PrintMore Go.Proofs.Ytmaleoldpmiilaa.B
set_option linter.unusedVariables false
set_option linter.unusedSimpArgs false

/-- Does a text begin with a byte? -/
def headIs (m : ByteArray) (c : Int) : Bool := decide (0 < m.size) && (bt m 0 == c)
theorem begins_f (m : ByteArray) (c : Int) : impl_beginsWith.f m c = some (headIs m c) := by
  unfold impl_beginsWith.f headIs
  by_cases h : m.size = 0
  · rw [if_pos (toList_nil.2 h)]; simp [h]
  · rw [if_neg (fun e => h (toList_nil.1 e)), if_pos (by omega)]
    have : 0 < m.size := by omega
    simp [this]
theorem head_f (m : ByteArray) (c : Int) (hc : c ≠ 0) : ∃ h, spec_l3Head.f m = some h ∧ (h = c ↔ headIs m c = true) := by
  unfold spec_l3Head.f headIs
  by_cases h : m.size = 0
  · rw [if_pos (toList_nil.2 h)]
    exact ⟨0, rfl, by simp [h]; omega⟩
  · rw [if_neg (fun e => h (toList_nil.1 e)), if_pos (by omega)]
    have : 0 < m.size := by omega
    exact ⟨_, rfl, by simp [this]⟩

def isLink (m : ByteArray) : Bool := !headIs m 33 && !headIs m 64
def links (ms : List ByteArray) : List ByteArray := ms.filter isLink
def base (ms : List ByteArray) : ByteArray × Bool := match ms.find? (headIs · 64) with
  | some m => (m.extract 1 m.size, true)
  | none => (⟨#[]⟩, false)

theorem links_skip {m : ByteArray} (r : List ByteArray) (h : isLink m = false) : links (m :: r) = links r := by simp [links, h]
theorem links_take {m : ByteArray} (r : List ByteArray) (h : isLink m = true) : links (m :: r) = m :: links r := by simp [links, h]
theorem base_hit {m : ByteArray} (r : List ByteArray) (h : headIs m 64 = true) : base (m :: r) = (m.extract 1 m.size, true) := by simp [base, h]
theorem base_skip {m : ByteArray} (r : List ByteArray) (h : ¬ headIs m 64 = true) : base (m :: r) = base r := by simp [base, h]
theorem rdOf_at {l : List ByteArray} {i : Nat} (h : i < l.length) : rdOf ByteArray.empty l (i : Int) = l[i] := by
  unfold rdOf
  rw [List.getD_eq_getElem?_getD, Int.toNat_natCast, List.getElem?_eq_getElem h]
  rfl

theorem impl_links_l (ms : List ByteArray) (hn : ms.length ≤ 1000) (d : Nat) : ∀ (i : Nat) (acc : List ByteArray), i + d = ms.length → acc.length ≤ i →
    Ev (fun k => impl_PageLinks.l0 k acc ms (ms.length : Int) i) (acc ++ links (ms.drop i)) := by
  induction d with
  | zero =>
    intro i acc hi _
    refine Ev.of (fun k => impl_PageLinks.mono_l k _ _ _ _) (k := 1) ?_
    simp only [impl_PageLinks.l0]
    rw [if_neg (by omega), List.drop_eq_nil_of_le (by omega)]
    simp [links]
  | succ d ih =>
    intro i acc hi ha
    have hlt : i < ms.length := by omega
    have hw : wrap64 ((i : Int) + 1) = ((i + 1 : Nat) : Int) := by rw [w64 (by omega) (by omega)]; omega
    rw [List.drop_eq_getElem_cons hlt]
    by_cases h1 : headIs ms[i] 33 = true
    · refine Ev.step (fun k => ?_) (by have := ih (i + 1) acc (by omega) (by omega); rwa [links_skip _ (by simp [isLink, h1])])
      simp only [impl_PageLinks.l0, begins_f, rdOf_at hlt, Option.bind_some]
      rw [if_pos (by omega), if_pos (by omega), if_pos (by omega), if_pos h1, hw]
    · by_cases h2 : headIs ms[i] 64 = true
      · refine Ev.step (fun k => ?_) (by have := ih (i + 1) acc (by omega) (by omega); rwa [links_skip _ (by simp [isLink, h2])])
        simp only [impl_PageLinks.l0, begins_f, rdOf_at hlt, Option.bind_some]
        rw [if_pos (by omega), if_pos (by omega), if_pos (by omega), if_neg h1, if_pos h2, hw]
      · refine Ev.step (fun k => ?_) (by have := ih (i + 1) (acc ++ [ms[i]]) (by omega) (by simp; omega); rwa [links_take _ (by simp [isLink, h1, h2]), ← List.singleton_append, ← List.append_assoc])
        simp only [impl_PageLinks.l0, begins_f, rdOf_at hlt, Option.bind_some]
        rw [if_pos (by omega), if_pos (by omega), if_pos (by omega), if_neg h1, if_neg h2, if_pos (by omega), hw]

theorem spec_links_l (ms : List ByteArray) (hn : ms.length ≤ 1000) (d : Nat) : ∀ (i : Nat) (acc : List ByteArray), i + d = ms.length → acc.length ≤ i →
    Ev (fun k => spec_PageLinks.l0 k ms acc i) (acc ++ links (ms.drop i)) := by
  induction d with
  | zero =>
    intro i acc hi _
    refine Ev.of (fun k => spec_PageLinks.mono_l k _ _ _) (k := 1) ?_
    simp only [spec_PageLinks.l0]
    rw [if_neg (by omega), List.drop_eq_nil_of_le (by omega)]
    simp [links]
  | succ d ih =>
    intro i acc hi ha
    have hlt : i < ms.length := by omega
    have hw : wrap64 ((i : Int) + 1) = ((i + 1 : Nat) : Int) := by rw [w64 (by omega) (by omega)]; omega
    rw [List.drop_eq_getElem_cons hlt]
    obtain ⟨a, e1, q1⟩ := head_f ms[i] 33 (by omega)
    obtain ⟨b, e2, q2⟩ := head_f ms[i] 64 (by omega)
    obtain rfl : a = b := Option.some.inj (e1.symm.trans e2)
    by_cases h1 : headIs ms[i] 33 = true
    · refine Ev.step (fun k => ?_) (by have := ih (i + 1) acc (by omega) (by omega); rwa [links_skip _ (by simp [isLink, h1])])
      simp only [spec_PageLinks.l0, rdOf_at hlt, e1, Option.bind_some]
      rw [if_pos (by omega), if_pos (by omega), if_pos (q1.2 h1), hw]
    · by_cases h2 : headIs ms[i] 64 = true
      · refine Ev.step (fun k => ?_) (by have := ih (i + 1) acc (by omega) (by omega); rwa [links_skip _ (by simp [isLink, h2])])
        simp only [spec_PageLinks.l0, rdOf_at hlt, e1, Option.bind_some]
        rw [if_pos (by omega), if_pos (by omega), if_neg (fun e => h1 (q1.1 e)), if_pos (q2.2 h2), hw]
      · refine Ev.step (fun k => ?_) (by have := ih (i + 1) (acc ++ [ms[i]]) (by omega) (by simp; omega); rwa [links_take _ (by simp [isLink, h1, h2]), ← List.singleton_append, ← List.append_assoc])
        simp only [spec_PageLinks.l0, rdOf_at hlt, e1, Option.bind_some]
        rw [if_pos (by omega), if_pos (by omega), if_neg (fun e => h1 (q1.1 e)), if_neg (fun e => h2 (q2.1 e)), if_pos (by omega), hw]

theorem marks_len (s : ByteArray) : (marks s).length ≤ 300 := by
  unfold marks
  split
  · have := (pmTo_ok s s.size).2.2; omega
  · simp

theorem impl_links_ev (s : ByteArray) : Ev (fun k => impl_PageLinks.f k s) (links (marks s)) := by
  unfold impl_PageLinks.f impl_pageMarks.f
  simp only [Option.bind_some]
  have h := impl_links_l (marks s) (by have := marks_len s; omega) (marks s).length 0 [] (by omega) (by simp)
  simpa using h
theorem spec_links_ev (s : ByteArray) (hs : s.size ≤ 140737488351232) : Ev (fun k => spec_PageLinks.f k s) (links (marks s)) := by
  unfold spec_PageLinks.f
  refine Ev.bind (spec_ev s hs) ?_
  have h := spec_links_l (marks s) (by have := marks_len s; omega) (marks s).length 0 [] (by omega) (by simp)
  simpa using h

theorem headIs_pos {m : ByteArray} {c : Int} (h : headIs m c = true) : 0 < m.size := by
  unfold headIs at h
  simp at h
  exact h.1
theorem impl_base_l (ms : List ByteArray) (hn : ms.length ≤ 1000) (d : Nat) : ∀ (i : Nat), i + d = ms.length →
    Ev (fun k => impl_PageBase.l0 k ms (ms.length : Int) i) (base (ms.drop i)) := by
  induction d with
  | zero =>
    intro i hi
    refine Ev.of (fun k => impl_PageBase.mono_l k _ _ _) (k := 1) ?_
    simp only [impl_PageBase.l0]
    rw [if_neg (by omega), List.drop_eq_nil_of_le (by omega)]
    simp [base]
  | succ d ih =>
    intro i hi
    have hlt : i < ms.length := by omega
    have hw : wrap64 ((i : Int) + 1) = ((i + 1 : Nat) : Int) := by rw [w64 (by omega) (by omega)]; omega
    rw [List.drop_eq_getElem_cons hlt]
    by_cases h2 : headIs ms[i] 64 = true
    · refine Ev.of (fun k => impl_PageBase.mono_l k _ _ _) (k := 1) ?_
      have := headIs_pos h2
      simp only [impl_PageBase.l0, begins_f, rdOf_at hlt, Option.bind_some]
      rw [if_pos (by omega), if_pos (by omega), if_pos (by omega), if_pos h2, if_pos (by omega)]
      rw [base_hit _ h2]
    · refine Ev.step (fun k => ?_) (by have := ih (i + 1) (by omega); rwa [base_skip _ h2])
      simp only [impl_PageBase.l0, begins_f, rdOf_at hlt, Option.bind_some]
      rw [if_pos (by omega), if_pos (by omega), if_pos (by omega), if_neg h2, hw]
theorem spec_base_l (ms : List ByteArray) (hn : ms.length ≤ 1000) (d : Nat) : ∀ (i : Nat), i + d = ms.length →
    Ev (fun k => spec_PageBase.l0 k ms i) (base (ms.drop i)) := by
  induction d with
  | zero =>
    intro i hi
    refine Ev.of (fun k => spec_PageBase.mono_l k _ _) (k := 1) ?_
    simp only [spec_PageBase.l0]
    rw [if_neg (by omega), List.drop_eq_nil_of_le (by omega)]
    simp [base]
  | succ d ih =>
    intro i hi
    have hlt : i < ms.length := by omega
    have hw : wrap64 ((i : Int) + 1) = ((i + 1 : Nat) : Int) := by rw [w64 (by omega) (by omega)]; omega
    rw [List.drop_eq_getElem_cons hlt]
    obtain ⟨a, e1, q2⟩ := head_f ms[i] 64 (by omega)
    by_cases h2 : headIs ms[i] 64 = true
    · refine Ev.of (fun k => spec_PageBase.mono_l k _ _) (k := 1) ?_
      have := headIs_pos h2
      simp only [spec_PageBase.l0, rdOf_at hlt, e1, Option.bind_some]
      rw [if_pos (by omega), if_pos (by omega), if_pos (q2.2 h2), if_pos (by omega)]
      rw [base_hit _ h2]
    · refine Ev.step (fun k => ?_) (by have := ih (i + 1) (by omega); rwa [base_skip _ h2])
      simp only [spec_PageBase.l0, rdOf_at hlt, e1, Option.bind_some]
      rw [if_pos (by omega), if_pos (by omega), if_neg (fun e => h2 (q2.1 e)), hw]

theorem impl_base_ev (s : ByteArray) : Ev (fun k => impl_PageBase.f k s) (base (marks s)) := by
  unfold impl_PageBase.f impl_pageMarks.f
  simp only [Option.bind_some]
  have h := impl_base_l (marks s) (by have := marks_len s; omega) (marks s).length 0 (by omega)
  simpa using h
theorem spec_base_ev (s : ByteArray) (hs : s.size ≤ 140737488351232) : Ev (fun k => spec_PageBase.f k s) (base (marks s)) := by
  unfold spec_PageBase.f
  refine Ev.bind (spec_ev s hs) ?_
  have h := spec_base_l (marks s) (by have := marks_len s; omega) (marks s).length 0 (by omega)
  simpa using h
theorem links_len (ms : List ByteArray) : (links ms).length ≤ ms.length := List.length_filter_le _ _

end Go.Proofs.Ytmaleoldpmiilaa.Mk

/- What is written ahead of a page, and leads outside of all brackets, adds its own marks and changes nothing else; both together of at most 300 bytes. -/
namespace Go.Proofs.Ytmaleoldpmiilaa.Mk
open Go.RowKit Go.Proofs.Ytmaleoldpmiilaa.P Go.Proofs.YtmaleoldpmiilaaW.PrintWords Go.Proofs.YtmaleoldpmiilaaW.PrintLast Go.Proofs.YtmaleoldpmiilaaW.PrintMore Go.Proofs.Ytmaleoldpmiilaa.B
set_option linter.unusedVariables false
set_option linter.unusedSimpArgs false

theorem ext_app_l (a b : ByteArray) (i j : Nat) (h : j ≤ a.size) : (a ++ b).extract i j = a.extract i j := by
  apply L_inj
  rw [L_ext, L_ext, L_app]
  rcases Nat.lt_or_ge a.size i with hi | hi
  · rw [show j - i = 0 from by omega]; simp
  · rw [List.drop_append_of_le_length (by rw [L_size]; exact hi), List.take_append_of_le_length (by rw [List.length_drop, L_size]; omega)]
theorem pmTo_left (c s : ByteArray) (k : Nat) (h : k ≤ c.size) : pmTo (c ++ s) k = pmTo c k := by
  induction k with
  | zero => rfl
  | succ k ih =>
    simp only [pmTo]
    rw [ih (by omega)]
    unfold pmStep
    rw [bt_app_l _ _ _ (by omega), ext_app_l _ _ _ _ (by omega)]
theorem pmTo_right (c s : ByteArray) (h0 : (pmTo c c.size).2.1 = 0) (k : Nat) : ∃ a, pmTo (c ++ s) (c.size + k) = ((pmTo c c.size).1 ++ (pmTo s k).1, (pmTo s k).2.1, a) ∧ ((pmTo s k).2.1 = 1 → a = c.size + (pmTo s k).2.2) := by
  induction k with
  | zero =>
    rw [Nat.add_zero, pmTo_left _ _ _ (Nat.le_refl _)]
    refine ⟨(pmTo c c.size).2.2, ?_, fun h => by simp [pmTo] at h⟩
    simp only [pmTo, List.append_nil]
    rw [← h0]
  | succ k ih =>
    obtain ⟨a, e, ha⟩ := ih
    have hok := (pmTo_ok s k).1
    rw [show c.size + (k + 1) = (c.size + k) + 1 from rfl]
    simp only [pmTo]
    rw [e]
    simp only []
    generalize (pmTo s k).1 = ms at *
    generalize (pmTo s k).2.1 = st at *
    generalize (pmTo s k).2.2 = b at *
    have hb := bt_app_r c s k
    unfold pmStep
    rw [hb]
    by_cases h1 : st = 1
    · rw [if_pos h1, if_pos h1, ha h1, ext_app_r]
      by_cases h2 : bt s k = 62
      · rw [if_pos h2, if_pos h2]
        exact ⟨c.size + b, by rw [List.append_assoc], fun h => by simp at h⟩
      · rw [if_neg h2, if_neg h2]
        exact ⟨c.size + b, rfl, fun _ => rfl⟩
    · rw [if_neg h1, if_neg h1]
      by_cases h2 : st = 2
      · rw [if_pos h2, if_pos h2]
        by_cases h3 : bt s k = 41
        · rw [if_pos h3, if_pos h3]
          exact ⟨a, rfl, fun h => by simp at h⟩
        · rw [if_neg h3, if_neg h3]
          exact ⟨a, rfl, fun h => by simp at h⟩
      · rw [if_neg h2, if_neg h2]
        by_cases h3 : bt s k = 60
        · rw [if_pos h3, if_pos h3]
          exact ⟨c.size + k + 1, rfl, fun _ => rfl⟩
        · rw [if_neg h3, if_neg h3]
          by_cases h4 : bt s k = 40
          · rw [if_pos h4, if_pos h4]
            exact ⟨a, rfl, fun h => by simp at h⟩
          · rw [if_neg h4, if_neg h4]
            exact ⟨a, rfl, fun h => absurd h h1⟩
theorem marks_cat (c s : ByteArray) (h0 : (pmTo c c.size).2.1 = 0) (h : c.size + s.size ≤ 300) : marks (c ++ s) = (pmTo c c.size).1 ++ marks s := by
  obtain ⟨a, e, _⟩ := pmTo_right c s h0 s.size
  have hs : (c ++ s).size = c.size + s.size := ByteArray.size_append
  unfold marks
  rw [if_pos (by omega), if_pos (by omega), hs, e]

/-- How many closing brackets the first k bytes have. -/
def cnt (s : ByteArray) : Nat → Nat
  | 0 => 0
  | k + 1 => cnt s k + if bt s k = 62 then 1 else 0
theorem marks_cnt (s : ByteArray) (k : Nat) : (pmTo s k).1.length ≤ cnt s k := by
  induction k with
  | zero => simp [pmTo, cnt]
  | succ k ih =>
    simp only [pmTo, cnt]
    unfold pmStep
    split
    · split
      · simp only [List.length_append, List.length_singleton]; omega
      · omega
    · repeat' split
      all_goals (try simp only []); omega

end Go.Proofs.Ytmaleoldpmiilaa.Mk

/- The reader of draws: it opens every code, and a pick is a number below its bound; no condition. -/
namespace Go.Proofs.Ytmaleoldpmiilaa.Draw
open Go.RowKit Go.Proofs.Ytmaleoldpmiilaa.P Go.Proofs.YtmaleoldpmiilaaW.PrintWords Go.Proofs.YtmaleoldpmiilaaW.PrintLast Go.Proofs.YtmaleoldpmiilaaW.PrintMore Go.Proofs.Ytmaleoldpmiilaa.B
set_option linter.unusedVariables false
set_option linter.unusedSimpArgs false

/-- A code that is open: its bytes, and not too many of them. -/
structure Code (b : List Int) : Prop where
  byte : ∀ x ∈ b, 0 ≤ x ∧ x ≤ 255
  short : b.length ≤ 2000

theorem open_some (l0 : List Int) (hw : ∀ x ∈ l0, (Lit.int .u8 x).wf = true) : ∃ b, spec_l6Open.f l0 = some (b, 0) ∧ Code b := by
  unfold spec_l6Open.f
  by_cases h : (l0.length : Int) > 2000
  · rw [if_pos h, if_pos (by omega)]
    exact ⟨_, rfl, fun x hx => wf_u8 (hw x (List.mem_of_mem_take hx)), by rw [List.length_take]; omega⟩
  · rw [if_neg h]
    exact ⟨_, rfl, fun x hx => wf_u8 (hw x hx), by omega⟩

theorem pick_one {b : List Int} (hc : Code b) (k : Nat) (p n : Int) (hp : 0 ≤ p) (hp2 : p ≤ 1000000000000) :
    ∃ v, spec_l6Rd_pick.f (k + 1) b p n = some (v, p + 1) ∧ 0 ≤ v ∧ (1 ≤ n → v < n) := by
  have hl := hc.short
  have e1 : wrap64 (p + 1) = p + 1 := w64 (by omega) (by omega)
  have e2 : wrap64 (p + 1 - 1) = p := by rw [w64 (by omega) (by omega)]; omega
  unfold spec_l6Rd_pick.f
  rw [e1]
  by_cases h1 : n < 1
  · rw [if_pos h1]
    exact ⟨0, by simp [spec_l6Rd_pick.j0], by omega, by omega⟩
  · rw [if_neg h1]
    simp only [spec_l6Rd_pick.j0, e2]
    by_cases h2 : (b.length : Int) = 0
    · rw [if_pos (by simpa using h2)]
      exact ⟨0, rfl, by omega, by omega⟩
    · rw [if_neg (by simpa using h2)]
      by_cases h3 : p < (b.length : Int)
      · rw [if_pos h3, if_pos hp, if_neg (by omega)]
        have hr := rd_byte hc.byte p
        rw [w64 (by omega) (by omega)]
        exact ⟨_, rfl, (tmod_nn hr.1 (by omega)).1, fun _ => (tmod_nn hr.1 (by omega)).2⟩
      · rw [if_neg h3, if_neg h2]
        have hq := tmod_nn (a := p) (b := (b.length : Int)) hp (by omega)
        have ew1 : wrap64 (p * 7) = p * 7 := w64 (by omega) (by omega)
        have ew2 : wrap64 (p * 7 + 3) = p * 7 + 3 := w64 (by omega) (by omega)
        have hq2 := tmod_nn (a := p * 7 + 3) (b := (b.length : Int)) (by omega) (by omega)
        rw [if_pos hq.1, if_pos hq.2, ew1, ew2, if_pos hq2.1, if_pos hq2.2, if_neg (by omega)]
        have r1 := rd_byte hc.byte (Int.tmod p (b.length : Int))
        have r2 := rd_byte hc.byte (Int.tmod (p * 7 + 3) (b.length : Int))
        generalize rd b (Int.tmod p (b.length : Int)) = a1 at r1 ⊢
        generalize rd b (Int.tmod (p * 7 + 3) (b.length : Int)) = a2 at r2 ⊢
        have r3 := tdiv_nn (a := p) (b := (b.length : Int)) hp (by omega)
        generalize Int.tdiv p (b.length : Int) = q at r3 ⊢
        have s1 : wrap64 a1 = a1 := w64 (by omega) (by omega)
        have s2 : wrap64 a2 = a2 := w64 (by omega) (by omega)
        have s3 : wrap64 (a1 * 131) = a1 * 131 := w64 (by omega) (by omega)
        have s4 : wrap64 (a2 * 1117) = a2 * 1117 := w64 (by omega) (by omega)
        have s5 : wrap64 (p * 29) = p * 29 := w64 (by omega) (by omega)
        have s6 : wrap64 q = q := w64 (by omega) (by omega)
        have s7 : wrap64 (q * 53) = q * 53 := w64 (by omega) (by omega)
        have s8 : wrap64 (a1 * 131 + a2 * 1117) = a1 * 131 + a2 * 1117 := w64 (by omega) (by omega)
        have s9 : wrap64 (a1 * 131 + a2 * 1117 + p * 29) = a1 * 131 + a2 * 1117 + p * 29 := w64 (by omega) (by omega)
        have s10 : wrap64 (a1 * 131 + a2 * 1117 + p * 29 + q * 53) = a1 * 131 + a2 * 1117 + p * 29 + q * 53 := w64 (by omega) (by omega)
        simp only [s1, s2, s3, s4, s5, s6, s7, s8, s9, s10]
        have hX0 : 0 ≤ a1 * 131 + a2 * 1117 + p * 29 + q * 53 := by omega
        have hX1 : a1 * 131 + a2 * 1117 + p * 29 + q * 53 < 2 ^ 62 := by omega
        generalize a1 * 131 + a2 * 1117 + p * 29 + q * 53 = X at hX0 hX1 ⊢
        have d := tdiv_nn (a := X) (b := 64) hX0 (by omega)
        have s11 : wrap64 (Int.tdiv X 64) = Int.tdiv X 64 := w64 (by omega) (by omega)
        rw [s11]
        have z := xor_nn hX0 hX1 d.1 (by omega)
        exact ⟨_, rfl, (tmod_nn z.1 (by omega)).1, fun _ => (tmod_nn z.1 (by omega)).2⟩

theorem pick_ev {b : List Int} (hc : Code b) (p n : Int) (hp : 0 ≤ p) (hp2 : p ≤ 1000000000000) :
    ∃ v, Ev (fun k => spec_l6Rd_pick.f k b p n) (v, p + 1) ∧ 0 ≤ v ∧ (1 ≤ n → v < n) := by
  obtain ⟨v, h, h0, h1⟩ := pick_one hc 0 p n hp hp2
  exact ⟨v, Ev.of (fun k => spec_l6Rd_pick.mono _ _ _ k) h, h0, h1⟩

end Go.Proofs.Ytmaleoldpmiilaa.Draw

/- A pick out of a list that is not empty is one of its texts; no condition. -/
namespace Go.Proofs.Ytmaleoldpmiilaa.Draw
open Go.RowKit Go.Proofs.Ytmaleoldpmiilaa.P Go.Proofs.YtmaleoldpmiilaaW.PrintWords Go.Proofs.YtmaleoldpmiilaaW.PrintLast Go.Proofs.YtmaleoldpmiilaaW.PrintMore Go.Proofs.Ytmaleoldpmiilaa.B
set_option linter.unusedVariables false
set_option linter.unusedSimpArgs false

theorem of_ev {b : List Int} (hc : Code b) (p : Int) (l : List ByteArray) (hl : l ≠ []) (hl2 : (l.length : Int) < 1000000) (hp : 0 ≤ p) (hp2 : p ≤ 1000000000000) :
    ∃ s, Ev (fun k => spec_l6Rd_of.f k b p l) (s, p + 1) ∧ s ∈ l := by
  have hpos : 0 < l.length := List.length_pos_iff.2 hl
  obtain ⟨v, h, h0, h1⟩ := pick_ev hc p (l.length : Int) hp hp2
  have hv := h1 (by omega)
  refine ⟨rdOf ByteArray.empty l v, Ev.bind h ?_, ?_⟩
  · simp only [h0, hv, if_true]
    exact Ev.now _
  · unfold rdOf
    have hlt : v.toNat < l.length := by omega
    rw [List.getD_eq_getElem?_getD, List.getElem?_eq_getElem hlt]
    exact List.getElem_mem hlt

end Go.Proofs.Ytmaleoldpmiilaa.Draw

/- Addresses as plain functions on bytes: signs, parts, and what an address is written as. No program is named here. -/
namespace Go.Proofs.Ytmaleoldpmiilaa.Ad
open Go.RowKit Go.Proofs.YtmaleoldpmiilaaW.PrintWords Go.Proofs.Ytmaleoldpmiilaa.B
set_option linter.unusedVariables false
set_option linter.unusedSimpArgs false

abbrev ofL (l : List UInt8) : ByteArray := ⟨l.toArray⟩
theorem L_of (l : List UInt8) : L (ofL l) = l := by simp [L]
theorem of_L (s : ByteArray) : ofL (L s) = s := by apply L_inj; simp [L]
theorem ofL_app (a b : List UInt8) : ofL (a ++ b) = ofL a ++ ofL b := by apply L_inj; rw [L_of, L_app, L_of, L_of]
theorem ofL_size (l : List UInt8) : (ofL l).size = l.length := by rw [← L_size, L_of]

def plainB (c : UInt8) : Bool := (decide (97 ≤ c.toNat) && decide (c.toNat ≤ 122)) || (decide (48 ≤ c.toNat) && decide (c.toNat ≤ 57)) || c.toNat == 46 || c.toNat == 45
def hexN (c : UInt8) : Option Nat :=
  if 48 ≤ c.toNat ∧ c.toNat ≤ 57 then some (c.toNat - 48) else if 97 ≤ c.toNat ∧ c.toNat ≤ 102 then some (c.toNat - 87) else if 65 ≤ c.toNat ∧ c.toNat ≤ 70 then some (c.toNat - 55) else none
theorem hexN_lt {c : UInt8} {x : Nat} (h : hexN c = some x) : x < 16 := by
  unfold hexN at h
  split at h
  · injection h; omega
  · split at h
    · injection h; omega
    · split at h
      · injection h; omega
      · cases h
def fig (n : Nat) : UInt8 := if n < 10 then UInt8.ofNat (48 + n) else UInt8.ofNat (55 + n)
def encN (n : Nat) : List UInt8 := if plainB (UInt8.ofNat n) then [UInt8.ofNat n] else [37, fig (n / 16), fig (n % 16)]
theorem encN_len (n : Nat) : (encN n).length ≤ 3 := by unfold encN; split <;> simp
def esc : List UInt8 → Option (List UInt8)
  | [] => some []
  | c :: r => if c = 37 then (match r with
      | a :: b :: q => (match hexN a, hexN b with
        | some x, some y => (esc q).map (encN (x * 16 + y) ++ ·)
        | _, _ => none)
      | _ => none) else (esc r).map (encN c.toNat ++ ·)
theorem esc_short {r : List UInt8} (h : r.length ≤ 1) : esc (37 :: r) = none := by
  match r, h with
  | [], _ => simp [esc]
  | [_], _ => simp [esc]
  | _ :: _ :: _, h => simp at h
theorem esc_bad1 {a : UInt8} (b : UInt8) (q : List UInt8) (h : hexN a = none) : esc (37 :: a :: b :: q) = none := by simp [esc, h]
theorem esc_bad2 (a : UInt8) {b : UInt8} (q : List UInt8) (h : hexN b = none) : esc (37 :: a :: b :: q) = none := by
  cases ha : hexN a <;> simp [esc, h, ha]
theorem esc_sign {a b : UInt8} {x y : Nat} (q : List UInt8) (ha : hexN a = some x) (hb : hexN b = some y) : esc (37 :: a :: b :: q) = (esc q).map (encN (x * 16 + y) ++ ·) := by simp [esc, ha, hb]
theorem esc_plain {c : UInt8} (r : List UInt8) (h : c ≠ 37) : esc (c :: r) = (esc r).map (encN c.toNat ++ ·) := by rw [esc.eq_def]; exact if_neg h
def escO (o : Option (List UInt8)) : ByteArray × Bool := match o with
  | some r => (ofL r, true)
  | none => (⟨#[]⟩, false)
/-- EscNorm. -/
def escNorm (s : ByteArray) : ByteArray × Bool := if s.size > 60 then (⟨#[]⟩, false) else escO (esc (L s))
def isNorm (s : ByteArray) : Bool := (escNorm s).2 && ((escNorm s).1.toList == s.toList)

theorem esc_len (n : Nat) : ∀ (l r : List UInt8), l.length ≤ n → esc l = some r → r.length ≤ 3 * l.length := by
  induction n with
  | zero =>
    intro l r hl h
    obtain rfl : l = [] := List.length_eq_zero_iff.1 (by omega)
    simp [esc] at h
    subst h
    simp
  | succ n ih =>
    intro l r hl h
    match l, hl, h with
    | [], _, h => simp [esc] at h; subst h; simp
    | c :: q, hl, h =>
      unfold esc at h
      split at h
      · match q, hl, h with
        | a :: b :: q', hl, h =>
          simp only at h
          split at h
          · obtain ⟨t, ht, rfl⟩ := Option.map_eq_some_iff.1 h
            have := ih q' t (by simp at hl; omega) ht
            exact Nat.le_trans (by rw [List.length_append]; exact Nat.add_le_add (encN_len _) this) (by simp only [List.length_cons]; omega)
          · cases h
        | [], _, h => simp at h
        | [_], _, h => simp at h
      · obtain ⟨t, ht, rfl⟩ := Option.map_eq_some_iff.1 h
        have := ih q t (by simp at hl; omega) ht
        exact Nat.le_trans (by rw [List.length_append]; exact Nat.add_le_add (encN_len _) this) (by simp only [List.length_cons]; omega)
theorem escNorm_size (s : ByteArray) : (escNorm s).1.size ≤ 180 := by
  unfold escNorm
  split
  · exact Nat.zero_le _
  · unfold escO
    split
    · rename_i h1 _ r h
      have := esc_len _ _ _ (Nat.le_refl _) h
      rw [ofL_size]
      rw [L_size] at this
      omega
    · exact Nat.zero_le _

/-- All parts with strokes between them, behind a stroke. -/
def body : List ByteArray → ByteArray
  | [] => ⟨#[47]⟩
  | p :: r => r.foldl (fun a q => (a ++ ⟨#[47]⟩) ++ q) ((⟨#[47]⟩ : ByteArray) ++ p)
def pathB (parts : List ByteArray) (asks : Bool) (ask : ByteArray) : ByteArray := if asks = true then (body parts ++ ⟨#[63]⟩) ++ ask else body parts
def textB (house : ByteArray) (parts : List ByteArray) (asks : Bool) (ask : ByteArray) : ByteArray := ((⟨#[47, 47]⟩ : ByteArray) ++ house) ++ pathB parts asks ask
def partOk (p : ByteArray) : Bool := isNorm p && !(p.toList == []) && !(p.toList == [46]) && !(p.toList == [46, 46])

/-- Are all bytes from place i on small letters? d: how many there are. -/
def smallFrom (s : ByteArray) : Nat → Nat → Bool
  | 0, _ => true
  | d + 1, i => if bt s i < 97 then false else if bt s i > 122 then false else smallFrom s d (i + 1)
def isSmall (s : ByteArray) : Bool := smallFrom s s.size 0
def isHouse (s : ByteArray) : Bool := decide (1 ≤ s.size) && decide (s.size ≤ 5) && isSmall s

def addrOk (house : ByteArray) (parts : List ByteArray) (asks : Bool) (ask : ByteArray) : Bool :=
  isHouse house && decide (parts.length ≤ 5) && isNorm ask && (asks || ask.toList == []) && parts.all partOk && decide ((textB house parts asks ask).size ≤ 60)
def addrText (house : ByteArray) (parts : List ByteArray) (asks : Bool) (ask : ByteArray) : ByteArray := if addrOk house parts asks ask = true then textB house parts asks ask else ⟨#[]⟩
def addrPath (house : ByteArray) (parts : List ByteArray) (asks : Bool) (ask : ByteArray) : ByteArray := if addrOk house parts asks ask = true then pathB parts asks ask else ⟨#[]⟩
theorem addrText_size (house : ByteArray) (parts : List ByteArray) (asks : Bool) (ask : ByteArray) : (addrText house parts asks ask).size ≤ 60 := by
  unfold addrText
  split
  · rename_i h
    simp only [addrOk, Bool.and_eq_true, decide_eq_true_eq] at h
    exact h.2
  · exact Nat.zero_le _
theorem isNorm_size {s : ByteArray} (h : isNorm s = true) : s.size ≤ 60 := by
  unfold isNorm escNorm at h
  split at h
  · simp at h
  · omega

end Go.Proofs.Ytmaleoldpmiilaa.Ad

/- The reference's functions on addresses come to the plain ones; texts of at most 1048576 bytes each. -/
namespace Go.Proofs.Ytmaleoldpmiilaa.Ad
open Go.RowKit Go.Proofs.Ytmaleoldpmiilaa.P Go.Proofs.YtmaleoldpmiilaaW.PrintWords Go.Proofs.YtmaleoldpmiilaaW.PrintLast Go.Proofs.YtmaleoldpmiilaaW.PrintMore Go.Proofs.Ytmaleoldpmiilaa.B
set_option linter.unusedVariables false
set_option linter.unusedSimpArgs false

theorem hex_all : ∀ n : Nat, n < 256 → spec_l1Hex.f 2 (n : Int) = some (match hexN (UInt8.ofNat n) with | some x => (x : Int) | none => -1) := by decide +kernel
theorem plain_all : ∀ n : Nat, n < 256 → spec_l1Plain.f (n : Int) = some (plainB (UInt8.ofNat n)) := by decide +kernel
theorem sign_all : ∀ n : Nat, n < 256 → (spec_l1Sign.f (n : Int)).map L = some [37, fig (n / 16), fig (n % 16)] := by decide +kernel
theorem of_toNat (c : UInt8) : UInt8.ofNat c.toNat = c := UInt8.ofNat_toNat
theorem hex_ev (c : UInt8) : Ev (fun k => spec_l1Hex.f k (c.toNat : Int)) (match hexN c with | some x => (x : Int) | none => -1) := by
  refine Ev.of (fun k => spec_l1Hex.mono _ k) (k := 2) ?_
  have := hex_all c.toNat c.toNat_lt
  rwa [of_toNat] at this
theorem sign_f (n : Nat) (h : n < 256) : spec_l1Sign.f (n : Int) = some (ofL [37, fig (n / 16), fig (n % 16)]) := by
  have := sign_all n h
  obtain ⟨s, hs, e⟩ := Option.map_eq_some_iff.1 this
  rw [hs, ← e, of_L]
theorem nums_one (n : Nat) (h : n < 256) : strOfNums [(n : Int) % 256] = ofL [UInt8.ofNat n] := by
  unfold strOfNums ofL
  simp only [List.map_cons, List.map_nil, ByteArray.mk.injEq]
  congr 2
  rw [show ((n : Int) % 256) = (n : Int) from by omega]
  simp

/-- What one byte adds. -/
theorem enc_ev (s acc : ByteArray) (i n : Nat) (h : n < 256) (hi : i < 1000000) (ha : acc.size ≤ 1000000) {r : ByteArray × Bool}
    (H : Ev (fun k => spec_EscNorm.l0 k s (acc ++ ofL (encN n)) (i + 1 : Nat)) r) : Ev (fun k => spec_EscNorm.j2 k s acc (i : Int) (n : Int)) r := by
  refine Ev.step (fun k => ?_) H
  have hw : wrap64 ((i : Int) + 1) = ((i + 1 : Nat) : Int) := by rw [w64 (by omega) (by omega)]; omega
  simp only [spec_EscNorm.j2]
  rw [show ((n : Int) % 256) = (n : Int) from by omega, plain_all n h]
  simp only [Option.bind_some]
  by_cases hp : plainB (UInt8.ofNat n) = true
  · have e := nums_one n h
    rw [show ((n : Int) % 256) = (n : Int) from by omega] at e
    have he : encN n = [UInt8.ofNat n] := by unfold encN; rw [if_pos hp]
    have hz := ofL_size [UInt8.ofNat n]
    rw [if_pos hp, e, if_pos (by simp at hz; omega), hw, he]
  · have he : encN n = [37, fig (n / 16), fig (n % 16)] := by unfold encN; rw [if_neg hp]
    rw [if_neg hp, sign_f n h]
    simp only [Option.bind_some]
    have hz := ofL_size [37, fig (n / 16), fig (n % 16)]
    rw [if_pos (by simp at hz; omega), hw, he]

theorem drop_at {l : List UInt8} {i : Nat} (h : i < l.length) : l.drop i = l[i] :: l.drop (i + 1) := List.drop_eq_getElem_cons h
theorem bt_get (s : ByteArray) (i : Nat) (h : i < (L s).length) : bt s i = (((L s)[i]).toNat : Int) := by
  rw [bt_L, List.getD_eq_getElem?_getD, List.getElem?_eq_getElem h]; rfl

theorem app_nil (a : ByteArray) : a ++ ofL [] = a := by apply L_inj; rw [L_app, L_of, List.append_nil]
def escR (acc : ByteArray) (o : Option (List UInt8)) : ByteArray × Bool := match o with
  | some r => (acc ++ ofL r, true)
  | none => (⟨#[]⟩, false)
theorem escR_map (acc : ByteArray) (x : List UInt8) (o : Option (List UInt8)) : escR acc (o.map (x ++ ·)) = escR (acc ++ ofL x) o := by
  cases o with
  | none => rfl
  | some r => simp only [escR, Option.map_some, ofL_app, ByteArray.append_assoc]

theorem esc_l (s : ByteArray) (hs : s.size ≤ 60) (n : Nat) : ∀ (i : Nat) (acc : ByteArray), i ≤ s.size → s.size - i ≤ n → acc.size ≤ 3 * i →
    Ev (fun k => spec_EscNorm.l0 k s acc (i : Int)) (escR acc (esc ((L s).drop i))) := by
  have hL := L_size s
  induction n with
  | zero =>
    intro i acc hi hn ha
    refine Ev.of (fun k => spec_EscNorm.mono_l k |>.1 _ _ _) (k := 1) ?_
    simp only [spec_EscNorm.l0]
    rw [if_neg (by omega), List.drop_eq_nil_of_le (by omega)]
    simp only [esc, escR]
    rw [app_nil]
  | succ n ih =>
    intro i acc hi hn ha
    by_cases hlt : i < s.size
    · have hlt' : i < (L s).length := by omega
      rw [drop_at hlt']
      have hb := bt_get s i hlt'
      by_cases hc : (L s)[i] = 37
      · have hb37 : bt s i = 37 := by rw [hb, hc]; rfl
        have w2 : wrap64 ((i : Int) + 2) = ((i + 2 : Nat) : Int) := by rw [w64 (by omega) (by omega)]; omega
        have w1 : wrap64 ((i : Int) + 1) = ((i + 1 : Nat) : Int) := by rw [w64 (by omega) (by omega)]; omega
        rw [hc]
        by_cases h2 : i + 2 < s.size
        · have g1 : i + 1 < (L s).length := by omega
          have g2 : i + 2 < (L s).length := by omega
          rw [drop_at g1, drop_at g2]
          have b1 := bt_get s (i + 1) g1
          have b2 := bt_get s (i + 2) g2
          have q1 := hex_ev (L s)[i + 1]
          have q2 := hex_ev (L s)[i + 2]
          have l1 := @hexN_lt (L s)[i + 1]
          have l2 := @hexN_lt (L s)[i + 2]
          generalize (L s)[i + 1] = ca at b1 q1 l1 ⊢
          generalize (L s)[i + 2] = cb at b2 q2 l2 ⊢
          have e3 : i + 2 + 1 = i + 3 := rfl
          have bad : Ev (fun k => spec_EscNorm.j1 k s acc (i : Int) true) ((⟨#[]⟩ : ByteArray), false) :=
            Ev.of (fun k => spec_EscNorm.mono_l k |>.2.2 _ _ _ _) (k := 1) (by simp [spec_EscNorm.j1])
          refine Ev.step (f := fun k => (spec_l1Hex.f k (ca.toNat : Int)).bind fun t => if t < 0 then spec_EscNorm.j1 k s acc (i : Int) true else (spec_l1Hex.f k (cb.toNat : Int)).bind fun t2 => spec_EscNorm.j1 k s acc (i : Int) (decide (t2 < 0))) (fun k => ?_) ?_
          · simp only [spec_EscNorm.l0]
            rw [if_pos (by omega), if_pos (by omega), if_pos hb37, w2, w1, if_neg (by omega), if_pos (by omega), if_pos (by omega), b1]
            congr 1
            funext t
            by_cases ht : t < 0
            · rw [if_pos ht, if_pos ht]
            · rw [if_neg ht, if_neg ht, if_pos (by omega), if_pos (by omega), b2]
          · refine Ev.bind q1 ?_
            cases ha' : hexN ca with
            | none =>
              rw [esc_bad1 _ _ ha']
              simp only [show ((-1 : Int) < 0) from by omega, if_true]
              exact bad
            | some x =>
              have hx := l1 ha'
              simp only [show ¬ ((x : Int) < 0) from by omega, if_false]
              refine Ev.bind q2 ?_
              cases hb' : hexN cb with
              | none =>
                rw [esc_bad2 _ _ hb']
                simp only [show decide ((-1 : Int) < 0) = true from by decide]
                exact bad
              | some y =>
                have hy := l2 hb'
                simp only [show decide ((y : Int) < 0) = false from by simp]
                rw [ha'] at q1
                rw [hb'] at q2
                refine Ev.step (f := fun k => (spec_l1Hex.f k (ca.toNat : Int)).bind fun t => (spec_l1Hex.f k (cb.toNat : Int)).bind fun t2 => spec_EscNorm.j2 k s acc ((i + 2 : Nat) : Int) (wrap64 (wrap64 (t * 16) + t2))) (fun k => ?_) ?_
                · simp only [spec_EscNorm.j1]
                  rw [if_neg (by simp), w1, w2, if_pos (by omega), if_pos (by omega), b1]
                  congr 1
                  funext t
                  rw [if_pos (by omega), if_pos (by omega), b2]
                · refine Ev.bind q1 (Ev.bind q2 ?_)
                  rw [esc_sign _ ha' hb']
                  rw [show wrap64 (wrap64 ((x : Int) * 16) + (y : Int)) = ((x * 16 + y : Nat) : Int) from by rw [w64 (n := (x : Int) * 16) (by omega) (by omega), w64 (by omega) (by omega)]; omega]
                  refine enc_ev s acc (i + 2) (x * 16 + y) (by omega) (by omega) (by omega) ?_
                  rw [escR_map]
                  exact ih (i + 2 + 1) _ (by omega) (by omega) (by have z := ofL_size (encN (x * 16 + y)); have := encN_len (x * 16 + y); rw [ByteArray.size_append]; omega)
        · rw [esc_short (by rw [List.length_drop]; omega)]
          refine Ev.of (fun k => spec_EscNorm.mono_l k |>.1 _ _ _) (k := 2) ?_
          simp only [spec_EscNorm.l0, spec_EscNorm.j1]
          rw [if_pos (by omega), if_pos (by omega), if_pos hb37, w2, if_pos (by omega)]
          rfl
      · have hb37 : ¬ bt s i = 37 := by
          rw [hb]
          intro e
          exact hc (UInt8.toNat_inj.1 (by have : (37 : UInt8).toNat = 37 := rfl; omega))
        rw [esc_plain _ hc]
        have hlt8 := (L s)[i].toNat_lt
        refine Ev.step (f := fun k => spec_EscNorm.j2 k s acc (i : Int) (((L s)[i].toNat : Nat) : Int)) (fun k => ?_) ?_
        · simp only [spec_EscNorm.l0]
          rw [if_pos (by omega), if_pos (by omega), if_neg hb37, hb, w64 (by omega) (by omega)]
        · refine enc_ev s acc i _ (by omega) (by omega) (by omega) ?_
          rw [escR_map]
          exact ih (i + 1) _ (by omega) (by omega) (by have z := ofL_size (encN (L s)[i].toNat); have := encN_len (L s)[i].toNat; rw [ByteArray.size_append]; omega)
    · refine Ev.of (fun k => spec_EscNorm.mono_l k |>.1 _ _ _) (k := 1) ?_
      simp only [spec_EscNorm.l0]
      rw [if_neg (by omega), List.drop_eq_nil_of_le (by omega)]
      simp only [esc, escR]
      rw [app_nil]

theorem escNorm_ev (s : ByteArray) : Ev (fun k => spec_EscNorm.f k s) (escNorm s) := by
  unfold spec_EscNorm.f escNorm
  by_cases h : s.size > 60
  · simp only [show ((s.size : Int) > 60) from by omega, if_true, h]
    exact Ev.now _
  · simp only [show ¬ ((s.size : Int) > 60) from by omega, if_false, h]
    have := esc_l s (by omega) s.size 0 ⟨#[]⟩ (by omega) (by omega) (Nat.le_refl 0)
    simp only [List.drop_zero] at this
    have e : escR (⟨#[]⟩ : ByteArray) (esc (L s)) = escO (esc (L s)) := by
      unfold escR escO
      cases esc (L s) with
      | none => rfl
      | some r => simp only [Prod.mk.injEq, and_true]; apply L_inj; rw [L_app]; rfl
    rw [← e]
    exact this

theorem norm_ev (s : ByteArray) : Ev (fun k => spec_l1Norm.f k s) (isNorm s) := by
  unfold spec_l1Norm.f isNorm
  refine Ev.bind (escNorm_ev s) ?_
  by_cases h : (escNorm s).2 = true
  · simp only [h, if_true, Bool.true_and]
    exact Ev.now _
  · simp only [h, if_false, Bool.false_and]
    exact Ev.now _

end Go.Proofs.Ytmaleoldpmiilaa.Ad

/- The reference's AddrOk and AddrText come to the plain ones; at most 1000 parts, texts of at most 1048576 bytes each. -/
namespace Go.Proofs.Ytmaleoldpmiilaa.Ad
open Go.RowKit Go.Proofs.Ytmaleoldpmiilaa.P Go.Proofs.YtmaleoldpmiilaaW.PrintWords Go.Proofs.YtmaleoldpmiilaaW.PrintLast Go.Proofs.YtmaleoldpmiilaaW.PrintMore Go.Proofs.Ytmaleoldpmiilaa.B
set_option linter.unusedVariables false
set_option linter.unusedSimpArgs false

theorem spec_house_l (s : ByteArray) (hs : s.size ≤ 140737488351232) (d : Nat) : ∀ (k : Nat) (i : Nat), i + d = s.size → d < k →
    spec_l1House.l0 k s (i : Int) = some (smallFrom s d i && (decide (1 ≤ s.size) && decide (s.size ≤ 5))) := by
  induction d with
  | zero =>
    intro k i h hk
    obtain ⟨k, rfl⟩ : ∃ m, k = m + 1 := ⟨k - 1, by omega⟩
    simp only [spec_l1House.l0, smallFrom, spec_l6In.f]
    rw [if_neg (by omega)]
    by_cases h1 : 1 ≤ s.size
    · rw [if_pos (by omega)]; simp [h1]; omega
    · rw [if_neg (by omega)]; simp [h1]
  | succ d ih =>
    intro k i h hk
    obtain ⟨k, rfl⟩ : ∃ m, k = m + 1 := ⟨k - 1, by omega⟩
    simp only [spec_l1House.l0, smallFrom]
    rw [if_pos (by omega), if_pos (by omega)]
    by_cases h1 : bt s i < 97
    · rw [if_pos h1, if_pos h1]; rfl
    · rw [if_neg h1, if_neg h1]
      by_cases h2 : bt s i > 122
      · rw [if_pos h2, if_pos h2]; rfl
      · rw [if_neg h2, if_neg h2, w64 (by omega) (by omega)]
        exact ih k (i + 1) (by omega) (by omega)
theorem house_ev (s : ByteArray) (hs : s.size ≤ 140737488351232) : Ev (fun k => spec_l1House.f k s) (isHouse s) := by
  refine Ev.of (fun k => spec_l1House.mono _ k) (k := s.size + 1) ?_
  unfold spec_l1House.f
  have := spec_house_l s hs s.size (s.size + 1) 0 (by omega) (by omega)
  rw [show ((0 : Nat) : Int) = 0 from rfl] at this
  rw [this]
  unfold isHouse isSmall
  cases smallFrom s s.size 0 <;> simp

theorem rd_at {l : List ByteArray} {i : Nat} (h : i < l.length) : rdOf ByteArray.empty l (i : Int) = l[i] := by
  unfold rdOf
  rw [List.getD_eq_getElem?_getD, Int.toNat_natCast, List.getElem?_eq_getElem h]
  rfl

/-- At most 1000 parts, none too long. -/
structure Parts (ps : List ByteArray) : Prop where
  few : ps.length ≤ 1000
  short : ∀ p ∈ ps, p.size ≤ 1048576

def fin (asks : Bool) (ask b : ByteArray) : ByteArray := if asks = true then (b ++ ⟨#[63]⟩) ++ ask else b
theorem fin_path (parts : List ByteArray) (asks : Bool) (ask : ByteArray) : fin asks ask (body parts) = pathB parts asks ask := rfl

theorem path_end (acc house : ByteArray) (parts : List ByteArray) (asks : Bool) (ask : ByteArray) (i : Nat) (hi : i = parts.length) (ha : acc.size ≤ 2000000000) (hq : ask.size ≤ 1048576) :
    Ev (fun k => spec_l1Path.l0 k acc (i : Int) house parts asks ask) (fin asks ask acc) := by
  refine Ev.of (fun k => spec_l1Path.mono_l k _ _ _ _ _ _) (k := 1) ?_
  simp only [spec_l1Path.l0, fin]
  rw [if_neg (by omega)]
  by_cases h : asks = true
  · rw [if_pos h, if_pos h, if_pos (by omega), if_pos (by omega)]
  · rw [if_neg h, if_neg h]
theorem path_l (house : ByteArray) (parts : List ByteArray) (asks : Bool) (ask : ByteArray) (hP : Parts parts) (hq : ask.size ≤ 1048576) (d : Nat) : ∀ (i : Nat) (acc : ByteArray), i + d = parts.length → 1 ≤ i → (acc.size : Int) ≤ 1 + (i : Int) * 1048577 →
    Ev (fun k => spec_l1Path.l0 k acc (i : Int) house parts asks ask) (fin asks ask ((parts.drop i).foldl (fun a q => (a ++ ⟨#[47]⟩) ++ q) acc)) := by
  have hf := hP.few
  induction d with
  | zero =>
    intro i acc hi _ ha
    rw [List.drop_eq_nil_of_le (by omega)]
    exact path_end acc house parts asks ask i (by omega) (by omega) hq
  | succ d ih =>
    intro i acc hi h1 ha
    have hlt : i < parts.length := by omega
    have hz := hP.short parts[i] (List.getElem_mem hlt)
    rw [List.drop_eq_getElem_cons hlt, List.foldl_cons]
    have h47 : (⟨#[47]⟩ : ByteArray).size = 1 := rfl
    have hsz : ((acc ++ (⟨#[47]⟩ : ByteArray)) ++ parts[i]).size = acc.size + 1 + parts[i].size := by rw [ByteArray.size_append, ByteArray.size_append, h47]
    have f1 : (i : Int) < (parts.length : Int) := by omega
    have f2 : (i : Int) > 0 := by omega
    have f3 : acc.size + 1 ≤ 9223372036854775807 := by omega
    have f4 : 0 ≤ (i : Int) := by omega
    have f5 : acc.size + 1 + parts[i].size ≤ 9223372036854775807 := by omega
    have hw : wrap64 ((i : Int) + 1) = ((i + 1 : Nat) : Int) := by rw [w64 (by omega) (by omega)]; omega
    have h := ih (i + 1) ((acc ++ (⟨#[47]⟩ : ByteArray)) ++ parts[i]) (by omega) (by omega) (by rw [hsz]; omega)
    refine Ev.step (fun k => ?_) h
    simp only [spec_l1Path.l0]
    rw [if_pos f1, if_pos f2, if_pos f3, if_pos f4, rd_at hlt, if_pos f5, hw]
theorem path_ev (house : ByteArray) (parts : List ByteArray) (asks : Bool) (ask : ByteArray) (hP : Parts parts) (hq : ask.size ≤ 1048576) :
    Ev (fun k => spec_l1Path.f k house parts asks ask) (pathB parts asks ask) := by
  unfold spec_l1Path.f
  match parts, hP with
  | [], hP =>
    have := path_end ⟨#[47]⟩ house [] asks ask 0 rfl (by decide) hq
    exact this
  | p :: r, hP =>
    have hz := hP.short p List.mem_cons_self
    have hs : ((⟨#[47]⟩ : ByteArray) ++ p).size = 1 + p.size := by rw [ByteArray.size_append]; rfl
    refine Ev.step (fun k => ?_) (path_l house (p :: r) asks ask hP hq r.length 1 ((⟨#[47]⟩ : ByteArray) ++ p) (by simp; omega) (by omega) (by omega))
    have h47 : (⟨#[47]⟩ : ByteArray).size = 1 := rfl
    have hr0 : rdOf ByteArray.empty (p :: r) 0 = p := rfl
    simp only [spec_l1Path.l0]
    have f1 : (0 : Int) < ((p :: r).length : Int) := by simp only [List.length_cons]; omega
    have f5 : (⟨#[47]⟩ : ByteArray).size + p.size ≤ 9223372036854775807 := by omega
    rw [if_pos f1, if_neg (by omega), if_pos (by omega), hr0, if_pos f5, w64 (by omega) (by omega)]
    rfl

theorem path_size (parts : List ByteArray) (asks : Bool) (ask : ByteArray) (hP : Parts parts) (hq : ask.size ≤ 1048576) : (pathB parts asks ask).size ≤ 2000000000 := by
  have hf := hP.few
  have hb : ((body parts).size : Int) ≤ 1 + (parts.length : Int) * 1048577 := by
    match parts, hP with
    | [], _ => simp [body]; decide
    | p :: r, hP =>
      have key : ∀ (r : List ByteArray) (acc : ByteArray), (∀ q ∈ r, q.size ≤ 1048576) → ((r.foldl (fun a q => (a ++ ⟨#[47]⟩) ++ q) acc).size : Int) ≤ (acc.size : Int) + (r.length : Int) * 1048577 := by
        intro r
        induction r with
        | nil => intro acc _; simp
        | cons q r ih =>
          intro acc h
          have := ih ((acc ++ ⟨#[47]⟩) ++ q) (fun x hx => h x (List.mem_cons_of_mem _ hx))
          have hq := h q List.mem_cons_self
          have h47 : (⟨#[47]⟩ : ByteArray).size = 1 := rfl
          rw [List.foldl_cons]
          rw [ByteArray.size_append, ByteArray.size_append] at this
          simp only [List.length_cons]
          omega
      have := key r ((⟨#[47]⟩ : ByteArray) ++ p) (fun x hx => hP.short x (List.mem_cons_of_mem _ hx))
      have hz := hP.short p List.mem_cons_self
      have hs : ((⟨#[47]⟩ : ByteArray) ++ p).size = 1 + p.size := by rw [ByteArray.size_append]; rfl
      simp only [body, List.length_cons]
      omega
  unfold pathB
  have h63 : (⟨#[63]⟩ : ByteArray).size = 1 := rfl
  split
  · rw [ByteArray.size_append, ByteArray.size_append]; omega
  · omega

theorem text_ev (house : ByteArray) (parts : List ByteArray) (asks : Bool) (ask : ByteArray) (hP : Parts parts) (hq : ask.size ≤ 1048576) (hh : house.size ≤ 1048576) :
    Ev (fun k => spec_l1Text.f k house parts asks ask) (textB house parts asks ask) := by
  unfold spec_l1Text.f
  have hz := path_size parts asks ask hP hq
  simp only [show 2 + house.size ≤ 9223372036854775807 from by omega, if_true]
  refine Ev.bind (path_ev house parts asks ask hP hq) ?_
  simp only [show 2 + house.size + (pathB parts asks ask).size ≤ 9223372036854775807 from by omega, if_true]
  exact Ev.now _

theorem ok_l (house : ByteArray) (parts : List ByteArray) (asks : Bool) (ask : ByteArray) (hP : Parts parts) (hq : ask.size ≤ 1048576) (hh : house.size ≤ 1048576) (d : Nat) : ∀ (i : Nat), i + d = parts.length →
    Ev (fun k => spec_AddrOk.l0 k (i : Int) house parts asks ask) ((parts.drop i).all partOk && decide ((textB house parts asks ask).size ≤ 60)) := by
  have hf := hP.few
  induction d with
  | zero =>
    intro i hi
    rw [List.drop_eq_nil_of_le (by omega)]
    simp only [List.all_nil, Bool.true_and]
    refine Ev.step (f := fun k => (spec_l1Text.f k house parts asks ask).bind fun t => some (decide ((t.size : Int) ≤ 60))) (fun k => ?_) (Ev.bind (text_ev house parts asks ask hP hq hh) ?_)
    · simp only [spec_AddrOk.l0]
      rw [if_neg (by omega)]
    · have e : decide (((textB house parts asks ask).size : Int) ≤ 60) = decide ((textB house parts asks ask).size ≤ 60) := by rw [Bool.eq_iff_iff]; simp; omega
      rw [e]
      exact Ev.now _
  | succ d ih =>
    intro i hi
    have hlt : i < parts.length := by omega
    rw [List.drop_eq_getElem_cons hlt, List.all_cons]
    refine Ev.step (f := fun k => (spec_l1Norm.f k parts[i]).bind fun t => if t = true then (if parts[i].toList = [] then some false else if parts[i].toList = [46] then some false else if parts[i].toList = [46, 46] then some false else spec_AddrOk.l0 k ((i + 1 : Nat) : Int) house parts asks ask) else some false) (fun k => ?_) (Ev.bind (norm_ev parts[i]) ?_)
    · simp only [spec_AddrOk.l0]
      rw [if_pos (by omega), if_pos (by omega), rd_at hlt, w64 (by omega) (by omega)]
      rfl
    · by_cases h1 : isNorm parts[i] = true
      · by_cases h2 : parts[i].toList = []
        · simp only [h1, h2, if_true]
          rw [show partOk parts[i] = false from by simp [partOk, h2]]
          exact Ev.now _
        · by_cases h3 : parts[i].toList = [46]
          · simp only [h1, h3, if_true]
            rw [show partOk parts[i] = false from by simp [partOk, h3]]
            exact Ev.now _
          · by_cases h4 : parts[i].toList = [46, 46]
            · simp only [h1, h4, if_true]
              rw [show partOk parts[i] = false from by simp [partOk, h4]]
              exact Ev.now _
            · simp only [h1, h2, h3, h4, if_true, if_false]
              rw [show partOk parts[i] = true from by simp [partOk, h1, h2, h3, h4], Bool.true_and]
              exact ih (i + 1) (by omega)
      · simp only [h1, if_false]
        rw [show partOk parts[i] = false from by simp [partOk, h1]]
        exact Ev.now _

theorem addrOk_ev (house : ByteArray) (parts : List ByteArray) (asks : Bool) (ask : ByteArray) (hP : Parts parts) (hq : ask.size ≤ 1048576) (hh : house.size ≤ 1048576) :
    Ev (fun k => spec_AddrOk.f k house parts asks ask) (addrOk house parts asks ask) := by
  have hf := hP.few
  have bad : ∀ r, r = false → Ev (fun k => spec_AddrOk.j0 k true house parts asks ask) r := fun r hr => by
    subst hr
    exact Ev.of (fun k => spec_AddrOk.mono_l k |>.1 _ _ _ _ _) (k := 1) (by simp [spec_AddrOk.j0])
  have good : Ev (fun k => spec_AddrOk.j0 k false house parts asks ask) (parts.all partOk && decide ((textB house parts asks ask).size ≤ 60)) := by
    refine Ev.step (fun k => ?_) (by simpa using ok_l house parts asks ask hP hq hh parts.length 0 (by omega))
    simp [spec_AddrOk.j0]
  unfold spec_AddrOk.f
  refine Ev.bind (house_ev house (by omega)) ?_
  by_cases h1 : isHouse house = true
  · simp only [h1, if_true]
    by_cases h2 : parts.length ≤ 5
    · simp only [show ¬ ((parts.length : Int) > 5) from by omega, if_false]
      refine Ev.bind (norm_ev ask) ?_
      by_cases h3 : isNorm ask = true
      · simp only [h3, if_true]
        by_cases h4 : asks = true
        · simp only [h4, if_true]
          rw [h4] at good
          rw [show addrOk house parts true ask = (parts.all partOk && decide ((textB house parts true ask).size ≤ 60)) from by simp [addrOk, h1, h2, h3]]
          exact good
        · rw [show (fun k => if asks = true then spec_AddrOk.j0 k false house parts asks ask else spec_AddrOk.j0 k (ask.toList != []) house parts asks ask) = (fun k => spec_AddrOk.j0 k (ask.toList != []) house parts asks ask) from by funext k; rw [if_neg h4]]
          by_cases h5 : ask.toList = []
          · obtain rfl : asks = false := by simpa using h4
            simp only [h5, bne_self_eq_false, Bool.false_eq_true, if_false]
            rw [show addrOk house parts false ask = (parts.all partOk && decide ((textB house parts false ask).size ≤ 60)) from by simp [addrOk, h1, h2, h3, h5]]
            exact good
          · rw [show (ask.toList != ([] : List UInt8)) = true from by simp [h5]]
            exact bad _ (by simp [addrOk, h4, h5])
      · simp only [h3, if_false]
        exact bad _ (by simp [addrOk, h3])
    · simp only [show (parts.length : Int) > 5 from by omega, if_true]
      exact bad _ (by simp [addrOk, h2])
  · simp only [h1, if_false]
    exact bad _ (by simp [addrOk, h1])

theorem addrText_ev (house : ByteArray) (parts : List ByteArray) (asks : Bool) (ask : ByteArray) (hP : Parts parts) (hq : ask.size ≤ 1048576) (hh : house.size ≤ 1048576) :
    Ev (fun k => spec_AddrText.f k house parts asks ask) (addrText house parts asks ask) := by
  unfold spec_AddrText.f addrText
  refine Ev.bind (addrOk_ev house parts asks ask hP hq hh) ?_
  by_cases h : addrOk house parts asks ask = true
  · simp only [h, if_true]
    exact Ev.bind (text_ev house parts asks ask hP hq hh) (Ev.now _)
  · simp only [h, if_false]
    exact Ev.now _

end Go.Proofs.Ytmaleoldpmiilaa.Ad

/- What is drawn of addresses and pages: every open code draws them, and they are not too long; the place in the code stays below 10^11. -/
namespace Go.Proofs.Ytmaleoldpmiilaa.Draw
open Go.RowKit Go.Proofs.Ytmaleoldpmiilaa.P Go.Proofs.YtmaleoldpmiilaaW.PrintWords Go.Proofs.YtmaleoldpmiilaaW.PrintLast Go.Proofs.YtmaleoldpmiilaaW.PrintMore Go.Proofs.Ytmaleoldpmiilaa.B Go.Proofs.Ytmaleoldpmiilaa.Ad
set_option linter.unusedVariables false
set_option linter.unusedSimpArgs false

theorem of_sz {b : List Int} (hc : Code b) (p : Int) (l : List ByteArray) (N : Nat) (hp : 0 ≤ p) (hp2 : p ≤ 1000000000000)
    (hl : decide (0 < l.length ∧ l.length < 1000000) = true) (hN : (l.all fun s => decide (s.size ≤ N)) = true) :
    ∃ s, Ev (fun k => spec_l6Rd_of.f k b p l) (s, p + 1) ∧ s.size ≤ N := by
  have h := of_decide_eq_true hl
  obtain ⟨s, h1, h2⟩ := of_ev hc p l (List.length_pos_iff.1 h.1) (by omega) hp hp2
  exact ⟨s, h1, of_decide_eq_true (List.all_eq_true.1 hN s h2)⟩

theorem addr_l {b : List Int} (hc : Code b) (house : ByteArray) (hh : house.size ≤ 3) (d : Nat) : ∀ (p : Int) (parts : List ByteArray), 0 ≤ p → p + d ≤ 100000000000 → (∀ q ∈ parts, q.size ≤ 6) → parts.length + d ≤ 5 →
    ∃ s p', Ev (fun k => spec_l71Addr.l0 k (d : Int) b p house parts false ⟨#[]⟩) (s, p') ∧ s.size ≤ 60 ∧ p ≤ p' ∧ p' ≤ p + d + 2 := by
  induction d with
  | zero =>
    intro p parts h0 h1 hs hl
    have hP : Parts parts := ⟨by omega, fun q hq => by have := hs q hq; omega⟩
    obtain ⟨v, hv, _, _⟩ := pick_ev hc p 8 h0 (by omega)
    by_cases hv0 : v = 0
    · obtain ⟨ask, ha, hz⟩ := of_sz hc (p + 1) ([(⟨#[]⟩ : ByteArray), (⟨#[97]⟩ : ByteArray), (⟨#[98, 37, 51, 68]⟩ : ByteArray)] : List ByteArray) 4 (by omega) (by omega) (by decide) (by decide)
      refine ⟨addrText house parts true ask, p + 1 + 1, Ev.step (f := fun k => (spec_l6Rd_pick.f k b p 8).bind fun bt => if bt.1 = 0 then ((spec_l6Rd_of.f k b bt.2 ([(⟨#[]⟩ : ByteArray), (⟨#[97]⟩ : ByteArray), (⟨#[98, 37, 51, 68]⟩ : ByteArray)] : List ByteArray)).bind fun b2 => (spec_AddrText.f k house parts true b2.1).bind fun t => some (t, b2.2)) else (spec_AddrText.f k house parts false ⟨#[]⟩).bind fun t => some (t, bt.2)) (fun k => ?_) (Ev.bind hv ?_), addrText_size _ _ _ _, by omega, by omega⟩
      · simp only [spec_l71Addr.l0]
        rw [if_neg (by omega)]
      · simp only [hv0, if_true]
        exact Ev.bind ha (Ev.bind (addrText_ev house parts true ask hP (by omega) (by omega)) (Ev.now _))
    · refine ⟨addrText house parts false ⟨#[]⟩, p + 1, Ev.step (f := fun k => (spec_l6Rd_pick.f k b p 8).bind fun bt => if bt.1 = 0 then ((spec_l6Rd_of.f k b bt.2 ([(⟨#[]⟩ : ByteArray), (⟨#[97]⟩ : ByteArray), (⟨#[98, 37, 51, 68]⟩ : ByteArray)] : List ByteArray)).bind fun b2 => (spec_AddrText.f k house parts true b2.1).bind fun t => some (t, b2.2)) else (spec_AddrText.f k house parts false ⟨#[]⟩).bind fun t => some (t, bt.2)) (fun k => ?_) (Ev.bind hv ?_), addrText_size _ _ _ _, by omega, by omega⟩
      · simp only [spec_l71Addr.l0]
        rw [if_neg (by omega)]
      · simp only [hv0, if_false]
        exact Ev.bind (addrText_ev house parts false ⟨#[]⟩ hP (by decide) (by omega)) (Ev.now _)
  | succ d ih =>
    intro p parts h0 h1 hs hl
    obtain ⟨q, hq, hz⟩ := of_sz hc p ([(⟨#[97]⟩ : ByteArray), (⟨#[98]⟩ : ByteArray), (⟨#[99]⟩ : ByteArray), (⟨#[110, 111, 116, 105, 99, 101]⟩ : ByteArray)] : List ByteArray) 6 h0 (by omega) (by decide) (by decide)
    obtain ⟨s, p', h, h2, h3, h4⟩ := ih (p + 1) (parts ++ [q]) (by omega) (by omega) (fun x hx => by
      rcases List.mem_append.1 hx with hx | hx
      · exact hs x hx
      · rw [List.mem_singleton.1 hx]; exact hz) (by simp; omega)
    refine ⟨s, p', Ev.step (f := fun k => (spec_l6Rd_of.f k b p ([(⟨#[97]⟩ : ByteArray), (⟨#[98]⟩ : ByteArray), (⟨#[99]⟩ : ByteArray), (⟨#[110, 111, 116, 105, 99, 101]⟩ : ByteArray)] : List ByteArray)).bind fun bt => spec_l71Addr.l0 k (d : Int) b bt.2 house (parts ++ [bt.1]) false ⟨#[]⟩) (fun k => ?_) (Ev.bind hq h), h2, by omega, by omega⟩
    simp only [spec_l71Addr.l0]
    rw [if_pos (by omega), show wrap64 (((d + 1 : Nat) : Int) - 1) = (d : Int) from by rw [w64 (by omega) (by omega)]; omega]
    congr 1
    funext bt
    rw [if_pos (by omega)]

theorem addr_ev {b : List Int} (hc : Code b) (p : Int) (h0 : 0 ≤ p) (h1 : p ≤ 10000000000) : ∃ s p', Ev (fun k => spec_l71Addr.f k b p) (s, p') ∧ s.size ≤ 60 ∧ p ≤ p' ∧ p' ≤ p + 10 := by
  obtain ⟨v, hv, v0, v1⟩ := pick_ev hc p 4 h0 (by omega)
  have v2 := v1 (by omega)
  obtain ⟨n, hn, n0, n1⟩ := pick_ev hc (p + 1) 3 (by omega) (by omega)
  have n2 := n1 (by omega)
  obtain ⟨m, rfl⟩ := Int.eq_ofNat_of_zero_le n0
  have hh : (rdOf ByteArray.empty ([(⟨#[97, 98]⟩ : ByteArray), (⟨#[99, 100]⟩ : ByteArray), (⟨#[101]⟩ : ByteArray), (⟨#[102, 111, 120]⟩ : ByteArray)] : List ByteArray) v).size ≤ 3 := by
    obtain rfl | rfl | rfl | rfl : v = 0 ∨ v = 1 ∨ v = 2 ∨ v = 3 := by omega
    all_goals decide
  obtain ⟨s, p', h, h2, h3, h4⟩ := addr_l hc _ hh m (p + 1 + 1) [] (by omega) (by omega) (by simp) (by simp; omega)
  refine ⟨s, p', ?_, h2, by omega, by omega⟩
  unfold spec_l71Addr.f spec_l71Houses.f
  simp only [Option.bind_some]
  refine Ev.bind hv ?_
  simp only [v0, show v < (([(⟨#[97, 98]⟩ : ByteArray), (⟨#[99, 100]⟩ : ByteArray), (⟨#[101]⟩ : ByteArray), (⟨#[102, 111, 120]⟩ : ByteArray)] : List ByteArray).length : Int) from by simp; omega, if_true]
  exact Ev.bind hn h

theorem ref_j {b : List Int} (hc : Code b) (x : Int) (y : Bool) (p : Int) (h0 : 0 ≤ p) (h1 : p ≤ 10000000000) : ∃ s p', Ev (fun k => spec_l71Ref.j0 k x y b p) (s, p') ∧ s.size ≤ 60 ∧ p ≤ p' ∧ p' ≤ p + 10 := by
  by_cases hy : y = true
  · obtain ⟨s, p', h, h2, h3, h4⟩ := addr_ev hc p h0 h1
    refine ⟨s, p', Ev.step (f := fun k => (spec_l71Addr.f k b p).bind fun bt => some (bt.1, bt.2)) (fun k => ?_) (Ev.bind h (Ev.now _)), h2, h3, h4⟩
    simp only [spec_l71Ref.j0]
    rw [if_pos hy]
  by_cases x2 : x = 2
  · obtain ⟨s, h, hz⟩ := of_sz hc p (([(⟨#[97]⟩ : ByteArray), (⟨#[98]⟩ : ByteArray), (⟨#[97, 47, 98]⟩ : ByteArray), (⟨#[99, 47, 46, 46, 47, 98]⟩ : ByteArray), (⟨#[]⟩ : ByteArray), (⟨#[120, 47, 46, 47, 99]⟩ : ByteArray)] : List ByteArray)) 9 h0 (by omega) (by decide) (by decide)
    have h47 : (⟨#[47]⟩ : ByteArray).size = 1 := rfl
    refine ⟨(⟨#[47]⟩ : ByteArray) ++ s, p + 1, Ev.step (f := fun k => (spec_l6Rd_of.f k b p (([(⟨#[97]⟩ : ByteArray), (⟨#[98]⟩ : ByteArray), (⟨#[97, 47, 98]⟩ : ByteArray), (⟨#[99, 47, 46, 46, 47, 98]⟩ : ByteArray), (⟨#[]⟩ : ByteArray), (⟨#[120, 47, 46, 47, 99]⟩ : ByteArray)] : List ByteArray))).bind fun bt => if 1 + bt.1.size ≤ 9223372036854775807 then some ((⟨#[47]⟩ : ByteArray) ++ bt.1, bt.2) else none) (fun k => ?_) (Ev.bind h ?_), by rw [ByteArray.size_append]; omega, by omega, by omega⟩
    · simp only [spec_l71Ref.j0]
      rw [if_neg hy, if_pos x2]
    · simp only [show 1 + s.size ≤ 9223372036854775807 from by omega, if_true]
      exact Ev.now _
  by_cases x3 : x = 3
  · obtain ⟨s, h, hz⟩ := of_sz hc p (([(⟨#[46, 46]⟩ : ByteArray), (⟨#[46, 46, 47, 99]⟩ : ByteArray), (⟨#[46, 46, 47, 46, 46, 47, 46, 46]⟩ : ByteArray), (⟨#[46]⟩ : ByteArray), (⟨#[46, 47, 97]⟩ : ByteArray)] : List ByteArray)) 9 h0 (by omega) (by decide) (by decide)
    refine ⟨s, p + 1, Ev.step (fun k => ?_) (Ev.bind (f := fun k bt => some (bt.1, bt.2)) h (Ev.now _)), by omega, by omega, by omega⟩
    simp only [spec_l71Ref.j0]
    rw [if_neg hy, if_neg x2, if_pos x3]
  by_cases x4 : x = 4
  · obtain ⟨s, h, hz⟩ := of_sz hc p (([(⟨#[63, 97]⟩ : ByteArray), (⟨#[63]⟩ : ByteArray), (⟨#[35, 116, 111, 112]⟩ : ByteArray), (⟨#[]⟩ : ByteArray), (⟨#[97, 35, 98]⟩ : ByteArray), (⟨#[98, 63, 97]⟩ : ByteArray)] : List ByteArray)) 9 h0 (by omega) (by decide) (by decide)
    refine ⟨s, p + 1, Ev.step (fun k => ?_) (Ev.bind (f := fun k bt => some (bt.1, bt.2)) h (Ev.now _)), by omega, by omega, by omega⟩
    simp only [spec_l71Ref.j0]
    rw [if_neg hy, if_neg x2, if_neg x3, if_pos x4]
  by_cases x5 : x = 5
  · obtain ⟨s, h, hz⟩ := of_sz hc p (([(⟨#[47, 47, 65, 66, 47, 97]⟩ : ByteArray), (⟨#[47, 47, 99, 100]⟩ : ByteArray), (⟨#[47, 47, 99, 100, 63, 120]⟩ : ByteArray), (⟨#[47, 47, 97, 98, 47, 37, 54, 49]⟩ : ByteArray), (⟨#[47, 47, 116, 111, 111, 108, 111, 110, 103, 47, 97]⟩ : ByteArray), (⟨#[47, 47, 97, 49, 47, 98]⟩ : ByteArray), (⟨#[47, 47, 47, 97]⟩ : ByteArray)] : List ByteArray)) 20 h0 (by omega) (by decide) (by decide)
    refine ⟨s, p + 1, Ev.step (fun k => ?_) (Ev.bind (f := fun k bt => some (bt.1, bt.2)) h (Ev.now _)), by omega, by omega, by omega⟩
    simp only [spec_l71Ref.j0]
    rw [if_neg hy, if_neg x2, if_neg x3, if_neg x4, if_pos x5]
  · obtain ⟨s, h, hz⟩ := of_sz hc p (([(⟨#[97]⟩ : ByteArray), (⟨#[98]⟩ : ByteArray), (⟨#[99]⟩ : ByteArray), (⟨#[97, 47, 98]⟩ : ByteArray)] : List ByteArray)) 9 h0 (by omega) (by decide) (by decide)
    refine ⟨s, p + 1, Ev.step (fun k => ?_) (Ev.bind (f := fun k bt => some (bt.1, bt.2)) h (Ev.now _)), by omega, by omega, by omega⟩
    simp only [spec_l71Ref.j0]
    rw [if_neg hy, if_neg x2, if_neg x3, if_neg x4, if_neg x5]

theorem ref_ev {b : List Int} (hc : Code b) (p : Int) (h0 : 0 ≤ p) (h1 : p ≤ 1000000000) : ∃ s p', Ev (fun k => spec_l71Ref.f k b p) (s, p') ∧ s.size ≤ 60 ∧ p ≤ p' ∧ p' ≤ p + 20 := by
  obtain ⟨v, hv, v0, v1⟩ := pick_ev hc p 8 h0 (by omega)
  by_cases hv0 : v = 0
  · obtain ⟨s, p', h, h2, h3, h4⟩ := ref_j hc v (v == 0) (p + 1) (by omega) (by omega)
    refine ⟨s, p', ?_, h2, by omega, by omega⟩
    unfold spec_l71Ref.f
    refine Ev.bind hv ?_
    simp only [if_pos hv0]
    exact h
  · obtain ⟨s, p', h, h2, h3, h4⟩ := ref_j hc v (v == 1) (p + 1) (by omega) (by omega)
    refine ⟨s, p', ?_, h2, by omega, by omega⟩
    unfold spec_l71Ref.f
    refine Ev.bind hv ?_
    simp only [if_neg hv0]
    exact h

theorem page_l {b : List Int} (hc : Code b) (d : Nat) : ∀ (p : Int) (t : ByteArray), 0 ≤ p → p + 50 * d ≤ 1000000000 → t.size + 150 * d ≤ 10000 →
    ∃ s p', Ev (fun k => spec_l71Page.l0 k t (d : Int) b p) (s, p') ∧ s.size ≤ 10000 ∧ p ≤ p' ∧ p' ≤ p + 50 * d := by
  induction d with
  | zero =>
    intro p t h0 h1 ht
    refine ⟨t, p, Ev.of (fun k => spec_l71Page.mono_l k _ _ _ _) (k := 1) ?_, by omega, by omega, by omega⟩
    simp only [spec_l71Page.l0]
    rw [if_neg (by omega)]
  | succ d ih =>
    intro p t h0 h1 ht
    have hw : wrap64 (((d + 1 : Nat) : Int) - 1) = (d : Int) := by rw [w64 (by omega) (by omega)]; omega
    have hpos : ((d + 1 : Nat) : Int) > 0 := by omega
    obtain ⟨v, hv, v0, v1⟩ := pick_ev hc p 9 h0 (by omega)
    obtain ⟨r1, p1, hr1, z1, a1, b1⟩ := ref_ev hc (p + 1) (by omega) (by omega)
    obtain ⟨r2, p2, hr2, z2, a2, b2⟩ := ref_ev hc p1 (by omega) (by omega)
    have s40 : (⟨#[40]⟩ : ByteArray).size = 1 := rfl
    have s60 : (⟨#[60]⟩ : ByteArray).size = 1 := rfl
    have s62 : (⟨#[62]⟩ : ByteArray).size = 1 := rfl
    have s6241 : (⟨#[62, 41]⟩ : ByteArray).size = 2 := rfl
    have s6033 : (⟨#[60, 33]⟩ : ByteArray).size = 2 := rfl
    have s6064 : (⟨#[60, 64]⟩ : ByteArray).size = 2 := rfl
    by_cases c0 : v = 0
    · obtain ⟨s, p', h, h2, h3, h4⟩ := ih p2 (((((t ++ (⟨#[40]⟩ : ByteArray)) ++ r1) ++ (⟨#[60]⟩ : ByteArray)) ++ r2) ++ (⟨#[62, 41]⟩ : ByteArray)) (by omega) (by omega) (by simp only [ByteArray.size_append]; omega)
      refine ⟨s, p', Ev_succ ?_, h2, by omega, by omega⟩
      simp only [spec_l71Page.l0, hpos, hw, if_true]
      refine Ev.bind hv ?_
      simp only [c0, if_true, show t.size + 1 ≤ 9223372036854775807 from by omega]
      refine Ev.bind hr1 ?_
      simp only [show t.size + 1 + r1.size ≤ 9223372036854775807 from by omega, show t.size + 1 + r1.size + 1 ≤ 9223372036854775807 from by omega, if_true]
      refine Ev.bind hr2 ?_
      simp only [show t.size + 1 + r1.size + 1 + r2.size ≤ 9223372036854775807 from by omega, show t.size + 1 + r1.size + 1 + r2.size + 2 ≤ 9223372036854775807 from by omega, if_true]
      exact h
    by_cases c1 : v = 1
    · obtain ⟨s, p', h, h2, h3, h4⟩ := ih p1 (((t ++ (⟨#[60, 33]⟩ : ByteArray)) ++ r1) ++ (⟨#[62]⟩ : ByteArray)) (by omega) (by omega) (by simp only [ByteArray.size_append]; omega)
      refine ⟨s, p', Ev_succ ?_, h2, by omega, by omega⟩
      simp only [spec_l71Page.l0, hpos, hw, if_true]
      refine Ev.bind hv ?_
      simp only [c0, c1, if_true, if_false, show t.size + 2 ≤ 9223372036854775807 from by omega]
      refine Ev.bind hr1 ?_
      simp only [show t.size + 2 + r1.size ≤ 9223372036854775807 from by omega, show t.size + 2 + r1.size + 1 ≤ 9223372036854775807 from by omega, if_true]
      exact h
    by_cases c2 : v = 2
    · obtain ⟨s, p', h, h2, h3, h4⟩ := ih p1 (((t ++ (⟨#[60, 64]⟩ : ByteArray)) ++ r1) ++ (⟨#[62]⟩ : ByteArray)) (by omega) (by omega) (by simp only [ByteArray.size_append]; omega)
      refine ⟨s, p', Ev_succ ?_, h2, by omega, by omega⟩
      simp only [spec_l71Page.l0, hpos, hw, if_true]
      refine Ev.bind hv ?_
      simp only [c0, c1, c2, if_true, if_false, show t.size + 2 ≤ 9223372036854775807 from by omega]
      refine Ev.bind hr1 ?_
      simp only [show t.size + 2 + r1.size ≤ 9223372036854775807 from by omega, show t.size + 2 + r1.size + 1 ≤ 9223372036854775807 from by omega, if_true]
      exact h
    by_cases c3 : v = 3
    · obtain ⟨q, hq, hz⟩ := of_sz hc (p + 1) (([(⟨#[116, 101, 120, 116, 32]⟩ : ByteArray), (⟨#[60]⟩ : ByteArray), (⟨#[62]⟩ : ByteArray), (⟨#[40]⟩ : ByteArray), (⟨#[41]⟩ : ByteArray), (⟨#[60, 97]⟩ : ByteArray)] : List ByteArray)) 5 (by omega) (by omega) (by decide) (by decide)
      obtain ⟨s, p', h, h2, h3, h4⟩ := ih (p + 1 + 1) (t ++ q) (by omega) (by omega) (by simp only [ByteArray.size_append]; omega)
      refine ⟨s, p', Ev_succ ?_, h2, by omega, by omega⟩
      simp only [spec_l71Page.l0, hpos, hw, if_true]
      refine Ev.bind hv ?_
      simp only [c0, c1, c2, c3, if_true, if_false]
      refine Ev.bind hq ?_
      simp only [show t.size + q.size ≤ 9223372036854775807 from by omega, if_true]
      exact h
    · obtain ⟨s, p', h, h2, h3, h4⟩ := ih p1 (((t ++ (⟨#[60]⟩ : ByteArray)) ++ r1) ++ (⟨#[62]⟩ : ByteArray)) (by omega) (by omega) (by simp only [ByteArray.size_append]; omega)
      refine ⟨s, p', Ev_succ ?_, h2, by omega, by omega⟩
      simp only [spec_l71Page.l0, hpos, hw, if_true]
      refine Ev.bind hv ?_
      simp only [c0, c1, c2, c3, if_true, if_false, show t.size + 1 ≤ 9223372036854775807 from by omega]
      refine Ev.bind hr1 ?_
      simp only [show t.size + 1 + r1.size ≤ 9223372036854775807 from by omega, show t.size + 1 + r1.size + 1 ≤ 9223372036854775807 from by omega, if_true]
      exact h

theorem page_ev {b : List Int} (hc : Code b) (p : Int) (h0 : 0 ≤ p) (h1 : p ≤ 100000000) : ∃ s p', Ev (fun k => spec_l71Page.f k b p) (s, p') ∧ s.size ≤ 10000 ∧ p ≤ p' ∧ p' ≤ p + 300 := by
  obtain ⟨v, hv, v0, v1⟩ := pick_ev hc p 5 h0 (by omega)
  have v2 := v1 (by omega)
  obtain ⟨n, rfl⟩ := Int.eq_ofNat_of_zero_le v0
  obtain ⟨s, p', h, h2, h3, h4⟩ := page_l hc n (p + 1) ⟨#[]⟩ (by omega) (by omega) (by have : (⟨#[]⟩ : ByteArray).size = 0 := rfl; omega)
  refine ⟨s, p', ?_, h2, by omega, by omega⟩
  unfold spec_l71Page.f
  exact Ev.bind hv h

end Go.Proofs.Ytmaleoldpmiilaa.Draw

/- A page is drawn of every code; no condition. -/
namespace Go.Proofs.Ytmaleoldpmiilaa.Draw
open Go.RowKit Go.Proofs.Ytmaleoldpmiilaa.P Go.Proofs.YtmaleoldpmiilaaW.PrintWords Go.Proofs.YtmaleoldpmiilaaW.PrintLast Go.Proofs.Ytmaleoldpmiilaa.B
theorem drawLinks_ev (l0 : List Int) (hw : ∀ x ∈ l0, (Lit.int .u8 x).wf = true) : ∃ t, Ev (fun k => spec_DrawPageLinks.f k l0) t ∧ t.size ≤ 10000 := by
  obtain ⟨b, hb, hc⟩ := open_some l0 hw
  obtain ⟨t1, p1, h1, z1, _, _⟩ := page_ev hc 0 (by omega) (by omega)
  refine ⟨t1, ?_, z1⟩
  unfold spec_DrawPageLinks.f
  simp only [hb, Option.bind_some]
  exact Ev.bind h1 (Ev.now _)
end Go.Proofs.Ytmaleoldpmiilaa.Draw

/- The laws' comparison of two lists of texts tells whether they are the same; lists of at most 2^60 texts. -/
namespace Go.Proofs.Ytmaleoldpmiilaa.Lp
open Go.RowKit Go.Proofs.Ytmaleoldpmiilaa.P Go.Proofs.YtmaleoldpmiilaaW.PrintWords Go.Proofs.YtmaleoldpmiilaaW.PrintLast Go.Proofs.YtmaleoldpmiilaaW.PrintMore Go.Proofs.Ytmaleoldpmiilaa.B
set_option linter.unusedVariables false
set_option linter.unusedSimpArgs false
theorem eqS_l (l : List ByteArray) (hn : l.length < 1152921504606846976) (d : Nat) : ∀ (i : Nat), i + d = l.length → Ev (fun k => laws_lpTexts.l0 k l l i) true := by
  induction d with
  | zero =>
    intro i hi
    refine Ev.of (fun k => laws_lpTexts.mono_l k _ _ _) (k := 1) ?_
    simp only [laws_lpTexts.l0]
    rw [if_neg (by omega)]
  | succ d ih =>
    intro i hi
    refine Ev.step (f := fun k => laws_lpTexts.l0 k l l (i + 1 : Nat)) (fun k => ?_) (ih (i + 1) (by omega))
    simp only [laws_lpTexts.l0]
    rw [if_pos (by omega), if_pos (by omega), if_pos (by omega), if_pos trivial, w64 (n := (i : Int) + 1) (by omega) (by omega), show (i : Int) + 1 = ((i + 1 : Nat) : Int) from by omega]
theorem same_ev (l : List ByteArray) (hn : l.length < 1152921504606846976) : Ev (fun k => laws_lpTexts.f k l l) true := by
  unfold laws_lpTexts.f
  simp only [if_true]
  exact eqS_l l hn l.length 0 (by omega)
end Go.Proofs.Ytmaleoldpmiilaa.Lp

/- In a drawn page there are no more ways than marks' ends, and the program's PageLinks is the reference's; no condition. -/
namespace Go.Proofs.Ytmaleoldpmiilaa.Pure
open Go.RowKit Go.Proofs.Ytmaleoldpmiilaa.P Go.Proofs.YtmaleoldpmiilaaW.PrintWords Go.Proofs.YtmaleoldpmiilaaW.PrintLast Go.Proofs.Ytmaleoldpmiilaa.Mk Go.Proofs.Ytmaleoldpmiilaa.Draw Go.Proofs.Ytmaleoldpmiilaa.B
set_option linter.unusedSimpArgs false
set_option linter.unusedVariables false
theorem count_l (t : ByteArray) (ls : List ByteArray) (hs : t.size ≤ 10000) (hl : ls.length ≤ cnt t t.size) (d : Nat) : ∀ (i : Nat), i + d = t.size → cnt t i ≤ i →
    Ev (fun k => laws_FnLinksNone.l0 k t ls (cnt t i : Int) (i : Int)) true := by
  induction d with
  | zero =>
    intro i hi hc
    obtain rfl : i = t.size := by omega
    refine Ev_succ ?_
    simp only [laws_FnLinksNone.l0, show ¬ ((t.size : Int) < (t.size : Int)) from by omega, if_false, show (ls.length : Int) ≤ (cnt t t.size : Int) from by omega, if_true]
    refine Ev.bind (impl_links_ev ⟨#[]⟩) ?_
    exact Ev.now _
  | succ d ih =>
    intro i hi hc
    have hw : wrap64 ((i : Int) + 1) = ((i + 1 : Nat) : Int) := by rw [Go.Proofs.Ytmaleoldpmiilaa.B.w64 (by omega) (by omega)]; omega
    have hw2 : wrap64 ((cnt t i : Int) + 1) = ((cnt t i + 1 : Nat) : Int) := by rw [Go.Proofs.Ytmaleoldpmiilaa.B.w64 (by omega) (by omega)]; omega
    refine Ev_succ ?_
    simp only [laws_FnLinksNone.l0, show (i : Int) < (t.size : Int) from by omega, show 0 ≤ (i : Int) from by omega, if_true, hw, hw2]
    have hn := ih (i + 1) (by omega) (by simp only [cnt]; split <;> omega)
    by_cases hb : bt t i = 62
    · simp only [hb, if_true]
      simp only [cnt, hb, if_true] at hn
      exact hn
    · simp only [hb, if_false]
      simp only [cnt, hb, if_false] at hn
      exact hn
theorem FnLinksNone : laws_FnLinksNone.Pure := by
  intro l0 hm hz hw
  refine Ev.rounds ?_
  unfold laws_FnLinksNone.f
  by_cases h : (l0.length : Int) > 1048576
  · simp only [h, if_true]; exact Ev.now _
  simp only [h, if_false]
  obtain ⟨t, ht, hs⟩ := drawLinks_ev l0 hw
  have hl : (links (marks t)).length ≤ 300 := Nat.le_trans (links_len _) (marks_len _)
  have he := Lp.same_ev (links (marks t)) (by omega)
  refine Ev.bind ht (Ev.bind (impl_links_ev t) (Ev.bind (spec_links_ev t (by omega)) (Ev.bind he ?_)))
  simp only [if_true]
  refine count_l t _ hs ?_ t.size 0 (by omega) (by simp [cnt])
  refine Nat.le_trans (links_len _) ?_
  unfold marks
  split
  · exact marks_cnt t t.size
  · simp
end Go.Proofs.Ytmaleoldpmiilaa.Pure

namespace Go.Proofs.Ytmaleoldpmiilaa.fnLinksNone
open Go.ChangeShapes Go.WideShapes Go.ChangeAt Go.RowKit
open Go.ChangeMaps (open_string shut_string)
set_option linter.unusedVariables false
theorem own : ownKnob Try.prog.godebug = none := by kernel_rfl
theorem laidOut : laidOutB Try.prog = true := by kernel_rfl
def IsRow (k : IntKind) (w : World) (a : Option Addr) (len cap : Nat) (zs : List Int) : Prop :=
  (a = none ∧ len = 0 ∧ cap = 0 ∧ zs = []) ∨
  ∃ x, a = some x ∧ len ≤ cap ∧ cap ≤ maxLen ∧ zs.length = cap ∧ (∀ i, i < zs.length → w.cell? (x.add i) = some (.int k (zs.getD i 0))) ∧ ∀ n ∈ zs, (Lit.int k n).wf = true
set_option maxRecDepth 100000 in
theorem lifted (os : Os) (started : os.Started) (H : Type) (enc : TypeId × Value → H) :
    ReturnsInHanded {} Try.checked os 7 .any (Rows.fnLinksNoneSpec.pre6 enc Try.prog Try.f7 Rows.fnLinksNoneRow.domain false) (Rows.fnLinksNoneSpec.post enc Try.prog Try.f7 false true false false) := by
  refine returnsInHanded_of_change_sized (C := Try.checked) own started (by kernel_rfl) Try.func7
    (ChangeSpec.witness6 (enc := enc) (C := Try.checked) false ⟨#[], #[.slice none 0 0], []⟩ 8 (by kernel_rfl) (by kernel_rfl) (by kernel_rfl) (by kernel_rfl)) ?_
  intro W base args ds gs before hval0 hW hcnd hsz0 _
  have hsz : (DataW.weightsEach Try.prog (Try.f7.params.toList ++ Rows.fnLinksNoneSpec.plain.varTypes Try.prog) (ds ++ gs)).all (· ≤ reachBytes) = true := hsz0
  have hval : ∀ (j : Nat) t v, Try.f7.params[j]? = some t → args[j]? = some v → Value.okWide Try.prog W .any base t v := hval0
  have hW' := hW
  obtain ⟨p, q, hA0, hV, rfl, hfz, hnd⟩ := hW
  have hA : DataW.TrodAll enc Try.prog W 0 (fun _ => true) true Try.f7.params.toList args.toList ds p := hA0
  rw [Try.params7] at hA hval hsz
  obtain ⟨v0, vs0, d0, ds0, p0, q0, hargs, rfl, rfl, h0, r0⟩ := trodAll_cons hA
  obtain ⟨rfl, rfl, rfl⟩ := trodAll_nil r0
  obtain rfl : args = #[v0] := by cases args; simp_all
  obtain ⟨rfl, rfl⟩ := trodVars_none hV
  obtain ⟨a0, len0, cap0, rfl⟩ := okWide_slice Try.underlying29 (hval 0 29 v0 rfl rfl)
  have k0 := h0
  have lt0 : ∀ x ∈ p0, x.block < W.heap.size := by obtain ⟨m, hm⟩ := k0; exact DataW.trod_lt m _ _ _ hm
  obtain ⟨z0, w0⟩ : ∃ zs, IsRow .u8 W a0 len0 cap0 zs := by
    obtain ⟨fuel, hf⟩ := h0
    rcases open_ints Try.underlying29 Try.underlying5 (by kernel_rfl) hf with ⟨hcs, _⟩ | ⟨x, l, c, zs, hcs, _, hl, hm, hz, _, hcell, hwz⟩
    · simp [Value.cells] at hcs
      obtain ⟨rfl, rfl, rfl⟩ := hcs
      exact ⟨[], .inl ⟨rfl, rfl, rfl, rfl⟩⟩
    · simp [Value.cells] at hcs
      obtain ⟨rfl, rfl, rfl⟩ := hcs
      exact ⟨zs, .inr ⟨_, rfl, hl, hm, by simpa using hz, hcell, hwz⟩⟩
  have y0 : len0 * 1 ≤ 140737488351232 := YtmaleoldpmiilaaW.PrintWords.sized_ints hsz (j := 0) (t := 29) rfl rfl Try.underlying29 Try.underlying5 (by kernel_rfl) (by kernel_rfl) h0
  clear hA0 hval0 hsz0 hsz
  refine (P.laws_FnLinksNone.walk Pure.FnLinksNone a0 len0 cap0 z0 W w0 y0).mono fun e W' ⟨he, bel⟩ => ?_
  subst he
  exact ⟨_, rfl, _, _, _, [], _, [], hW', trodAll_mk1 (shut_bool Try.underlying4 _), (trodAll_cons_mk (Below.trod laidOut (by kernel_rfl) (of_decide_eq_true (by kernel_rfl)) k0 bel lt0) trodAll_mk0), rfl, bel.frame _, fun h => by cases h⟩
theorem over : Rows.fnLinksNoneRow.holds Try.pinned (OpenSpec.ofChange Rows.fnLinksNoneSpec) :=
  OpenClaim.holds_of_wide 7 Try.f7 rfl rfl rfl rfl rfl rfl rfl ⟨rfl, rfl, rfl, rfl, rfl⟩ rfl rfl rfl rfl rfl (by kernel_rfl) Try.func7 (by kernel_rfl)
    (of_decide_eq_true (by kernel_rfl)) (by unfold Func.isWrapper; first | (rw [if_pos (by decide +kernel)]; kernel_rfl) | (rw [if_neg (by decide +kernel)]; exact ⟨rfl, rfl⟩))
    (fun os started H enc _ => lifted os started H enc)
theorem proved : Rows.FnLinksNoneSaid := over
#print axioms proved
end Go.Proofs.Ytmaleoldpmiilaa.fnLinksNone
namespace Go.Proofs.Ytmaleoldpmiilaa
/-- The row, under a short name, for the claim. -/
theorem fnLinksNone_holds : Rows.FnLinksNoneSaid := fnLinksNone.proved
end Go.Proofs.Ytmaleoldpmiilaa
