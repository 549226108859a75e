/- FnExactPageLinks holds of the given program at every input: it reports whether PageLinks, for these arguments, returns the same value as the reference model in every field, leaves its arguments unmodified, and returns memory that it shares neither with its arguments nor with the result of another call. No condition. Written by a program of this session (wip/pr.py). -/
import Derived.Test.YtmaleoldpmiilaaZFnExactPageLinksa
import Derived.Test.YtmaleoldpmiilaaRows
import Derived.WalkKit
import Derived.ProofKit
import Derived.OpenShut
import Derived.ShutString
import Derived.ChangeOld
import Derived.Below
import Derived.SizedLaws

/- The plain function of a Go function, and that Go comes to just its answer; its conditions are the theorem's own. Written by a program of this session (wip/pr.py). -/
namespace Go.Proofs.Ytmaleoldpmiilaa.P
open Go.RowKit Go.Proofs.YtmaleoldpmiilaaW.PrintWords Go.Proofs.YtmaleoldpmiilaaW.PrintLast Go.Proofs.YtmaleoldpmiilaaW.PrintMore
attribute [local go_sem] max2_int min2_int max_two min_two max_three min_three max_four min_four   -- for this text's walks alone
set_option linter.unusedVariables false
set_option linter.unusedSimpArgs false

/-! ### impl_PageBase: function 10 -/
def impl_PageBase.l0 : Nat → List ByteArray → Int → Int → Option (ByteArray × Bool)
  | 0, _, _, _ => none
  | k + 1, x7, x8, x9 => if x9 < x8 then (if 0 ≤ x9 then (if x9 < (x7.length : Int) then ((impl_beginsWith.f (rdOf ByteArray.empty x7 x9) 64).bind fun t117 => (if t117 = true then (if 1 ≤ ((rdOf ByteArray.empty x7 x9).size : Int) then (some ((rdOf ByteArray.empty x7 x9).extract 1 (rdOf ByteArray.empty x7 x9).size, true)) else (none)) else (impl_PageBase.l0 k x7 x8 (wrap64 (x9 + 1))))) else (none)) else (none)) else (some ((⟨#[]⟩ : ByteArray), false))
def impl_PageBase.f (k : Nat) (a0 : ByteArray) : Option (ByteArray × Bool) := (impl_pageMarks.f a0).bind fun t113 => (impl_PageBase.l0 k t113 (t113.length : Int) 0)
theorem impl_PageBase.mono_l : ∀ k, (∀ y0 y1 y2, LeO (impl_PageBase.l0 k y0 y1 y2) (impl_PageBase.l0 (k + 1) y0 y1 y2))
  | 0 => fun _ _ _ r h => by simp [impl_PageBase.l0] at h
  | k + 1 => by
    have ih0 := impl_PageBase.mono_l k
    · intro y0 y1 y2
      unfold impl_PageBase.l0
      repeat' first
      | (with_reducible exact ih0 _ _ _)
      | (with_reducible exact LeO.refl _)
      | (with_reducible exact LeO.none _)
      | (with_reducible refine LeO.ite ?_ ?_)
      | (with_reducible refine LeO.bind ?_ (fun _ => ?_))
      | exact ih0 _ _ _
      | exact LeO.none _
      | refine LeO.ite ?_ ?_
      | refine LeO.bind ?_ (fun _ => ?_)
theorem impl_PageBase.mono : ∀ a0 k, LeO (impl_PageBase.f k a0) (impl_PageBase.f (k + 1) a0) := by
  intro a0 k
  have ih0 := impl_PageBase.mono_l k
  unfold impl_PageBase.f
  repeat' first
      | (with_reducible exact ih0 _ _ _)
      | (with_reducible exact LeO.refl _)
      | (with_reducible exact LeO.none _)
      | (with_reducible refine LeO.ite ?_ ?_)
      | (with_reducible refine LeO.bind ?_ (fun _ => ?_))
      | exact ih0 _ _ _
      | exact LeO.none _
      | refine LeO.ite ?_ ?_
      | refine LeO.bind ?_ (fun _ => ?_)
set_option maxHeartbeats 8000000 in
set_option maxRecDepth 100000 in
theorem impl_PageBase.calls (k : Nat) (a0 : ByteArray) (r1 : ByteArray) (r2 : Bool) (w : World) (h : impl_PageBase.f k a0 = some (r1, r2)) :
    Calls Try.prog 10 #[.string a0] w fun e w' => e = .returned (.tuple #[.string r1, .bool r2]) ∧ Below w.heap.size w w' := by
  have HB := Aside0.mk (Below.refl w.heap.size w)
  have H : ((impl_pageMarks.f a0).bind fun t113 => (impl_PageBase.l0 k t113 (t113.length : Int) 0)) = some (r1, r2) := h
  clear h
  replace H := Option.bind_eq_some_iff.mp H
  obtain ⟨t113, A20, H⟩ := H
  replace H : (impl_PageBase.l0 k t113 (t113.length : Int) 0) = some (r1, r2) := H
  have A2 := Aside0.mk A20
  clear A20
  have H' := Aside0.mk H
  clear H
  go_enter Try.func10, Try.ntmps10
  go_wp2_with (first | ((with_reducible refine gate_callee (f := 21) rfl ?_); refine goesL_ (some 7) rfl rfl Try.func21 (by kernel_rfl) rfl #[.string a0] rfl (by (try simp only [List.map_toArray, List.map_cons, List.map_nil]); first | done | rfl | (simp only [List.length_drop, List.length_take]; rfl)) ?_; (with_reducible refine (impl_pageMarks.calls a0 t113 _ A2.out).mono ?_); rintro e w3 ⟨v114, rfl, ho0, hb⟩; refine ⟨_, rfl, ?_⟩; have n0_ := Aside0.mk (Kd.R_lower ho0 (below_size (by repeat (first | (with_reducible first | exact HB.out | apply below_alloc | apply pw_below_drewN | apply below_drew1) | exact HB.out)))); have n1_ := Aside0.mk (below_step (by repeat (first | (with_reducible first | exact HB.out | apply below_alloc | apply pw_below_drewN | apply below_drew1) | exact HB.out)) hb); clear HB; have HO115 := n0_; have HB := n1_; clear n0_ n1_; (try clear hb); (try clear hb2); (try clear hk); (try clear hi); (try clear ho0); obtain ⟨Ao4, co4, eo4⟩ := Kd.R_slice HO115.out; subst eo4))
  go_loopg [9] k (fun kq v9 w' => ∃ (x9_1 : Int), v9 = .int .i64 x9_1 ∧ Aside0 (impl_PageBase.l0 kq t113 (t113.length : Int) x9_1 = some (r1, r2)) ∧ Aside0 (kq ≤ k) ∧ Aside0 (Kd.R Kd.string 9 w' w.heap.size (fun _ => True) (.slice Ao4 t113.length co4) t113) ∧ Aside0 (Below w.heap.size w w'))
  case atStart => exact ⟨(0), (by first | rfl | (simp only [i64_w, i32_w]; done) | (simp only [aid_isEmpty, aid_isEmpty2]; done) | (simp; done) | (simp [*]; done)), H', ⟨Nat.le_refl _⟩, ⟨by (with_reducible repeat (first | apply Kd.R_alloc | apply Kd.R_drewN | apply Kd.R_drew)); exact HO115.out⟩, ⟨by repeat (first | (with_reducible first | exact HB.out | apply below_alloc | apply pw_below_drewN | apply below_drew1) | exact HB.out)⟩⟩
  case round =>
    clear H'
    try clear c1
    try clear c2
    try clear p2
    obtain ⟨x9_1, rfl, HA, HK1, HO_7, HB⟩ := hrel
    cases gk with
    | zero => exact absurd HA.out (by simp [impl_PageBase.l0])
    | succ k1 =>
      have H := HA.out
      clear HA
      simp only [impl_PageBase.l0] at H
      by_cases c5 : x9_1 < (t113.length : Int)
      · rw [if_pos c5] at H
        have c5b0 : decide (x9_1 < (t113.length : Int)) = true := decide_eq_true c5
        clear c5
        by_cases c6 : 0 ≤ x9_1
        · rw [if_pos c6] at H
          have c6b0 : decide (0 ≤ x9_1) = true := decide_eq_true c6
          clear c6
          by_cases c7 : x9_1 < (t113.length : Int)
          · rw [if_pos c7] at H
            have c7b0 : decide (x9_1 < (t113.length : Int)) = true := decide_eq_true c7
            clear c7
            replace H := Option.bind_eq_some_iff.mp H
            obtain ⟨t117, A80, H⟩ := H
            replace H : (if t117 = true then (if 1 ≤ ((rdOf ByteArray.empty t113 x9_1).size : Int) then (some ((rdOf ByteArray.empty t113 x9_1).extract 1 (rdOf ByteArray.empty t113 x9_1).size, true)) else (none)) else (impl_PageBase.l0 k1 t113 (t113.length : Int) (wrap64 (x9_1 + 1)))) = some (r1, r2) := H
            have A8 := Aside0.mk A80
            clear A80
            by_cases c9 : t117 = true
            · subst c9
              have H1 : (if 1 ≤ ((rdOf ByteArray.empty t113 x9_1).size : Int) then (some ((rdOf ByteArray.empty t113 x9_1).extract 1 (rdOf ByteArray.empty t113 x9_1).size, true)) else (none)) = some (r1, r2) := by rw [if_pos rfl] at H; exact H
              clear H
              have H := H1
              clear H1
              by_cases c10 : 1 ≤ ((rdOf ByteArray.empty t113 x9_1).size : Int)
              · rw [if_pos c10] at H
                have c10b0 := eq_true c10
                have c10b1 : decide (1 ≤ ((rdOf ByteArray.empty t113 x9_1).size : Int)) = true := decide_eq_true c10
                clear c10
                simp only [Option.some.injEq, Prod.mk.injEq] at H
                obtain ⟨rfl, rfl⟩ := H
                have p116 : 0 ≤ (x9_1 : Int) := of_decide_eq_true (by first | (with_reducible assumption) | assumption)
                have q116 : x9_1 < (t113.length : Int) := of_decide_eq_true (by first | (with_reducible assumption) | assumption)
                obtain ⟨ad116, e116, hx116_0⟩ := Kd.at_string (Kd.R_reads' HO_7.out).2.2 x9_1 p116 q116
                cases e116
                replace p116 := eq_true p116
                replace q116 := eq_true q116
                go_wp2_with (first | ((with_reducible refine gate_callee (f := 22) rfl ?_); refine goesL_ (some 14) rfl rfl Try.func22 (by kernel_rfl) rfl #[.string (rdOf ByteArray.empty t113 x9_1), .int .u8 64] rfl (by (try simp only [List.map_toArray, List.map_cons, List.map_nil]); first | done | rfl | (simp only [List.length_drop, List.length_take]; rfl)) ?_; (with_reducible refine (impl_beginsWith.calls (rdOf ByteArray.empty t113 x9_1) 64 true _ A8.out).mono ?_); rintro e w' ⟨rfl, ⟨nd, rfl⟩⟩; refine ⟨_, rfl, ?_⟩))
                go_ret2
                exact ⟨by first | rfl | (simp [errW_none, errW_some] <;> rfl) | (simp [*, errW_none, errW_some] <;> rfl), by repeat (first | (with_reducible first | exact HB.out | apply below_alloc | apply pw_below_drewN | apply below_drew1) | exact HB.out)⟩
              · rw [if_neg c10] at H
                exact absurd H (by simp)
            · replace c9 := Bool.eq_false_iff.mpr c9
              subst c9
              have H1 : (impl_PageBase.l0 k1 t113 (t113.length : Int) (wrap64 (x9_1 + 1))) = some (r1, r2) := by rw [if_neg (show ¬ (false = true) by decide)] at H; exact H
              clear H
              have H := H1
              clear H1
              have H' := Aside0.mk H
              clear H
              have p116 : 0 ≤ (x9_1 : Int) := of_decide_eq_true (by first | (with_reducible assumption) | assumption)
              have q116 : x9_1 < (t113.length : Int) := of_decide_eq_true (by first | (with_reducible assumption) | assumption)
              obtain ⟨ad116, e116, hx116_0⟩ := Kd.at_string (Kd.R_reads' HO_7.out).2.2 x9_1 p116 q116
              cases e116
              replace p116 := eq_true p116
              replace q116 := eq_true q116
              go_wp2_with (first | ((with_reducible refine gate_callee (f := 22) rfl ?_); refine goesL_ (some 14) rfl rfl Try.func22 (by kernel_rfl) rfl #[.string (rdOf ByteArray.empty t113 x9_1), .int .u8 64] rfl (by (try simp only [List.map_toArray, List.map_cons, List.map_nil]); first | done | rfl | (simp only [List.length_drop, List.length_take]; rfl)) ?_; (with_reducible refine (impl_beginsWith.calls (rdOf ByteArray.empty t113 x9_1) 64 false _ A8.out).mono ?_); rintro e w' ⟨rfl, ⟨nd, rfl⟩⟩; refine ⟨_, rfl, ?_⟩))
              go_roundg k1
              case measure => have := HK1.out; omega
              case rel => exact ⟨(wrap64 (x9_1 + 1)), (by first | rfl | (simp only [i64_w, i32_w]; done) | (simp only [aid_isEmpty, aid_isEmpty2]; done) | (simp; done) | (simp [*]; done)), H', ⟨by have := HK1.out; omega⟩, ⟨by (with_reducible repeat (first | apply Kd.R_alloc | apply Kd.R_drewN | apply Kd.R_drew)); exact HO_7.out⟩, ⟨by repeat (first | (with_reducible first | exact HB.out | apply below_alloc | apply pw_below_drewN | apply below_drew1) | exact HB.out)⟩⟩
          · rw [if_neg c7] at H
            exact absurd H (by simp)
        · rw [if_neg c6] at H
          exact absurd H (by simp)
      · rw [if_neg c5] at H
        have c5b0 : decide (x9_1 < (t113.length : Int)) = false := decide_eq_false c5
        clear c5
        simp only [Option.some.injEq, Prod.mk.injEq] at H
        obtain ⟨rfl, rfl⟩ := H
        go_wp2
        go_ret2
        exact ⟨by first | rfl | (simp [errW_none, errW_some] <;> rfl) | (simp [*, errW_none, errW_some] <;> rfl), by repeat (first | (with_reducible first | exact HB.out | apply below_alloc | apply pw_below_drewN | apply below_drew1) | exact HB.out)⟩

end Go.Proofs.Ytmaleoldpmiilaa.P

/- What leads on from a page, and from where one goes: the program and the reference find the same, in every text of at most 140737488351232 bytes. -/
namespace Go.Proofs.Ytmaleoldpmiilaa.Mk
open Go.RowKit Go.Proofs.Ytmaleoldpmiilaa.P Go.Proofs.YtmaleoldpmiilaaW.PrintWords Go.Proofs.YtmaleoldpmiilaaW.PrintLast Go.Proofs.YtmaleoldpmiilaaW.PrintMore Go.Proofs.Ytmaleoldpmiilaa.B
set_option linter.unusedVariables false
set_option linter.unusedSimpArgs false

/-- Does a text begin with a byte? -/
def headIs (m : ByteArray) (c : Int) : Bool := decide (0 < m.size) && (bt m 0 == c)
theorem begins_f (m : ByteArray) (c : Int) : impl_beginsWith.f m c = some (headIs m c) := by
  unfold impl_beginsWith.f headIs
  by_cases h : m.size = 0
  · rw [if_pos (toList_nil.2 h)]; simp [h]
  · rw [if_neg (fun e => h (toList_nil.1 e)), if_pos (by omega)]
    have : 0 < m.size := by omega
    simp [this]
theorem head_f (m : ByteArray) (c : Int) (hc : c ≠ 0) : ∃ h, spec_l3Head.f m = some h ∧ (h = c ↔ headIs m c = true) := by
  unfold spec_l3Head.f headIs
  by_cases h : m.size = 0
  · rw [if_pos (toList_nil.2 h)]
    exact ⟨0, rfl, by simp [h]; omega⟩
  · rw [if_neg (fun e => h (toList_nil.1 e)), if_pos (by omega)]
    have : 0 < m.size := by omega
    exact ⟨_, rfl, by simp [this]⟩

def isLink (m : ByteArray) : Bool := !headIs m 33 && !headIs m 64
def links (ms : List ByteArray) : List ByteArray := ms.filter isLink
def base (ms : List ByteArray) : ByteArray × Bool := match ms.find? (headIs · 64) with
  | some m => (m.extract 1 m.size, true)
  | none => (⟨#[]⟩, false)

theorem links_skip {m : ByteArray} (r : List ByteArray) (h : isLink m = false) : links (m :: r) = links r := by simp [links, h]
theorem links_take {m : ByteArray} (r : List ByteArray) (h : isLink m = true) : links (m :: r) = m :: links r := by simp [links, h]
theorem base_hit {m : ByteArray} (r : List ByteArray) (h : headIs m 64 = true) : base (m :: r) = (m.extract 1 m.size, true) := by simp [base, h]
theorem base_skip {m : ByteArray} (r : List ByteArray) (h : ¬ headIs m 64 = true) : base (m :: r) = base r := by simp [base, h]
theorem rdOf_at {l : List ByteArray} {i : Nat} (h : i < l.length) : rdOf ByteArray.empty l (i : Int) = l[i] := by
  unfold rdOf
  rw [List.getD_eq_getElem?_getD, Int.toNat_natCast, List.getElem?_eq_getElem h]
  rfl

theorem impl_links_l (ms : List ByteArray) (hn : ms.length ≤ 1000) (d : Nat) : ∀ (i : Nat) (acc : List ByteArray), i + d = ms.length → acc.length ≤ i →
    Ev (fun k => impl_PageLinks.l0 k acc ms (ms.length : Int) i) (acc ++ links (ms.drop i)) := by
  induction d with
  | zero =>
    intro i acc hi _
    refine Ev.of (fun k => impl_PageLinks.mono_l k _ _ _ _) (k := 1) ?_
    simp only [impl_PageLinks.l0]
    rw [if_neg (by omega), List.drop_eq_nil_of_le (by omega)]
    simp [links]
  | succ d ih =>
    intro i acc hi ha
    have hlt : i < ms.length := by omega
    have hw : wrap64 ((i : Int) + 1) = ((i + 1 : Nat) : Int) := by rw [w64 (by omega) (by omega)]; omega
    rw [List.drop_eq_getElem_cons hlt]
    by_cases h1 : headIs ms[i] 33 = true
    · refine Ev.step (fun k => ?_) (by have := ih (i + 1) acc (by omega) (by omega); rwa [links_skip _ (by simp [isLink, h1])])
      simp only [impl_PageLinks.l0, begins_f, rdOf_at hlt, Option.bind_some]
      rw [if_pos (by omega), if_pos (by omega), if_pos (by omega), if_pos h1, hw]
    · by_cases h2 : headIs ms[i] 64 = true
      · refine Ev.step (fun k => ?_) (by have := ih (i + 1) acc (by omega) (by omega); rwa [links_skip _ (by simp [isLink, h2])])
        simp only [impl_PageLinks.l0, begins_f, rdOf_at hlt, Option.bind_some]
        rw [if_pos (by omega), if_pos (by omega), if_pos (by omega), if_neg h1, if_pos h2, hw]
      · refine Ev.step (fun k => ?_) (by have := ih (i + 1) (acc ++ [ms[i]]) (by omega) (by simp; omega); rwa [links_take _ (by simp [isLink, h1, h2]), ← List.singleton_append, ← List.append_assoc])
        simp only [impl_PageLinks.l0, begins_f, rdOf_at hlt, Option.bind_some]
        rw [if_pos (by omega), if_pos (by omega), if_pos (by omega), if_neg h1, if_neg h2, if_pos (by omega), hw]

theorem spec_links_l (ms : List ByteArray) (hn : ms.length ≤ 1000) (d : Nat) : ∀ (i : Nat) (acc : List ByteArray), i + d = ms.length → acc.length ≤ i →
    Ev (fun k => spec_PageLinks.l0 k ms acc i) (acc ++ links (ms.drop i)) := by
  induction d with
  | zero =>
    intro i acc hi _
    refine Ev.of (fun k => spec_PageLinks.mono_l k _ _ _) (k := 1) ?_
    simp only [spec_PageLinks.l0]
    rw [if_neg (by omega), List.drop_eq_nil_of_le (by omega)]
    simp [links]
  | succ d ih =>
    intro i acc hi ha
    have hlt : i < ms.length := by omega
    have hw : wrap64 ((i : Int) + 1) = ((i + 1 : Nat) : Int) := by rw [w64 (by omega) (by omega)]; omega
    rw [List.drop_eq_getElem_cons hlt]
    obtain ⟨a, e1, q1⟩ := head_f ms[i] 33 (by omega)
    obtain ⟨b, e2, q2⟩ := head_f ms[i] 64 (by omega)
    obtain rfl : a = b := Option.some.inj (e1.symm.trans e2)
    by_cases h1 : headIs ms[i] 33 = true
    · refine Ev.step (fun k => ?_) (by have := ih (i + 1) acc (by omega) (by omega); rwa [links_skip _ (by simp [isLink, h1])])
      simp only [spec_PageLinks.l0, rdOf_at hlt, e1, Option.bind_some]
      rw [if_pos (by omega), if_pos (by omega), if_pos (q1.2 h1), hw]
    · by_cases h2 : headIs ms[i] 64 = true
      · refine Ev.step (fun k => ?_) (by have := ih (i + 1) acc (by omega) (by omega); rwa [links_skip _ (by simp [isLink, h2])])
        simp only [spec_PageLinks.l0, rdOf_at hlt, e1, Option.bind_some]
        rw [if_pos (by omega), if_pos (by omega), if_neg (fun e => h1 (q1.1 e)), if_pos (q2.2 h2), hw]
      · refine Ev.step (fun k => ?_) (by have := ih (i + 1) (acc ++ [ms[i]]) (by omega) (by simp; omega); rwa [links_take _ (by simp [isLink, h1, h2]), ← List.singleton_append, ← List.append_assoc])
        simp only [spec_PageLinks.l0, rdOf_at hlt, e1, Option.bind_some]
        rw [if_pos (by omega), if_pos (by omega), if_neg (fun e => h1 (q1.1 e)), if_neg (fun e => h2 (q2.1 e)), if_pos (by omega), hw]

theorem marks_len (s : ByteArray) : (marks s).length ≤ 300 := by
  unfold marks
  split
  · have := (pmTo_ok s s.size).2.2; omega
  · simp

theorem impl_links_ev (s : ByteArray) : Ev (fun k => impl_PageLinks.f k s) (links (marks s)) := by
  unfold impl_PageLinks.f impl_pageMarks.f
  simp only [Option.bind_some]
  have h := impl_links_l (marks s) (by have := marks_len s; omega) (marks s).length 0 [] (by omega) (by simp)
  simpa using h
theorem spec_links_ev (s : ByteArray) (hs : s.size ≤ 140737488351232) : Ev (fun k => spec_PageLinks.f k s) (links (marks s)) := by
  unfold spec_PageLinks.f
  refine Ev.bind (spec_ev s hs) ?_
  have h := spec_links_l (marks s) (by have := marks_len s; omega) (marks s).length 0 [] (by omega) (by simp)
  simpa using h

theorem headIs_pos {m : ByteArray} {c : Int} (h : headIs m c = true) : 0 < m.size := by
  unfold headIs at h
  simp at h
  exact h.1
theorem impl_base_l (ms : List ByteArray) (hn : ms.length ≤ 1000) (d : Nat) : ∀ (i : Nat), i + d = ms.length →
    Ev (fun k => impl_PageBase.l0 k ms (ms.length : Int) i) (base (ms.drop i)) := by
  induction d with
  | zero =>
    intro i hi
    refine Ev.of (fun k => impl_PageBase.mono_l k _ _ _) (k := 1) ?_
    simp only [impl_PageBase.l0]
    rw [if_neg (by omega), List.drop_eq_nil_of_le (by omega)]
    simp [base]
  | succ d ih =>
    intro i hi
    have hlt : i < ms.length := by omega
    have hw : wrap64 ((i : Int) + 1) = ((i + 1 : Nat) : Int) := by rw [w64 (by omega) (by omega)]; omega
    rw [List.drop_eq_getElem_cons hlt]
    by_cases h2 : headIs ms[i] 64 = true
    · refine Ev.of (fun k => impl_PageBase.mono_l k _ _ _) (k := 1) ?_
      have := headIs_pos h2
      simp only [impl_PageBase.l0, begins_f, rdOf_at hlt, Option.bind_some]
      rw [if_pos (by omega), if_pos (by omega), if_pos (by omega), if_pos h2, if_pos (by omega)]
      rw [base_hit _ h2]
    · refine Ev.step (fun k => ?_) (by have := ih (i + 1) (by omega); rwa [base_skip _ h2])
      simp only [impl_PageBase.l0, begins_f, rdOf_at hlt, Option.bind_some]
      rw [if_pos (by omega), if_pos (by omega), if_pos (by omega), if_neg h2, hw]
theorem spec_base_l (ms : List ByteArray) (hn : ms.length ≤ 1000) (d : Nat) : ∀ (i : Nat), i + d = ms.length →
    Ev (fun k => spec_PageBase.l0 k ms i) (base (ms.drop i)) := by
  induction d with
  | zero =>
    intro i hi
    refine Ev.of (fun k => spec_PageBase.mono_l k _ _) (k := 1) ?_
    simp only [spec_PageBase.l0]
    rw [if_neg (by omega), List.drop_eq_nil_of_le (by omega)]
    simp [base]
  | succ d ih =>
    intro i hi
    have hlt : i < ms.length := by omega
    have hw : wrap64 ((i : Int) + 1) = ((i + 1 : Nat) : Int) := by rw [w64 (by omega) (by omega)]; omega
    rw [List.drop_eq_getElem_cons hlt]
    obtain ⟨a, e1, q2⟩ := head_f ms[i] 64 (by omega)
    by_cases h2 : headIs ms[i] 64 = true
    · refine Ev.of (fun k => spec_PageBase.mono_l k _ _) (k := 1) ?_
      have := headIs_pos h2
      simp only [spec_PageBase.l0, rdOf_at hlt, e1, Option.bind_some]
      rw [if_pos (by omega), if_pos (by omega), if_pos (q2.2 h2), if_pos (by omega)]
      rw [base_hit _ h2]
    · refine Ev.step (fun k => ?_) (by have := ih (i + 1) (by omega); rwa [base_skip _ h2])
      simp only [spec_PageBase.l0, rdOf_at hlt, e1, Option.bind_some]
      rw [if_pos (by omega), if_pos (by omega), if_neg (fun e => h2 (q2.1 e)), hw]

theorem impl_base_ev (s : ByteArray) : Ev (fun k => impl_PageBase.f k s) (base (marks s)) := by
  unfold impl_PageBase.f impl_pageMarks.f
  simp only [Option.bind_some]
  have h := impl_base_l (marks s) (by have := marks_len s; omega) (marks s).length 0 (by omega)
  simpa using h
theorem spec_base_ev (s : ByteArray) (hs : s.size ≤ 140737488351232) : Ev (fun k => spec_PageBase.f k s) (base (marks s)) := by
  unfold spec_PageBase.f
  refine Ev.bind (spec_ev s hs) ?_
  have h := spec_base_l (marks s) (by have := marks_len s; omega) (marks s).length 0 (by omega)
  simpa using h
theorem links_len (ms : List ByteArray) : (links ms).length ≤ ms.length := List.length_filter_le _ _

end Go.Proofs.Ytmaleoldpmiilaa.Mk

/- The marks by which the exact laws try memory: each number from 0 to 2^62 has its text; no condition else. -/
namespace Go.Proofs.Ytmaleoldpmiilaa.Tx
open Go.RowKit Go.Proofs.Ytmaleoldpmiilaa.P Go.Proofs.YtmaleoldpmiilaaW.PrintWords Go.Proofs.YtmaleoldpmiilaaW.PrintLast Go.Proofs.YtmaleoldpmiilaaW.PrintMore Go.Proofs.Ytmaleoldpmiilaa.B
set_option linter.unusedVariables false
set_option linter.unusedSimpArgs false

theorem size_one (n : Int) : (strOfNums [n]).size = 1 := by simp [strOfNums, ByteArray.size]

theorem mark_l (d : Nat) : ∀ (k : Nat) (x : Int) (t : ByteArray), 0 ≤ x → x < 2 ^ d → x < 4611686018427387904 → d < k → t.size + d ≤ 1000 → ∃ r, laws_markText.l0 k x t = some r := by
  induction d with
  | zero =>
    intro k x t h0 h1 _ hk ht
    obtain ⟨k, rfl⟩ : ∃ m, k = m + 1 := ⟨k - 1, by omega⟩
    simp only [laws_markText.l0]
    rw [if_neg (by omega), if_pos (by omega)]
    exact ⟨_, rfl⟩
  | succ d ih =>
    intro k x t h0 h1 h2 hk ht
    obtain ⟨k, rfl⟩ : ∃ m, k = m + 1 := ⟨k - 1, by omega⟩
    simp only [laws_markText.l0]
    by_cases hx : x > 0
    · rw [if_pos hx]
      simp only [Option.bind_some, size_one]
      rw [if_pos (by omega)]
      have e : Int.tdiv x 10 = x / 10 := Int.tdiv_eq_ediv_of_nonneg h0
      have hp : (2 : Int) ^ (d + 1) = 2 * 2 ^ d := by rw [Int.pow_succ]; omega
      rw [e, w64 (n := x / 10) (by omega) (by omega)]
      refine ih k _ _ (by omega) (by omega) (by omega) (by omega) ?_
      rw [ByteArray.size_append, size_one]; omega
    · rw [if_neg hx, if_pos (by omega)]
      exact ⟨_, rfl⟩

theorem mark_ev (x : Int) (h0 : 0 ≤ x) (h1 : x < 4611686018427387904) : ∃ r, Ev (fun k => laws_markText.f k x) r := by
  by_cases h : x ≤ 0
  · exact ⟨_, by unfold laws_markText.f; simp only [h, if_true]; exact Ev.now _⟩
  · obtain ⟨r, hr⟩ := mark_l 62 63 x ⟨#[]⟩ h0 (by omega) h1 (by omega) (by decide)
    refine ⟨r, Ev.of (fun k => laws_markText.mono _ k) (k := 63) ?_⟩
    unfold laws_markText.f
    rw [if_neg h]
    exact hr

/-- The mark of a number. -/
noncomputable def mt (x : Int) : ByteArray := Classical.epsilon fun r => Ev (fun k => laws_markText.f k x) r
theorem mt_ev (x : Int) (h0 : 0 ≤ x) (h1 : x < 4611686018427387904) : Ev (fun k => laws_markText.f k x) (mt x) := Classical.epsilon_spec (mark_ev x h0 h1)

end Go.Proofs.Ytmaleoldpmiilaa.Tx

/- A list of texts, each place marked by a number, holds just these marks; lists of texts are compared; lists of at most 2^60 texts. -/
namespace Go.Proofs.Ytmaleoldpmiilaa.Tx
open Go.RowKit Go.Proofs.Ytmaleoldpmiilaa.P Go.Proofs.YtmaleoldpmiilaaW.PrintWords Go.Proofs.YtmaleoldpmiilaaW.PrintLast Go.Proofs.YtmaleoldpmiilaaW.PrintMore Go.Proofs.Ytmaleoldpmiilaa.B
set_option linter.unusedVariables false
set_option linter.unusedSimpArgs false

/-- Each place holds its number's mark. -/
def Marked (l : List ByteArray) (x : Int) : Prop := ∀ j, j < l.length → rdOf ByteArray.empty l j = mt (x + j)

theorem markS_l (n : Nat) (x : Int) (hn : n < 1152921504606846976) (h0 : 0 ≤ x) (h1 : x < 1152921504606846976) (d : Nat) : ∀ (i : Nat) (l : List ByteArray), l.length = n → i + d = n →
    (∀ j, j < i → rdOf ByteArray.empty l j = mt (x + j)) →
    ∃ l', Ev (fun k => laws_markStringS.l0 k l (x + i) i) (x + n, l') ∧ l'.length = n ∧ Marked l' x := by
  induction d with
  | zero =>
    intro i l hl hi hm
    obtain rfl : i = n := by omega
    refine ⟨l, Ev.of (fun k => laws_markStringS.mono_l k _ _ _) (k := 1) ?_, hl, fun j hj => hm j (by omega)⟩
    simp only [laws_markStringS.l0]
    rw [if_neg (by omega)]
  | succ d ih =>
    intro i l hl hi hm
    have hlen : (l.set i (mt (x + i))).length = n := by rw [List.length_set]; exact hl
    obtain ⟨l', h, h2, h3⟩ := ih (i + 1) (l.set i (mt (x + i))) hlen (by omega) (fun j hj => by
      unfold rdOf
      rw [List.getD_eq_getElem?_getD]
      simp only [Int.toNat_natCast]
      rcases Nat.lt_or_ge j i with hji | hji
      · rw [List.getElem?_set_ne (by omega)]
        have := hm j hji
        unfold rdOf at this
        rw [List.getD_eq_getElem?_getD] at this
        simpa using this
      · obtain rfl : j = i := by omega
        rw [List.getElem?_set_self (by omega)]
        rfl)
    refine ⟨l', Ev.step (f := fun k => (laws_markText.f k (x + i)).bind fun t => laws_markStringS.l0 k (l.set i t) (x + (i + 1 : Nat)) (i + 1 : Nat)) (fun k => ?_) (Ev.bind (mt_ev (x + i) (by omega) (by omega)) h), h2, h3⟩
    simp only [laws_markStringS.l0]
    rw [if_pos (by omega)]
    congr 1
    funext t
    rw [if_pos (by omega), w64 (n := x + i + 1) (by omega) (by omega), w64 (n := (i : Int) + 1) (by omega) (by omega)]
    simp only [Int.toNat_natCast]
    rw [show x + (i : Int) + 1 = x + ((i + 1 : Nat) : Int) from by omega, show (i : Int) + 1 = ((i + 1 : Nat) : Int) from by omega]

theorem markS_ev (l : List ByteArray) (x : Int) (hn : l.length < 1152921504606846976) (h0 : 0 ≤ x) (h1 : x < 1152921504606846976) :
    ∃ l', Ev (fun k => laws_markStringS.f k l x) (x + l.length, l') ∧ l'.length = l.length ∧ Marked l' x := by
  obtain ⟨l', h, h2, h3⟩ := markS_l l.length x hn h0 h1 l.length 0 l rfl (by omega) (fun j hj => by omega)
  refine ⟨l', ?_, h2, h3⟩
  unfold laws_markStringS.f
  simpa using h

theorem heldS_l (l : List ByteArray) (x : Int) (hn : l.length < 1152921504606846976) (h0 : 0 ≤ x) (h1 : x < 1152921504606846976) (hm : Marked l x) (d : Nat) : ∀ (i : Nat), i + d = l.length →
    Ev (fun k => laws_heldStringS.l0 k l (x + i) i) (x + l.length) := by
  induction d with
  | zero =>
    intro i hi
    refine Ev.of (fun k => laws_heldStringS.mono_l k _ _ _) (k := 1) ?_
    simp only [laws_heldStringS.l0]
    rw [if_neg (by omega), show (i : Nat) = l.length from by omega]
  | succ d ih =>
    intro i hi
    refine Ev.step (f := fun k => (laws_markText.f k (x + i)).bind fun t => if (rdOf ByteArray.empty l (i : Int)).toList = t.toList then laws_heldStringS.l0 k l (x + (i + 1 : Nat)) (i + 1 : Nat) else some (-1)) (fun k => ?_) (Ev.bind (mt_ev (x + i) (by omega) (by omega)) ?_)
    · simp only [laws_heldStringS.l0]
      rw [if_pos (by omega), if_pos (by omega), w64 (n := x + i + 1) (by omega) (by omega), w64 (n := (i : Int) + 1) (by omega) (by omega), show x + (i : Int) + 1 = x + ((i + 1 : Nat) : Int) from by omega, show (i : Int) + 1 = ((i + 1 : Nat) : Int) from by omega]
    · have := hm i (by omega)
      simp only [this, if_true]
      exact ih (i + 1) (by omega)

theorem heldS_ev (l : List ByteArray) (x : Int) (hn : l.length < 1152921504606846976) (h0 : 0 ≤ x) (h1 : x < 1152921504606846976) (hm : Marked l x) : Ev (fun k => laws_heldStringS.f k l x) (x + l.length) := by
  unfold laws_heldStringS.f
  have := heldS_l l x hn h0 h1 hm l.length 0 (by omega)
  simpa using this

theorem eqS_l (l : List ByteArray) (hn : l.length < 1152921504606846976) (d : Nat) : ∀ (i : Nat), i + d = l.length → Ev (fun k => laws_eqStringS.l0 k l l i) true := by
  induction d with
  | zero =>
    intro i hi
    refine Ev.of (fun k => laws_eqStringS.mono_l k _ _ _) (k := 1) ?_
    simp only [laws_eqStringS.l0]
    rw [if_neg (by omega)]
  | succ d ih =>
    intro i hi
    refine Ev.step (f := fun k => laws_eqStringS.l0 k l l (i + 1 : Nat)) (fun k => ?_) (ih (i + 1) (by omega))
    simp only [laws_eqStringS.l0]
    rw [if_pos (by omega), if_pos (by omega), if_pos (by omega), if_pos trivial, w64 (n := (i : Int) + 1) (by omega) (by omega), show (i : Int) + 1 = ((i + 1 : Nat) : Int) from by omega]
theorem eqS_ev (l : List ByteArray) (hn : l.length < 1152921504606846976) : Ev (fun k => laws_eqStringS.f k l l) true := by
  unfold laws_eqStringS.f
  simp only [if_true]
  exact eqS_l l hn l.length 0 (by omega)

end Go.Proofs.Ytmaleoldpmiilaa.Tx

/- The program's PageLinks answers what the reference's answers, in new memory, for every text; no condition. -/
namespace Go.Proofs.Ytmaleoldpmiilaa.Pure
open Go.RowKit Go.Proofs.Ytmaleoldpmiilaa.P Go.Proofs.YtmaleoldpmiilaaW.PrintWords Go.Proofs.YtmaleoldpmiilaaW.PrintLast Go.Proofs.Ytmaleoldpmiilaa.Mk Go.Proofs.Ytmaleoldpmiilaa.Tx
set_option linter.unusedSimpArgs false
theorem FnExactPageLinks : laws_FnExactPageLinks.Pure := by
  intro a0 h0
  refine Ev.rounds ?_
  unfold laws_FnExactPageLinks.f
  by_cases h : (a0.size : Int) > 1048576
  · simp only [h, if_true]; exact Ev.now _
  · simp only [h, if_false]
    have hl : (links (marks a0)).length ≤ 300 := Nat.le_trans (links_len _) (marks_len _)
    have he := eqS_ev (links (marks a0)) (by omega)
    obtain ⟨l', hm, hl', hM⟩ := markS_ev (links (marks a0)) 1 (by omega) (by omega) (by omega)
    have hh := heldS_ev l' 1 (by omega) (by omega) (by omega) hM
    have e1 : ¬ (1 + (l'.length : Int)) < 0 := by omega
    have e2 : (1 + (l'.length : Int)) = 1 + ((links (marks a0)).length : Int) := by omega
    refine Ev.bind (spec_links_ev a0 h0) (Ev.bind (impl_links_ev a0) (Ev.bind he ?_))
    simp only [if_true]
    refine Ev.bind hm (Ev.bind hh ?_)
    simp only [e1, e2, if_false, if_true]
    refine Ev.bind (impl_links_ev a0) (Ev.bind he ?_)
    simp only [if_true]
    refine Ev.bind hh ?_
    simp only [e1, e2, if_false, if_true]
    exact Ev.now _
end Go.Proofs.Ytmaleoldpmiilaa.Pure

namespace Go.Proofs.Ytmaleoldpmiilaa.fnExactPageLinks
open Go.ChangeShapes Go.WideShapes Go.ChangeAt Go.RowKit
open Go.ChangeMaps (open_string shut_string)
set_option linter.unusedVariables false
theorem own : ownKnob Try.prog.godebug = none := by kernel_rfl
set_option maxRecDepth 100000 in
theorem lifted (os : Os) (started : os.Started) (H : Type) (enc : TypeId × Value → H) :
    ReturnsInHanded {} Try.checked os 4 .any (Rows.fnExactPageLinksSpec.pre6 enc Try.prog Try.f4 Rows.fnExactPageLinksRow.domain false) (Rows.fnExactPageLinksSpec.post enc Try.prog Try.f4 false true false false) := by
  refine returnsInHanded_of_change_sized (C := Try.checked) own started (by kernel_rfl) Try.func4
    (ChangeSpec.witness6 (enc := enc) (C := Try.checked) false ⟨#[], #[.string ByteArray.empty], []⟩ 8 (by kernel_rfl) (by kernel_rfl) (by kernel_rfl) (by kernel_rfl)) ?_
  intro W base args ds gs before hval0 hW hcnd hsz0 _
  have hsz : (DataW.weightsEach Try.prog (Try.f4.params.toList ++ Rows.fnExactPageLinksSpec.plain.varTypes Try.prog) (ds ++ gs)).all (· ≤ reachBytes) = true := hsz0
  have hval : ∀ (j : Nat) t v, Try.f4.params[j]? = some t → args[j]? = some v → Value.okWide Try.prog W .any base t v := hval0
  have hW' := hW
  obtain ⟨p, q, hA0, hV, rfl, hfz, hnd⟩ := hW
  have hA : DataW.TrodAll enc Try.prog W 0 (fun _ => true) true Try.f4.params.toList args.toList ds p := hA0
  rw [Try.params4] at hA hval hsz
  obtain ⟨v0, vs0, d0, ds0, p0, q0, hargs, rfl, rfl, h0, r0⟩ := trodAll_cons hA
  obtain ⟨rfl, rfl, rfl⟩ := trodAll_nil r0
  obtain rfl : args = #[v0] := by cases args; simp_all
  obtain ⟨rfl, rfl⟩ := trodVars_none hV
  obtain ⟨a0, rfl, rfl, rfl, y0⟩ := open_string Try.underlying9 (hval 0 9 v0 rfl rfl) h0
  have w0 : a0.size ≤ 140737488351232 := by
    have z := sized_string hsz (j := 0) (t := 9) rfl rfl
    rw [Array.length_toList] at z
    exact z
  clear hA0 hval0 hsz0 hsz
  refine (P.laws_FnExactPageLinks.walk Pure.FnExactPageLinks a0 W w0).mono fun e W' ⟨he, bel⟩ => ?_
  subst he
  exact ⟨_, rfl, _, _, _, [], _, [], hW', trodAll_mk1 (shut_bool Try.underlying4 _), (trodAll_cons_mk (shut_string Try.underlying9 y0) trodAll_mk0), rfl, bel.frame _, fun h => by cases h⟩
theorem over : Rows.fnExactPageLinksRow.holds Try.pinned (OpenSpec.ofChange Rows.fnExactPageLinksSpec) :=
  OpenClaim.holds_of_wide 4 Try.f4 rfl rfl rfl rfl rfl rfl rfl ⟨rfl, rfl, rfl, rfl, rfl⟩ rfl rfl rfl rfl rfl (by kernel_rfl) Try.func4 (by kernel_rfl)
    (of_decide_eq_true (by kernel_rfl)) (by unfold Func.isWrapper; first | (rw [if_pos (by decide +kernel)]; kernel_rfl) | (rw [if_neg (by decide +kernel)]; exact ⟨rfl, rfl⟩))
    (fun os started H enc _ => lifted os started H enc)
theorem proved : Rows.FnExactPageLinksSaid := over
#print axioms proved
end Go.Proofs.Ytmaleoldpmiilaa.fnExactPageLinks
namespace Go.Proofs.Ytmaleoldpmiilaa
/-- The row, under a short name, for the claim. -/
theorem fnExactPageLinks_holds : Rows.FnExactPageLinksSaid := fnExactPageLinks.proved
end Go.Proofs.Ytmaleoldpmiilaa
