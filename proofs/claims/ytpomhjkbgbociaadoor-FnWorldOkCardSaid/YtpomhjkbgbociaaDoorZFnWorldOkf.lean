/- FnWorldOk holds of the given program at every input: Fewer pages are a world. So are those of a drawn one. No condition. Written by a program of this session (wip/pr.py). -/
import Derived.Test.YtpomhjkbgbociaaDoorZFnWorldOke
import Derived.Test.YtpomhjkbgbociaaDoorZFnWorldOkb
import Derived.Test.YtpomhjkbgbociaaDoorZFnWorldOkd
import Derived.Lib.IndexAny
import Derived.Test.YtpomhjkbgbociaaDoorZFnWorldOkc
import Derived.SizedLaws
import Derived.ChangeSlices
import Derived.Test.YtpomhjkbgbociaaDoorRows
import Derived.Test.YtpomhjkbgbociaaDoorCards
import Derived.Test.YtpomhjkbgbociaaDoorTie
import Derived.LaidMore
import Derived.Lay
import Derived.SevenTiedAt
import Derived.Stop.Joined
import Derived.WalkKit
import Derived.ProofKit
import Derived.OpenShut
import Derived.ShutString
import Derived.ChangeOld
import Derived.Below

section
namespace Go.Proofs.YtpomhjkbgbociaaDoor.Nt
open Go.RowKit Go.Proofs.YtpomhjkbgbociaaDoor.P Go.Proofs.YtpomhjkbgbociaaDoorW.PrintWords Go.Proofs.YtpomhjkbgbociaaDoorW.PrintLast Go.Proofs.YtpomhjkbgbociaaDoorW.PrintMore Go.Proofs.YtpomhjkbgbociaaDoor.B Go.Proofs.YtpomhjkbgbociaaDoor.Ad
set_option linter.unusedVariables false
set_option linter.unusedSimpArgs false
abbrev Gp := S81
abbrev Ru := S83
structure Sm (n : List Gp) : Prop where
 few : n.length ≤ 1048576
 names : ∀ g ∈ n, g.f0.length ≤ 1048576 ∧ ∀ s ∈ g.f0, s.size ≤ 1048576
 rules : ∀ g ∈ n, g.f1.length ≤ 1048576
def gname (s : ByteArray) : Bool := s.toList == [42] || isName s
def groupOk (g : Gp) : Bool := decide (g.f0.length ≠ 0) && (decide (g.f1.length ≠ 0) || decide (g.f2 ≠ 0)) && decide (g.f1.length ≤ 6) && (decide (0 ≤ g.f2) && decide (g.f2 ≤ 20)) && g.f0.all gname && g.f1.all fun r => ruleOk r.f1
def linesOf (n : List Gp) : Nat := (n.map fun g => g.f0.length + g.f1.length + 1).sum
def noticeOk (n : List Gp) : Bool := n.all groupOk && decide (linesOf n ≤ 40)
theorem rd_gp {l : List Gp} {i : Nat} (h : i < l.length) : rd_T81 l (i : Int) = l[i] := by
 simp [rd_T81, List.getD, List.getElem?_eq_getElem h]
theorem rd_ru {l : List Ru} {i : Nat} (h : i < l.length) : rd_T83 l (i : Int) = l[i] := by
 simp [rd_T83, List.getD, List.getElem?_eq_getElem h]
theorem Sm.get {n : List Gp} (h : Sm n) {i : Nat} (hi : i < n.length) : n[i].f0.length ≤ 1048576 ∧ (∀ s ∈ n[i].f0, s.size ≤ 1048576) ∧ n[i].f1.length ≤ 1048576 :=
 ⟨(h.names _ (List.getElem_mem hi)).1, (h.names _ (List.getElem_mem hi)).2, h.rules _ (List.getElem_mem hi)⟩
theorem ok_rules (n : List Gp) (ns : List ByteArray) (rs : List Ru) (wt : Int) (hn : ns.length ≤ 1048576) (hr : rs.length ≤ 1048576) (c i : Nat) (hc : c ≤ 1000000000000000) (hi : i ≤ 1048576) (R : Bool)
  (hR : Ev (fun k => spec_NoticeOk.l0 k n ((c + (ns.length + rs.length + 1) : Nat) : Int) ((i + 1 : Nat) : Int)) R) (d : Nat) : ∀ j, j + d = rs.length →
  Ev (fun k => spec_NoticeOk.l2 k n (c : Int) (i : Int) (j : Int) ns rs wt) (((rs.drop j).all fun r => ruleOk r.f1) && R) := by
 induction d with
 | zero =>
  intro j hj
  have e1 : wrap64 ((c : Int) + (ns.length : Int)) = ((c + ns.length : Nat) : Int) := by rw [w64 (by omega) (by omega)]; omega
  have e2 : wrap64 (((c + ns.length : Nat) : Int) + (rs.length : Int)) = ((c + ns.length + rs.length : Nat) : Int) := by rw [w64 (by omega) (by omega)]; omega
  have e3 : wrap64 (((c + ns.length + rs.length : Nat) : Int) + 1) = ((c + (ns.length + rs.length + 1) : Nat) : Int) := by rw [w64 (by omega) (by omega)]; omega
  have e4 : wrap64 ((i : Int) + 1) = ((i + 1 : Nat) : Int) := by rw [w64 (by omega) (by omega)]; rfl
  refine Ev_succ ?_
  simp only [spec_NoticeOk.l2, show ¬ ((j : Int) < (rs.length : Int)) from by omega, if_false]
  rw [e1, e2, e3, e4, List.drop_of_length_le (by omega)]
  simpa using hR
 | succ d ih =>
  intro j hj
  have hlt : j < rs.length := by omega
  have e4 : wrap64 ((j : Int) + 1) = ((j + 1 : Nat) : Int) := by rw [w64 (by omega) (by omega)]; rfl
  refine Ev_succ ?_
  simp only [spec_NoticeOk.l2, show (j : Int) < (rs.length : Int) from by omega, show (0 : Int) ≤ (j : Int) from by omega, if_true]
  rw [rd_ru hlt, e4, List.drop_eq_getElem_cons hlt, List.all_cons]
  refine Ev.bind (ruleOk_spec _) ?_
  cases ruleOk rs[j].f1 with
  | true => simp only [if_true, Bool.true_and]; exact ih (j + 1) (by omega)
  | false => simp only [Bool.false_eq_true, if_false, Bool.false_and]; exact Ev.now _
theorem ok_names (n : List Gp) (ns : List ByteArray) (rs : List Ru) (wt : Int) (hn : ns.length ≤ 1048576) (hs : ∀ s ∈ ns, s.size ≤ 1048576) (c i : Nat) (R : Bool)
  (hR : Ev (fun k => spec_NoticeOk.l2 k n (c : Int) (i : Int) 0 ns rs wt) R) (d : Nat) : ∀ j, j + d = ns.length →
  Ev (fun k => spec_NoticeOk.l1 k n (c : Int) (i : Int) (j : Int) ns rs wt) ((ns.drop j).all gname && R) := by
 induction d with
 | zero =>
  intro j hj
  refine Ev_succ ?_
  simp only [spec_NoticeOk.l1, show ¬ ((j : Int) < (ns.length : Int)) from by omega, if_false]
  rw [List.drop_of_length_le (by omega)]
  simpa using hR
 | succ d ih =>
  intro j hj
  have hlt : j < ns.length := by omega
  have e4 : wrap64 ((j : Int) + 1) = ((j + 1 : Nat) : Int) := by rw [w64 (by omega) (by omega)]; rfl
  refine Ev_succ ?_
  simp only [spec_NoticeOk.l1, show (j : Int) < (ns.length : Int) from by omega, show (0 : Int) ≤ (j : Int) from by omega, if_true]
  rw [rd_at hlt, e4, List.drop_eq_getElem_cons hlt, List.all_cons]
  have next := ih (j + 1) (by omega)
  have hz := hs _ (List.getElem_mem hlt)
  unfold gname at next ⊢
  by_cases h42 : ns[j].toList = ([42] : List UInt8)
  ·simp only [h42, if_true, beq_self_eq_true, Bool.true_or, Bool.true_and]; exact next
  ·simp only [h42, if_false, beq_eq_false_iff_ne.mpr h42, Bool.false_or]
   refine Ev.bind (name_ev _ (by omega)) ?_
   cases isName ns[j] with
   | true => simp only [if_true, Bool.true_and]; exact next
   | false => simp only [Bool.false_eq_true, if_false, Bool.false_and]; exact Ev.now _
theorem l6In_some (x lo hi : Int) : spec_l6In.f x lo hi = some (decide (lo ≤ x) && decide (x ≤ hi)) := by
 unfold spec_l6In.f
 by_cases h : x ≥ lo
 ·simp [h]
 ·simp [h]
theorem ok_outer (n : List Gp) (hn : Sm n) (d : Nat) : ∀ (i c : Nat), i + d = n.length → c ≤ 2097153 * i →
  Ev (fun k => spec_NoticeOk.l0 k n (c : Int) (i : Int)) ((n.drop i).all groupOk && decide (c + linesOf (n.drop i) ≤ 40)) := by
 have hf := hn.few
 induction d with
 | zero =>
  intro i c hi hc
  refine Ev_succ ?_
  simp only [spec_NoticeOk.l0, show ¬ ((i : Int) < (n.length : Int)) from by omega, if_false]
  rw [List.drop_of_length_le (by omega)]
  simp only [List.all_nil, Bool.true_and, linesOf, List.map_nil, List.sum_nil, Nat.add_zero]
  rw [show (decide (c ≤ 40)) = decide ((c : Int) ≤ 40) from by simp; omega]
  exact Ev.now _
 | succ d ih =>
  intro i c hi hc
  have hlt : i < n.length := by omega
  obtain ⟨s1, s2, s3⟩ := hn.get hlt
  have next := ih (i + 1) (c + (n[i].f0.length + n[i].f1.length + 1)) (by omega) (by omega)
  rw [List.drop_eq_getElem_cons hlt, List.all_cons]
  have hL : linesOf (n[i] :: n.drop (i + 1)) = (n[i].f0.length + n[i].f1.length + 1) + linesOf (n.drop (i + 1)) := by unfold linesOf; rw [List.map_cons, List.sum_cons]
  rw [hL]
  rw [show c + (n[i].f0.length + n[i].f1.length + 1) + linesOf (n.drop (i + 1)) = c + ((n[i].f0.length + n[i].f1.length + 1) + linesOf (n.drop (i + 1))) from by omega] at next
  generalize decide (c + ((n[i].f0.length + n[i].f1.length + 1) + linesOf (n.drop (i + 1))) ≤ 40) = D at next ⊢
  generalize (n.drop (i + 1)).all groupOk = E at next ⊢
  refine Ev_succ ?_
  simp only [spec_NoticeOk.l0, show (i : Int) < (n.length : Int) from by omega, show (0 : Int) ≤ (i : Int) from by omega, if_true]
  rw [rd_gp hlt]
  generalize n[i] = g at *
  obtain ⟨ns, rs, wt⟩ := g
  simp only at s1 s2 s3 next ⊢
  have go : Ev (fun k => spec_NoticeOk.j1 k n (c : Int) (i : Int) false ns rs wt) (ns.all gname && ((rs.all fun r => ruleOk r.f1) && (E && D))) := by
   refine Ev_succ ?_
   simp only [spec_NoticeOk.j1, Bool.false_eq_true, if_false]
   have h2 := ok_rules n ns rs wt s1 s3 c i (by omega) (by omega) _ next rs.length 0 (by omega)
   rw [List.drop_zero] at h2
   have h1 := ok_names n ns rs wt s1 s2 c i _ h2 ns.length 0 (by omega)
   rw [List.drop_zero] at h1
   exact h1
  have stop : Ev (fun k => spec_NoticeOk.j1 k n (c : Int) (i : Int) true ns rs wt) false := Ev_succ (by simp only [spec_NoticeOk.j1, if_true]; exact Ev.now _)
  unfold groupOk
  simp only
  by_cases h0 : ns.length = 0
  ·simp only [show ((ns.length : Int) = 0) from by omega, if_true, h0, ne_eq, not_true, decide_false, Bool.false_and]; exact stop
  ·simp only [show ¬ ((ns.length : Int) = 0) from by omega, if_false, h0, ne_eq, not_false_iff, decide_true, Bool.true_and]
   have tail : Ev (fun k => if (rs.length : Int) > 6 then (spec_NoticeOk.j1 k n (c : Int) (i : Int) true ns rs wt) else ((spec_l6In.f wt 0 20).bind fun t => (spec_NoticeOk.j1 k n (c : Int) (i : Int) (!t) ns rs wt)))
     ((decide (rs.length ≤ 6) && (decide (0 ≤ wt) && decide (wt ≤ 20)) && ns.all gname && rs.all fun r => ruleOk r.f1) && E && D) := by
    by_cases h6 : rs.length ≤ 6
    ·simp only [show ¬ ((rs.length : Int) > 6) from by omega, if_false, h6, decide_true, Bool.true_and, l6In_some, Option.bind_some]
     cases (decide (0 ≤ wt) && decide (wt ≤ 20)) with
     | true => simp only [Bool.not_true, Bool.true_and]; simpa [Bool.and_assoc] using go
     | false => simp only [Bool.not_false, Bool.false_and]; exact stop
    ·simp only [show ((rs.length : Int) > 6) from by omega, if_true, h6, decide_false, Bool.false_and]; exact stop
   by_cases h1 : rs.length = 0
   ·have b1 : decide (rs.length ≠ 0) = false := by simp [h1]
    have i1 : (rs.length : Int) = 0 := by omega
    rw [show decide (¬ rs.length = 0) = false from b1]
    by_cases hw : wt = 0
    ·subst hw
     simp only [i1, if_true, not_true, decide_false, Bool.or_self, Bool.false_and]
     exact stop
    ·simp only [if_pos i1, if_neg hw, hw, not_false_iff, decide_true, Bool.or_true, Bool.true_and]; exact tail
   ·have i1 : ¬ (rs.length : Int) = 0 := by omega
    simp only [if_neg i1, h1, not_false_iff, decide_true, Bool.true_or, Bool.true_and]; exact tail
theorem noticeOk_ev (n : List Gp) (hn : Sm n) : Ev (fun k => spec_NoticeOk.f k n) (noticeOk n) := by
 have h := ok_outer n hn n.length 0 0 (by omega) (by omega)
 rw [List.drop_zero, Nat.zero_add] at h
 exact h
def decB (n : Nat) : ByteArray := if n < 10 then ofL [UInt8.ofNat (48 + n)] else ofL [UInt8.ofNat (48 + n / 10), UInt8.ofNat (48 + n % 10)]
theorem dec_all : ∀ n : Nat, n < 100 → (spec_l6Dec.f 3 (n : Int)).map L = some (L (decB n)) := by decide +kernel
theorem dec_ev (n : Nat) (h : n < 100) : Ev (fun k => spec_l6Dec.f k (n : Int)) (decB n) := by
 have := dec_all n h
 cases hq : spec_l6Dec.f 3 (n : Int) with
 | none => rw [hq] at this; cases this
 | some v =>
  rw [hq] at this
  simp only [Option.map_some, Option.some.injEq] at this
  rw [L_inj this] at hq
  exact Ev.of (fun k => spec_l6Dec.mono _ k) hq
theorem dec_size (n : Nat) : (decB n).size ≤ 2 := by
 unfold decB
 split
 ·exact Nat.le_succ 1
 ·exact Nat.le_refl 2
def nameT (a s : ByteArray) : ByteArray := ((a ++ (⟨#[99, 97, 108, 108, 101, 114, 32]⟩ : ByteArray)) ++ s) ++ (⟨#[10]⟩ : ByteArray)
def ruleT (a : ByteArray) (r : Ru) : ByteArray := ((a ++ (if r.f0 = true then (⟨#[108, 101, 116, 32]⟩ : ByteArray) else (⟨#[98, 97, 114, 32]⟩ : ByteArray))) ++ r.f1) ++ (⟨#[10]⟩ : ByteArray)
def waitT (a : ByteArray) (w : Int) : ByteArray := if w > 0 then ((a ++ (⟨#[119, 97, 105, 116, 32]⟩ : ByteArray)) ++ decB w.toNat) ++ (⟨#[10]⟩ : ByteArray) else a
def groupT (a : ByteArray) (g : Gp) : ByteArray := waitT (g.f1.foldl ruleT (g.f0.foldl nameT a)) g.f2
def noticeT (n : List Gp) : ByteArray := if noticeOk n = true then n.foldl groupT (⟨#[]⟩ : ByteArray) else (⟨#[]⟩ : ByteArray)
theorem sz10 : (⟨#[10]⟩ : ByteArray).size = 1 := rfl
theorem nameT_size (a s : ByteArray) : (nameT a s).size = a.size + 7 + s.size + 1 := by
 have : (⟨#[99, 97, 108, 108, 101, 114, 32]⟩ : ByteArray).size = 7 := rfl
 unfold nameT; simp only [ByteArray.size_append, sz10]; omega
theorem ruleT_size (a : ByteArray) (r : Ru) : (ruleT a r).size = a.size + 4 + r.f1.size + 1 := by
 have h1 : (⟨#[108, 101, 116, 32]⟩ : ByteArray).size = 4 := rfl
 have h2 : (⟨#[98, 97, 114, 32]⟩ : ByteArray).size = 4 := rfl
 unfold ruleT; split <;> (simp only [ByteArray.size_append, sz10]; omega)
theorem gname_size {s : ByteArray} (h : gname s = true) : s.size ≤ 8 := by
 unfold gname at h
 rcases (Bool.or_eq_true _ _).mp h with h | h
 ·have := (beq_iff_eq.1 h)
  rw [Lib.toList_data] at this
  have h2 := L_size s
  rw [show L s = [42] from this] at h2
  simp at h2; omega
 ·unfold isName at h
  simp only [Bool.and_eq_true, decide_eq_true_eq] at h
  omega
theorem ruleOk_size {s : ByteArray} (h : ruleOk s = true) : s.size ≤ 16 := by
 unfold ruleOk at h
 simp only [Bool.and_eq_true, decide_eq_true_eq] at h
 omega
theorem names_size : ∀ (ns : List ByteArray) (a : ByteArray), ns.all gname = true → (ns.foldl nameT a).size ≤ a.size + 24 * ns.length
 | [], a, _ => by simp
 | s :: r, a, h => by
  rw [List.all_cons, Bool.and_eq_true] at h
  have := names_size r (nameT a s) h.2
  have h1 := gname_size h.1
  rw [nameT_size] at this
  rw [List.foldl_cons, List.length_cons]; omega
theorem rules_size : ∀ (rs : List Ru) (a : ByteArray), (rs.all fun r => ruleOk r.f1) = true → (rs.foldl ruleT a).size ≤ a.size + 24 * rs.length
 | [], a, _ => by simp
 | s :: r, a, h => by
  rw [List.all_cons, Bool.and_eq_true] at h
  have := rules_size r (ruleT a s) h.2
  have h1 := ruleOk_size h.1
  rw [ruleT_size] at this
  rw [List.foldl_cons, List.length_cons]; omega
theorem waitT_size (a : ByteArray) (w : Int) : (waitT a w).size ≤ a.size + 8 := by
 unfold waitT
 have h5 : (⟨#[119, 97, 105, 116, 32]⟩ : ByteArray).size = 5 := rfl
 have := dec_size w.toNat
 split
 ·simp only [ByteArray.size_append, sz10]; omega
 ·omega
theorem groupOk_parts {g : Gp} (h : groupOk g = true) : (g.f0.all gname = true) ∧ ((g.f1.all fun r => ruleOk r.f1) = true) ∧ 0 ≤ g.f2 ∧ g.f2 ≤ 20 ∧ g.f0.length ≠ 0 ∧ (g.f1.length ≠ 0 ∨ g.f2 ≠ 0) ∧ g.f1.length ≤ 6 := by
 unfold groupOk at h
 simp only [Bool.and_eq_true, Bool.or_eq_true, decide_eq_true_eq] at h
 obtain ⟨⟨⟨⟨⟨h1, h2⟩, h3⟩, h4⟩, h5⟩, h6⟩ := h
 exact ⟨h5, h6, h4.1, h4.2, h1, h2, h3⟩
theorem group_size {g : Gp} (a : ByteArray) (h : groupOk g = true) : (groupT a g).size ≤ a.size + 24 * (g.f0.length + g.f1.length + 1) := by
 obtain ⟨h1, h2, _⟩ := groupOk_parts h
 have e1 := names_size g.f0 a h1
 have e2 := rules_size g.f1 (g.f0.foldl nameT a) h2
 have e3 := waitT_size (g.f1.foldl ruleT (g.f0.foldl nameT a)) g.f2
 unfold groupT; omega
theorem text_names (n : List Gp) (i : Nat) (hi : i < n.length) (hok : n[i].f0.all gname = true) (hl : n[i].f0.length ≤ 1048576) (R : ByteArray) (d : Nat) : ∀ (j : Nat) (a : ByteArray), j + d = n[i].f0.length → a.size + 24 * d ≤ 1000000000000000 →
  Ev (fun k => spec_NoticeText.l2 k n ((n[i].f0.drop j).foldl nameT a) (i : Int) 0) R → Ev (fun k => spec_NoticeText.l1 k n a (i : Int) (j : Int)) R := by
 induction d with
 | zero =>
  intro j a hj ha hR
  rw [List.drop_of_length_le (by omega)] at hR
  refine Ev_succ ?_
  simp only [spec_NoticeText.l1, show (0 : Int) ≤ (i : Int) from by omega, show (i : Int) < (n.length : Int) from by omega, if_true]
  rw [rd_gp hi]
  simp only [show ¬ ((j : Int) < (n[i].f0.length : Int)) from by omega, if_false]
  exact hR
 | succ d ih =>
  intro j a hj ha hR
  have hlt : j < n[i].f0.length := by omega
  have e4 : wrap64 ((j : Int) + 1) = ((j + 1 : Nat) : Int) := by rw [w64 (by omega) (by omega)]; rfl
  rw [List.drop_eq_getElem_cons hlt, List.foldl_cons] at hR
  have hz := gname_size (List.all_eq_true.1 hok _ (List.getElem_mem hlt))
  refine Ev_succ ?_
  simp only [spec_NoticeText.l1, show (0 : Int) ≤ (i : Int) from by omega, show (i : Int) < (n.length : Int) from by omega, if_true]
  rw [rd_gp hi]
  simp only [show ((j : Int) < (n[i].f0.length : Int)) from by omega, show (0 : Int) ≤ (j : Int) from by omega, if_true]
  rw [rd_at hlt, e4]
  simp only [show a.size + 7 ≤ 9223372036854775807 from by omega, show a.size + 7 + n[i].f0[j].size ≤ 9223372036854775807 from by omega, show a.size + 7 + n[i].f0[j].size + 1 ≤ 9223372036854775807 from by omega, if_true]
  exact ih (j + 1) (nameT a n[i].f0[j]) (by omega) (by rw [nameT_size]; omega) hR
theorem text_rules (n : List Gp) (i : Nat) (hi : i < n.length) (hok : groupOk n[i] = true) (hl : n[i].f1.length ≤ 1048576) (hq : n.length ≤ 1048576) (R : ByteArray) (d : Nat) : ∀ (j : Nat) (a : ByteArray), j + d = n[i].f1.length → a.size + 24 * (d + 1) ≤ 1000000000000000 →
  Ev (fun k => spec_NoticeText.l0 k n (waitT ((n[i].f1.drop j).foldl ruleT a) n[i].f2) ((i + 1 : Nat) : Int)) R → Ev (fun k => spec_NoticeText.l2 k n a (i : Int) (j : Int)) R := by
 obtain ⟨_, hrs, w0, w1, _⟩ := groupOk_parts hok
 have ei : wrap64 ((i : Int) + 1) = ((i + 1 : Nat) : Int) := by rw [w64 (by omega) (by omega)]; rfl
 induction d with
 | zero =>
  intro j a hj ha hR
  rw [List.drop_of_length_le (by omega)] at hR
  refine Ev_succ ?_
  simp only [spec_NoticeText.l2, show (0 : Int) ≤ (i : Int) from by omega, show (i : Int) < (n.length : Int) from by omega, if_true]
  rw [rd_gp hi]
  simp only [show ¬ ((j : Int) < (n[i].f1.length : Int)) from by omega, if_false]
  rw [ei]
  rw [List.foldl_nil] at hR
  unfold waitT at hR
  by_cases hw : n[i].f2 > 0
  ·simp only [hw, if_true] at hR ⊢
   obtain ⟨m, hm⟩ := Int.eq_ofNat_of_zero_le w0
   have hd := dec_ev m (by omega)
   have hds := dec_size m
   rw [hm, Int.toNat_natCast] at hR
   rw [hm]
   simp only [show a.size + 5 ≤ 9223372036854775807 from by omega, if_true]
   refine Ev.bind hd ?_
   simp only [show a.size + 5 + (decB m).size ≤ 9223372036854775807 from by omega, show a.size + 5 + (decB m).size + 1 ≤ 9223372036854775807 from by omega, if_true]
   exact hR
  ·simp only [hw, if_false] at hR ⊢
   exact hR
 | succ d ih =>
  intro j a hj ha hR
  have hlt : j < n[i].f1.length := by omega
  have e4 : wrap64 ((j : Int) + 1) = ((j + 1 : Nat) : Int) := by rw [w64 (by omega) (by omega)]; rfl
  rw [List.drop_eq_getElem_cons hlt, List.foldl_cons] at hR
  have hz := ruleOk_size (List.all_eq_true.1 hrs _ (List.getElem_mem hlt))
  have next := ih (j + 1) (ruleT a n[i].f1[j]) (by omega) (by rw [ruleT_size]; omega) hR
  refine Ev_succ ?_
  simp only [spec_NoticeText.l2, show (0 : Int) ≤ (i : Int) from by omega, show (i : Int) < (n.length : Int) from by omega, if_true]
  rw [rd_gp hi]
  simp only [show ((j : Int) < (n[i].f1.length : Int)) from by omega, show (0 : Int) ≤ (j : Int) from by omega, if_true]
  rw [rd_ru hlt, e4]
  unfold ruleT at next
  simp only [show a.size + 4 ≤ 9223372036854775807 from by omega, show a.size + 4 + n[i].f1[j].f1.size ≤ 9223372036854775807 from by omega, show a.size + 4 + n[i].f1[j].f1.size + 1 ≤ 9223372036854775807 from by omega, if_true]
  by_cases hb : n[i].f1[j].f0 = true
  ·simp only [hb, if_true] at next ⊢; exact next
  ·simp only [hb, Bool.false_eq_true, if_false] at next ⊢; exact next
theorem text_outer (n : List Gp) (hn : Sm n) (d : Nat) : ∀ (i : Nat) (a : ByteArray), i + d = n.length → a.size ≤ 24 * 2097153 * i → ((n.drop i).all groupOk) = true →
  Ev (fun k => spec_NoticeText.l0 k n a (i : Int)) ((n.drop i).foldl groupT a) := by
 have hf := hn.few
 induction d with
 | zero =>
  intro i a hi ha hk
  refine Ev_succ ?_
  simp only [spec_NoticeText.l0, show ¬ ((i : Int) < (n.length : Int)) from by omega, if_false]
  rw [List.drop_of_length_le (by omega)]
  exact Ev.now _
 | succ d ih =>
  intro i a hi ha hk
  have hlt : i < n.length := by omega
  obtain ⟨s1, s2, s3⟩ := hn.get hlt
  rw [List.drop_eq_getElem_cons hlt, List.all_cons, Bool.and_eq_true] at hk
  rw [List.drop_eq_getElem_cons hlt, List.foldl_cons]
  have hg := group_size a hk.1
  have next := ih (i + 1) (groupT a n[i]) (by omega) (by omega) hk.2
  have e1 := names_size n[i].f0 a (groupOk_parts hk.1).1
  refine Ev_succ ?_
  simp only [spec_NoticeText.l0, show (i : Int) < (n.length : Int) from by omega, if_true]
  refine text_names n i hlt (groupOk_parts hk.1).1 s1 _ n[i].f0.length 0 a (by omega) (by omega) ?_
  rw [List.drop_zero]
  refine text_rules n i hlt hk.1 s3 hf _ n[i].f1.length 0 _ (by omega) (by omega) ?_
  rw [List.drop_zero]
  exact next
theorem noticeT_ev (n : List Gp) (hn : Sm n) : Ev (fun k => spec_NoticeText.f k n) (noticeT n) := by
 unfold spec_NoticeText.f noticeT
 refine Ev.bind (noticeOk_ev n hn) ?_
 by_cases h : noticeOk n = true
 ·simp only [h, if_true]
  have hk : n.all groupOk = true := by
   unfold noticeOk at h
   rw [Bool.and_eq_true] at h
   exact h.1
  have := text_outer n hn n.length 0 ⟨#[]⟩ (by omega) (by have : (⟨#[]⟩ : ByteArray).size = 0 := rfl; omega) (by rw [List.drop_zero]; exact hk)
  rw [List.drop_zero] at this
  exact this
 ·simp only [h, Bool.false_eq_true, if_false]; exact Ev.now _
end Go.Proofs.YtpomhjkbgbociaaDoor.Nt
end
section
namespace Go.Proofs.YtpomhjkbgbociaaDoor.Ad
open Go.RowKit Go.Proofs.YtpomhjkbgbociaaDoor.P Go.Proofs.YtpomhjkbgbociaaDoorW.PrintWords Go.Proofs.YtpomhjkbgbociaaDoorW.PrintLast Go.Proofs.YtpomhjkbgbociaaDoorW.PrintMore Go.Proofs.YtpomhjkbgbociaaDoor.B
set_option linter.unusedVariables false
set_option linter.unusedSimpArgs false
def ints (l : List UInt8) : List Int := l.map fun c => (c.toNat : Int)
theorem ints_app (a b : List UInt8) : ints (a ++ b) = ints a ++ ints b := by simp [ints]
theorem ints_len (a : List UInt8) : (ints a).length = a.length := by simp [ints]
theorem nums_ints (l : List UInt8) : strOfNums (ints l) = ofL l := by
 unfold strOfNums ofL ints
 rw [List.map_map]
 congr 2
 have h : ((fun n : Int => UInt8.ofNat n.toNat) ∘ fun c : UInt8 => (c.toNat : Int)) = id := by funext c; simp
 exact (congrArg (fun f => List.map f l) h).trans (List.map_id l)
theorem figv_all : ∀ n : Nat, n < 256 → impl_figureValue.f (n : Int) = some (match hexN (UInt8.ofNat n) with | some x => ((x : Int), true) | none => (0, false)) := by decide +kernel
theorem figv (c : UInt8) : impl_figureValue.f (c.toNat : Int) = some (match hexN c with | some x => ((x : Int), true) | none => (0, false)) := by
 have := figv_all c.toNat c.toNat_lt
 rwa [of_toNat] at this
theorem stands_all : ∀ n : Nat, n < 256 → impl_standsForItself.f (n : Int) = some (plainB (UInt8.ofNat n)) := by decide +kernel
def hexT : ByteArray := ⟨#[48, 49, 50, 51, 52, 53, 54, 55, 56, 57, 65, 66, 67, 68, 69, 70]⟩
theorem put_all : ∀ n : Nat, n < 256 → (plainB (UInt8.ofNat n) = true → [(n : Int)] = ints (encN n)) ∧ (plainB (UInt8.ofNat n) = false → 0 ≤ (n : Int) / 16 ∧ (n : Int) / 16 < 16 ∧ 0 ≤ Go.bits .and .u8 (n : Int) 15 ∧ Go.bits .and .u8 (n : Int) 15 < 16 ∧
  ([37, bt hexT ((n : Int) / 16), bt hexT (Go.bits .and .u8 (n : Int) 15)] : List Int) = ints (encN n)) := by decide +kernel
theorem sign_i (s : ByteArray) (i : Nat) (hs : s.size ≤ 60) (hi : i < s.size) :
  impl_signByte.f s (i : Int) = some (if h : i + 2 < (L s).length then (match hexN ((L s)[i + 1]'(by omega)), hexN ((L s)[i + 2]'h) with | some x, some y => (((x * 16 + y : Nat) : Int), true) | _, _ => (0, false)) else (0, false)) := by
 have hL := L_size s
 unfold impl_signByte.f
 rw [w64 (n := (s.size : Int) - i) (by omega) (by omega)]
 by_cases h : i + 2 < (L s).length
 ·rw [dif_pos h, if_neg (by omega), w64 (n := (i : Int) + 1) (by omega) (by omega), w64 (n := (i : Int) + 2) (by omega) (by omega), if_pos (by omega), if_pos (by omega)]
  have b1 := bt_get s (i + 1) (by omega)
  have b2 := bt_get s (i + 2) h
  have l1 := @hexN_lt ((L s)[i + 1]'(by omega))
  have l2 := @hexN_lt ((L s)[i + 2]'h)
  rw [show ((i : Int) + 1) = ((i + 1 : Nat) : Int) from by omega, show ((i : Int) + 2) = ((i + 2 : Nat) : Int) from by omega, b1, b2]
  generalize (L s)[i + 1]'(by omega) = ca at l1 ⊢
  generalize (L s)[i + 2]'h = cb at l2 ⊢
  rw [figv ca, figv cb]
  simp only [Option.bind_some]
  rw [if_pos (by omega), if_pos (by omega)]
  cases ha : hexN ca with
  | none => simp
  | some x =>
   cases hb : hexN cb with
   | none => simp
   | some y =>
    have := l1 ha
    have := l2 hb
    simp only [if_true]
    rw [w64 (n := (x : Int) * 16) (by omega) (by omega), w64 (by omega) (by omega)]
    congr 2
    omega
 ·rw [dif_neg h, if_pos (by omega)]
theorem enc_i (s : ByteArray) (acc : List UInt8) (n : Nat) (j : Int) (h : n < 256) (ha : acc.length ≤ 1000000) (k : Nat) :
  ((impl_standsForItself.f (n : Int)).bind fun t => (if t = true then (if (ints acc).length < 140737488355328 then (impl_EscNorm.l0 k s (ints acc ++ [(n : Int)]) j) else (none)) else (if 0 ≤ ((n : Int) / 16) then (if ((n : Int) / 16) < 16 then (if 0 ≤ (Go.bits .and .u8 (n : Int) 15) then (if (Go.bits .and .u8 (n : Int) 15) < 16 then ((some (([37, bt (⟨#[48, 49, 50, 51, 52, 53, 54, 55, 56, 57, 65, 66, 67, 68, 69, 70]⟩ : ByteArray) ((n : Int) / 16), bt (⟨#[48, 49, 50, 51, 52, 53, 54, 55, 56, 57, 65, 66, 67, 68, 69, 70]⟩ : ByteArray) (Go.bits .and .u8 (n : Int) 15)] : List Int) : List Int)).bind fun y => (if (ints acc).length + y.length < 140737488355328 then (impl_EscNorm.l0 k s (ints acc ++ y) j) else (none))) else (none)) else (none)) else (none)) else (none)))) = impl_EscNorm.l0 k s (ints (acc ++ encN n)) j := by
 obtain ⟨p1, p2⟩ := put_all n h
 rw [stands_all n h]
 simp only [Option.bind_some]
 have hl := ints_len acc
 cases hp : plainB (UInt8.ofNat n) with
 | true => rw [if_pos rfl, if_pos (by omega), ints_app, p1 hp]
 | false =>
  obtain ⟨q1, q2, q3, q4, q5⟩ := p2 hp
  rw [if_neg (by simp), if_pos q1, if_pos q2, if_pos q3, if_pos q4]
  unfold hexT at q5
  rw [q5]
  have := encN_len n
  have := ints_len (encN n)
  rw [if_pos (by omega), ints_app]
theorem esc_i (s : ByteArray) (hs : s.size ≤ 60) (n : Nat) : ∀ (i : Nat) (acc : List UInt8), i ≤ s.size → s.size - i ≤ n → acc.length ≤ 3 * i →
  Ev (fun k => impl_EscNorm.l0 k s (ints acc) (i : Int)) (escR (ofL acc) (esc ((L s).drop i))) := by
 have hL := L_size s
 induction n with
 | zero =>
  intro i acc hi hn ha
  refine Ev.of (fun k => impl_EscNorm.mono_l k |> fun h => h _ _ _) (k := 1) ?_
  simp only [impl_EscNorm.l0]
  rw [if_neg (by omega), List.drop_eq_nil_of_le (by omega)]
  simp only [esc, escR]
  rw [app_nil, nums_ints]
 | succ n ih =>
  intro i acc hi hn ha
  by_cases hlt : i < s.size
  ·have hlt' : i < (L s).length := by omega
   rw [drop_at hlt']
   have hb := bt_get s i hlt'
   by_cases hc : (L s)[i] = 37
   ·have hb37 : bt s i = 37 := by rw [hb, hc]; rfl
    have w3 : wrap64 (wrap64 ((i : Int) + 2) + 1) = ((i + 2 + 1 : Nat) : Int) := by rw [w64 (n := (i : Int) + 2) (by omega) (by omega), w64 (by omega) (by omega)]; omega
    rw [hc]
    have sg := sign_i s i hs hlt
    refine Ev_succ ?_
    simp only [impl_EscNorm.l0]
    simp only [show ((i : Int) < (s.size : Int)) from by omega, show ((0 : Int) ≤ (i : Int)) from by omega, hb37, if_true, sg, Option.bind_some, w3]
    by_cases h2 : i + 2 < (L s).length
    ·have g1 : i + 1 < (L s).length := by omega
     rw [drop_at g1, drop_at h2]
     simp only [h2, dif_pos]
     generalize (L s)[i + 1]'g1 = ca
     generalize (L s)[i + 2]'h2 = cb
     cases ha' : hexN ca with
     | none =>
      rw [esc_bad1 _ _ ha']
      simp only [Bool.false_eq_true, if_false]
      exact Ev.now _
     | some x =>
      cases hb' : hexN cb with
      | none =>
       rw [esc_bad2 _ _ hb']
       simp only [Bool.false_eq_true, if_false]
       exact Ev.now _
      | some y =>
       have hx := hexN_lt ha'
       have hy := hexN_lt hb'
       rw [esc_sign _ ha' hb', escR_map]
       simp only [if_true]
       refine Ev.congr (fun k => enc_i s acc (x * 16 + y) _ (by omega) (by omega) k) ?_
       have := encN_len (x * 16 + y)
       rw [← ofL_app]
       exact ih (i + 2 + 1) _ (by omega) (by omega) (by rw [List.length_append]; omega)
    ·rw [esc_short (by rw [List.length_drop]; omega)]
     simp only [h2, dif_neg, not_false_eq_true, Bool.false_eq_true, if_false]
     exact Ev.now _
   ·have hb37 : ¬ bt s i = 37 := by
     rw [hb]
     intro e
     exact hc (UInt8.toNat_inj.1 (by have : (37 : UInt8).toNat = 37 := rfl; omega))
    rw [esc_plain _ hc]
    have hlt8 := (L s)[i].toNat_lt
    have w1 : wrap64 ((i : Int) + 1) = ((i + 1 : Nat) : Int) := by rw [w64 (by omega) (by omega)]; omega
    refine Ev_succ ?_
    simp only [impl_EscNorm.l0]
    simp only [show ((i : Int) < (s.size : Int)) from by omega, show ((0 : Int) ≤ (i : Int)) from by omega, hb37, if_true, if_false, w1]
    rw [escR_map]
    simp only [hb]
    refine Ev.congr (fun k => enc_i s acc (L s)[i].toNat _ (by omega) (by omega) k) ?_
    have hz := encN_len (L s)[i].toNat
    rw [← ofL_app]
    refine ih (i + 1) _ (by omega) (by omega) ?_
    rw [List.length_append]; omega
  ·refine Ev.of (fun k => impl_EscNorm.mono_l k |> fun h => h _ _ _) (k := 1) ?_
   simp only [impl_EscNorm.l0]
   rw [if_neg (by omega), List.drop_eq_nil_of_le (by omega)]
   simp only [esc, escR]
   rw [app_nil, nums_ints]
theorem escNorm_i (s : ByteArray) : Ev (fun k => impl_EscNorm.f k s) (escNorm s) := by
 unfold impl_EscNorm.f escNorm
 by_cases h : s.size > 60
 ·simp only [show ((s.size : Int) > 60) from by omega, if_true, h]
  exact Ev.now _
 ·simp only [show ¬ ((s.size : Int) > 60) from by omega, if_false, h]
  have := esc_i s (by omega) s.size 0 [] (by omega) (by omega) (Nat.le_refl 0)
  simp only [List.drop_zero] at this
  have e : escR (ofL []) (esc (L s)) = escO (esc (L s)) := by
   unfold escR escO
   cases esc (L s) with
   | none => rfl
   | some r => simp only [Prod.mk.injEq, and_true]; apply L_inj; rw [L_app]; rfl
  rw [← e]
  exact this
theorem norm_i (s : ByteArray) : Ev (fun k => impl_isNormal.f k s) (isNorm s) := by
 unfold impl_isNormal.f isNorm
 refine Ev.bind (escNorm_i s) ?_
 by_cases h : (escNorm s).2 = true
 ·simp only [h, if_true, Bool.true_and]
  exact Ev.now _
 ·simp only [h, if_false, Bool.false_and]
  exact Ev.now _
end Go.Proofs.YtpomhjkbgbociaaDoor.Ad
end
section
namespace Go.Proofs.YtpomhjkbgbociaaDoor.Ad
open Go.RowKit Go.Proofs.YtpomhjkbgbociaaDoor.P Go.Proofs.YtpomhjkbgbociaaDoorW.PrintWords Go.Proofs.YtpomhjkbgbociaaDoorW.PrintLast Go.Proofs.YtpomhjkbgbociaaDoorW.PrintMore Go.Proofs.YtpomhjkbgbociaaDoor.B
set_option linter.unusedVariables false
set_option linter.unusedSimpArgs false
theorem small_i (s : ByteArray) (hs : s.size ≤ 140737488351232) (d : Nat) : ∀ (k : Nat) (i : Nat), i + d = s.size → d < k →
  impl_allSmallLetters.l0 k s (i : Int) = some (smallFrom s d i) := by
 induction d with
 | zero =>
  intro k i h hk
  obtain ⟨k, rfl⟩ : ∃ m, k = m + 1 := ⟨k - 1, by omega⟩
  simp only [impl_allSmallLetters.l0, smallFrom]
  rw [if_neg (by omega)]
 | succ d ih =>
  intro k i h hk
  obtain ⟨k, rfl⟩ : ∃ m, k = m + 1 := ⟨k - 1, by omega⟩
  simp only [impl_allSmallLetters.l0, smallFrom]
  rw [if_pos (by omega), if_pos (by omega)]
  by_cases h1 : bt s i < 97
  ·rw [if_pos h1, if_pos h1]
  ·rw [if_neg h1, if_neg h1]
   by_cases h2 : bt s i > 122
   ·rw [if_pos h2, if_pos h2]
   ·rw [if_neg h2, if_neg h2, w64 (by omega) (by omega)]
    exact ih k (i + 1) (by omega) (by omega)
theorem smalls_i (s : ByteArray) (hs : s.size ≤ 140737488351232) : Ev (fun k => impl_allSmallLetters.f k s) (isSmall s) := by
 refine Ev.of (fun k => impl_allSmallLetters.mono _ k) (k := s.size + 1) ?_
 exact small_i s hs s.size (s.size + 1) 0 (by omega) (by omega)
theorem house_i (s : ByteArray) (hs : s.size ≤ 140737488351232) : Ev (fun k => impl_isHouse.f k s) (isHouse s) := by
 unfold impl_isHouse.f isHouse
 by_cases h1 : 1 ≤ s.size
 ·simp only [show ((s.size : Int) ≥ 1) from by omega, if_true, h1, decide_true, Bool.true_and]
  by_cases h2 : s.size ≤ 5
  ·simp only [show ((s.size : Int) ≤ 5) from by omega, if_true, h2, decide_true, Bool.true_and]
   exact Ev.bind (smalls_i s hs) (Ev.now _)
  ·simp only [show ¬ ((s.size : Int) ≤ 5) from by omega, if_false, h2, decide_false, Bool.false_and]
   exact Ev.now _
 ·simp only [show ¬ ((s.size : Int) ≥ 1) from by omega, if_false, h1, decide_false, Bool.false_and]
  exact Ev.now _
theorem L_fold : ∀ (r : List ByteArray) (acc : ByteArray), L (r.foldl (fun a q => (a ++ ⟨#[47]⟩) ++ q) acc) = L acc ++ Lib.joinTail [47] (r.map L)
 | [], acc => by simp [Lib.joinTail]
 | q :: r, acc => by
  rw [List.foldl_cons, L_fold r, L_app, L_app]
  simp [Lib.joinTail, L]
theorem L_body (ps : List ByteArray) : L (body ps) = 47 :: Lib.join (ps.map L) [47] := by
 cases ps with
 | nil => rfl
 | cons p r =>
  unfold body
  rw [L_fold, List.map_cons, Lib.join_cons, L_app]
  rfl
theorem body_join (ps : List ByteArray) : (⟨#[47]⟩ : ByteArray) ++ ofL (Lib.join (ps.map L) [47]) = body ps := by
 apply L_inj
 rw [L_app, L_of, L_body]
 rfl
theorem join_len (ps : List ByteArray) : (Lib.join (ps.map L) [47]).length + 1 = (body ps).size := by
 rw [← L_size, L_body]; simp
theorem path_i (parts : List ByteArray) (asks : Bool) (ask house : ByteArray) (hP : Parts parts) (hq : ask.size ≤ 1048576) : impl_writePath.f house parts asks ask = some (pathB parts asks ask) := by
 have hz := path_size parts false ask hP hq
 have hb : pathB parts false ask = body parts := rfl
 rw [hb] at hz
 have hj := join_len parts
 have hf := hP.few
 unfold impl_writePath.f strings_Join.f
 have e47 : L (⟨#[47]⟩ : ByteArray) = [47] := rfl
 rw [e47, if_pos ⟨by omega, by omega⟩]
 simp only [Option.bind_some]
 have hs := ofL_size (Lib.join (parts.map L) [47])
 rw [if_pos (by omega), body_join]
 by_cases h : asks = true
 ·rw [if_pos h, if_pos (by omega), if_pos (by omega)]
  unfold pathB
  rw [if_pos h, ByteArray.append_assoc]
 ·rw [if_neg h]
  unfold pathB
  rw [if_neg h]
theorem text_i (house : ByteArray) (parts : List ByteArray) (asks : Bool) (ask : ByteArray) (hP : Parts parts) (hq : ask.size ≤ 1048576) (hh : house.size ≤ 1048576) :
  impl_writeAddr.f house parts asks ask = some (textB house parts asks ask) := by
 have hz := path_size parts asks ask hP hq
 unfold impl_writeAddr.f
 rw [if_pos (by omega), path_i parts asks ask house hP hq]
 simp only [Option.bind_some]
 rw [if_pos (by omega)]
 rfl
def okEnd (house : ByteArray) (parts : List ByteArray) (asks : Bool) (ask : ByteArray) : Bool := isNorm ask && (asks || ask.toList == []) && decide ((textB house parts asks ask).size ≤ 60)
theorem ok_i (house : ByteArray) (parts : List ByteArray) (asks : Bool) (ask : ByteArray) (hP : Parts parts) (hq : ask.size ≤ 1048576) (hh : house.size ≤ 1048576) (d : Nat) : ∀ (i : Nat), i + d = parts.length →
  Ev (fun k => impl_AddrOk.l0 k parts (parts.length : Int) (i : Int) house parts asks ask) ((parts.drop i).all partOk && okEnd house parts asks ask) := by
 have hf := hP.few
 induction d with
 | zero =>
  intro i hi
  rw [List.drop_eq_nil_of_le (by omega)]
  simp only [List.all_nil, Bool.true_and]
  refine Ev_succ ?_
  simp only [impl_AddrOk.l0]
  simp only [show ¬ ((i : Int) < (parts.length : Int)) from by omega, if_false, text_i house parts asks ask hP hq hh, Option.bind_some]
  refine Ev.bind (norm_i ask) ?_
  unfold okEnd
  have e : decide (((textB house parts asks ask).size : Int) ≤ 60) = decide ((textB house parts asks ask).size ≤ 60) := by rw [Bool.eq_iff_iff]; simp; omega
  by_cases h3 : isNorm ask = true
  ·simp only [h3, if_true, Bool.true_and, e]
   by_cases h4 : asks = true
   ·simp only [h4, if_true, Bool.true_or, Bool.true_and]
    exact Ev.now _
   ·by_cases h5 : ask.toList = []
    ·simp only [h4, if_false, h5, if_true, beq_self_eq_true, Bool.or_true, Bool.true_and]
     exact Ev.now _
    ·simp only [h4, if_false, h5, show (ask.toList == ([] : List UInt8)) = false from by simp [h5], Bool.or_false, Bool.false_and]
     exact Ev.now _
  ·simp only [h3, if_false, Bool.false_and]
   exact Ev.now _
 | succ d ih =>
  intro i hi
  have hlt : i < parts.length := by omega
  rw [List.drop_eq_getElem_cons hlt, List.all_cons]
  refine Ev_succ ?_
  simp only [impl_AddrOk.l0]
  have w1 : wrap64 ((i : Int) + 1) = ((i + 1 : Nat) : Int) := by rw [w64 (by omega) (by omega)]; omega
  simp only [show ((i : Int) < (parts.length : Int)) from by omega, show ((0 : Int) ≤ (i : Int)) from by omega, if_true, rd_at hlt, w1]
  by_cases h2 : parts[i].toList = []
  ·simp only [h2, if_true]
   rw [show partOk parts[i] = false from by simp [partOk, h2]]
   exact Ev.now _
  ·by_cases h3 : parts[i].toList = [46]
   ·simp only [h2, h3, if_true, if_false]
    rw [show partOk parts[i] = false from by simp [partOk, h3]]
    first | exact Ev.now _ | simpa using Ev.now _
   ·by_cases h4 : parts[i].toList = [46, 46]
    ·simp only [h2, h3, h4, if_true, if_false]
     rw [show partOk parts[i] = false from by simp [partOk, h4]]
     first | exact Ev.now _ | simpa using Ev.now _
    ·simp only [h2, h3, h4, if_false]
     refine Ev.bind (norm_i parts[i]) ?_
     by_cases h1 : isNorm parts[i] = true
     ·simp only [h1, if_true]
      rw [show partOk parts[i] = true from by simp [partOk, h1, h2, h3, h4], Bool.true_and]
      exact ih (i + 1) (by omega)
     ·simp only [h1, if_false]
      rw [show partOk parts[i] = false from by simp [partOk, h1]]
      exact Ev.now _
theorem okEnd_is (house : ByteArray) (parts : List ByteArray) (asks : Bool) (ask : ByteArray) : addrOk house parts asks ask = (isHouse house && decide (parts.length ≤ 5) && (parts.all partOk && okEnd house parts asks ask)) := by
 unfold addrOk okEnd
 cases isHouse house <;> cases decide (parts.length ≤ 5) <;> cases isNorm ask <;> cases (asks || ask.toList == []) <;> cases parts.all partOk <;> rfl
theorem addrOk_i (house : ByteArray) (parts : List ByteArray) (asks : Bool) (ask : ByteArray) (hP : Parts parts) (hq : ask.size ≤ 1048576) (hh : house.size ≤ 1048576) :
  Ev (fun k => impl_AddrOk.f k house parts asks ask) (addrOk house parts asks ask) := by
 have hf := hP.few
 have bad : Ev (fun k => impl_AddrOk.j0 k true house parts asks ask) false := Ev_succ (by simp only [impl_AddrOk.j0, if_true]; exact Ev.now _)
 unfold impl_AddrOk.f
 rw [okEnd_is]
 refine Ev.bind (house_i house (by omega)) ?_
 by_cases h1 : isHouse house = true
 ·simp only [h1, if_true, Bool.true_and]
  by_cases h2 : parts.length ≤ 5
  ·rw [show decide ((parts.length : Int) > 5) = false from by simp; omega]
   simp only [h2, decide_true, Bool.true_and]
   refine Ev_succ ?_
   simp only [impl_AddrOk.j0, Bool.false_eq_true, if_false]
   have := ok_i house parts asks ask hP hq hh parts.length 0 (by omega)
   simpa using this
  ·rw [show decide ((parts.length : Int) > 5) = true from by simp; omega]
   simp only [h2, decide_false, Bool.false_and]
   exact bad
 ·simp only [h1, if_false, Bool.false_and]
  exact bad
end Go.Proofs.YtpomhjkbgbociaaDoor.Ad
end
section
namespace Go.Proofs.YtpomhjkbgbociaaDoor.Ad
open Go.RowKit Go.Proofs.YtpomhjkbgbociaaDoorW.PrintWords Go.Proofs.YtpomhjkbgbociaaDoor.B
set_option linter.unusedVariables false
set_option linter.unusedSimpArgs false
abbrev A5 := ByteArray × List ByteArray × Bool × ByteArray × Bool
def none5 : A5 := ((⟨#[]⟩ : ByteArray), ([] : List ByteArray), false, (⟨#[]⟩ : ByteArray), false)
def escAll : List ByteArray → Option (List ByteArray)
 | [] => some []
 | q :: qs => if (escNorm q).2 = true then (escAll qs).map ((escNorm q).1 :: ·) else none
def clean1 (acc : List ByteArray) (p : ByteArray) : List ByteArray :=
 if p.toList = [] then acc else if p.toList = [46] then acc else if p.toList = [46, 46] then acc.take (acc.length - 1) else acc ++ [p]
def pathClean (ps : List ByteArray) : List ByteArray := ps.foldl clean1 []
def wayO (house : ByteArray) (base : List ByteArray) (way : ByteArray) : A5 :=
 match escAll ((splitL 47 (L (cutB 63 way).1)).map ofL) with
 | none => none5
 | some ps => if (escNorm (cutB 63 way).2.1).2 = true then (if addrOk house (pathClean (base ++ ps)) (cutB 63 way).2.2 (escNorm (cutB 63 way).2.1).1 = true then (house, pathClean (base ++ ps), (cutB 63 way).2.2, (escNorm (cutB 63 way).2.1).1, true) else none5) else none5
def houseL : List UInt8 → List UInt8 × List UInt8
 | [] => ([], [])
 | x :: xs => if x = 47 ∨ x = 63 then ([], x :: xs) else (x :: (houseL xs).1, (houseL xs).2)
def wholeO (rest : ByteArray) : A5 := wayO (smallB (ofL (houseL (L rest)).1)) [] (ofL (houseL (L rest)).2)
def readO (raw : ByteArray) : A5 :=
 if raw.size > 60 then none5 else if (cutB 35 raw).1.size < 2 then none5 else if (L (cutB 35 raw).1).take 2 = [47, 47] then wholeO ((cutB 35 raw).1.extract 2 (cutB 35 raw).1.size) else none5
def Fine (a : A5) : Prop := a = none5 ∨ (a.2.2.2.2 = true ∧ addrOk a.1 a.2.1 a.2.2.1 a.2.2.2.1 = true)
theorem fine_none : Fine none5 := Or.inl rfl
theorem fine_way (h : ByteArray) (b : List ByteArray) (w : ByteArray) : Fine (wayO h b w) := by
 unfold wayO
 split
 ·exact fine_none
 ·split
  ·split
   ·rename_i hh
    exact Or.inr ⟨rfl, hh⟩
   ·exact fine_none
  ·exact fine_none
theorem fine_read (raw : ByteArray) : Fine (readO raw) := by
 unfold readO
 split
 ·exact fine_none
 ·split
  ·exact fine_none
  ·split
   ·exact fine_way _ _ _
   ·exact fine_none
theorem isHouse_size {s : ByteArray} (h : isHouse s = true) : s.size ≤ 5 := by
 unfold isHouse at h
 simp only [Bool.and_eq_true, decide_eq_true_eq] at h
 exact h.1.2
theorem clean1_mem {acc : List ByteArray} {p x : ByteArray} (h : x ∈ clean1 acc p) : x ∈ acc ∨ x = p := by
 unfold clean1 at h
 split at h
 ·exact Or.inl h
 ·split at h
  ·exact Or.inl h
  ·split at h
   ·exact Or.inl (List.mem_of_mem_take h)
   ·rcases List.mem_append.1 h with h | h
    ·exact Or.inl h
    ·exact Or.inr (List.mem_singleton.1 h)
theorem clean1_len (acc : List ByteArray) (p : ByteArray) : (clean1 acc p).length ≤ acc.length + 1 := by
 unfold clean1
 split
 ·omega
 ·split
  ·omega
  ·split
   ·rw [List.length_take]; omega
   ·simp
theorem cleanF_mem : ∀ {ps acc : List ByteArray} {x : ByteArray}, x ∈ ps.foldl clean1 acc → x ∈ acc ∨ x ∈ ps
 | [], acc, x, h => Or.inl h
 | p :: ps, acc, x, h => by
  rw [List.foldl_cons] at h
  rcases cleanF_mem h with h | h
  ·rcases clean1_mem h with h | h
   ·exact Or.inl h
   ·exact Or.inr (by rw [h]; exact List.mem_cons_self)
  ·exact Or.inr (List.mem_cons_of_mem _ h)
theorem cleanF_len : ∀ (ps acc : List ByteArray), (ps.foldl clean1 acc).length ≤ acc.length + ps.length
 | [], acc => by simp
 | p :: ps, acc => by
  rw [List.foldl_cons]
  have := cleanF_len ps (clean1 acc p)
  have := clean1_len acc p
  simp only [List.length_cons]; omega
end Go.Proofs.YtpomhjkbgbociaaDoor.Ad
end
section
namespace Go.Proofs.YtpomhjkbgbociaaDoor.Ad
open Go.RowKit Go.Proofs.YtpomhjkbgbociaaDoor.P Go.Proofs.YtpomhjkbgbociaaDoorW.PrintWords Go.Proofs.YtpomhjkbgbociaaDoorW.PrintLast Go.Proofs.YtpomhjkbgbociaaDoorW.PrintMore Go.Proofs.YtpomhjkbgbociaaDoor.B
set_option linter.unusedVariables false
set_option linter.unusedSimpArgs false
theorem index_cut (c : UInt8) : ∀ l : List UInt8, Lib.indexByte l c = if (cutL c l).2.2 = true then (((cutL c l).1.length : Nat) : Int) else -1
 | [] => rfl
 | x :: xs => by
  unfold Lib.indexByte cutL
  by_cases h : x = c
  ·subst h; simp
  ·have hb : (x == c) = false := by simp [h]
   simp only [hb, h, if_false, Bool.false_eq_true, index_cut c xs]
   by_cases h2 : (cutL c xs).2.2 = true
   ·simp only [h2, if_true]
    have : ((((cutL c xs).1.length : Nat) : Int) == -1) = false := by simp
    rw [this]
    simp
   ·simp only [h2, if_false, Bool.false_eq_true]
    rfl
theorem cut_parts {c : UInt8} {s : ByteArray} (h : (cutL c (L s)).2.2 = true) :
  s.extract 0 (cutL c (L s)).1.length = ofL (cutL c (L s)).1 ∧ s.extract ((cutL c (L s)).1.length + 1) s.size = ofL (cutL c (L s)).2.1 ∧ (cutL c (L s)).1.length + 1 ≤ s.size := by
 have e := cutL_true h
 have hn := (cutL_len (c := c) (L s)).2 h
 rw [L_size] at hn
 generalize (cutL c (L s)).1 = a at *
 generalize (cutL c (L s)).2.1 = b at *
 have e' : s.data.toList = a ++ c :: b := e
 refine ⟨?_, ?_, by omega⟩
 ·apply L_inj
  rw [L_ext, L_of, e']
  simp
 ·apply L_inj
  have : (a ++ c :: b).drop (a.length + 1) = b := by rw [List.drop_append]; simp
  rw [L_ext, L_of, e', this, List.take_of_length_le (by omega)]
theorem cut_i (s : ByteArray) (c : UInt8) (hs : s.size ≤ 140737488351232) : strings_Cut.f s ⟨#[c]⟩ = some (cutB c s) := by
 have e1 : L (⟨#[c]⟩ : ByteArray) = [c] := rfl
 have e2 : (⟨#[c]⟩ : ByteArray).size = 1 := rfl
 unfold strings_Cut.f stringslite_Cut.f stringslite_Index.f cutB
 rw [e1]
 simp only [Option.bind_some, index_cut, e2]
 by_cases h : (cutL c (L s)).2.2 = true
 ·obtain ⟨h1, h2, h3⟩ := cut_parts h
  simp only [h, if_true]
  rw [if_pos (by omega), if_pos (by omega), if_pos (by omega), w64 (by omega) (by omega), if_pos (by omega), if_pos (by omega)]
  simp only [Option.bind_some, Int.toNat_natCast]
  rw [h1, show (((cutL c (L s)).1.length : Int) + ((1 : Nat) : Int)).toNat = (cutL c (L s)).1.length + 1 from by omega, h2]
 ·simp only [h, if_false, Bool.false_eq_true]
  rw [if_neg (by decide)]
  obtain ⟨g1, g2⟩ := cutL_false (c := c) (l := L s) (by simpa using h)
  simp only [Option.bind_some, g1, g2, of_L]
  first | done | rfl
theorem count_cut_false {c : UInt8} : ∀ {l : List UInt8}, Lib.countByte l c = 0 → (cutL c l).2.2 = false
 | [], _ => rfl
 | x :: xs, h => by
  unfold Lib.countByte at h
  unfold cutL
  by_cases e : x = c
  ·subst e; simp at h
  ·rw [if_neg e]
   have h' : Lib.countByte xs c = 0 := by unfold Lib.countByte; rw [List.count_cons] at h; omega
   exact count_cut_false h'
theorem count_cut_true {c : UInt8} {m : Nat} : ∀ {l : List UInt8}, Lib.countByte l c = m + 1 → (cutL c l).2.2 = true ∧ Lib.countByte (cutL c l).2.1 c = m
 | [], h => by simp [Lib.countByte] at h
 | x :: xs, h => by
  unfold Lib.countByte at h
  unfold cutL
  by_cases e : x = c
  ·subst e
   rw [if_pos rfl]
   refine ⟨rfl, ?_⟩
   unfold Lib.countByte
   rw [List.count_cons_self] at h
   exact Nat.succ.inj h
  ·rw [if_neg e]
   have h' : Lib.countByte xs c = m + 1 := by
    unfold Lib.countByte
    rw [List.count_cons_of_ne e] at h
    exact h
   exact count_cut_true h'
theorem w64n0 (a : Nat) (h : a < 4611686018427387904) : wrap64 ((a : Int) + 0) = (a : Int) := by rw [w64 (by omega) (by omega)]; omega
theorem w64n1 (a : Nat) (h : a < 4611686018427387904) : wrap64 ((a : Int) + 1) = ((a + 1 : Nat) : Int) := by rw [w64 (by omega) (by omega)]; omega
theorem w64n2 (a : Nat) (h : a < 4611686018427387904) : wrap64 ((a : Int) + ((1 : Nat) : Int)) = ((a + 1 : Nat) : Int) := by rw [w64 (by omega) (by omega)]; omega
theorem w64b {n m : Nat} (h : n + 1 ≤ m) (hm : m ≤ 1000000000) : n < 4611686018427387904 := by omega
theorem w64d {n m : Nat} (h : n + m ≤ 2000000000) : n < 4611686018427387904 := by omega
theorem ci_lt (a m : Nat) : (a : Int) < ((a + (m + 1) : Nat) : Int) := by omega
theorem ci_neg (n : Nat) : ¬ ((n : Int) < 0) := by omega
theorem ci_nn (n : Nat) : (0 : Int) ≤ (n : Int) := by omega
theorem ci_le {n s : Nat} (h : n + 1 ≤ s) : (n : Int) ≤ (s : Int) := by omega
theorem ci_le1 {n s : Nat} (h : n + 1 ≤ s) : ((n + 1 : Nat) : Int) ≤ (s : Int) := by omega
theorem ci_l6 {a m l : Nat} (h : l = a + (m + 2)) : (a : Int) < (l : Int) := by omega
theorem set_mid (a : List ByteArray) (m : Nat) (p e : ByteArray) : (a ++ List.replicate (m + 1) e).set a.length p = (a ++ [p]) ++ List.replicate m e := by
 rw [List.set_append_right _ _ (Nat.le_refl _), Nat.sub_self, List.replicate_succ, List.set_cons_zero, List.append_assoc]
 rfl
theorem take_mid (a b : List ByteArray) (p : ByteArray) : ((a ++ [p]) ++ b).take (a.length + 1) = a ++ [p] := by
 rw [List.take_append_of_le_length (by simp)]
 exact List.take_of_length_le (by simp)
theorem split_li (c : UInt8) : ∀ (m : Nat) (s : ByteArray) (a : List ByteArray), Lib.countByte (L s) c = m → s.size ≤ 1000000000 → a.length + m ≤ 2000000000 →
  Ev (fun k => strings_genSplit.l0 k s ⟨#[c]⟩ 0 ((a.length + m : Nat) : Int) (a ++ List.replicate (m + 1) (⟨#[]⟩ : ByteArray)) (a.length : Int)) (a ++ (splitL c (L s)).map ofL) := by
 intro m
 have e1 : L (⟨#[c]⟩ : ByteArray) = [c] := rfl
 have e2 : (⟨#[c]⟩ : ByteArray).size = 1 := rfl
 induction m with
 | zero =>
  intro s a hc hs ha
  have hf := count_cut_false hc
  obtain ⟨g1, g2⟩ := cutL_false hf
  rw [splitL_eq, hf]
  refine Ev_succ ?_
  simp only [strings_genSplit.l0]
  have hl : (a ++ List.replicate (0 + 1) (⟨#[]⟩ : ByteArray)).length = a.length + 1 := by simp
  have hw : wrap64 ((a.length : Int) + 1) = ((a.length + 1 : Nat) : Int) := by rw [w64 (by omega) (by omega)]; omega
  simp only [show ¬ ((a.length : Int) < ((a.length + 0 : Nat) : Int)) from by omega, if_false, hl, show ((0 : Int) ≤ (a.length : Int)) from by omega, show ((a.length : Int) < ((a.length + 1 : Nat) : Int)) from by omega, if_true, hw,
   show ((0 : Int) ≤ ((a.length + 1 : Nat) : Int)) from by omega, Int.toNat_natCast, Int.le_refl]
  rw [set_mid, take_mid]
  simp only [Bool.false_eq_true, if_false, List.map_cons, List.map_nil, g1, of_L]
  exact Ev.now _
 | succ m ih =>
  intro s a hc hs ha
  obtain ⟨ht, hc'⟩ := count_cut_true hc
  obtain ⟨h1, h2, h3⟩ := cut_parts ht
  have hix : Lib.indexByte (L s) c = (((cutL c (L s)).1.length : Nat) : Int) := by rw [index_cut, if_pos ht]
  rw [splitL_eq, if_pos ht]
  have hz : (ofL (cutL c (L s)).2.1).size ≤ 1000000000 := by
   have := (cutL_len (c := c) (L s)).1
   rw [L_size] at this
   rw [ofL_size]; omega
  have key := ih (ofL (cutL c (L s)).2.1) (a ++ [ofL (cutL c (L s)).1]) (by rw [L_of]; exact hc') hz (by simp; omega)
  rw [L_of] at key
  rw [List.map_cons, show a ++ ofL (cutL c (L s)).1 :: List.map ofL (splitL c (cutL c (L s)).2.1) = a ++ [ofL (cutL c (L s)).1] ++ List.map ofL (splitL c (cutL c (L s)).2.1) from by simp]
  generalize (cutL c (L s)).1.length = n at h1 h2 h3 hix
  rw [show (cutL c (L s)).2.1 = L (s.extract (n + 1) s.size) from by rw [h2, L_of]]
  rw [← h1] at key ⊢
  rw [← h2] at key
  clear hz h1 h2 hc' ht hc
  have hl : (a ++ List.replicate (m + 1 + 1) (⟨#[]⟩ : ByteArray)).length = a.length + (m + 2) := by simp
  have hl2 : (a ++ [s.extract 0 n]).length = a.length + 1 := by simp
  rw [hl2] at key
  refine Ev.step (fun k => ?_) key
  have c1 := ci_lt a.length m
  have c2 := ci_neg n
  have c3 := ci_nn n
  have c4 := ci_le h3
  have c5 := ci_nn a.length
  have c6 := ci_l6 hl
  have c7 := ci_nn (n + 1)
  have c8 := ci_le1 h3
  have hw : wrap64 ((a.length : Int) + 1) = ((a.length + 1 : Nat) : Int) := w64n1 a.length (w64d ha)
  have hw0 : wrap64 ((n : Int) + 0) = (n : Int) := w64n0 n (w64b h3 hs)
  have hw1 : wrap64 ((n : Int) + ((1 : Nat) : Int)) = ((n + 1 : Nat) : Int) := w64n2 n (w64b h3 hs)
  simp only [strings_genSplit.l0, strings_Index.f, stringslite_Index.f]
  rw [if_pos c1, hix, Option.bind_some, Option.bind_some]
  rw [if_neg c2, hw0, if_pos c3, if_pos c4, if_pos c5, if_pos c6, e2, hw1, if_pos c7, if_pos c8, hw]
  simp only [Int.toNat_natCast]
  rw [set_mid, show a.length + 1 + m = a.length + (m + 1) from by rw [Nat.add_assoc, Nat.add_comm 1 m]]
theorem split_i (s : ByteArray) (c : UInt8) (hs : s.size ≤ 1000000000) : Ev (fun k => strings_Split.f k s ⟨#[c]⟩) ((splitL c (L s)).map ofL) := by
 have e1 : L (⟨#[c]⟩ : ByteArray) = [c] := rfl
 have hcnt : Lib.countByte (L s) c ≤ s.size := by rw [← L_size]; exact List.count_le_length
 unfold strings_Split.f strings_genSplit.f strings_Count.f
 have en : ¬ ((⟨#[c]⟩ : ByteArray).toList = ([] : List UInt8)) := by rw [toList_nil]; show ¬ (1 = 0); omega
 rw [e1]
 simp only [show ¬ ((-1 : Int) = 0) from by omega, if_false, en, show ((-1 : Int) < 0) from by omega, if_true, Option.bind_some]
 refine Ev.bind (a := (splitL c (L s)).map ofL) ?_ (Ev.now _)
 refine Ev_succ ?_
 have hw : wrap64 (((Lib.countByte (L s) c : Nat) : Int) + 1) = ((Lib.countByte (L s) c + 1 : Nat) : Int) := by rw [w64 (by omega) (by omega)]; omega
 have hw2 : wrap64 ((s.size : Int) + 1) = ((s.size + 1 : Nat) : Int) := by rw [w64 (by omega) (by omega)]; omega
 have hm : mn ((Lib.countByte (L s) c + 1 : Nat) : Int) ((s.size + 1 : Nat) : Int) = ((Lib.countByte (L s) c + 1 : Nat) : Int) := by unfold mn; split <;> omega
 have hw3 : wrap64 (((Lib.countByte (L s) c + 1 : Nat) : Int) - 1) = ((0 + Lib.countByte (L s) c : Nat) : Int) := by rw [w64 (by omega) (by omega)]; omega
 simp only [strings_genSplit.j0, hw, hw2, hm, show ((0 : Int) ≤ ((Lib.countByte (L s) c + 1 : Nat) : Int)) from by omega, if_true, Int.toNat_natCast, show Lib.countByte (L s) c + 1 ≤ 17592186044416 from by omega, hw3]
 have := split_li c (Lib.countByte (L s) c) s [] rfl hs (by simp; omega)
 simpa using this
end Go.Proofs.YtpomhjkbgbociaaDoor.Ad
end
section
namespace Go.Proofs.YtpomhjkbgbociaaDoor.Ad
open Go.RowKit Go.Proofs.YtpomhjkbgbociaaDoor.P Go.Proofs.YtpomhjkbgbociaaDoorW.PrintWords Go.Proofs.YtpomhjkbgbociaaDoorW.PrintLast Go.Proofs.YtpomhjkbgbociaaDoorW.PrintMore Go.Proofs.YtpomhjkbgbociaaDoor.B
set_option linter.unusedVariables false
set_option linter.unusedSimpArgs false
theorem fine_parts {a : A5} (h : Fine a) : Parts a.2.1 ∧ a.1.size ≤ 60 ∧ a.2.2.2.1.size ≤ 60 := by
 rcases h with rfl | ⟨_, h⟩
 ·exact ⟨⟨by simp [none5], by simp [none5]⟩, Nat.zero_le _, Nat.zero_le _⟩
 ·unfold addrOk at h
  simp only [Bool.and_eq_true, decide_eq_true_eq] at h
  obtain ⟨⟨⟨⟨⟨h1, h2⟩, h3⟩, h4⟩, h5⟩, h6⟩ := h
  refine ⟨⟨by omega, fun p hp => ?_⟩, ?_, ?_⟩
  ·have := List.all_eq_true.1 h5 p hp
   unfold partOk at this
   simp only [Bool.and_eq_true] at this
   have := isNorm_size this.1.1.1
   omega
  ·have := isHouse_size h1; omega
  ·exact isNorm_size h3
theorem clean_l (ps : List ByteArray) (hl : ps.length ≤ 1000000) (d : Nat) : ∀ (i : Nat) (acc : List ByteArray), i + d = ps.length → acc.length ≤ i →
  Ev (fun k => spec_PathClean.l0 k ps acc (i : Int)) ((ps.drop i).foldl clean1 acc) := by
 induction d with
 | zero =>
  intro i acc hi ha
  have n1 : ¬ ((i : Int) < (ps.length : Int)) := by omega
  rw [List.drop_eq_nil_of_le (by omega)]
  refine Ev_succ ?_
  simp only [spec_PathClean.l0, n1, if_false]
  exact Ev.now _
 | succ d ih =>
  intro i acc hi ha
  have hi' : i < ps.length := by omega
  have f1 : (i : Int) < (ps.length : Int) := by omega
  have f2 : (0 : Int) ≤ (i : Int) := by omega
  have e1 : wrap64 ((i : Int) + 1) = ((i + 1 : Nat) : Int) := by rw [w64 (by omega) (by omega)]; rfl
  have hr := rd_at hi'
  rw [List.drop_eq_getElem_cons hi', List.foldl_cons]
  generalize ps[i] = p at hr ⊢
  have hc := clean1_len acc p
  have ih' := ih (i + 1) (clean1 acc p) (by omega) (by omega)
  refine Ev_succ ?_
  simp only [spec_PathClean.l0, f1, f2, if_true, hr]
  unfold clean1 at ih' ⊢
  by_cases h1 : p.toList = []
  ·simp only [h1, if_true] at ih' ⊢
   refine Ev_succ ?_
   simp only [spec_PathClean.j1, if_true, e1]
   exact ih'
  ·simp only [h1, if_false] at ih' ⊢
   refine Ev_succ ?_
   by_cases h2 : p.toList = [46]
   ·simp only [h2, if_true] at ih' ⊢
    simp only [spec_PathClean.j1, beq_self_eq_true, if_true, e1]
    exact ih'
   ·have h2' : (p.toList == [46]) = false := by simpa using h2
    simp only [h2, if_false] at ih' ⊢
    simp only [spec_PathClean.j1, h2', Bool.false_eq_true, if_false, f1, f2, if_true, hr, e1]
    by_cases h3 : p.toList = [46, 46]
    ·have m : mx (wrap64 ((acc.length : Int) - 1)) 0 = ((acc.length - 1 : Nat) : Int) := by
      rw [w64 (by omega) (by omega)]; unfold mx; split <;> omega
     have g1 : (0 : Int) ≤ ((acc.length - 1 : Nat) : Int) := by omega
     have g2 : ((acc.length - 1 : Nat) : Int) ≤ (acc.length : Int) := by omega
     simp only [h3, if_true] at ih' ⊢
     simp only [m, g1, g2, if_true, Int.toNat_natCast]
     exact ih'
    ·have g3 : acc.length < 8796093022208 := by omega
     simp only [h3, if_false] at ih' ⊢
     simp only [g3, if_true]
     exact ih'
theorem clean_ev (ps : List ByteArray) (hl : ps.length ≤ 1000000) : Ev (fun k => spec_PathClean.f k ps) (pathClean ps) :=
 clean_l ps hl ps.length 0 [] (by omega) (by simp)
def wayE (house : ByteArray) (asks : Bool) (ask : ByteArray) (ps : List ByteArray) : A5 :=
 if (escNorm ask).2 = true then (if addrOk house (pathClean ps) asks (escNorm ask).1 = true then (house, pathClean ps, asks, (escNorm ask).1, true) else none5) else none5
theorem way_l (house ask : ByteArray) (asks : Bool) (base : List ByteArray) (b0 : Bool) (a0 : ByteArray) (hh : house.size ≤ 100000) (ls : List ByteArray) (hl : ls.length ≤ 900) (d : Nat) :
  ∀ (i : Nat) (acc : List ByteArray), i + d = ls.length → acc.length ≤ i + 50 → (∀ p ∈ acc, p.size ≤ 1048576) →
  Ev (fun k => spec_l1Way.l0 k ask asks acc ls (i : Int) house base b0 a0) (match escAll (ls.drop i) with | none => none5 | some ps => wayE house asks ask (acc ++ ps)) := by
 induction d with
 | zero =>
  intro i acc hi ha hp
  have n1 : ¬ ((i : Int) < (ls.length : Int)) := by omega
  rw [List.drop_eq_nil_of_le (by omega)]
  refine Ev_succ ?_
  simp only [spec_l1Way.l0, n1, if_false, escAll, List.append_nil]
  refine Ev.bind (escNorm_ev ask) (Ev.bind (clean_ev acc (by omega)) ?_)
  have hz := escNorm_size ask
  unfold wayE
  by_cases h1 : (escNorm ask).2 = true
  ·simp only [h1, if_true]
   have hP : Parts (pathClean acc) := ⟨by have := cleanF_len acc []; unfold pathClean; simp only [List.length_nil] at this; omega, fun p hq => by
    rcases cleanF_mem hq with h | h
    ·cases h
    ·exact hp p h⟩
   refine Ev.bind (addrOk_ev house (pathClean acc) asks (escNorm ask).1 hP (by omega) (by omega)) ?_
   by_cases h2 : addrOk house (pathClean acc) asks (escNorm ask).1 = true
   ·simp only [h2, if_true]; exact Ev.now _
   ·simp only [h2, if_false]; exact Ev.now _
  ·simp only [h1, if_false]; exact Ev.now _
 | succ d ih =>
  intro i acc hi ha hp
  have hi' : i < ls.length := by omega
  have f1 : (i : Int) < (ls.length : Int) := by omega
  have f2 : (0 : Int) ≤ (i : Int) := by omega
  have e1 : wrap64 ((i : Int) + 1) = ((i + 1 : Nat) : Int) := by rw [w64 (by omega) (by omega)]; rfl
  have hr := rd_at hi'
  rw [List.drop_eq_getElem_cons hi']
  generalize ls[i] = p at hr ⊢
  have hz := escNorm_size p
  refine Ev_succ ?_
  simp only [spec_l1Way.l0, f1, f2, if_true, hr, e1]
  refine Ev.bind (escNorm_ev p) ?_
  unfold escAll
  by_cases h1 : (escNorm p).2 = true
  ·have g3 : acc.length < 8796093022208 := by omega
   simp only [h1, if_true, g3]
   have ih' := ih (i + 1) (acc ++ [(escNorm p).1]) (by omega) (by simp; omega) (fun x hx => by
    rcases List.mem_append.1 hx with h | h
    ·exact hp x h
    ·rw [List.mem_singleton.1 h]; omega)
   cases he : escAll (ls.drop (i + 1)) with
   | none => rw [he] at ih'; exact ih'
   | some ps =>
    rw [he] at ih'
    simp only [Option.map_some]
    simpa using ih'
  ·simp only [h1, if_false]; exact Ev.now _
theorem cutB_size (c : UInt8) (s : ByteArray) : (cutB c s).1.size ≤ s.size ∧ (cutB c s).2.1.size ≤ s.size := by
 have := (cutL_len (c := c) (L s)).1
 rw [L_size] at this
 unfold cutB
 constructor
 ·show (ofL _).size ≤ _; rw [ofL_size]; omega
 ·show (ofL _).size ≤ _; rw [ofL_size]; omega
theorem way_ev (house : ByteArray) (base : List ByteArray) (b0 : Bool) (a0 way : ByteArray) (hh : house.size ≤ 100000) (hb : base.length ≤ 50) (hp : ∀ p ∈ base, p.size ≤ 1048576) (hw : way.size ≤ 800) :
  Ev (fun k => spec_l1Way.f k house base b0 a0 way) (wayO house base way) := by
 unfold spec_l1Way.f wayO
 refine Ev.bind (cut_ev way 63 (by omega)) ?_
 have hc := cutB_size 63 way
 have g : ([] : List ByteArray).length + base.length < 8796093022208 := by simp; omega
 simp only [Option.bind_some, g, if_true, List.nil_append]
 refine Ev.bind (split_ev (cutB 63 way).1 47 (by omega)) ?_
 have hl := splitL_len 47 (L (cutB 63 way).1)
 rw [L_size] at hl
 have := way_l house (cutB 63 way).2.1 (cutB 63 way).2.2 base b0 a0 hh ((splitL 47 (L (cutB 63 way).1)).map ofL) (by rw [List.length_map]; omega) _ 0 base (Nat.zero_add _) (by omega) hp
 rw [List.drop_zero] at this
 exact this
theorem house_l (s h : ByteArray) (hs : s.size ≤ 800) : ∀ (l : List UInt8) (i : Nat), (L s).drop i = l → h = s →
  Ev (fun k => spec_l1Whole.l0 k s h (⟨#[]⟩ : ByteArray) (i : Int)) (wayO (smallB (ofL ((L s).take i ++ (houseL l).1))) [] (ofL (houseL l).2))
 | [], i, h', e => by
  have := bt_end h'
  have n1 : ¬ ((i : Int) < (s.size : Int)) := by omega
  have eq : (L s).take i = L s := List.take_of_length_le (by rw [L_size]; omega)
  subst e
  refine Ev_succ ?_
  simp only [spec_l1Whole.l0, n1, if_false, houseL, eq, List.append_nil, of_L, spec_l1Small.f, show h.size ≤ 140737488351232 from by omega, if_true, Option.bind_some]
  refine Ev.bind (way_ev (smallB h) [] false _ _ (by unfold smallB; rw [ofL_size, List.length_map, L_size]; omega) (by simp) (by simp) (by decide)) ?_
  exact Ev.now _
 | x :: xs, i, h', e => by
  obtain ⟨hi, hb, hd⟩ := bt_at h'
  have e1 : wrap64 ((i : Int) + 1) = ((i + 1 : Nat) : Int) := by rw [w64 (by omega) (by omega)]; rfl
  have f1 : (i : Int) < (s.size : Int) := by omega
  have f2 : (0 : Int) ≤ (i : Int) := by omega
  have f3 : (i : Int) ≤ (s.size : Int) := by omega
  have c1 : ((x.toNat : Int) = 47) ↔ x = 47 := u8_eq (b := 47)
  have c2 : ((x.toNat : Int) = 63) ↔ x = 63 := u8_eq (b := 63)
  have x1 : s.extract 0 i = ofL ((L s).take i) := by apply L_inj; rw [L_ext, L_of]; simp
  have x2 : s.extract i s.size = ofL (x :: xs) := by
   apply L_inj; rw [L_ext, L_of, h', List.take_of_length_le]
   rw [← h', List.length_drop, L_size]; omega
  have z1 : (ofL ((L s).take i)).size ≤ 800 := by rw [ofL_size, List.length_take, L_size]; omega
  have z2 : (ofL (x :: xs)).size ≤ 800 := by rw [ofL_size, ← h', List.length_drop, L_size]; omega
  have fin : Ev (fun k => (spec_l1Way.f k (smallB (ofL ((L s).take i))) ([] : List ByteArray) false (⟨#[]⟩ : ByteArray) (ofL (x :: xs))).bind fun bt204 => (some (bt204.1, bt204.2.1, bt204.2.2.1, bt204.2.2.2.1, bt204.2.2.2.2))) (wayO (smallB (ofL ((L s).take i ++ []))) [] (ofL (x :: xs))) := by
   rw [List.append_nil]
   refine Ev.bind (way_ev _ [] false _ _ (by unfold smallB; rw [ofL_size, List.length_map, L_size]; omega) (by simp) (by simp) z2) ?_
   exact Ev.now _
  refine Ev_succ ?_
  simp only [spec_l1Whole.l0, f1, f2, f3, if_true, hb, c1, c2, e1, Int.toNat_natCast, x1, x2, spec_l1Small.f, show (ofL ((L s).take i)).size ≤ 140737488351232 from by omega, Option.bind_some]
  unfold houseL
  by_cases h1 : x = 47
  ·simp only [h1, if_true, true_or]
   rw [h1] at fin
   exact fin
  ·by_cases h2 : x = 63
   ·simp only [h1, h2, if_true, if_false, or_true, show ¬ ((63 : UInt8) = 47) from by decide]
    rw [h2] at fin
    exact fin
   ·simp only [h1, h2, if_false, or_self]
    have := house_l s h hs xs (i + 1) hd e
    have ht : (L s).take (i + 1) ++ (houseL xs).1 = (L s).take i ++ (x :: (houseL xs).1) := by
     have hl : i < (L s).length := by rw [L_size]; exact hi
     have : (L s)[i] = x := by
      have hd2 : (L s).drop i = (L s)[i] :: (L s).drop (i + 1) := List.drop_eq_getElem_cons hl
      rw [h'] at hd2
      injection hd2 with h1 h2
      exact h1.symm
     rw [List.take_succ_eq_append_getElem hl, this]
     simp
    rw [ht] at this
    exact this
theorem whole_ev (s : ByteArray) (hs : s.size ≤ 800) : Ev (fun k => spec_l1Whole.f k s) (wholeO s) := by
 have := house_l s s hs (L s) 0 rfl rfl
 simp only [List.take_zero, List.nil_append] at this
 exact this
theorem read_ev (raw : ByteArray) (hs : raw.size ≤ 140737488351232) : Ev (fun k => spec_AddrRead.f k raw) (readO raw) := by
 unfold spec_AddrRead.f readO
 refine Ev.bind (cut_ev raw 35 hs) ?_
 have hc := (cutB_size 35 raw).1
 generalize (cutB 35 raw).1 = c at hc ⊢
 by_cases h1 : raw.size > 60
 ·have n1 : (raw.size : Int) > 60 := by omega
  simp only [n1, h1, if_true]; exact Ev.now _
 ·have n1 : ¬ (raw.size : Int) > 60 := by omega
  simp only [n1, h1, if_false]
  by_cases h2 : c.size < 2
  ·have n2 : (c.size : Int) < 2 := by omega
   simp only [n2, h2, if_true]; exact Ev.now _
  ·have n2 : ¬ (c.size : Int) < 2 := by omega
   have n3 : (2 : Int) ≤ (c.size : Int) := by omega
   have hx : ((c.extract 0 2).toList = [47, 47]) ↔ ((L c).take 2 = [47, 47]) := by
    rw [Lib.toList_data]
    show L (c.extract 0 2) = _ ↔ _
    rw [L_ext]; simp
   simp only [n2, h2, n3, if_true, if_false, show (0 : Int) ≤ 2 from by omega, hx]
   by_cases h3 : (L c).take 2 = [47, 47]
   ·simp only [h3, if_true]
    have hz : (c.extract 2 c.size).size ≤ 800 := by rw [ByteArray.size_extract]; omega
    generalize c.extract 2 c.size = z at hz ⊢
    exact Ev.bind (whole_ev z hz) (Ev.now _)
   ·simp only [h3, if_false]; exact Ev.now _
end Go.Proofs.YtpomhjkbgbociaaDoor.Ad
end
section
namespace Go.Proofs.YtpomhjkbgbociaaDoor.Ad
open Go.RowKit Go.Proofs.YtpomhjkbgbociaaDoor.P Go.Proofs.YtpomhjkbgbociaaDoorW.PrintWords Go.Proofs.YtpomhjkbgbociaaDoorW.PrintLast Go.Proofs.YtpomhjkbgbociaaDoorW.PrintMore Go.Proofs.YtpomhjkbgbociaaDoor.B
set_option linter.unusedVariables false
set_option linter.unusedSimpArgs false
theorem clean_li (ps : List ByteArray) (hl : ps.length ≤ 1000000) (d : Nat) : ∀ (i : Nat) (acc : List ByteArray), i + d = ps.length → acc.length ≤ i →
  Ev (fun k => impl_PathClean.l0 k acc ps (ps.length : Int) (i : Int)) ((ps.drop i).foldl clean1 acc) := by
 induction d with
 | zero =>
  intro i acc hi ha
  rw [List.drop_eq_nil_of_le (by omega)]
  refine Ev_succ ?_
  simp only [impl_PathClean.l0, show ¬ ((i : Int) < (ps.length : Int)) from by omega, if_false]
  exact Ev.now _
 | succ d ih =>
  intro i acc hi ha
  have hlt : i < ps.length := by omega
  have hr := rd_at hlt
  have w1 := w64n1 i (by omega)
  have f1 : (i : Int) < (ps.length : Int) := by omega
  have f2 := ci_nn i
  rw [List.drop_eq_getElem_cons hlt, List.foldl_cons]
  generalize ps[i] = p at hr ⊢
  have next : ∀ acc', acc'.length ≤ i + 1 → acc' = clean1 acc p → Ev (fun k => impl_PathClean.l0 k acc' ps (ps.length : Int) ((i + 1 : Nat) : Int)) ((ps.drop (i + 1)).foldl clean1 (clean1 acc p)) := fun acc' h1 h2 => by
   rw [← h2]; exact ih (i + 1) acc' (by omega) h1
  refine Ev_succ ?_
  simp only [impl_PathClean.l0, f1, f2, if_true]
  rw [hr]
  by_cases h1 : p.toList = []
  ·simp only [h1, if_true]
   refine Ev_succ ?_
   simp only [impl_PathClean.j1]
   simp only [show (([] : List UInt8) == []) = true from rfl, if_true]
   rw [w1]
   exact next acc (by omega) (by unfold clean1; rw [if_pos h1])
  ·simp only [h1, if_false]
   by_cases h2 : p.toList = [46]
   ·refine Ev_succ ?_
    simp only [impl_PathClean.j1]
    simp only [h2, show (([46] : List UInt8) == [46]) = true from rfl, if_true]
    rw [w1]
    exact next acc (by omega) (by unfold clean1; rw [if_neg h1, if_pos h2])
   ·refine Ev_succ ?_
    simp only [impl_PathClean.j1]
    simp only [show (p.toList == ([46] : List UInt8)) = false from by simp [h2], Bool.false_eq_true, if_false]
    by_cases h3 : p.toList = [46, 46]
    ·simp only [h3, if_true]
     have hc : clean1 acc p = acc.take (acc.length - 1) := by unfold clean1; rw [if_neg h1, if_neg h2, if_pos h3]
     by_cases h4 : acc.length = 0
     ·simp only [show ¬ ((acc.length : Int) > 0) from by omega, if_false]
      rw [w1]
      exact next acc (by omega) (by rw [hc, List.length_eq_zero_iff.1 h4]; rfl)
     ·have w2 : wrap64 ((acc.length : Int) - 1) = ((acc.length - 1 : Nat) : Int) := by rw [w64 (by omega) (by omega)]; omega
      simp only [show ((acc.length : Int) > 0) from by omega, if_true]
      rw [w2]
      simp only [show ((0 : Int) ≤ ((acc.length - 1 : Nat) : Int)) from by omega, show (((acc.length - 1 : Nat) : Int) ≤ (acc.length : Int)) from by omega, if_true, Int.toNat_natCast]
      rw [w1]
      exact next _ (by rw [List.length_take]; omega) hc.symm
    ·simp only [h3, if_false, show acc.length < 8796093022208 from by omega, if_true]
     rw [w1]
     exact next _ (by simp; omega) (by unfold clean1; rw [if_neg h1, if_neg h2, if_neg h3])
theorem clean_i (ps : List ByteArray) (hl : ps.length ≤ 1000000) : Ev (fun k => impl_PathClean.f k ps) (pathClean ps) :=
 clean_li ps hl ps.length 0 [] (by omega) (by simp)
def wayI (house : ByteArray) (asks : Bool) (ask : ByteArray) (ps : List ByteArray) : A5 := if addrOk house (pathClean ps) asks ask = true then (house, pathClean ps, asks, ask, true) else none5
theorem way_li (house ask : ByteArray) (asks : Bool) (hh : house.size ≤ 100000) (hq : ask.size ≤ 1048576) (ls : List ByteArray) (hl : ls.length ≤ 900) (d : Nat) :
  ∀ (i : Nat) (acc : List ByteArray), i + d = ls.length → acc.length ≤ 50 + i → (∀ p ∈ acc, p.size ≤ 1048576) →
  Ev (fun k => impl_readWay.l0 k house ask asks acc ls (ls.length : Int) (i : Int)) (match escAll (ls.drop i) with | none => none5 | some ps => wayI house asks ask (acc ++ ps)) := by
 induction d with
 | zero =>
  intro i acc hi ha hp
  rw [List.drop_eq_nil_of_le (by omega)]
  refine Ev_succ ?_
  simp only [impl_readWay.l0, show ¬ ((i : Int) < (ls.length : Int)) from by omega, if_false, escAll, List.append_nil]
  refine Ev.bind (clean_i acc (by omega)) ?_
  unfold wayI
  have hP : Parts (pathClean acc) := ⟨by have := cleanF_len acc []; unfold pathClean; simp only [List.length_nil] at this; omega, fun p hq => by
   rcases cleanF_mem hq with h | h
   ·cases h
   ·exact hp p h⟩
  refine Ev.bind (addrOk_i house (pathClean acc) asks ask hP (by omega) (by omega)) ?_
  by_cases h2 : addrOk house (pathClean acc) asks ask = true
  ·simp only [h2, if_true]; exact Ev.now _
  ·simp only [h2, if_false]; exact Ev.now _
 | succ d ih =>
  intro i acc hi ha hp
  have hi' : i < ls.length := by omega
  have f1 : (i : Int) < (ls.length : Int) := by omega
  have f2 := ci_nn i
  have e1 := w64n1 i (by omega)
  have hr := rd_at hi'
  rw [List.drop_eq_getElem_cons hi']
  generalize ls[i] = p at hr ⊢
  have hz := escNorm_size p
  refine Ev_succ ?_
  simp only [impl_readWay.l0, f1, f2, if_true, hr, e1]
  refine Ev.bind (escNorm_i p) ?_
  unfold escAll
  by_cases h1 : (escNorm p).2 = true
  ·have g3 : acc.length < 8796093022208 := by omega
   simp only [h1, if_true, g3]
   have ih' := ih (i + 1) (acc ++ [(escNorm p).1]) (by omega) (by simp; omega) (fun x hx => by
    rcases List.mem_append.1 hx with h | h
    ·exact hp x h
    ·rw [List.mem_singleton.1 h]; omega)
   cases he : escAll (ls.drop (i + 1)) with
   | none => rw [he] at ih'; exact ih'
   | some ps =>
    rw [he] at ih'
    simp only [Option.map_some]
    simpa using ih'
  ·simp only [h1, if_false]; exact Ev.now _
theorem way_i (house : ByteArray) (base : List ByteArray) (way : ByteArray) (hh : house.size ≤ 100000) (hb : base.length ≤ 50) (hp : ∀ p ∈ base, p.size ≤ 1048576) (hw : way.size ≤ 800) :
  Ev (fun k => impl_readWay.f k house base way) (wayO house base way) := by
 unfold impl_readWay.f wayO
 have hc := cutB_size 63 way
 rw [cut_i way 63 (by omega)]
 simp only [Option.bind_some]
 have hz := escNorm_size (cutB 63 way).2.1
 refine Ev.bind (escNorm_i (cutB 63 way).2.1) ?_
 by_cases h1 : (escNorm (cutB 63 way).2.1).2 = true
 ·simp only [h1, if_true, slices_Clone_string_string.f, show base.length * 16 ≤ 140737488355328 from by omega, Option.bind_some]
  refine Ev.bind (split_i (cutB 63 way).1 47 (by omega)) ?_
  have hl := splitL_len 47 (L (cutB 63 way).1)
  rw [L_size] at hl
  have := way_li house (escNorm (cutB 63 way).2.1).1 (cutB 63 way).2.2 hh (by omega) ((splitL 47 (L (cutB 63 way).1)).map ofL) (by rw [List.length_map]; omega) _ 0 base (Nat.zero_add _) (by omega) hp
  rw [List.drop_zero] at this
  exact this
 ·simp only [h1, if_false]
  generalize escAll ((splitL 47 (L (cutB 63 way).1)).map ofL) = o
  cases o <;> exact Ev.now _
theorem any_house : ∀ l : List UInt8, (Lib.indexAny l [47, 63] = -1 → houseL l = (l, [])) ∧ (∀ n : Nat, Lib.indexAny l [47, 63] = (n : Int) → houseL l = (l.take n, l.drop n) ∧ n ≤ l.length)
 | [] => ⟨fun _ => rfl, fun n h => by unfold Lib.indexAny at h; omega⟩
 | x :: xs => by
  obtain ⟨i1, i2⟩ := any_house xs
  unfold Lib.indexAny houseL
  by_cases h : x = 47 ∨ x = 63
  ·have hc : ([47, 63] : List UInt8).contains x = true := by rcases h with h | h <;> subst h <;> decide
   rw [if_pos h, if_pos hc]
   refine ⟨fun e => by omega, fun n e => ?_⟩
   obtain rfl : n = 0 := by omega
   exact ⟨rfl, Nat.zero_le _⟩
  ·have hc : ¬ ([47, 63] : List UInt8).contains x = true := by
    simp only [List.contains_cons, List.contains_nil, Bool.or_false, Bool.or_eq_true, beq_iff_eq]
    exact h
   rw [if_neg h, if_neg hc]
   have hge := Lib.indexAny_ge [47, 63] xs
   by_cases h2 : Lib.indexAny xs [47, 63] = -1
   ·have hb : (Lib.indexAny xs [47, 63] == -1) = true := by simp [h2]
    rw [if_pos hb]
    refine ⟨fun _ => by rw [i1 h2], fun n e => by omega⟩
   ·have hb : ¬ (Lib.indexAny xs [47, 63] == -1) = true := by simp [h2]
    rw [if_neg hb]
    refine ⟨fun e => by omega, fun n e => ?_⟩
    obtain ⟨m, hm⟩ : ∃ m : Nat, Lib.indexAny xs [47, 63] = (m : Int) := ⟨(Lib.indexAny xs [47, 63]).toNat, by omega⟩
    obtain ⟨g1, g2⟩ := i2 m hm
    obtain rfl : n = m + 1 := by omega
    rw [g1]
    exact ⟨rfl, by simp only [List.length_cons]; omega⟩
def wholeI (s : ByteArray) : A5 := if s.size < 2 then none5 else if (L s).take 2 = [47, 47] then wholeO (s.extract 2 s.size) else none5
theorem prefix_i (s : ByteArray) (hs : s.size ≤ 800) : stringslite_HasPrefix.f s ⟨#[47, 47]⟩ = some (decide (2 ≤ s.size) && decide ((L s).take 2 = [47, 47])) := by
 unfold stringslite_HasPrefix.f
 have e2 : (⟨#[47, 47]⟩ : ByteArray).size = 2 := rfl
 rw [e2]
 by_cases h : 2 ≤ s.size
 ·rw [if_pos (by omega), if_pos (by omega), if_pos (by omega)]
  have hx : (s.extract 0 2).toList = (L s).take 2 := by rw [Lib.toList_data]; show L (s.extract 0 2) = _; rw [L_ext]; simp
  have hy : (⟨#[47, 47]⟩ : ByteArray).toList = [47, 47] := by rw [Lib.toList_data]
  simp only [Int.toNat_natCast, hx, hy, h, decide_true, Bool.true_and]
  congr 1
  rw [Bool.eq_iff_iff]; simp
 ·rw [if_neg (by omega)]
  simp [h]
theorem whole_i (s : ByteArray) (hs : s.size ≤ 800) : Ev (fun k => impl_readWhole.f k s) (wholeI s) := by
 unfold impl_readWhole.f strings_CutPrefix.f stringslite_CutPrefix.f wholeI
 have e2 : (⟨#[47, 47]⟩ : ByteArray).size = 2 := rfl
 rw [prefix_i s hs, e2]
 simp only [Option.bind_some]
 by_cases h : 2 ≤ s.size
 ·by_cases h3 : (L s).take 2 = [47, 47]
  ·simp only [h, h3, decide_true, Bool.true_and, if_true, show ¬ (s.size < 2) from by omega, if_false]
   rw [if_pos (by omega), if_pos (by omega)]
   simp only [Option.bind_some, if_true, Int.toNat_natCast]
   have hz : (s.extract 2 s.size).size ≤ 800 := by rw [ByteArray.size_extract]; omega
   generalize s.extract 2 s.size = z at hz
   unfold strings_IndexAny.f wholeO
   have ez : L (⟨#[47, 63]⟩ : ByteArray) = [47, 63] := rfl
   rw [ez, if_pos ⟨rfl, by omega⟩]
   obtain ⟨a1, a2⟩ := any_house (L z)
   have hge := Lib.indexAny_ge [47, 63] (L z)
   by_cases hi : Lib.indexAny (L z) [47, 63] = -1
   ·have hH := a1 hi
    rw [hH]
    have x1 : z.extract 0 ((z.size : Int)).toNat = z := by apply L_inj; rw [L_ext, Int.toNat_natCast, List.drop_zero]; exact List.take_of_length_le (by rw [Nat.sub_zero]; exact Nat.le_of_eq (L_size z))
    have x2 : z.extract ((z.size : Int)).toNat z.size = ofL [] := by apply L_inj; rw [L_ext, L_of, Int.toNat_natCast, Nat.sub_self]; exact List.take_zero
    rw [of_L]
    refine Ev.congr (f := fun k => (impl_readWay.f k (smallB z) [] (ofL [])).bind fun b => some (b.1, b.2.1, b.2.2.1, b.2.2.2.1, b.2.2.2.2)) (fun k => ?_) ?_
    ·rw [hi, Option.bind_some, if_pos (by omega), if_pos (by omega), if_pos (by omega)]
     first | rw [x1, x2] | (simp only [Int.toNat_natCast] at x1 x2; rw [x1, x2])
     unfold impl_smallLetters.f
     rw [if_pos (by omega), Option.bind_some]
    refine Ev.bind (way_i (smallB z) [] (ofL []) (by unfold smallB; rw [ofL_size, List.length_map, L_size]; omega) (by simp) (by simp) (by decide)) ?_
    exact Ev.now _
   ·obtain ⟨n, hn⟩ : ∃ n : Nat, Lib.indexAny (L z) [47, 63] = (n : Int) := ⟨(Lib.indexAny (L z) [47, 63]).toNat, by omega⟩
    obtain ⟨hH, hle⟩ := a2 n hn
    rw [L_size] at hle
    rw [hH]
    have x1 : z.extract 0 ((n : Int)).toNat = ofL ((L z).take n) := by apply L_inj; rw [L_ext, L_of]; simp
    have x2 : z.extract ((n : Int)).toNat z.size = ofL ((L z).drop n) := by
     apply L_inj; rw [L_ext, L_of, Int.toNat_natCast]
     exact List.take_of_length_le (by rw [List.length_drop, L_size]; exact Nat.le_refl _)
    have s1 : (ofL ((L z).take n)).size ≤ 800 := by rw [ofL_size, List.length_take, L_size]; omega
    have s2 : (ofL ((L z).drop n)).size ≤ 800 := by rw [ofL_size, List.length_drop, L_size]; omega
    generalize ofL ((L z).take n) = y at s1 x1 ⊢
    refine Ev.congr (f := fun k => (impl_readWay.f k (smallB y) [] (ofL ((L z).drop n))).bind fun b => some (b.1, b.2.1, b.2.2.1, b.2.2.2.1, b.2.2.2.2)) (fun k => ?_) ?_
    ·rw [hn, Option.bind_some, if_neg (by omega), if_pos (by omega), if_pos (by omega), x1, x2]
     unfold impl_smallLetters.f
     rw [if_pos (by omega), Option.bind_some]
    refine Ev.bind (way_i (smallB y) [] _ (by unfold smallB; rw [ofL_size, List.length_map, L_size]; omega) (by simp) (by simp) s2) ?_
    exact Ev.now _
  ·simp only [h, h3, decide_true, decide_false, Bool.and_false, Bool.false_eq_true, if_false, Option.bind_some, show ¬ (s.size < 2) from by omega]
   exact Ev.now _
 ·simp only [h, decide_false, Bool.false_and, Bool.false_eq_true, if_false, Option.bind_some, show s.size < 2 from by omega, if_true]
  exact Ev.now _
theorem read_i (raw : ByteArray) : Ev (fun k => impl_AddrRead.f k raw) (readO raw) := by
 unfold impl_AddrRead.f readO
 by_cases h : raw.size > 60
 ·simp only [show ((raw.size : Int) > 60) from by omega, if_true, h]
  exact Ev.now _
 ·simp only [show ¬ ((raw.size : Int) > 60) from by omega, if_false, h]
  have hc := cutB_size 35 raw
  rw [cut_i raw 35 (by omega)]
  simp only [Option.bind_some]
  refine Ev.bind (whole_i (cutB 35 raw).1 (by omega)) ?_
  exact Ev.now _
end Go.Proofs.YtpomhjkbgbociaaDoor.Ad
end
section
namespace Go.Proofs.YtpomhjkbgbociaaDoor.Wd
open Go.RowKit Go.Proofs.YtpomhjkbgbociaaDoor.P Go.Proofs.YtpomhjkbgbociaaDoorW.PrintWords Go.Proofs.YtpomhjkbgbociaaDoorW.PrintLast Go.Proofs.YtpomhjkbgbociaaDoorW.PrintMore Go.Proofs.YtpomhjkbgbociaaDoor.B Go.Proofs.YtpomhjkbgbociaaDoor.Ad
set_option linter.unusedVariables false
set_option linter.unusedSimpArgs false
abbrev Pg := S32
def norm (s : ByteArray) : Bool := (readO s).2.2.2.2 && (textB (readO s).1 (readO s).2.1 (readO s).2.2.1 (readO s).2.2.2.1).toList == s.toList
theorem readAddr_i (s : ByteArray) : Ev (fun k => impl_readAddress.f k s) (if norm s = true then ((readO s).1, (readO s).2.1, (readO s).2.2.1, (readO s).2.2.2.1, true) else none5) := by
 unfold impl_readAddress.f
 refine Ev.bind (read_i s) ?_
 have hF := fine_read s
 obtain ⟨q1, q2, q3⟩ := fine_parts hF
 unfold norm
 by_cases h : (readO s).2.2.2.2 = true
 ·have ht := text_i (readO s).1 (readO s).2.1 (readO s).2.2.1 (readO s).2.2.2.1 q1 (by omega) (by omega)
  simp only [h, if_true, ht, Option.bind_some, Bool.true_and]
  by_cases h2 : (textB (readO s).1 (readO s).2.1 (readO s).2.2.1 (readO s).2.2.2.1).toList = s.toList
  ·simp only [h2, if_true, beq_self_eq_true]
   exact Ev.now _
  ·simp only [h2, if_false, beq_eq_false_iff_ne.mpr h2, Bool.false_eq_true]
   exact Ev.now _
 ·have h' : (readO s).2.2.2.2 = false := by simpa using h
  simp only [h', Bool.false_and, Bool.false_eq_true, if_false]
  exact Ev.now _
theorem isAddr_i (s : ByteArray) : Ev (fun k => impl_isAddress.f k s) (norm s) := by
 unfold impl_isAddress.f
 refine Ev.bind (readAddr_i s) ?_
 by_cases h : norm s = true
 ·rw [if_pos h, h]; exact Ev.now _
 ·rw [if_neg h]
  have h' : norm s = false := by simpa using h
  rw [h']
  exact Ev.now _
theorem norm_s (s : ByteArray) (hs : s.size ≤ 140737488351232) : Ev (fun k => spec_l11Norm.f k s) (norm s) := by
 unfold spec_l11Norm.f
 refine Ev.bind (read_ev s hs) ?_
 have hF := fine_read s
 obtain ⟨q1, q2, q3⟩ := fine_parts hF
 unfold norm
 by_cases h : (readO s).2.2.2.2 = true
 ·simp only [h, if_true, Bool.true_and]
  have ho : addrOk (readO s).1 (readO s).2.1 (readO s).2.2.1 (readO s).2.2.2.1 = true := by
   rcases hF with e | e
   ·rw [e] at h; cases h
   ·exact e.2
  refine Ev.bind (addrText_ev _ _ _ _ q1 (by omega) (by omega)) ?_
  unfold addrText
  rw [if_pos ho]
  exact Ev.now _
 ·have h' : (readO s).2.2.2.2 = false := by simpa using h
  simp only [h', Bool.false_and, Bool.false_eq_true, if_false]
  exact Ev.now _
def pgOk (p : Pg) : Bool := norm p.f0 && decide (p.f1.size ≤ 300) && decide (0 ≤ p.f3) && decide (p.f3 ≤ 9) && (p.f2.toList == [] || norm p.f2 && p.f1.toList == [])
theorem pageOk_i (p : Pg) : Ev (fun k => impl_pageOk.f k p.f0 p.f1 p.f2 p.f3) (pgOk p) := by
 unfold impl_pageOk.f pgOk
 refine Ev.bind (isAddr_i p.f0) ?_
 cases norm p.f0 with
 | false => simp only [Bool.false_and, Bool.false_eq_true, if_false]; exact Ev.now _
 | true =>
  simp only [if_true, Bool.true_and]
  by_cases h1 : (p.f1.size : Int) > 300
  ·simp only [h1, if_true, show ¬ p.f1.size ≤ 300 from by omega, decide_false, Bool.false_and]; exact Ev.now _
  ·simp only [h1, if_false, show p.f1.size ≤ 300 from by omega, decide_true, Bool.true_and]
   by_cases h2 : p.f3 < 0
   ·simp only [h2, if_true, show ¬ 0 ≤ p.f3 from by omega, decide_false, Bool.false_and]; exact Ev.now _
   ·simp only [h2, if_false, show 0 ≤ p.f3 from by omega, decide_true, Bool.true_and]
    by_cases h3 : p.f3 > 9
    ·simp only [h3, if_true, show ¬ p.f3 ≤ 9 from by omega, decide_false, Bool.false_and]; exact Ev.now _
    ·simp only [h3, if_false, show p.f3 ≤ 9 from by omega, decide_true, Bool.true_and]
     by_cases h4 : p.f2.toList = ([] : List UInt8)
     ·simp only [h4, if_true, beq_self_eq_true, Bool.true_or]; exact Ev.now _
     ·simp only [h4, if_false, beq_eq_false_iff_ne.mpr h4, Bool.false_or]
      refine Ev.bind (isAddr_i p.f2) ?_
      cases norm p.f2 with
      | false => simp only [Bool.false_and, Bool.false_eq_true, if_false]; exact Ev.now _
      | true => simp only [if_true, Bool.true_and]; exact Ev.now _
theorem pagesOk_i : ∀ (l : List Pg), (∀ p ∈ l, p.f0.size ≤ 9223372036854775807) → Ev (fun k => pagesOk k l) (l.all pgOk)
 | [], _ => by simp only [pagesOk, List.all_nil]; exact Ev.now _
 | p :: r, h => by
  simp only [pagesOk, h p (List.mem_cons_self ..), if_true, List.all_cons]
  refine Ev.bind (pageOk_i p) ?_
  cases pgOk p with
  | false => simp only [Bool.false_and, Bool.false_eq_true, if_false]; exact Ev.now _
  | true => simp only [if_true, Bool.true_and]; exact pagesOk_i r (fun q hq => h q (List.mem_cons_of_mem _ hq))
def fresh : List Pg → Bool
 | [] => true
 | p :: r => !(r.any fun q => decide (q.f0 = p.f0)) && fresh r
theorem at_any (a : ByteArray) : ∀ (r : List Pg), (pageAtR a r).isSome = r.any fun q => decide (q.f0 = a)
 | [] => rfl
 | p :: r => by
  unfold pageAtR
  by_cases h : p.f0 = a
  ·simp [h]
  ·simp [h, at_any a r]
theorem size_fresh : ∀ (r : List Pg), Maps.size (mapR r) ≤ r.length ∧ (Maps.size (mapR r) = r.length ↔ fresh r = true)
 | [] => ⟨Nat.le_refl _, by simp [fresh, mapR, Maps.size]⟩
 | p :: r => by
  obtain ⟨h1, h2⟩ := size_fresh r
  rw [mapR_size, at_any]
  unfold fresh
  cases hb : (r.any fun q => decide (q.f0 = p.f0)) with
  | true => simp only [if_true, Bool.not_true, Bool.false_and, List.length_cons]; exact ⟨by omega, by constructor <;> intro h <;> first | omega | cases h⟩
  | false => simp only [Bool.false_eq_true, if_false, Bool.not_false, Bool.true_and, List.length_cons]; exact ⟨by omega, by rw [← h2]; omega⟩
def worldOk (l : List Pg) : Bool := decide (l.length ≤ 12) && l.all pgOk && fresh l.reverse
theorem made_i (l : List Pg) (h : ∀ p ∈ l, p.f0.size ≤ 9223372036854775807) : Ev (fun k => (impl_worldOf.f k l).bind fun t => if t = true then some ((Maps.size (mapD l) : Int) == (l.length : Int)) else some false) (worldOk l) := by
 unfold impl_worldOf.f worldOk
 by_cases h12 : 12 < l.length
 ·simp only [h12, if_true, Option.bind_some, Bool.false_eq_true, if_false, show ¬ l.length ≤ 12 from by omega, decide_false, Bool.false_and]
  exact Ev.now _
 ·simp only [h12, if_false, show l.length ≤ 12 from by omega, decide_true, Bool.true_and]
  refine Ev.bind (pagesOk_i l h) ?_
  cases l.all pgOk with
  | false => simp only [Bool.false_eq_true, if_false, Bool.false_and]; exact Ev.now _
  | true =>
   simp only [if_true, Bool.true_and]
   have := (size_fresh l.reverse).2
   rw [List.length_reverse] at this
   have e : ((Maps.size (mapD l) : Int) == (l.length : Int)) = fresh l.reverse := by
    unfold mapD
    rw [Bool.eq_iff_iff, ← this]
    simp
    omega
   rw [e]
   exact Ev.now _
theorem rd_pg {l : List Pg} {i : Nat} (h : i < l.length) : rd_T32 l (i : Int) = l[i] := by
 simp [rd_T32, List.getD, List.getElem?_eq_getElem h]
def restOk (l : List Pg) : Nat → Nat → Bool
 | 0, _ => decide (l.length ≤ 12)
 | d + 1, i => pgOk (rd_T32 l (i : Int)) && !((l.take i).any fun q => decide (q.f0 = (rd_T32 l (i : Int)).f0)) && restOk l d (i + 1)
theorem inner_s (l : List Pg) (i : Nat) (hi : i < l.length) (hl : l.length ≤ 1048576) (R : Bool) (hR : Ev (fun k => spec_WorldOk.l0 k l ((i + 1 : Nat) : Int)) R) (d : Nat) : ∀ (j : Nat), j + d = i →
  Ev (fun k => spec_WorldOk.l1 k l (i : Int) (j : Int)) (!(((l.take i).drop j).any fun q => decide (q.f0 = (rd_T32 l (i : Int)).f0)) && R) := by
 induction d with
 | zero =>
  intro j hj
  obtain rfl : j = i := by omega
  have w1 : wrap64 ((j : Int) + 1) = ((j + 1 : Nat) : Int) := by rw [w64 (by omega) (by omega)]; rfl
  refine Ev_succ ?_
  simp only [spec_WorldOk.l1, show ¬ ((j : Int) < (j : Int)) from by omega, if_false]
  rw [w1, List.drop_of_length_le (by rw [List.length_take]; omega)]
  simpa using hR
 | succ d ih =>
  intro j hj
  have hjl : j < l.length := by omega
  have w1 : wrap64 ((j : Int) + 1) = ((j + 1 : Nat) : Int) := by rw [w64 (by omega) (by omega)]; rfl
  have hd : (l.take i).drop j = l[j] :: (l.take i).drop (j + 1) := by
   rw [List.drop_eq_getElem_cons (by rw [List.length_take]; omega)]
   congr 1
   simp
  refine Ev_succ ?_
  simp only [spec_WorldOk.l1, show (j : Int) < (i : Int) from by omega, ci_nn j, ci_nn i, show (j : Int) < (l.length : Int) from by omega, show (i : Int) < (l.length : Int) from by omega, if_true]
  rw [w1, hd, rd_pg hjl, List.any_cons]
  by_cases he : l[j].f0.toList = (rd_T32 l (i : Int)).f0.toList
  ·simp only [he, if_true, decide_eq_true (toList_inj.1 he), Bool.true_or, Bool.not_true, Bool.false_and]
   exact Ev.now _
  ·simp only [he, if_false, decide_eq_false (fun e => he (toList_inj.2 e)), Bool.false_or]
   exact ih (j + 1) (by omega)
theorem outer_s (l : List Pg) (hl : l.length ≤ 1048576) (hs : ∀ p ∈ l, p.f0.size ≤ 140737488351232 ∧ p.f2.size ≤ 140737488351232) (d : Nat) : ∀ (i : Nat), i + d = l.length → Ev (fun k => spec_WorldOk.l0 k l (i : Int)) (restOk l d i) := by
 induction d with
 | zero =>
  intro i hi
  refine Ev_succ ?_
  simp only [spec_WorldOk.l0, show ¬ ((i : Int) < (l.length : Int)) from by omega, if_false, restOk]
  have e : decide ((l.length : Int) ≤ 12) = decide (l.length ≤ 12) := by rw [Bool.eq_iff_iff]; simp; omega
  rw [e]
  exact Ev.now _
 | succ d ih =>
  intro i hi
  have hlt : i < l.length := by omega
  have hr := rd_pg hlt
  have hm := hs _ (List.getElem_mem hlt)
  have stop : Ev (fun k => spec_WorldOk.j1 k l (i : Int) true) false := Ev_succ (by simp only [spec_WorldOk.j1, if_true]; exact Ev.now _)
  have go : Ev (fun k => spec_WorldOk.j1 k l (i : Int) false) (!((l.take i).any fun q => decide (q.f0 = (rd_T32 l (i : Int)).f0)) && restOk l d (i + 1)) := by
   refine Ev_succ ?_
   simp only [spec_WorldOk.j1, Bool.false_eq_true, if_false]
   have := inner_s l i hlt hl _ (ih (i + 1) (by omega)) i 0 (by omega)
   simpa using this
  unfold restOk pgOk
  refine Ev_succ ?_
  simp only [spec_WorldOk.l0, show (i : Int) < (l.length : Int) from by omega, ci_nn i, if_true]
  rw [hr]
  rw [hr] at go
  refine Ev.bind (norm_s _ hm.1) ?_
  generalize l[i] = p at go hm ⊢
  cases norm p.f0 with
  | false => simp only [Bool.false_and, Bool.false_eq_true, if_false]; exact stop
  | true =>
   simp only [if_true, Bool.true_and]
   by_cases h1 : (p.f1.size : Int) > 300
   ·simp only [h1, if_true, show ¬ p.f1.size ≤ 300 from by omega, decide_false, Bool.false_and]; exact stop
   ·simp only [h1, if_false, show p.f1.size ≤ 300 from by omega, decide_true, Bool.true_and]
    have hin : spec_l6In.f p.f3 0 9 = some (decide (0 ≤ p.f3) && decide (p.f3 ≤ 9)) := by
     unfold spec_l6In.f
     by_cases ha : 0 ≤ p.f3 <;> by_cases hb : p.f3 ≤ 9 <;> simp [ha, hb]
    rw [hin]
    simp only [Option.bind_some]
    by_cases h23 : (decide (0 ≤ p.f3) && decide (p.f3 ≤ 9)) = true
    ·simp only [h23, if_true, Bool.true_and]
     by_cases h4 : p.f2.toList = ([] : List UInt8)
     ·simp only [h4, if_true, beq_self_eq_true, Bool.true_or, Bool.true_and]; exact go
     ·simp only [h4, if_false, beq_eq_false_iff_ne.mpr h4, Bool.false_or]
      by_cases h5 : p.f1.toList = ([] : List UInt8)
      ·simp only [h5, if_true, beq_self_eq_true, Bool.and_true]
       refine Ev.bind (norm_s _ hm.2) ?_
       cases norm p.f2 with
       | false => simp only [Bool.not_false, Bool.false_and]; exact stop
       | true => simp only [Bool.not_true, Bool.true_and]; exact go
      ·simp only [h5, if_false, beq_eq_false_iff_ne.mpr h5, Bool.and_false, Bool.false_and]; exact stop
    ·have h23' : (decide (0 ≤ p.f3) && decide (p.f3 ≤ 9)) = false := by simpa using h23
     simp only [h23', Bool.false_eq_true, if_false, Bool.false_and]; exact stop
theorem rest_world (l : List Pg) (d : Nat) : ∀ (i : Nat), i + d = l.length → fresh (l.take i).reverse = true → restOk l d i = (decide (l.length ≤ 12) && (l.drop i).all pgOk && fresh l.reverse) := by
 induction d with
 | zero =>
  intro i hi hf
  obtain rfl : i = l.length := by omega
  rw [List.take_length] at hf
  simp [restOk, hf]
 | succ d ih =>
  intro i hi hf
  have hlt : i < l.length := by omega
  have ht : (l.take (i + 1)).reverse = l[i] :: (l.take i).reverse := by
   rw [List.take_succ_eq_append_getElem hlt, List.reverse_append]
   rfl
  rw [List.drop_eq_getElem_cons hlt, List.all_cons]
  unfold restOk
  rw [rd_pg hlt]
  cases ha : ((l.take i).any fun q => decide (q.f0 = l[i].f0)) with
  | false =>
   rw [ih (i + 1) (by omega) (by rw [ht]; unfold fresh; rw [List.any_reverse, ha, hf]; rfl)]
   cases pgOk l[i] <;> simp
  | true =>
   have hn : fresh l.reverse = false := by
    have e : l.reverse = (l.drop (i + 1)).reverse ++ (l.take (i + 1)).reverse := by rw [← List.reverse_append, List.take_append_drop]
    rw [e, ht]
    generalize (l.drop (i + 1)).reverse = x
    induction x with
    | nil => simp only [List.nil_append]; unfold fresh; rw [List.any_reverse, ha]; rfl
    | cons y x ih2 => simp only [List.cons_append]; unfold fresh; rw [ih2, Bool.and_false]
   simp [hn]
theorem worldOk_s (l : List Pg) (hl : l.length ≤ 1048576) (hs : ∀ p ∈ l, p.f0.size ≤ 140737488351232 ∧ p.f2.size ≤ 140737488351232) : Ev (fun k => spec_WorldOk.f k l) (worldOk l) := by
 unfold spec_WorldOk.f
 have h := outer_s l hl hs l.length 0 (by omega)
 rw [rest_world l l.length 0 (by omega) (by simp [fresh])] at h
 rw [List.drop_zero] at h
 exact h
end Go.Proofs.YtpomhjkbgbociaaDoor.Wd
end
section
namespace Go.Proofs.YtpomhjkbgbociaaDoor.Wd
open Go.RowKit Go.Proofs.YtpomhjkbgbociaaDoor.P Go.Proofs.YtpomhjkbgbociaaDoorW.PrintWords Go.Proofs.YtpomhjkbgbociaaDoorW.PrintLast Go.Proofs.YtpomhjkbgbociaaDoorW.PrintMore Go.Proofs.YtpomhjkbgbociaaDoor.B Go.Proofs.YtpomhjkbgbociaaDoor.Ad
set_option linter.unusedVariables false
set_option linter.unusedSimpArgs false
def atO (l : List Pg) (a : ByteArray) : ByteArray × ByteArray × ByteArray × Int × Bool :=
 match l.find? fun q => decide (q.f0 = a) with
 | some p => (p.f0, p.f1, p.f2, p.f3, true)
 | none => ((⟨#[]⟩ : ByteArray), (⟨#[]⟩ : ByteArray), (⟨#[]⟩ : ByteArray), 0, false)
theorem at_l (l : List Pg) (hl : l.length ≤ 1048576) (a : ByteArray) (d : Nat) : ∀ (i : Nat), i + d = l.length → Ev (fun k => spec_l11At.l0 k l a (i : Int)) (atO (l.drop i) a) := by
 induction d with
 | zero =>
  intro i hi
  refine Ev_succ ?_
  simp only [spec_l11At.l0, show ¬ ((i : Int) < (l.length : Int)) from by omega, if_false]
  rw [List.drop_of_length_le (by omega)]
  exact Ev.now _
 | succ d ih =>
  intro i hi
  have hlt : i < l.length := by omega
  have w1 : wrap64 ((i : Int) + 1) = ((i + 1 : Nat) : Int) := by rw [w64 (by omega) (by omega)]; rfl
  have next := ih (i + 1) (by omega)
  refine Ev_succ ?_
  simp only [spec_l11At.l0, show (i : Int) < (l.length : Int) from by omega, ci_nn i, if_true]
  rw [w1, rd_pg hlt, List.drop_eq_getElem_cons hlt]
  generalize l[i] = p at *
  by_cases he : p.f0.toList = a.toList
  ·simp only [he, if_true, atO, List.find?_cons, decide_eq_true (toList_inj.1 he)]
   exact Ev.now _
  ·simp only [he, if_false, atO, List.find?_cons, decide_eq_false (fun e => he (toList_inj.2 e))]
   exact next
end Go.Proofs.YtpomhjkbgbociaaDoor.Wd
end
section
namespace Go.Proofs.YtpomhjkbgbociaaDoor.Draw
open Go.RowKit Go.Proofs.YtpomhjkbgbociaaDoor.P Go.Proofs.YtpomhjkbgbociaaDoorW.PrintWords Go.Proofs.YtpomhjkbgbociaaDoorW.PrintLast Go.Proofs.YtpomhjkbgbociaaDoorW.PrintMore Go.Proofs.YtpomhjkbgbociaaDoor.B Go.Proofs.YtpomhjkbgbociaaDoor.Ad Go.Proofs.YtpomhjkbgbociaaDoor.Wd
set_option linter.unusedVariables false
set_option linter.unusedSimpArgs false
def Pgd (p : Pg) : Prop := p.f0.size ≤ 60 ∧ p.f1.size ≤ 300 ∧ p.f2.size ≤ 60
theorem pgd_app {x : List Pg} {g : Pg} (h : ∀ q ∈ x, Pgd q) (hg : Pgd g) : ∀ q ∈ x ++ [g], Pgd q := by
 intro q hq
 rcases List.mem_append.1 hq with hq | hq
 ·exact h q hq
 ·rw [List.mem_singleton.1 hq]; exact hg
theorem at_some {x : List Pg} {a : ByteArray} (h : (atO x a).2.2.2.2 = true) : x ≠ [] := by
 rintro rfl
 simp [atO] at h
theorem small_of {n : List SGd} (hl : n.length ≤ 4) (h : ∀ g ∈ n, Gd g) : Nt.Sm n :=
 ⟨by omega, fun g hg => by obtain ⟨h1, h2, _⟩ := h g hg; exact ⟨by omega, fun s hs => by have := h2 s hs; omega⟩, fun g hg => by obtain ⟨_, _, h3, _⟩ := h g hg; omega⟩
theorem world_l1 {b : List Int} (hc : Code b) (d : Nat) : ∀ (p : Int) (x : List Pg), 0 ≤ p → p + 400 * d ≤ 90000000 → x.length + d ≤ 100 → (∀ q ∈ x, Pgd q) → (x ≠ [] ∨ 1 ≤ d) →
  ∃ y p', Ev (fun k => spec_l71World.l1 k x (d : Int) b p) (y, p') ∧ y ≠ [] ∧ y.length ≤ x.length + d ∧ (∀ q ∈ y, Pgd q) ∧ p ≤ p' ∧ p' ≤ p + 400 * d := by
 induction d with
 | zero =>
  intro p x h0 h1 hl hx hn
  refine ⟨x, p, Ev_succ ?_, by rcases hn with h | h; exact h; omega, by omega, hx, by omega, by omega⟩
  have n0 : ¬ (((0 : Nat) : Int) > 0) := by omega
  simp only [spec_l71World.l1, n0, if_false]
  exact Ev.now _
 | succ d ih =>
  intro p x h0 h1 hl hx hn
  have n1 : (((d + 1 : Nat) : Int) > 0) := by omega
  have e1 : wrap64 (((d + 1 : Nat) : Int) - 1) = (d : Int) := by rw [w64 (by omega) (by omega)]; omega
  obtain ⟨s, p1, hs, sz, a1, b1⟩ := addr_ev hc p h0 (by omega)
  obtain ⟨t, p2, ht, tz, a2, b2⟩ := page_ev hc p1 (by omega) (by omega)
  obtain ⟨v, hv, v0, v1⟩ := pick_ev hc p2 7 (by omega) (by omega)
  have v2 := v1 (by omega)
  obtain ⟨u, hu, u0, u1⟩ := pick_ev hc (p2 + 1) 8 (by omega) (by omega)
  have hA := at_l x (by omega) s x.length 0 (by omega)
  rw [List.drop_zero] at hA
  have hA' : Ev (fun k => spec_l11At.f k x s) (atO x s) := hA
  have tail : ∀ (q : Int) (pg : Pg) (B : Prop) [Decidable B], B → Pgd pg → 0 ≤ q → q ≤ p + 330 →
    ∃ y p', Ev (fun k => (spec_l11At.f k x s).bind fun bt => if bt.2.2.2.2 = true then (spec_l71World.l1 k x (wrap64 (((d + 1 : Nat) : Int) - 1)) b q) else (if B then (if x.length < 2513169434916 then (spec_l71World.l1 k (x ++ [pg]) (wrap64 (((d + 1 : Nat) : Int) - 1)) b q) else none) else (spec_l71World.l1 k x (wrap64 (((d + 1 : Nat) : Int) - 1)) b q))) (y, p') ∧ y ≠ [] ∧ y.length ≤ x.length + (d + 1) ∧ (∀ q ∈ y, Pgd q) ∧ q ≤ p' ∧ p' ≤ q + 400 * d := by
   intro q pg B _ hB hpg q0 q1
   rw [e1]
   by_cases hf : (atO x s).2.2.2.2 = true
   ·obtain ⟨y, p', g1, g2, g3, g4, g5, g6⟩ := ih q x q0 (by omega) (by omega) hx (.inl (at_some hf))
    refine ⟨y, p', Ev.bind hA' ?_, g2, by omega, g4, g5, g6⟩
    simp only [hf, if_true]
    exact g1
   ·obtain ⟨y, p', g1, g2, g3, g4, g5, g6⟩ := ih q (x ++ [pg]) q0 (by omega) (by simp; omega) (pgd_app hx hpg) (.inl (by simp))
    rw [List.length_append, List.length_singleton] at g3
    refine ⟨y, p', Ev.bind hA' ?_, g2, by omega, g4, g5, g6⟩
    simp only [hf, Bool.false_eq_true, if_false, if_pos hB, show x.length < 2513169434916 from by omega, if_true]
    exact g1
  have h7 : v < (([0, 0, 0, 0, 1, 2, 4] : List Int).length : Int) := by simp; omega
  by_cases c : u = 0
  ·obtain ⟨s2, p3, hs2, sz2, a3, b3⟩ := addr_ev hc (p2 + 1 + 1) (by omega) (by omega)
   obtain ⟨y, p', g1, g2, g3, g4, g5, g6⟩ := tail p3 ⟨s, ⟨#[]⟩, s2, rd [0, 0, 0, 0, 1, 2, 4] v⟩ ((0 : Int) ≤ 300) (by decide) ⟨by simp only; omega, Nat.zero_le _, by simp only; omega⟩ (by omega) (by omega)
   refine ⟨y, p', Ev_succ ?_, g2, g3, g4, by omega, by omega⟩
   simp only [spec_l71World.l1, n1, if_true]
   refine Ev.bind hs (Ev.bind ht ?_)
   simp only [Option.bind_some]
   refine Ev.bind hv ?_
   simp only [v0, h7, if_true]
   refine Ev.bind hu ?_
   simp only [c, if_true]
   exact Ev.bind hs2 g1
  ·obtain ⟨y, p', g1, g2, g3, g4, g5, g6⟩ := tail (p2 + 1 + 1) ⟨s, t, ⟨#[]⟩, rd [0, 0, 0, 0, 1, 2, 4] v⟩ ((t.size : Int) ≤ 300) (by omega) ⟨by simp only; omega, by simp only; omega, Nat.zero_le _⟩ (by omega) (by omega)
   refine ⟨y, p', Ev_succ ?_, g2, g3, g4, by omega, by omega⟩
   simp only [spec_l71World.l1, n1, if_true]
   refine Ev.bind hs (Ev.bind ht ?_)
   simp only [Option.bind_some]
   refine Ev.bind hv ?_
   simp only [v0, h7, if_true]
   refine Ev.bind hu ?_
   simp only [c, if_false]
   exact g1
abbrev T4 : List ByteArray := [(⟨#[97, 98]⟩ : ByteArray), (⟨#[99, 100]⟩ : ByteArray), (⟨#[101]⟩ : ByteArray), (⟨#[102, 111, 120]⟩ : ByteArray)]
theorem t4_size (i : Nat) (h : i < 4) : (rdOf ByteArray.empty T4 (i : Int)).size ≤ 3 := by
 obtain rfl | rfl | rfl | rfl : i = 0 ∨ i = 1 ∨ i = 2 ∨ i = 3 := by omega
 all_goals decide
theorem world_l0 {b : List Int} (hc : Code b) (d : Nat) : ∀ (i : Nat) (p : Int) (x : List Pg), i + d = 4 → 0 ≤ p → p + 500 * d + 4000 ≤ 9000000 → x.length ≤ i → (∀ q ∈ x, Pgd q) →
  ∃ y p', Ev (fun k => spec_l71World.l0 k x T4 (i : Int) b p) (y, p') ∧ y ≠ [] ∧ y.length ≤ 12 ∧ (∀ q ∈ y, Pgd q) ∧ p ≤ p' ∧ p' ≤ p + 500 * d + 4000 := by
 induction d with
 | zero =>
  intro i p x hi h0 h1 hl hx
  obtain ⟨v, hv, v0, v1⟩ := pick_ev hc p 7 h0 (by omega)
  have v2 := v1 (by omega)
  obtain ⟨m, rfl⟩ := Int.eq_ofNat_of_zero_le v0
  obtain ⟨y, p', g1, g2, g3, g4, g5, g6⟩ := world_l1 hc (2 + m) (p + 1) x (by omega) (by omega) (by omega) hx (.inr (by omega))
  refine ⟨y, p', Ev_succ ?_, g2, by omega, g4, by omega, by omega⟩
  simp only [spec_l71World.l0, show ¬ ((i : Int) < 4) from by omega, if_false]
  refine Ev.bind hv ?_
  simp only
  rw [show wrap64 (2 + (m : Int)) = ((2 + m : Nat) : Int) from by rw [w64 (by omega) (by omega)]; omega]
  exact g1
 | succ d ih =>
  intro i p x hi h0 h1 hl hx
  have e4 : wrap64 ((i : Int) + 1) = ((i + 1 : Nat) : Int) := by rw [w64 (by omega) (by omega)]; rfl
  have i4 : (i : Int) < 4 := by omega
  have i4' : (i : Int) < (T4.length : Int) := by simp [T4]; omega
  have hz := t4_size i (by omega)
  obtain ⟨v, hv, v0, v1⟩ := pick_ev hc p 2 h0 (by omega)
  by_cases c : v = 0
  ·obtain ⟨n, p1, hn, nl, ng, a1, b1⟩ := groups_ev hc (p + 1) (by omega) (by omega)
   have hT := Nt.noticeT_ev n (small_of nl ng)
   obtain ⟨u, hu, u0, u1⟩ := pick_ev hc p1 6 (by omega) (by omega)
   have u2 := u1 (by omega)
   obtain ⟨r, hr, _, _⟩ := pick_ev hc (p1 + 1) 12 (by omega) (by omega)
   have h6 : u < (([0, 0, 0, 1, 2, 5] : List Int).length : Int) := by simp; omega
   have s2 : (⟨#[47, 47]⟩ : ByteArray).size = 2 := rfl
   have s7 : (⟨#[47, 110, 111, 116, 105, 99, 101]⟩ : ByteArray).size = 7 := rfl
   have hza : (((⟨#[47, 47]⟩ : ByteArray) ++ (rdOf ByteArray.empty T4 (i : Int))) ++ (⟨#[47, 110, 111, 116, 105, 99, 101]⟩ : ByteArray)).size ≤ 60 := by
    simp only [ByteArray.size_append]; omega
   have tail : ∀ (q : Int) (pg : Pg) (B : Prop) [Decidable B], (B → Pgd pg) → 0 ≤ q → q ≤ p + 450 →
     ∃ y p', Ev (fun k => if B then (if x.length < 2513169434916 then (spec_l71World.l0 k (x ++ [pg]) T4 (wrap64 ((i : Int) + 1)) b q) else none) else (spec_l71World.l0 k x T4 (wrap64 ((i : Int) + 1)) b q)) (y, p') ∧ y ≠ [] ∧ y.length ≤ 12 ∧ (∀ q ∈ y, Pgd q) ∧ q ≤ p' ∧ p' ≤ q + 500 * d + 4000 := by
    intro q pg B _ hpg q0 q1
    rw [e4]
    by_cases hB : B
    ·obtain ⟨y, p', g1, g2, g3, g4, g5, g6⟩ := ih (i + 1) q (x ++ [pg]) (by omega) q0 (by omega) (by simp; omega) (pgd_app hx (hpg hB))
     refine ⟨y, p', ?_, g2, g3, g4, g5, g6⟩
     simp only [if_pos hB, show x.length < 2513169434916 from by omega, if_true]
     exact g1
    ·obtain ⟨y, p', g1, g2, g3, g4, g5, g6⟩ := ih (i + 1) q x (by omega) q0 (by omega) (by omega) hx
     refine ⟨y, p', ?_, g2, g3, g4, g5, g6⟩
     simp only [if_neg hB]
     exact g1
   have ci : (0 : Int) ≤ (i : Int) := by omega
   by_cases c2 : r = 0
   ·obtain ⟨s2', p3, hs2, sz2, a3, b3⟩ := addr_ev hc (p1 + 1 + 1) (by omega) (by omega)
    obtain ⟨y, p', g1, g2, g3, g4, g5, g6⟩ := tail p3 ⟨((⟨#[47, 47]⟩ : ByteArray) ++ (rdOf ByteArray.empty T4 (i : Int))) ++ (⟨#[47, 110, 111, 116, 105, 99, 101]⟩ : ByteArray), ⟨#[]⟩, s2', rd [0, 0, 0, 1, 2, 5] u⟩ ((0 : Int) ≤ 300) (fun _ => ⟨hza, Nat.zero_le _, by simp only; omega⟩) (by omega) (by omega)
    refine ⟨y, p', Ev_succ ?_, g2, g3, g4, by omega, by omega⟩
    simp only [spec_l71World.l0, i4, if_true]
    refine Ev.bind hv ?_
    simp only [c, if_true, ci, i4', show 2 + (rdOf ByteArray.empty T4 (i : Int)).size ≤ 9223372036854775807 from by omega, show 2 + (rdOf ByteArray.empty T4 (i : Int)).size + 7 ≤ 9223372036854775807 from by omega]
    refine Ev.bind hn (Ev.bind hT ?_)
    simp only [Option.bind_some]
    refine Ev.bind hu ?_
    simp only [u0, h6, if_true]
    refine Ev.bind hr ?_
    simp only [c2, if_true]
    exact Ev.bind hs2 g1
   ·obtain ⟨y, p', g1, g2, g3, g4, g5, g6⟩ := tail (p1 + 1 + 1) ⟨((⟨#[47, 47]⟩ : ByteArray) ++ (rdOf ByteArray.empty T4 (i : Int))) ++ (⟨#[47, 110, 111, 116, 105, 99, 101]⟩ : ByteArray), Nt.noticeT n, ⟨#[]⟩, rd [0, 0, 0, 1, 2, 5] u⟩ (((Nt.noticeT n).size : Int) ≤ 300) (fun h => ⟨hza, by simp only; omega, Nat.zero_le _⟩) (by omega) (by omega)
    refine ⟨y, p', Ev_succ ?_, g2, g3, g4, by omega, by omega⟩
    simp only [spec_l71World.l0, i4, if_true]
    refine Ev.bind hv ?_
    simp only [c, if_true, ci, i4', show 2 + (rdOf ByteArray.empty T4 (i : Int)).size ≤ 9223372036854775807 from by omega, show 2 + (rdOf ByteArray.empty T4 (i : Int)).size + 7 ≤ 9223372036854775807 from by omega]
    refine Ev.bind hn (Ev.bind hT ?_)
    simp only [Option.bind_some]
    refine Ev.bind hu ?_
    simp only [u0, h6, if_true]
    refine Ev.bind hr ?_
    simp only [c2, if_false]
    exact g1
  ·obtain ⟨y, p', g1, g2, g3, g4, g5, g6⟩ := ih (i + 1) (p + 1) x (by omega) (by omega) (by omega) (by omega) hx
   refine ⟨y, p', Ev_succ ?_, g2, g3, g4, by omega, by omega⟩
   simp only [spec_l71World.l0, i4, if_true]
   refine Ev.bind hv ?_
   simp only [c, if_false]
   rw [e4]
   exact g1
theorem world_ev {b : List Int} (hc : Code b) (p : Int) (h0 : 0 ≤ p) (h1 : p ≤ 1000000) : ∃ y p', Ev (fun k => spec_l71World.f k b p) (y, p') ∧ y ≠ [] ∧ y.length ≤ 12 ∧ (∀ q ∈ y, Pgd q) ∧ p ≤ p' ∧ p' ≤ p + 6000 := by
 obtain ⟨y, p', g1, g2, g3, g4, g5, g6⟩ := world_l0 hc 4 0 p [] rfl h0 (by omega) (by simp) (by simp)
 refine ⟨y, p', ?_, g2, g3, g4, g5, by omega⟩
 unfold spec_l71World.f spec_l71Houses.f
 exact g1
theorem off_l {b : List Int} (d : Nat) : ∀ (i : Nat) (x : List Pg) (p : Int), i + d = 12 → x.length ≤ 12 + i → (∀ q ∈ x, Pgd q) →
  ∃ y, Ev (fun k => spec_l71Off.l0 k x (i : Int) b p) (y, p) ∧ y.length ≤ 24 ∧ (∀ q ∈ y, Pgd q) ∧ (x ≠ [] → y ≠ []) := by
 induction d with
 | zero =>
  intro i x p hi hl hx
  refine ⟨x, Ev_succ ?_, by omega, hx, id⟩
  simp only [spec_l71Off.l0, show ¬ ((i : Int) < 12) from by omega, if_false]
  exact Ev.now _
 | succ d ih =>
  intro i x p hi hl hx
  have hd := Nt.dec_ev i (by omega)
  have hds := Nt.dec_size i
  have s6 : (⟨#[47, 47, 97, 98, 47, 122]⟩ : ByteArray).size = 6 := rfl
  have e4 : wrap64 ((i : Int) + 1) = ((i + 1 : Nat) : Int) := by rw [w64 (by omega) (by omega)]; rfl
  obtain ⟨y, g1, g2, g3, g4⟩ := ih (i + 1) (x ++ [⟨(⟨#[47, 47, 97, 98, 47, 122]⟩ : ByteArray) ++ Nt.decB i, ⟨#[]⟩, ⟨#[]⟩, 0⟩]) p (by omega) (by simp; omega) (pgd_app hx ⟨by simp only [ByteArray.size_append]; omega, Nat.zero_le _, Nat.zero_le _⟩)
  refine ⟨y, Ev_succ ?_, g2, g3, fun _ => g4 (by simp)⟩
  simp only [spec_l71Off.l0, show (i : Int) < 12 from by omega, if_true]
  refine Ev.bind hd ?_
  simp only [show 6 + (Nt.decB i).size ≤ 9223372036854775807 from by omega, show x.length < 2513169434916 from by omega, if_true]
  rw [e4]
  exact g1
theorem off_ev {b : List Int} (hc : Code b) (p : Int) (h0 : 0 ≤ p) (h1 : p ≤ 1000000) : ∃ y p', Ev (fun k => spec_l71Off.f k b p) (y, p') ∧ y ≠ [] ∧ y.length ≤ 24 ∧ (∀ q ∈ y, Pgd q) ∧ p ≤ p' ∧ p' ≤ p + 7000 := by
 obtain ⟨w, p1, hw, wn, wl, wg, a1, b1⟩ := world_ev hc p h0 h1
 obtain ⟨v, hv, _, _⟩ := pick_ev hc p1 16 (by omega) (by omega)
 have hpos : 0 < w.length := List.length_pos_iff.2 wn
 have l0 : (0 : Int) < (w.length : Int) := by omega
 have llt : w.length < 2513169434916 := by omega
 have hg0 : Pgd (rd_T32 w 0) := by
  have := rd_pg (l := w) (i := 0) hpos
  rw [show ((0 : Nat) : Int) = 0 from rfl] at this
  rw [this]
  exact wg _ (List.getElem_mem hpos)
 obtain ⟨z1, z2, z3⟩ := hg0
 have hset : ∀ (g : Pg), Pgd g → ∀ q ∈ w.set (0 : Int).toNat g, Pgd q := fun g hg q hq => by
  rcases List.mem_or_eq_of_mem_set hq with h | h
  ·exact wg q h
  ·rw [h]; exact hg
 have hne : ∀ g : Pg, w.set (0 : Int).toNat g ≠ [] := fun g e => by
  have := congrArg List.length e
  simp at this
  exact wn this
 unfold spec_l71Off.f
 by_cases c : v > 0
 ·refine ⟨w, p1 + 1, Ev.bind hw (Ev.bind hv ?_), wn, by omega, wg, by omega, by omega⟩
  simp only [c, if_true]
  exact Ev.now _
 obtain ⟨u, hu, _, _⟩ := pick_ev hc (p1 + 1) 5 (by omega) (by omega)
 by_cases c0 : u = 0
 ·refine ⟨w ++ [rd_T32 w 0], p1 + 1 + 1, Ev.bind hw (Ev.bind hv ?_), by simp, by simp; omega, pgd_app wg ⟨z1, z2, z3⟩, by omega, by omega⟩
  simp only [c, if_false]
  refine Ev.bind hu ?_
  simp only [c0, l0, llt, if_true]
  exact Ev.now _
 by_cases c1 : u = 1
 ·refine ⟨w.set (0 : Int).toNat ⟨(rd_T32 w 0).f0, (rd_T32 w 0).f1, (rd_T32 w 0).f2, 10⟩, p1 + 1 + 1, Ev.bind hw (Ev.bind hv ?_), hne _, by simp; omega, hset _ ⟨z1, z2, z3⟩, by omega, by omega⟩
  simp only [c, if_false]
  refine Ev.bind hu ?_
  simp only [c0, c1, l0, if_true, if_false]
  exact Ev.now _
 by_cases c2 : u = 2
 ·obtain ⟨s, hs, sz⟩ := of_sz hc (p1 + 1 + 1) ([(⟨#[47, 47, 65, 66, 47, 97]⟩ : ByteArray), (⟨#[]⟩ : ByteArray), (⟨#[47, 47, 97, 98]⟩ : ByteArray)] : List ByteArray) 6 (by omega) (by omega) (by decide) (by decide)
  refine ⟨w.set (0 : Int).toNat ⟨s, (rd_T32 w 0).f1, (rd_T32 w 0).f2, (rd_T32 w 0).f3⟩, p1 + 1 + 1 + 1, Ev.bind hw (Ev.bind hv ?_), hne _, by simp; omega, hset _ ⟨by simp only; omega, z2, z3⟩, by omega, by omega⟩
  simp only [c, if_false]
  refine Ev.bind hu ?_
  simp only [c0, c1, c2, if_true, if_false]
  refine Ev.bind hs ?_
  simp only [l0, if_true]
  exact Ev.now _
 by_cases c3 : u = 3
 ·refine ⟨w.set (0 : Int).toNat ⟨(rd_T32 w 0).f0, (rd_T32 w 0).f1, (⟨#[120]⟩ : ByteArray), (rd_T32 w 0).f3⟩, p1 + 1 + 1, Ev.bind hw (Ev.bind hv ?_), hne _, by simp; omega, hset _ ⟨z1, z2, by show (⟨#[120]⟩ : ByteArray).size ≤ 60; decide⟩, by omega, by omega⟩
  simp only [c, if_false]
  refine Ev.bind hu ?_
  simp only [c0, c1, c2, c3, l0, if_true, if_false]
  exact Ev.now _
 ·obtain ⟨y, g1, g2, g3, g4⟩ := off_l (b := b) 12 0 w (p1 + 1 + 1) rfl (by omega) wg
  refine ⟨y, p1 + 1 + 1, Ev.bind hw (Ev.bind hv ?_), g4 wn, g2, g3, by omega, by omega⟩
  simp only [c, if_false]
  refine Ev.bind hu ?_
  simp only [c0, c1, c2, c3, if_false]
  exact g1
end Go.Proofs.YtpomhjkbgbociaaDoor.Draw
end
section
namespace Go.Proofs.YtpomhjkbgbociaaDoor.Ad
open Go.RowKit Go.Proofs.YtpomhjkbgbociaaDoor.P Go.Proofs.YtpomhjkbgbociaaDoorW.PrintWords Go.Proofs.YtpomhjkbgbociaaDoorW.PrintLast Go.Proofs.YtpomhjkbgbociaaDoorW.PrintMore Go.Proofs.YtpomhjkbgbociaaDoor.B
set_option linter.unusedVariables false
set_option linter.unusedSimpArgs false
theorem addrText_i (house : ByteArray) (parts : List ByteArray) (asks : Bool) (ask : ByteArray) (hP : Parts parts) (hq : ask.size ≤ 1048576) (hh : house.size ≤ 1048576) :
  Ev (fun k => impl_AddrText.f k house parts asks ask) (addrText house parts asks ask) := by
 unfold impl_AddrText.f addrText
 refine Ev.bind (addrOk_i house parts asks ask hP hq hh) ?_
 by_cases h : addrOk house parts asks ask = true
 ·simp only [h, if_true, text_i house parts asks ask hP hq hh, Option.bind_some]
  exact Ev.now _
 ·simp only [h, if_false]
  exact Ev.now _
end Go.Proofs.YtpomhjkbgbociaaDoor.Ad
end
section
namespace Go.Proofs.YtpomhjkbgbociaaDoor.Pure
open Go.RowKit Go.Proofs.YtpomhjkbgbociaaDoor.P Go.Proofs.YtpomhjkbgbociaaDoorW.PrintWords Go.Proofs.YtpomhjkbgbociaaDoorW.PrintLast Go.Proofs.YtpomhjkbgbociaaDoorW.PrintMore Go.Proofs.YtpomhjkbgbociaaDoor.Draw Go.Proofs.YtpomhjkbgbociaaDoor.B Go.Proofs.YtpomhjkbgbociaaDoor.Ad Go.Proofs.YtpomhjkbgbociaaDoor.Wd
set_option linter.unusedSimpArgs false
set_option linter.unusedVariables false
theorem drawOk_ev (l0 : List Int) (hw : ∀ x ∈ l0, (Lit.int .u8 x).wf = true) : ∃ w, Ev (fun k => spec_DrawWorldOk.f k l0) w ∧ w.length ≤ 24 ∧ (∀ q ∈ w, Pgd q) := by
 obtain ⟨b, hb, hc⟩ := open_some l0 hw
 obtain ⟨w, p1, h1, wn, wl, wg, a1, b1⟩ := off_ev hc 0 (by omega) (by omega)
 obtain ⟨v, hv, v0, v1⟩ := pick_ev hc p1 4 (by omega) (by omega)
 have hpos : 0 < w.length := List.length_pos_iff.2 wn
 unfold spec_DrawWorldOk.f
 rw [hb]
 simp only [Option.bind_some]
 by_cases c : v = 0
 ·obtain ⟨s, hs, sz⟩ := of_sz hc (p1 + 1) ([(⟨#[47, 47, 97, 98, 47, 46, 46]⟩ : ByteArray), (⟨#[47, 47, 97, 98, 47, 97]⟩ : ByteArray), (⟨#[97, 98]⟩ : ByteArray), (⟨#[47, 47, 101, 47]⟩ : ByteArray)] : List ByteArray) 7 (by omega) (by omega) (by decide) (by decide)
  have e1 : wrap64 ((w.length : Int) - 1) = ((w.length - 1 : Nat) : Int) := by rw [w64 (by omega) (by omega)]; omega
  have hlt : w.length - 1 < w.length := by omega
  refine ⟨w.set (w.length - 1) ⟨s, w[w.length - 1].f1, w[w.length - 1].f2, w[w.length - 1].f3⟩, Ev.bind h1 (Ev.bind hv ?_), by simp; omega, fun q hq => ?_⟩
  ·simp only [c, if_true, show (w.length : Int) > 0 from by omega]
   refine Ev.bind hs ?_
   rw [e1]
   simp only [show (0 : Int) ≤ ((w.length - 1 : Nat) : Int) from by omega, show ((w.length - 1 : Nat) : Int) < (w.length : Int) from by omega, if_true]
   rw [rd_pg hlt, Int.toNat_natCast]
   exact Ev.now _
  ·rcases List.mem_or_eq_of_mem_set hq with h | h
   ·exact wg q h
   ·obtain ⟨_, z2, z3⟩ := wg _ (List.getElem_mem hlt)
    rw [h]
    exact ⟨by simp only; omega, z2, z3⟩
 ·refine ⟨w, Ev.bind h1 (Ev.bind hv ?_), wl, wg⟩
  simp only [c, if_false]
  exact Ev.now _
theorem fresh_app : ∀ {a b : List Pg}, fresh (a ++ b) = true → fresh a = true ∧ fresh b = true
 | [], _, h => ⟨rfl, h⟩
 | p :: a, b, h => by
  simp only [List.cons_append, fresh, Bool.and_eq_true, Bool.not_eq_true', List.any_append, Bool.or_eq_false_iff] at h
  obtain ⟨h1, h2⟩ := fresh_app h.2
  refine ⟨?_, h2⟩
  simp only [fresh, Bool.and_eq_true, Bool.not_eq_true']
  exact ⟨h.1.1, h1⟩
theorem part_ok {w : List Pg} (h : worldOk w = true) (i : Nat) : worldOk (w.drop i) = true ∧ worldOk (w.take i) = true := by
 unfold worldOk at *
 simp only [Bool.and_eq_true, decide_eq_true_eq] at h ⊢
 obtain ⟨⟨h1, h2⟩, h3⟩ := h
 have e : w.reverse = (w.drop i).reverse ++ (w.take i).reverse := by rw [← List.reverse_append, List.take_append_drop]
 rw [e] at h3
 obtain ⟨f1, f2⟩ := fresh_app h3
 refine ⟨⟨⟨by rw [List.length_drop]; omega, List.all_eq_true.2 fun x hx => List.all_eq_true.1 h2 x (List.mem_of_mem_drop hx)⟩, f1⟩,
  ⟨⟨by rw [List.length_take]; omega, List.all_eq_true.2 fun x hx => List.all_eq_true.1 h2 x (List.mem_of_mem_take hx)⟩, f2⟩⟩
theorem each_ev (w : List Pg) (wl : w.length ≤ 24) (wg : ∀ p ∈ w, p.f0.size ≤ 9223372036854775807) (hk : worldOk w = true) (d : Nat) : ∀ i, i + d = w.length → Ev (fun k => laws_FnWorldOk.l0 k w (i : Int)) true := by
 induction d with
 | zero =>
  intro i hi
  refine Ev_succ ?_
  simp only [laws_FnWorldOk.l0, show ¬ ((i : Int) < (w.length : Int)) from by omega, if_false]
  unfold worldOk at hk
  simp only [Bool.and_eq_true, decide_eq_true_eq] at hk
  rw [show decide ((w.length : Int) ≤ 12) = true from decide_eq_true (by omega)]
  exact Ev.now _
 | succ d ih =>
  intro i hi
  have hlt : i < w.length := by omega
  have e4 : wrap64 ((i : Int) + 1) = ((i + 1 : Nat) : Int) := by rw [w64 (by omega) (by omega)]; rfl
  have next := ih (i + 1) (by omega)
  have hn : norm w[i].f0 = true := by
   unfold worldOk at hk
   simp only [Bool.and_eq_true] at hk
   have := List.all_eq_true.1 hk.1.2 _ (List.getElem_mem hlt)
   unfold pgOk at this
   simp only [Bool.and_eq_true] at this
   exact this.1.1.1.1
  obtain ⟨k1, k2⟩ := part_ok hk i
  have i1 : Ev (fun k => impl_WorldOk.f k (w.drop i)) true := by
   have := made_i (w.drop i) (fun p hp => wg p (List.mem_of_mem_drop hp))
   rw [k1] at this
   exact this
  have i2 : Ev (fun k => impl_WorldOk.f k (w.take i)) true := by
   have := made_i (w.take i) (fun p hp => wg p (List.mem_of_mem_take hp))
   rw [k2] at this
   exact this
  unfold norm at hn
  rw [Bool.and_eq_true, beq_iff_eq] at hn
  obtain ⟨q1, q2, q3⟩ := fine_parts (fine_read w[i].f0)
  have ho : addrOk (readO w[i].f0).1 (readO w[i].f0).2.1 (readO w[i].f0).2.2.1 (readO w[i].f0).2.2.2.1 = true := by
   rcases fine_read w[i].f0 with e | e
   ·rw [e] at hn; cases hn.1
   ·exact e.2
  have hT := addrText_i (readO w[i].f0).1 (readO w[i].f0).2.1 (readO w[i].f0).2.2.1 (readO w[i].f0).2.2.2.1 q1 (by omega) (by omega)
  rw [show addrText (readO w[i].f0).1 (readO w[i].f0).2.1 (readO w[i].f0).2.2.1 (readO w[i].f0).2.2.2.1 = textB (readO w[i].f0).1 (readO w[i].f0).2.1 (readO w[i].f0).2.2.1 (readO w[i].f0).2.2.2.1 from by unfold addrText; rw [if_pos ho]] at hT
  refine Ev_succ ?_
  simp only [laws_FnWorldOk.l0, show (i : Int) < (w.length : Int) from by omega, show (0 : Int) ≤ (i : Int) from by omega, if_true]
  rw [rd_pg hlt, e4, Int.toNat_natCast]
  refine Ev.bind (read_i w[i].f0) ?_
  simp only [hn.1, if_true]
  refine Ev.bind hT ?_
  simp only [hn.2, if_true, show (i : Int) ≤ (w.length : Int) from by omega]
  refine Ev.bind i1 ?_
  simp only [if_true]
  refine Ev.bind i2 ?_
  simp only [if_true]
  exact next
theorem FnWorldOk : laws_FnWorldOk.Pure := by
 intro l0 hm hz hw
 refine Ev.rounds ?_
 unfold laws_FnWorldOk.f
 by_cases h : (l0.length : Int) > 1048576
 ·simp only [h, if_true]; exact Ev.now _
 simp only [h, if_false]
 obtain ⟨w, hd, wl, wg⟩ := drawOk_ev l0 hw
 have b1 : ∀ p ∈ w, p.f0.size ≤ 140737488351232 ∧ p.f2.size ≤ 140737488351232 := fun p hp => by obtain ⟨h1, h2, h3⟩ := wg p hp; omega
 have b2 : ∀ p ∈ w, p.f0.size ≤ 9223372036854775807 := fun p hp => by obtain ⟨h1, h2, h3⟩ := wg p hp; omega
 have hi : Ev (fun k => impl_WorldOk.f k w) (worldOk w) := made_i w b2
 have hs := worldOk_s w (by omega) b1
 refine Ev.bind hd (Ev.bind hi (Ev.bind hs ?_))
 simp only [bne_self_eq_false, Bool.false_eq_true, if_false]
 refine Ev_succ ?_
 by_cases hk : worldOk w = true
 ·simp only [hk, Bool.not_true, laws_FnWorldOk.j0, Bool.false_eq_true, if_false]
  exact each_ev w wl b2 hk w.length 0 (by omega)
 ·have hk' : worldOk w = false := by simpa using hk
  rw [hk'] at hs ⊢
  simp only [Bool.not_false, laws_FnWorldOk.j0, if_true]
  exact Ev.bind hs (Ev.now _)
end Go.Proofs.YtpomhjkbgbociaaDoor.Pure
end
section
namespace Go.Proofs.YtpomhjkbgbociaaDoorW.PrintWords
open Go.ChangeShapes Go.WideShapes
theorem sized_ints {H : Type} {enc : TypeId × Value → H} {P : Program} {W : World} {base : Nat} {spare : Nat → Bool} {held : Bool} {t e : TypeId} {k : IntKind} {a : Option Addr} {len cap : Nat} {d : DataW H} {ps : List MemPlace} {ts : List TypeId} {ds : List (DataW H)} {j : Nat}
  (hsz : (DataW.weightsEach P ts ds).all (· ≤ reachBytes) = true) (ht : ts[j]? = some t) (hd : ds[j]? = some d) (hu : P.underlying t = some (.slice e)) (he : P.underlying e = some (.int k)) (hc : P.cellsOf e = 1) {B : Nat} (hB : P.bytesOf e = B)
  (h : DataW.Trod enc P W base spare held t (.slice a len cap) d ps) : len * B ≤ 140737488351232 := by
 obtain ⟨fuel, hf⟩ := h
 rcases open_ints hu he hc hf with ⟨hcs, _⟩ | ⟨x, l, c, zs, hcs, _, hl, _, hz, hx, _, _⟩
 ·simp [Value.cells] at hcs
  obtain ⟨rfl, rfl, rfl⟩ := hcs
  simp
 ·simp [Value.cells] at hcs
  obtain ⟨rfl, rfl, rfl⟩ := hcs
  obtain ⟨hx, _⟩ := Prod.mk.inj hx
  subst hx
  have z := sized_slice hsz ht hd hu
  rw [hB] at z
  have hl2 : len ≤ zs.length := by
   rw [hz]
   split
   ·exact hl
   ·exact Nat.le_refl _
  have h1 : (lits (H := H) k (zs.take len)).length + (lits (H := H) k (zs.drop len)).length = zs.length := by
   simp [lits]
   omega
  rw [h1] at z
  exact Nat.le_trans (Nat.mul_le_mul_right _ hl2) z
end Go.Proofs.YtpomhjkbgbociaaDoorW.PrintWords
end
section
namespace Go.Proofs.YtpomhjkbgbociaaDoor.fnWorldOk
open Go.ChangeShapes Go.WideShapes Go.ChangeAt Go.RowKit
open Go.ChangeMaps (open_string shut_string)
set_option linter.unusedVariables false
theorem own : ownKnob Tryd.prog.godebug = none := by kernel_rfl
theorem laidOut : laidOutB Tryd.prog = true := by kernel_rfl
def IsRow (k : IntKind) (w : World) (a : Option Addr) (len cap : Nat) (zs : List Int) : Prop :=
 (a = none ∧ len = 0 ∧ cap = 0 ∧ zs = []) ∨
 ∃ x, a = some x ∧ len ≤ cap ∧ cap ≤ maxLen ∧ zs.length = cap ∧ (∀ i, i < zs.length → w.cell? (x.add i) = some (.int k (zs.getD i 0))) ∧ ∀ n ∈ zs, (Lit.int k n).wf = true
set_option maxRecDepth 100000 in
theorem lifted (os : Os) (started : os.Started) (H : Type) (enc : TypeId × Value → H) :
  ReturnsInHanded {} Tryd.checked os 3 .any (fun w args => (Rows.fnWorldOkSpec.pre enc Tryd.prog Tryd.f3 Rows.fnWorldOkRow.domain false w args ∧ laidMetH Tryd.prog Rows.fnWorldOkRow.laid w) ∧ sizedMet enc Tryd.prog Tryd.f3 (OpenSpec.ofChange Rows.fnWorldOkSpec) false w args)
   (Rows.fnWorldOkSpec.post enc Tryd.prog Tryd.f3 false true false false) := by
 refine returnsInHanded_of_change_and (C := Tryd.checked) (X := fun w _ => laidMetH Tryd.prog Rows.fnWorldOkRow.laid w) (fun _ _ _ hh h => h.of_heap hh) own started (by kernel_rfl) Tryd.func3
  (ChangeSpec.witness_shaped (enc := enc) (C := Tryd.checked) (os := os) (X := fun w _ => laidMetH Tryd.prog Rows.fnWorldOkRow.laid w) false (World.laidAll Tryd.prog os Rows.fnWorldOkRow.laid) #[.slice none 0 0] 8 (World.laidAll_os _ _ _)
   (World.shaped_of_ZipB (by kernel_rfl) (by kernel_rfl)) (by kernel_rfl) (by kernel_rfl) (by kernel_rfl)
   (by rw [MakeChecks.laidMetH_plain _ _ _ (by kernel_rfl)]; exact laidMet_laidAll _ (by kernel_rfl) (by kernel_rfl))) ?_
 intro W base args ds gs before hval0 hW hcnd hsz0 hL _
 have hsz : (DataW.weightsEach Tryd.prog (Tryd.f3.params.toList ++ Rows.fnWorldOkSpec.plain.varTypes Tryd.prog) (ds ++ gs)).all (· ≤ reachBytes) = true := hsz0
 have hval : ∀ (j : Nat) t v, Tryd.f3.params[j]? = some t → args[j]? = some v → Value.okWide Tryd.prog W .any base t v := hval0
 have hW' := hW
 obtain ⟨p, q, hA0, hV, rfl, hfz, hnd⟩ := hW
 have hA : DataW.TrodAll enc Tryd.prog W 0 (fun _ => true) true Tryd.f3.params.toList args.toList ds p := hA0
 rw [Tryd.params3] at hA hval hsz
 obtain ⟨v0, vs0, d0, ds0, p0, q0, hargs, rfl, rfl, h0, r0⟩ := trodAll_cons hA
 obtain ⟨rfl, rfl, rfl⟩ := trodAll_nil r0
 obtain rfl : args = #[v0] := by cases args; simp_all
 obtain ⟨rfl, rfl⟩ := trodVars_none hV
 obtain ⟨a0, len0, cap0, rfl⟩ := okWide_slice Tryd.underlying22 (hval 0 22 v0 rfl rfl)
 have k0 := h0
 have lt0 : ∀ x ∈ p0, x.block < W.heap.size := by obtain ⟨m, hm⟩ := k0; exact DataW.trod_lt m _ _ _ hm
 obtain ⟨z0, w0⟩ : ∃ zs, IsRow .u8 W a0 len0 cap0 zs := by
  obtain ⟨fuel, hf⟩ := h0
  rcases open_ints Tryd.underlying22 Tryd.underlying5 (by kernel_rfl) hf with ⟨hcs, _⟩ | ⟨x, l, c, zs, hcs, _, hl, hm, hz, _, hcell, hwz⟩
  ·simp [Value.cells] at hcs
   obtain ⟨rfl, rfl, rfl⟩ := hcs
   exact ⟨[], .inl ⟨rfl, rfl, rfl, rfl⟩⟩
  ·simp [Value.cells] at hcs
   obtain ⟨rfl, rfl, rfl⟩ := hcs
   exact ⟨zs, .inr ⟨_, rfl, hl, hm, by simpa using hz, hcell, hwz⟩⟩
 have y0 : len0 * 1 ≤ 140737488351232 := YtpomhjkbgbociaaDoorW.PrintWords.sized_ints hsz (j := 0) (t := 22) rfl rfl Tryd.underlying22 Tryd.underlying5 (by kernel_rfl) (by kernel_rfl) h0
 clear hA0 hval0 hsz0 hsz
 refine (P.laws_FnWorldOk.walk Pure.FnWorldOk a0 len0 cap0 z0 W w0 y0).mono fun e W' ⟨he, bel⟩ => ?_
 subst he
 exact ⟨_, rfl, _, _, _, [], _, [], hW', trodAll_mk1 (shut_bool Tryd.underlying4 _), (trodAll_cons_mk (Below.trod laidOut (by kernel_rfl) (of_decide_eq_true (by kernel_rfl)) k0 bel lt0) trodAll_mk0), rfl, bel.frame _, fun h => by cases h⟩
set_option maxHeartbeats 4000000 in
theorem over : Rows.fnWorldOkRow.holds Tryd.pinned (OpenSpec.ofChange Rows.fnWorldOkSpec) :=
 OpenClaim.holds_of_wide 3 Tryd.f3 rfl rfl rfl rfl rfl rfl rfl ⟨rfl, rfl, rfl, rfl, rfl⟩ rfl rfl rfl rfl rfl (by as_aux_lemma => kernel_rfl) Tryd.func3 (by as_aux_lemma => kernel_rfl)
  (of_decide_eq_true (by as_aux_lemma => kernel_rfl)) (by unfold Func.isWrapper; first | (rw [if_pos (by decide +kernel)]; kernel_rfl) | (rw [if_neg (by decide +kernel)]; exact ⟨rfl, rfl⟩))
  (fun os started H enc _ => lifted os started H enc)
theorem card_holds : Rows.FnWorldOkCardSaid :=
 Claim7.holds_tied_plain_at .later [] [.data, .pinned] true (true, "e13ce9aff32a1f24e5baccfd2e9c5e1914ebce810f39e0c4bcafab2d8c0fd9ac") false over (fun _ h => by cases h) (by as_aux_lemma => kernel_rfl) (fun _ h => by cases h) fnWorldOk_row_tie rfl ⟨rfl, rfl⟩ (by as_aux_lemma => kernel_rfl) rfl
  (fun f fn hf hfn => by
   obtain rfl : f = 3 := Option.some.inj ((show Tryd.prog.funcNamed "loop.example/pedlar/laws.FnWorldOk" = some 3 by as_aux_lemma => kernel_rfl).symm.trans hf) |>.symm
   obtain rfl : fn = Tryd.f3 := (Option.some.inj (Tryd.func3.symm.trans hfn)).symm
   exact ⟨by as_aux_lemma => kernel_rfl, fun j t ht => by
    rw [Tryd.params3] at ht
    have hm : t ∈ [22] := by simpa using Array.mem_of_getElem? ht
    have hall : ([22].all fun u => !Tryd.prog.wantsStandIn u) = true := by as_aux_lemma => kernel_rfl
    exact (show Tryd.prog.wantsStandIn t = false by simpa using List.all_eq_true.1 hall t hm)⟩)
  (by as_aux_lemma => kernel_rfl)
#print axioms card_holds
end Go.Proofs.YtpomhjkbgbociaaDoor.fnWorldOk
namespace Go.Proofs.YtpomhjkbgbociaaDoor
theorem fnWorldOk_holds : Rows.FnWorldOkCardSaid := fnWorldOk.card_holds
end Go.Proofs.YtpomhjkbgbociaaDoor
end
