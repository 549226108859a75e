/- FnExactPageAddrs holds of the given program at every input: the program's PageAddrs returns what the reference's returns. No condition. -/
import Derived.Test.YtgjfegfopjfdpaaGreatDoorZFnExactPageAddrsc
import Derived.Test.YtgjfegfopjfdpaaGreatDoorZFnExactPageAddrsb
import Derived.Lib.IndexAny
import Derived.Test.YtgjfegfopjfdpaaGreatDoorZFnExactPageAddrsd
import Derived.Test.YtgjfegfopjfdpaaGreatDoorZFnExactPageAddrse
import Derived.SizedLaws
import Derived.ChangeSlices
import Derived.Test.YtgjfegfopjfdpaaGreatDoorRows
import Derived.Test.YtgjfegfopjfdpaaGreatDoorCards
import Derived.Test.YtgjfegfopjfdpaaGreatDoorTie
import Derived.LaidMore
import Derived.Lay
import Derived.SevenTiedAt
import Derived.Stop.Joined
import Derived.Lib.SmallJoins
import Derived.SliceStrings
import Derived.WalkKit
import Derived.ProofKit
import Derived.OpenShut
import Derived.ShutString
import Derived.ChangeOld
import Derived.Below

section
namespace Go.Proofs.YtgjfegfopjfdpaaGreatDoor.Ad
open Go.RowKit Go.Proofs.YtgjfegfopjfdpaaGreatDoor.P Go.Proofs.YtgjfegfopjfdpaaGreatDoorW.PrintWords Go.Proofs.YtgjfegfopjfdpaaGreatDoorW.PrintLast Go.Proofs.YtgjfegfopjfdpaaGreatDoorW.PrintMore Go.Proofs.YtgjfegfopjfdpaaGreatDoor.B
set_option linter.unusedVariables false
set_option linter.unusedSimpArgs false
def cutL (c : UInt8) : List UInt8 → List UInt8 × List UInt8 × Bool
 | [] => ([], [], false)
 | x :: xs => if x = c then ([], xs, true) else (x :: (cutL c xs).1, (cutL c xs).2)
theorem cutL_false {c : UInt8} : ∀ {l : List UInt8}, (cutL c l).2.2 = false → (cutL c l).1 = l ∧ (cutL c l).2.1 = []
 | [], _ => by simp [cutL]
 | x :: xs, h => by
  unfold cutL at h ⊢
  by_cases e : x = c
  ·rw [if_pos e] at h; cases h
  ·rw [if_neg e] at h ⊢
   have := cutL_false (l := xs) h
   exact ⟨by rw [this.1], this.2⟩
theorem cutL_true {c : UInt8} : ∀ {l : List UInt8}, (cutL c l).2.2 = true → l = (cutL c l).1 ++ c :: (cutL c l).2.1
 | [], h => by simp [cutL] at h
 | x :: xs, h => by
  unfold cutL at h ⊢
  by_cases e : x = c
  ·rw [if_pos e, e]; rfl
  ·rw [if_neg e] at h ⊢
   have := cutL_true (l := xs) h
   show x :: xs = x :: ((cutL c xs).1 ++ c :: (cutL c xs).2.1)
   rw [← this]
theorem cutL_len {c : UInt8} : ∀ (l : List UInt8), (cutL c l).1.length + (cutL c l).2.1.length ≤ l.length ∧ ((cutL c l).2.2 = true → (cutL c l).1.length + (cutL c l).2.1.length + 1 = l.length)
 | [] => by simp [cutL]
 | x :: xs => by
  unfold cutL
  by_cases e : x = c
  ·rw [if_pos e]; simp
  ·rw [if_neg e]
   have := cutL_len (c := c) xs
   simp only [List.length_cons]
   exact ⟨by omega, fun h => by have := this.2 h; omega⟩
theorem bt_at {s : ByteArray} {i : Nat} {c : UInt8} {l : List UInt8} (h : (L s).drop i = c :: l) : i < s.size ∧ bt s i = (c.toNat : Int) ∧ (L s).drop (i + 1) = l := by
 have hl : i < (L s).length := by
  rcases Nat.lt_or_ge i (L s).length with h' | h'
  ·exact h'
  ·rw [List.drop_eq_nil_of_le h'] at h; cases h
 have hd : (L s).drop i = (L s)[i] :: (L s).drop (i + 1) := List.drop_eq_getElem_cons hl
 rw [h] at hd
 injection hd with h1 h2
 refine ⟨by rw [← L_size]; exact hl, ?_, h2.symm⟩
 rw [bt_L, List.getD_eq_getElem?_getD, List.getElem?_eq_getElem hl, ← h1]
 rfl
theorem bt_end {s : ByteArray} {i : Nat} (h : (L s).drop i = []) : s.size ≤ i := by
 rw [← L_size]; exact List.drop_eq_nil_iff.1 h
theorem u8_eq {a b : UInt8} : ((a.toNat : Int) = (b.toNat : Int)) ↔ a = b := by
 constructor
 ·intro h; exact UInt8.toNat_inj.1 (by omega)
 ·intro h; rw [h]
def cutB (c : UInt8) (s : ByteArray) : ByteArray × ByteArray × Bool := (ofL (cutL c (L s)).1, ofL (cutL c (L s)).2.1, (cutL c (L s)).2.2)
theorem cut_l (s : ByteArray) (c : UInt8) (hs : s.size ≤ 140737488351232) : ∀ (l : List UInt8) (i : Nat), (L s).drop i = l →
  Ev (fun k => spec_l1Cut.l0 k s (c.toNat : Int) (i : Int)) (ofL ((L s).take i ++ (cutL c l).1), ofL (cutL c l).2.1, (cutL c l).2.2)
 | [], i, h => by
  have := bt_end h
  have n1 : ¬ ((i : Int) < (s.size : Int)) := by omega
  refine Ev_succ ?_
  simp only [spec_l1Cut.l0, n1, if_false]
  have e : (L s).take i = L s := List.take_of_length_le (by rw [L_size]; omega)
  simp only [cutL, e, List.append_nil, of_L]
  exact Ev.now _
 | x :: xs, i, h => by
  obtain ⟨hi, hb, hd⟩ := bt_at h
  refine Ev_succ ?_
  have e1 : wrap64 ((i : Int) + 1) = ((i + 1 : Nat) : Int) := by rw [w64 (by omega) (by omega)]; rfl
  have f1 : (i : Int) < (s.size : Int) := by omega
  have f2 : (0 : Int) ≤ (i : Int) := by omega
  have f3 : (i : Int) ≤ (s.size : Int) := by omega
  have f4 : (0 : Int) ≤ ((i + 1 : Nat) : Int) := by omega
  have f5 : ((i + 1 : Nat) : Int) ≤ (s.size : Int) := by omega
  simp only [spec_l1Cut.l0, e1, f1, f2, f3, f4, f5, if_true, hb, u8_eq]
  unfold cutL
  by_cases e : x = c
  ·simp only [e, if_true]
   have a1 : s.extract 0 ((i : Int)).toNat = ofL ((L s).take i ++ []) := by
    apply L_inj; rw [L_ext, L_of]; simp
   have a2 : s.extract ((((i + 1 : Nat) : Int))).toNat s.size = ofL xs := by
    apply L_inj; rw [L_ext, L_of, Int.toNat_natCast, hd, List.take_of_length_le]
    rw [← hd, List.length_drop, L_size]; omega
   rw [a1, a2]
   exact Ev.now _
  ·simp only [e, if_false]
   have := cut_l s c hs xs (i + 1) hd
   have ht : (L s).take (i + 1) ++ (cutL c xs).1 = (L s).take i ++ (x :: (cutL c xs).1) := by
    have hl : i < (L s).length := by rw [L_size]; exact hi
    have : (L s)[i] = x := by
     have hd2 : (L s).drop i = (L s)[i] :: (L s).drop (i + 1) := List.drop_eq_getElem_cons hl
     rw [h] at hd2
     injection hd2 with h1 h2
     exact h1.symm
    rw [List.take_succ_eq_append_getElem hl, this]
    simp
   rw [ht] at this
   exact this
theorem cut_ev (s : ByteArray) (c : UInt8) (hs : s.size ≤ 140737488351232) : Ev (fun k => spec_l1Cut.f k s (c.toNat : Int)) (cutB c s) := by
 have := cut_l s c hs (L s) 0 rfl
 simp only [List.take_zero, List.nil_append] at this
 exact this
def splitN (c : UInt8) : Nat → List UInt8 → List (List UInt8)
 | 0, l => [l]
 | n + 1, l => (cutL c l).1 :: (if (cutL c l).2.2 = true then splitN c n (cutL c l).2.1 else [])
def splitL (c : UInt8) (l : List UInt8) : List (List UInt8) := splitN c (l.length + 1) l
theorem splitN_eq (c : UInt8) : ∀ (n m : Nat) (l : List UInt8), l.length < n → l.length < m → splitN c n l = splitN c m l
 | 0, _, l, h, _ => absurd h (by omega)
 | _ + 1, 0, l, _, h => absurd h (by omega)
 | n + 1, m + 1, l, h1, h2 => by
  simp only [splitN]
  by_cases e : (cutL c l).2.2 = true
  ·have := (cutL_len (c := c) l).2 e
   rw [if_pos e, if_pos e, splitN_eq c n m _ (by omega) (by omega)]
  ·rw [if_neg e, if_neg e]
theorem splitL_eq (c : UInt8) (l : List UInt8) : splitL c l = (cutL c l).1 :: (if (cutL c l).2.2 = true then splitL c (cutL c l).2.1 else []) := by
 unfold splitL
 rw [splitN]
 by_cases e : (cutL c l).2.2 = true
 ·have := (cutL_len (c := c) l).2 e
  rw [if_pos e, if_pos e, splitN_eq c _ ((cutL c l).2.1.length + 1) _ (by omega) (by omega)]
 ·rw [if_neg e, if_neg e]
theorem splitN_len (c : UInt8) : ∀ (n : Nat) (l : List UInt8), (splitN c n l).length ≤ l.length + 1
 | 0, l => by simp [splitN]
 | n + 1, l => by
  simp only [splitN]
  by_cases e : (cutL c l).2.2 = true
  ·have := (cutL_len (c := c) l).2 e
   have ih := splitN_len c n (cutL c l).2.1
   rw [if_pos e]; simp only [List.length_cons]; omega
  ·rw [if_neg e]; simp
theorem splitL_len (c : UInt8) (l : List UInt8) : (splitL c l).length ≤ l.length + 1 := splitN_len c _ l
theorem split_l (c : UInt8) (n : Nat) : ∀ (s : ByteArray) (acc : List ByteArray), s.size < n → s.size ≤ 1000000000 → acc.length + s.size ≤ 2000000000 →
  Ev (fun k => spec_l1Split.l0 k (c.toNat : Int) acc s true) (acc ++ (splitL c (L s)).map ofL) := by
 induction n with
 | zero => intro s acc h; exact absurd h (by omega)
 | succ n ih =>
  intro s acc h h1 h2
  refine Ev_succ ?_
  simp only [spec_l1Split.l0, if_true]
  refine Ev.bind (cut_ev s c (by omega)) ?_
  have g1 : acc.length < 8796093022208 := by omega
  simp only [g1, if_true]
  rw [splitL_eq]
  have hl := cutL_len (c := c) (L s)
  rw [L_size] at hl
  by_cases e : (cutL c (L s)).2.2 = true
  ·have e' : (cutB c s).2.2 = true := e
   have hz : (ofL (cutL c (L s)).2.1).size = (cutL c (L s)).2.1.length := ofL_size _
   have := hl.2 e
   have ih' := ih (ofL (cutL c (L s)).2.1) (acc ++ [ofL (cutL c (L s)).1]) (by omega) (by omega) (by simp only [List.length_append, List.length_singleton]; omega)
   rw [if_pos e]
   simp only [cutB, e]
   rw [L_of] at ih'
   simpa using ih'
  ·have e' : (cutL c (L s)).2.2 = false := by simpa using e
   rw [if_neg e]
   simp only [cutB, e']
   refine Ev_succ ?_
   simp only [spec_l1Split.l0]
   simp
   exact Ev.now _
theorem split_ev (s : ByteArray) (c : UInt8) (hs : s.size ≤ 1000000000) : Ev (fun k => spec_l1Split.f k s (c.toNat : Int)) ((splitL c (L s)).map ofL) := by
 have := split_l c (s.size + 1) s [] (by omega) hs (by simp; omega)
 rw [List.nil_append] at this
 exact this
end Go.Proofs.YtgjfegfopjfdpaaGreatDoor.Ad
end
section
namespace Go.Proofs.YtgjfegfopjfdpaaGreatDoor.Ad
open Go.RowKit Go.Proofs.YtgjfegfopjfdpaaGreatDoorW.PrintWords Go.Proofs.YtgjfegfopjfdpaaGreatDoor.B
set_option linter.unusedVariables false
set_option linter.unusedSimpArgs false
abbrev A5 := ByteArray × List ByteArray × Bool × ByteArray × Bool
def none5 : A5 := ((⟨#[]⟩ : ByteArray), ([] : List ByteArray), false, (⟨#[]⟩ : ByteArray), false)
def escAll : List ByteArray → Option (List ByteArray)
 | [] => some []
 | q :: qs => if (escNorm q).2 = true then (escAll qs).map ((escNorm q).1 :: ·) else none
def clean1 (acc : List ByteArray) (p : ByteArray) : List ByteArray :=
 if p.toList = [] then acc else if p.toList = [46] then acc else if p.toList = [46, 46] then acc.take (acc.length - 1) else acc ++ [p]
def pathClean (ps : List ByteArray) : List ByteArray := ps.foldl clean1 []
def wayO (house : ByteArray) (base : List ByteArray) (way : ByteArray) : A5 :=
 match escAll ((splitL 47 (L (cutB 63 way).1)).map ofL) with
 | none => none5
 | some ps => if (escNorm (cutB 63 way).2.1).2 = true then (if addrOk house (pathClean (base ++ ps)) (cutB 63 way).2.2 (escNorm (cutB 63 way).2.1).1 = true then (house, pathClean (base ++ ps), (cutB 63 way).2.2, (escNorm (cutB 63 way).2.1).1, true) else none5) else none5
def houseL : List UInt8 → List UInt8 × List UInt8
 | [] => ([], [])
 | x :: xs => if x = 47 ∨ x = 63 then ([], x :: xs) else (x :: (houseL xs).1, (houseL xs).2)
def wholeO (rest : ByteArray) : A5 := wayO (smallB (ofL (houseL (L rest)).1)) [] (ofL (houseL (L rest)).2)
def Fine (a : A5) : Prop := a = none5 ∨ (a.2.2.2.2 = true ∧ addrOk a.1 a.2.1 a.2.2.1 a.2.2.2.1 = true)
theorem fine_none : Fine none5 := Or.inl rfl
theorem fine_way (h : ByteArray) (b : List ByteArray) (w : ByteArray) : Fine (wayO h b w) := by
 unfold wayO
 split
 ·exact fine_none
 ·split
  ·split
   ·rename_i hh
    exact Or.inr ⟨rfl, hh⟩
   ·exact fine_none
  ·exact fine_none
theorem isHouse_size {s : ByteArray} (h : isHouse s = true) : s.size ≤ 5 := by
 unfold isHouse at h
 simp only [Bool.and_eq_true, decide_eq_true_eq] at h
 exact h.1.2
theorem clean1_mem {acc : List ByteArray} {p x : ByteArray} (h : x ∈ clean1 acc p) : x ∈ acc ∨ x = p := by
 unfold clean1 at h
 split at h
 ·exact Or.inl h
 ·split at h
  ·exact Or.inl h
  ·split at h
   ·exact Or.inl (List.mem_of_mem_take h)
   ·rcases List.mem_append.1 h with h | h
    ·exact Or.inl h
    ·exact Or.inr (List.mem_singleton.1 h)
theorem clean1_len (acc : List ByteArray) (p : ByteArray) : (clean1 acc p).length ≤ acc.length + 1 := by
 unfold clean1
 split
 ·omega
 ·split
  ·omega
  ·split
   ·rw [List.length_take]; omega
   ·simp
theorem cleanF_mem : ∀ {ps acc : List ByteArray} {x : ByteArray}, x ∈ ps.foldl clean1 acc → x ∈ acc ∨ x ∈ ps
 | [], acc, x, h => Or.inl h
 | p :: ps, acc, x, h => by
  rw [List.foldl_cons] at h
  rcases cleanF_mem h with h | h
  ·rcases clean1_mem h with h | h
   ·exact Or.inl h
   ·exact Or.inr (by rw [h]; exact List.mem_cons_self)
  ·exact Or.inr (List.mem_cons_of_mem _ h)
theorem cleanF_len : ∀ (ps acc : List ByteArray), (ps.foldl clean1 acc).length ≤ acc.length + ps.length
 | [], acc => by simp
 | p :: ps, acc => by
  rw [List.foldl_cons]
  have := cleanF_len ps (clean1 acc p)
  have := clean1_len acc p
  simp only [List.length_cons]; omega
end Go.Proofs.YtgjfegfopjfdpaaGreatDoor.Ad
end
section
namespace Go.Proofs.YtgjfegfopjfdpaaGreatDoor.Ad
open Go.RowKit Go.Proofs.YtgjfegfopjfdpaaGreatDoor.P Go.Proofs.YtgjfegfopjfdpaaGreatDoorW.PrintWords Go.Proofs.YtgjfegfopjfdpaaGreatDoorW.PrintLast Go.Proofs.YtgjfegfopjfdpaaGreatDoorW.PrintMore Go.Proofs.YtgjfegfopjfdpaaGreatDoor.B
set_option linter.unusedVariables false
set_option linter.unusedSimpArgs false
theorem index_cut (c : UInt8) : ∀ l : List UInt8, Lib.indexByte l c = if (cutL c l).2.2 = true then (((cutL c l).1.length : Nat) : Int) else -1
 | [] => rfl
 | x :: xs => by
  unfold Lib.indexByte cutL
  by_cases h : x = c
  ·subst h; simp
  ·have hb : (x == c) = false := by simp [h]
   simp only [hb, h, if_false, Bool.false_eq_true, index_cut c xs]
   by_cases h2 : (cutL c xs).2.2 = true
   ·simp only [h2, if_true]
    have : ((((cutL c xs).1.length : Nat) : Int) == -1) = false := by simp
    rw [this]
    simp
   ·simp only [h2, if_false, Bool.false_eq_true]
    rfl
theorem cut_parts {c : UInt8} {s : ByteArray} (h : (cutL c (L s)).2.2 = true) :
  s.extract 0 (cutL c (L s)).1.length = ofL (cutL c (L s)).1 ∧ s.extract ((cutL c (L s)).1.length + 1) s.size = ofL (cutL c (L s)).2.1 ∧ (cutL c (L s)).1.length + 1 ≤ s.size := by
 have e := cutL_true h
 have hn := (cutL_len (c := c) (L s)).2 h
 rw [L_size] at hn
 generalize (cutL c (L s)).1 = a at *
 generalize (cutL c (L s)).2.1 = b at *
 have e' : s.data.toList = a ++ c :: b := e
 refine ⟨?_, ?_, by omega⟩
 ·apply L_inj
  rw [L_ext, L_of, e']
  simp
 ·apply L_inj
  have : (a ++ c :: b).drop (a.length + 1) = b := by rw [List.drop_append]; simp
  rw [L_ext, L_of, e', this, List.take_of_length_le (by omega)]
theorem cut_i (s : ByteArray) (c : UInt8) (hs : s.size ≤ 140737488351232) : strings_Cut.f s ⟨#[c]⟩ = some (cutB c s) := by
 have e1 : L (⟨#[c]⟩ : ByteArray) = [c] := rfl
 have e2 : (⟨#[c]⟩ : ByteArray).size = 1 := rfl
 unfold strings_Cut.f stringslite_Cut.f stringslite_Index.f cutB
 rw [e1]
 simp only [Option.bind_some, index_cut, e2]
 by_cases h : (cutL c (L s)).2.2 = true
 ·obtain ⟨h1, h2, h3⟩ := cut_parts h
  simp only [h, if_true]
  rw [if_pos (by omega), if_pos (by omega), if_pos (by omega), w64 (by omega) (by omega), if_pos (by omega), if_pos (by omega)]
  simp only [Option.bind_some, Int.toNat_natCast]
  rw [h1, show (((cutL c (L s)).1.length : Int) + ((1 : Nat) : Int)).toNat = (cutL c (L s)).1.length + 1 from by omega, h2]
 ·simp only [h, if_false, Bool.false_eq_true]
  rw [if_neg (by decide)]
  obtain ⟨g1, g2⟩ := cutL_false (c := c) (l := L s) (by simpa using h)
  simp only [Option.bind_some, g1, g2, of_L]
  first | done | rfl
theorem count_cut_false {c : UInt8} : ∀ {l : List UInt8}, Lib.countByte l c = 0 → (cutL c l).2.2 = false
 | [], _ => rfl
 | x :: xs, h => by
  unfold Lib.countByte at h
  unfold cutL
  by_cases e : x = c
  ·subst e; simp at h
  ·rw [if_neg e]
   have h' : Lib.countByte xs c = 0 := by unfold Lib.countByte; rw [List.count_cons] at h; omega
   exact count_cut_false h'
theorem count_cut_true {c : UInt8} {m : Nat} : ∀ {l : List UInt8}, Lib.countByte l c = m + 1 → (cutL c l).2.2 = true ∧ Lib.countByte (cutL c l).2.1 c = m
 | [], h => by simp [Lib.countByte] at h
 | x :: xs, h => by
  unfold Lib.countByte at h
  unfold cutL
  by_cases e : x = c
  ·subst e
   rw [if_pos rfl]
   refine ⟨rfl, ?_⟩
   unfold Lib.countByte
   rw [List.count_cons_self] at h
   exact Nat.succ.inj h
  ·rw [if_neg e]
   have h' : Lib.countByte xs c = m + 1 := by
    unfold Lib.countByte
    rw [List.count_cons_of_ne e] at h
    exact h
   exact count_cut_true h'
theorem w64n0 (a : Nat) (h : a < 4611686018427387904) : wrap64 ((a : Int) + 0) = (a : Int) := by rw [w64 (by omega) (by omega)]; omega
theorem w64n1 (a : Nat) (h : a < 4611686018427387904) : wrap64 ((a : Int) + 1) = ((a + 1 : Nat) : Int) := by rw [w64 (by omega) (by omega)]; omega
theorem w64n2 (a : Nat) (h : a < 4611686018427387904) : wrap64 ((a : Int) + ((1 : Nat) : Int)) = ((a + 1 : Nat) : Int) := by rw [w64 (by omega) (by omega)]; omega
theorem w64b {n m : Nat} (h : n + 1 ≤ m) (hm : m ≤ 1000000000) : n < 4611686018427387904 := by omega
theorem w64d {n m : Nat} (h : n + m ≤ 2000000000) : n < 4611686018427387904 := by omega
theorem ci_lt (a m : Nat) : (a : Int) < ((a + (m + 1) : Nat) : Int) := by omega
theorem ci_neg (n : Nat) : ¬ ((n : Int) < 0) := by omega
theorem ci_nn (n : Nat) : (0 : Int) ≤ (n : Int) := by omega
theorem ci_le {n s : Nat} (h : n + 1 ≤ s) : (n : Int) ≤ (s : Int) := by omega
theorem ci_le1 {n s : Nat} (h : n + 1 ≤ s) : ((n + 1 : Nat) : Int) ≤ (s : Int) := by omega
theorem ci_l6 {a m l : Nat} (h : l = a + (m + 2)) : (a : Int) < (l : Int) := by omega
theorem set_mid (a : List ByteArray) (m : Nat) (p e : ByteArray) : (a ++ List.replicate (m + 1) e).set a.length p = (a ++ [p]) ++ List.replicate m e := by
 rw [List.set_append_right _ _ (Nat.le_refl _), Nat.sub_self, List.replicate_succ, List.set_cons_zero, List.append_assoc]
 rfl
theorem take_mid (a b : List ByteArray) (p : ByteArray) : ((a ++ [p]) ++ b).take (a.length + 1) = a ++ [p] := by
 rw [List.take_append_of_le_length (by simp)]
 exact List.take_of_length_le (by simp)
theorem split_li (c : UInt8) : ∀ (m : Nat) (s : ByteArray) (a : List ByteArray), Lib.countByte (L s) c = m → s.size ≤ 1000000000 → a.length + m ≤ 2000000000 →
  Ev (fun k => strings_genSplit.l0 k s ⟨#[c]⟩ 0 ((a.length + m : Nat) : Int) (a ++ List.replicate (m + 1) (⟨#[]⟩ : ByteArray)) (a.length : Int)) (a ++ (splitL c (L s)).map ofL) := by
 intro m
 have e1 : L (⟨#[c]⟩ : ByteArray) = [c] := rfl
 have e2 : (⟨#[c]⟩ : ByteArray).size = 1 := rfl
 induction m with
 | zero =>
  intro s a hc hs ha
  have hf := count_cut_false hc
  obtain ⟨g1, g2⟩ := cutL_false hf
  rw [splitL_eq, hf]
  refine Ev_succ ?_
  simp only [strings_genSplit.l0]
  have hl : (a ++ List.replicate (0 + 1) (⟨#[]⟩ : ByteArray)).length = a.length + 1 := by simp
  have hw : wrap64 ((a.length : Int) + 1) = ((a.length + 1 : Nat) : Int) := by rw [w64 (by omega) (by omega)]; omega
  simp only [show ¬ ((a.length : Int) < ((a.length + 0 : Nat) : Int)) from by omega, if_false, hl, show ((0 : Int) ≤ (a.length : Int)) from by omega, show ((a.length : Int) < ((a.length + 1 : Nat) : Int)) from by omega, if_true, hw,
   show ((0 : Int) ≤ ((a.length + 1 : Nat) : Int)) from by omega, Int.toNat_natCast, Int.le_refl]
  rw [set_mid, take_mid]
  simp only [Bool.false_eq_true, if_false, List.map_cons, List.map_nil, g1, of_L]
  exact Ev.now _
 | succ m ih =>
  intro s a hc hs ha
  obtain ⟨ht, hc'⟩ := count_cut_true hc
  obtain ⟨h1, h2, h3⟩ := cut_parts ht
  have hix : Lib.indexByte (L s) c = (((cutL c (L s)).1.length : Nat) : Int) := by rw [index_cut, if_pos ht]
  rw [splitL_eq, if_pos ht]
  have hz : (ofL (cutL c (L s)).2.1).size ≤ 1000000000 := by
   have := (cutL_len (c := c) (L s)).1
   rw [L_size] at this
   rw [ofL_size]; omega
  have key := ih (ofL (cutL c (L s)).2.1) (a ++ [ofL (cutL c (L s)).1]) (by rw [L_of]; exact hc') hz (by simp; omega)
  rw [L_of] at key
  rw [List.map_cons, show a ++ ofL (cutL c (L s)).1 :: List.map ofL (splitL c (cutL c (L s)).2.1) = a ++ [ofL (cutL c (L s)).1] ++ List.map ofL (splitL c (cutL c (L s)).2.1) from by simp]
  generalize (cutL c (L s)).1.length = n at h1 h2 h3 hix
  rw [show (cutL c (L s)).2.1 = L (s.extract (n + 1) s.size) from by rw [h2, L_of]]
  rw [← h1] at key ⊢
  rw [← h2] at key
  clear hz h1 h2 hc' ht hc
  have hl : (a ++ List.replicate (m + 1 + 1) (⟨#[]⟩ : ByteArray)).length = a.length + (m + 2) := by simp
  have hl2 : (a ++ [s.extract 0 n]).length = a.length + 1 := by simp
  rw [hl2] at key
  refine Ev.step (fun k => ?_) key
  have c1 := ci_lt a.length m
  have c2 := ci_neg n
  have c3 := ci_nn n
  have c4 := ci_le h3
  have c5 := ci_nn a.length
  have c6 := ci_l6 hl
  have c7 := ci_nn (n + 1)
  have c8 := ci_le1 h3
  have hw : wrap64 ((a.length : Int) + 1) = ((a.length + 1 : Nat) : Int) := w64n1 a.length (w64d ha)
  have hw0 : wrap64 ((n : Int) + 0) = (n : Int) := w64n0 n (w64b h3 hs)
  have hw1 : wrap64 ((n : Int) + ((1 : Nat) : Int)) = ((n + 1 : Nat) : Int) := w64n2 n (w64b h3 hs)
  simp only [strings_genSplit.l0, strings_Index.f, stringslite_Index.f]
  rw [if_pos c1, hix, Option.bind_some, Option.bind_some]
  rw [if_neg c2, hw0, if_pos c3, if_pos c4, if_pos c5, if_pos c6, e2, hw1, if_pos c7, if_pos c8, hw]
  simp only [Int.toNat_natCast]
  rw [set_mid, show a.length + 1 + m = a.length + (m + 1) from by rw [Nat.add_assoc, Nat.add_comm 1 m]]
theorem split_i (s : ByteArray) (c : UInt8) (hs : s.size ≤ 1000000000) : Ev (fun k => strings_Split.f k s ⟨#[c]⟩) ((splitL c (L s)).map ofL) := by
 have e1 : L (⟨#[c]⟩ : ByteArray) = [c] := rfl
 have hcnt : Lib.countByte (L s) c ≤ s.size := by rw [← L_size]; exact List.count_le_length
 unfold strings_Split.f strings_genSplit.f strings_Count.f
 have en : ¬ ((⟨#[c]⟩ : ByteArray).toList = ([] : List UInt8)) := by rw [toList_nil]; show ¬ (1 = 0); omega
 rw [e1]
 simp only [show ¬ ((-1 : Int) = 0) from by omega, if_false, en, show ((-1 : Int) < 0) from by omega, if_true, Option.bind_some]
 refine Ev.bind (a := (splitL c (L s)).map ofL) ?_ (Ev.now _)
 refine Ev_succ ?_
 have hw : wrap64 (((Lib.countByte (L s) c : Nat) : Int) + 1) = ((Lib.countByte (L s) c + 1 : Nat) : Int) := by rw [w64 (by omega) (by omega)]; omega
 have hw2 : wrap64 ((s.size : Int) + 1) = ((s.size + 1 : Nat) : Int) := by rw [w64 (by omega) (by omega)]; omega
 have hm : mn ((Lib.countByte (L s) c + 1 : Nat) : Int) ((s.size + 1 : Nat) : Int) = ((Lib.countByte (L s) c + 1 : Nat) : Int) := by unfold mn; split <;> omega
 have hw3 : wrap64 (((Lib.countByte (L s) c + 1 : Nat) : Int) - 1) = ((0 + Lib.countByte (L s) c : Nat) : Int) := by rw [w64 (by omega) (by omega)]; omega
 simp only [strings_genSplit.j0, hw, hw2, hm, show ((0 : Int) ≤ ((Lib.countByte (L s) c + 1 : Nat) : Int)) from by omega, if_true, Int.toNat_natCast, show Lib.countByte (L s) c + 1 ≤ 17592186044416 from by omega, hw3]
 have := split_li c (Lib.countByte (L s) c) s [] rfl hs (by simp; omega)
 simpa using this
end Go.Proofs.YtgjfegfopjfdpaaGreatDoor.Ad
end
section
namespace Go.Proofs.YtgjfegfopjfdpaaGreatDoor.P
open Go.RowKit Go.Proofs.YtgjfegfopjfdpaaGreatDoorW.PrintWords Go.Proofs.YtgjfegfopjfdpaaGreatDoorW.PrintLast Go.Proofs.YtgjfegfopjfdpaaGreatDoorW.PrintMore
attribute [local go_sem] max2_int min2_int max_two min_two max_three min_three max_four min_four
set_option linter.unusedVariables false
set_option linter.unusedSimpArgs false

end Go.Proofs.YtgjfegfopjfdpaaGreatDoor.P
end
section
namespace Go.Proofs.YtgjfegfopjfdpaaGreatDoor.Ad
open Go.RowKit Go.Proofs.YtgjfegfopjfdpaaGreatDoor.P Go.Proofs.YtgjfegfopjfdpaaGreatDoorW.PrintWords Go.Proofs.YtgjfegfopjfdpaaGreatDoorW.PrintLast Go.Proofs.YtgjfegfopjfdpaaGreatDoorW.PrintMore Go.Proofs.YtgjfegfopjfdpaaGreatDoor.B
set_option linter.unusedVariables false
set_option linter.unusedSimpArgs false
theorem fine_parts {a : A5} (h : Fine a) : Parts a.2.1 ∧ a.1.size ≤ 60 ∧ a.2.2.2.1.size ≤ 60 := by
 rcases h with rfl | ⟨_, h⟩
 ·exact ⟨⟨by simp [none5], by simp [none5]⟩, Nat.zero_le _, Nat.zero_le _⟩
 ·unfold addrOk at h
  simp only [Bool.and_eq_true, decide_eq_true_eq] at h
  obtain ⟨⟨⟨⟨⟨h1, h2⟩, h3⟩, h4⟩, h5⟩, h6⟩ := h
  refine ⟨⟨by omega, fun p hp => ?_⟩, ?_, ?_⟩
  ·have := List.all_eq_true.1 h5 p hp
   unfold partOk at this
   simp only [Bool.and_eq_true] at this
   have := isNorm_size this.1.1.1
   omega
  ·have := isHouse_size h1; omega
  ·exact isNorm_size h3
theorem clean_l (ps : List ByteArray) (hl : ps.length ≤ 1000000) (d : Nat) : ∀ (i : Nat) (acc : List ByteArray), i + d = ps.length → acc.length ≤ i →
  Ev (fun k => spec_PathClean.l0 k ps acc (i : Int)) ((ps.drop i).foldl clean1 acc) := by
 induction d with
 | zero =>
  intro i acc hi ha
  have n1 : ¬ ((i : Int) < (ps.length : Int)) := by omega
  rw [List.drop_eq_nil_of_le (by omega)]
  refine Ev_succ ?_
  simp only [spec_PathClean.l0, n1, if_false]
  exact Ev.now _
 | succ d ih =>
  intro i acc hi ha
  have hi' : i < ps.length := by omega
  have f1 : (i : Int) < (ps.length : Int) := by omega
  have f2 : (0 : Int) ≤ (i : Int) := by omega
  have e1 : wrap64 ((i : Int) + 1) = ((i + 1 : Nat) : Int) := by rw [w64 (by omega) (by omega)]; rfl
  have hr := rd_at hi'
  rw [List.drop_eq_getElem_cons hi', List.foldl_cons]
  generalize ps[i] = p at hr ⊢
  have hc := clean1_len acc p
  have ih' := ih (i + 1) (clean1 acc p) (by omega) (by omega)
  refine Ev_succ ?_
  simp only [spec_PathClean.l0, f1, f2, if_true, hr]
  unfold clean1 at ih' ⊢
  by_cases h1 : p.toList = []
  ·simp only [h1, if_true] at ih' ⊢
   refine Ev_succ ?_
   simp only [spec_PathClean.j1, if_true, e1]
   exact ih'
  ·simp only [h1, if_false] at ih' ⊢
   refine Ev_succ ?_
   by_cases h2 : p.toList = [46]
   ·simp only [h2, if_true] at ih' ⊢
    simp only [spec_PathClean.j1, beq_self_eq_true, if_true, e1]
    exact ih'
   ·have h2' : (p.toList == [46]) = false := by simpa using h2
    simp only [h2, if_false] at ih' ⊢
    simp only [spec_PathClean.j1, h2', Bool.false_eq_true, if_false, f1, f2, if_true, hr, e1]
    by_cases h3 : p.toList = [46, 46]
    ·have m : mx (wrap64 ((acc.length : Int) - 1)) 0 = ((acc.length - 1 : Nat) : Int) := by
      rw [w64 (by omega) (by omega)]; unfold mx; split <;> omega
     have g1 : (0 : Int) ≤ ((acc.length - 1 : Nat) : Int) := by omega
     have g2 : ((acc.length - 1 : Nat) : Int) ≤ (acc.length : Int) := by omega
     simp only [h3, if_true] at ih' ⊢
     simp only [m, g1, g2, if_true, Int.toNat_natCast]
     exact ih'
    ·have g3 : acc.length < 8796093022208 := by omega
     simp only [h3, if_false] at ih' ⊢
     simp only [g3, if_true]
     exact ih'
theorem clean_ev (ps : List ByteArray) (hl : ps.length ≤ 1000000) : Ev (fun k => spec_PathClean.f k ps) (pathClean ps) :=
 clean_l ps hl ps.length 0 [] (by omega) (by simp)
def wayE (house : ByteArray) (asks : Bool) (ask : ByteArray) (ps : List ByteArray) : A5 :=
 if (escNorm ask).2 = true then (if addrOk house (pathClean ps) asks (escNorm ask).1 = true then (house, pathClean ps, asks, (escNorm ask).1, true) else none5) else none5
theorem way_l (house ask : ByteArray) (asks : Bool) (base : List ByteArray) (b0 : Bool) (a0 : ByteArray) (hh : house.size ≤ 100000) (ls : List ByteArray) (hl : ls.length ≤ 900) (d : Nat) :
  ∀ (i : Nat) (acc : List ByteArray), i + d = ls.length → acc.length ≤ i + 50 → (∀ p ∈ acc, p.size ≤ 1048576) →
  Ev (fun k => spec_l1Way.l0 k ask asks acc ls (i : Int) house base b0 a0) (match escAll (ls.drop i) with | none => none5 | some ps => wayE house asks ask (acc ++ ps)) := by
 induction d with
 | zero =>
  intro i acc hi ha hp
  have n1 : ¬ ((i : Int) < (ls.length : Int)) := by omega
  rw [List.drop_eq_nil_of_le (by omega)]
  refine Ev_succ ?_
  simp only [spec_l1Way.l0, n1, if_false, escAll, List.append_nil]
  refine Ev.bind (escNorm_ev ask) (Ev.bind (clean_ev acc (by omega)) ?_)
  have hz := escNorm_size ask
  unfold wayE
  by_cases h1 : (escNorm ask).2 = true
  ·simp only [h1, if_true]
   have hP : Parts (pathClean acc) := ⟨by have := cleanF_len acc []; unfold pathClean; simp only [List.length_nil] at this; omega, fun p hq => by
    rcases cleanF_mem hq with h | h
    ·cases h
    ·exact hp p h⟩
   refine Ev.bind (addrOk_ev house (pathClean acc) asks (escNorm ask).1 hP (by omega) (by omega)) ?_
   by_cases h2 : addrOk house (pathClean acc) asks (escNorm ask).1 = true
   ·simp only [h2, if_true]; exact Ev.now _
   ·simp only [h2, if_false]; exact Ev.now _
  ·simp only [h1, if_false]; exact Ev.now _
 | succ d ih =>
  intro i acc hi ha hp
  have hi' : i < ls.length := by omega
  have f1 : (i : Int) < (ls.length : Int) := by omega
  have f2 : (0 : Int) ≤ (i : Int) := by omega
  have e1 : wrap64 ((i : Int) + 1) = ((i + 1 : Nat) : Int) := by rw [w64 (by omega) (by omega)]; rfl
  have hr := rd_at hi'
  rw [List.drop_eq_getElem_cons hi']
  generalize ls[i] = p at hr ⊢
  have hz := escNorm_size p
  refine Ev_succ ?_
  simp only [spec_l1Way.l0, f1, f2, if_true, hr, e1]
  refine Ev.bind (escNorm_ev p) ?_
  unfold escAll
  by_cases h1 : (escNorm p).2 = true
  ·have g3 : acc.length < 8796093022208 := by omega
   simp only [h1, if_true, g3]
   have ih' := ih (i + 1) (acc ++ [(escNorm p).1]) (by omega) (by simp; omega) (fun x hx => by
    rcases List.mem_append.1 hx with h | h
    ·exact hp x h
    ·rw [List.mem_singleton.1 h]; omega)
   cases he : escAll (ls.drop (i + 1)) with
   | none => rw [he] at ih'; exact ih'
   | some ps =>
    rw [he] at ih'
    simp only [Option.map_some]
    simpa using ih'
  ·simp only [h1, if_false]; exact Ev.now _
theorem cutB_size (c : UInt8) (s : ByteArray) : (cutB c s).1.size ≤ s.size ∧ (cutB c s).2.1.size ≤ s.size := by
 have := (cutL_len (c := c) (L s)).1
 rw [L_size] at this
 unfold cutB
 constructor
 ·show (ofL _).size ≤ _; rw [ofL_size]; omega
 ·show (ofL _).size ≤ _; rw [ofL_size]; omega
theorem way_ev (house : ByteArray) (base : List ByteArray) (b0 : Bool) (a0 way : ByteArray) (hh : house.size ≤ 100000) (hb : base.length ≤ 50) (hp : ∀ p ∈ base, p.size ≤ 1048576) (hw : way.size ≤ 800) :
  Ev (fun k => spec_l1Way.f k house base b0 a0 way) (wayO house base way) := by
 unfold spec_l1Way.f wayO
 refine Ev.bind (cut_ev way 63 (by omega)) ?_
 have hc := cutB_size 63 way
 have g : ([] : List ByteArray).length + base.length < 8796093022208 := by simp; omega
 simp only [Option.bind_some, g, if_true, List.nil_append]
 refine Ev.bind (split_ev (cutB 63 way).1 47 (by omega)) ?_
 have hl := splitL_len 47 (L (cutB 63 way).1)
 rw [L_size] at hl
 have := way_l house (cutB 63 way).2.1 (cutB 63 way).2.2 base b0 a0 hh ((splitL 47 (L (cutB 63 way).1)).map ofL) (by rw [List.length_map]; omega) _ 0 base (Nat.zero_add _) (by omega) hp
 rw [List.drop_zero] at this
 exact this
theorem house_l (s h : ByteArray) (hs : s.size ≤ 800) : ∀ (l : List UInt8) (i : Nat), (L s).drop i = l → h = s →
  Ev (fun k => spec_l1Whole.l0 k s h (⟨#[]⟩ : ByteArray) (i : Int)) (wayO (smallB (ofL ((L s).take i ++ (houseL l).1))) [] (ofL (houseL l).2))
 | [], i, h', e => by
  have := bt_end h'
  have n1 : ¬ ((i : Int) < (s.size : Int)) := by omega
  have eq : (L s).take i = L s := List.take_of_length_le (by rw [L_size]; omega)
  subst e
  refine Ev_succ ?_
  simp only [spec_l1Whole.l0, n1, if_false, houseL, eq, List.append_nil, of_L, spec_l1Small.f, show h.size ≤ 140737488351232 from by omega, if_true, Option.bind_some]
  refine Ev.bind (way_ev (smallB h) [] false _ _ (by unfold smallB; rw [ofL_size, List.length_map, L_size]; omega) (by simp) (by simp) (by decide)) ?_
  exact Ev.now _
 | x :: xs, i, h', e => by
  obtain ⟨hi, hb, hd⟩ := bt_at h'
  have e1 : wrap64 ((i : Int) + 1) = ((i + 1 : Nat) : Int) := by rw [w64 (by omega) (by omega)]; rfl
  have f1 : (i : Int) < (s.size : Int) := by omega
  have f2 : (0 : Int) ≤ (i : Int) := by omega
  have f3 : (i : Int) ≤ (s.size : Int) := by omega
  have c1 : ((x.toNat : Int) = 47) ↔ x = 47 := u8_eq (b := 47)
  have c2 : ((x.toNat : Int) = 63) ↔ x = 63 := u8_eq (b := 63)
  have x1 : s.extract 0 i = ofL ((L s).take i) := by apply L_inj; rw [L_ext, L_of]; simp
  have x2 : s.extract i s.size = ofL (x :: xs) := by
   apply L_inj; rw [L_ext, L_of, h', List.take_of_length_le]
   rw [← h', List.length_drop, L_size]; omega
  have z1 : (ofL ((L s).take i)).size ≤ 800 := by rw [ofL_size, List.length_take, L_size]; omega
  have z2 : (ofL (x :: xs)).size ≤ 800 := by rw [ofL_size, ← h', List.length_drop, L_size]; omega
  have fin : Ev (fun k => (spec_l1Way.f k (smallB (ofL ((L s).take i))) ([] : List ByteArray) false (⟨#[]⟩ : ByteArray) (ofL (x :: xs))).bind fun bt204 => (some (bt204.1, bt204.2.1, bt204.2.2.1, bt204.2.2.2.1, bt204.2.2.2.2))) (wayO (smallB (ofL ((L s).take i ++ []))) [] (ofL (x :: xs))) := by
   rw [List.append_nil]
   refine Ev.bind (way_ev _ [] false _ _ (by unfold smallB; rw [ofL_size, List.length_map, L_size]; omega) (by simp) (by simp) z2) ?_
   exact Ev.now _
  refine Ev_succ ?_
  simp only [spec_l1Whole.l0, f1, f2, f3, if_true, hb, c1, c2, e1, Int.toNat_natCast, x1, x2, spec_l1Small.f, show (ofL ((L s).take i)).size ≤ 140737488351232 from by omega, Option.bind_some]
  unfold houseL
  by_cases h1 : x = 47
  ·simp only [h1, if_true, true_or]
   rw [h1] at fin
   exact fin
  ·by_cases h2 : x = 63
   ·simp only [h1, h2, if_true, if_false, or_true, show ¬ ((63 : UInt8) = 47) from by decide]
    rw [h2] at fin
    exact fin
   ·simp only [h1, h2, if_false, or_self]
    have := house_l s h hs xs (i + 1) hd e
    have ht : (L s).take (i + 1) ++ (houseL xs).1 = (L s).take i ++ (x :: (houseL xs).1) := by
     have hl : i < (L s).length := by rw [L_size]; exact hi
     have : (L s)[i] = x := by
      have hd2 : (L s).drop i = (L s)[i] :: (L s).drop (i + 1) := List.drop_eq_getElem_cons hl
      rw [h'] at hd2
      injection hd2 with h1 h2
      exact h1.symm
     rw [List.take_succ_eq_append_getElem hl, this]
     simp
    rw [ht] at this
    exact this
theorem whole_ev (s : ByteArray) (hs : s.size ≤ 800) : Ev (fun k => spec_l1Whole.f k s) (wholeO s) := by
 have := house_l s s hs (L s) 0 rfl rfl
 simp only [List.take_zero, List.nil_append] at this
 exact this
end Go.Proofs.YtgjfegfopjfdpaaGreatDoor.Ad
end
section
namespace Go.Proofs.YtgjfegfopjfdpaaGreatDoor.P
open Go.RowKit Go.Proofs.YtgjfegfopjfdpaaGreatDoorW.PrintWords Go.Proofs.YtgjfegfopjfdpaaGreatDoorW.PrintLast Go.Proofs.YtgjfegfopjfdpaaGreatDoorW.PrintMore
attribute [local go_sem] max2_int min2_int max_two min_two max_three min_three max_four min_four
set_option linter.unusedVariables false
set_option linter.unusedSimpArgs false

end Go.Proofs.YtgjfegfopjfdpaaGreatDoor.P
end
section
namespace Go.Proofs.YtgjfegfopjfdpaaGreatDoor.Ad
open Go.RowKit Go.Proofs.YtgjfegfopjfdpaaGreatDoor.P Go.Proofs.YtgjfegfopjfdpaaGreatDoorW.PrintWords Go.Proofs.YtgjfegfopjfdpaaGreatDoorW.PrintLast Go.Proofs.YtgjfegfopjfdpaaGreatDoorW.PrintMore Go.Proofs.YtgjfegfopjfdpaaGreatDoor.B
set_option linter.unusedVariables false
set_option linter.unusedSimpArgs false
theorem clean_li (ps : List ByteArray) (hl : ps.length ≤ 1000000) (d : Nat) : ∀ (i : Nat) (acc : List ByteArray), i + d = ps.length → acc.length ≤ i →
  Ev (fun k => impl_PathClean.l0 k acc ps (ps.length : Int) (i : Int)) ((ps.drop i).foldl clean1 acc) := by
 induction d with
 | zero =>
  intro i acc hi ha
  rw [List.drop_eq_nil_of_le (by omega)]
  refine Ev_succ ?_
  simp only [impl_PathClean.l0, show ¬ ((i : Int) < (ps.length : Int)) from by omega, if_false]
  exact Ev.now _
 | succ d ih =>
  intro i acc hi ha
  have hlt : i < ps.length := by omega
  have hr := rd_at hlt
  have w1 := w64n1 i (by omega)
  have f1 : (i : Int) < (ps.length : Int) := by omega
  have f2 := ci_nn i
  rw [List.drop_eq_getElem_cons hlt, List.foldl_cons]
  generalize ps[i] = p at hr ⊢
  have next : ∀ acc', acc'.length ≤ i + 1 → acc' = clean1 acc p → Ev (fun k => impl_PathClean.l0 k acc' ps (ps.length : Int) ((i + 1 : Nat) : Int)) ((ps.drop (i + 1)).foldl clean1 (clean1 acc p)) := fun acc' h1 h2 => by
   rw [← h2]; exact ih (i + 1) acc' (by omega) h1
  refine Ev_succ ?_
  simp only [impl_PathClean.l0, f1, f2, if_true]
  rw [hr]
  by_cases h1 : p.toList = []
  ·simp only [h1, if_true]
   refine Ev_succ ?_
   simp only [impl_PathClean.j1]
   simp only [show (([] : List UInt8) == []) = true from rfl, if_true]
   rw [w1]
   exact next acc (by omega) (by unfold clean1; rw [if_pos h1])
  ·simp only [h1, if_false]
   by_cases h2 : p.toList = [46]
   ·refine Ev_succ ?_
    simp only [impl_PathClean.j1]
    simp only [h2, show (([46] : List UInt8) == [46]) = true from rfl, if_true]
    rw [w1]
    exact next acc (by omega) (by unfold clean1; rw [if_neg h1, if_pos h2])
   ·refine Ev_succ ?_
    simp only [impl_PathClean.j1]
    simp only [show (p.toList == ([46] : List UInt8)) = false from by simp [h2], Bool.false_eq_true, if_false]
    by_cases h3 : p.toList = [46, 46]
    ·simp only [h3, if_true]
     have hc : clean1 acc p = acc.take (acc.length - 1) := by unfold clean1; rw [if_neg h1, if_neg h2, if_pos h3]
     by_cases h4 : acc.length = 0
     ·simp only [show ¬ ((acc.length : Int) > 0) from by omega, if_false]
      rw [w1]
      exact next acc (by omega) (by rw [hc, List.length_eq_zero_iff.1 h4]; rfl)
     ·have w2 : wrap64 ((acc.length : Int) - 1) = ((acc.length - 1 : Nat) : Int) := by rw [w64 (by omega) (by omega)]; omega
      simp only [show ((acc.length : Int) > 0) from by omega, if_true]
      rw [w2]
      simp only [show ((0 : Int) ≤ ((acc.length - 1 : Nat) : Int)) from by omega, show (((acc.length - 1 : Nat) : Int) ≤ (acc.length : Int)) from by omega, if_true, Int.toNat_natCast]
      rw [w1]
      exact next _ (by rw [List.length_take]; omega) hc.symm
    ·simp only [h3, if_false, show acc.length < 8796093022208 from by omega, if_true]
     rw [w1]
     exact next _ (by simp; omega) (by unfold clean1; rw [if_neg h1, if_neg h2, if_neg h3])
theorem clean_i (ps : List ByteArray) (hl : ps.length ≤ 1000000) : Ev (fun k => impl_PathClean.f k ps) (pathClean ps) :=
 clean_li ps hl ps.length 0 [] (by omega) (by simp)
def wayI (house : ByteArray) (asks : Bool) (ask : ByteArray) (ps : List ByteArray) : A5 := if addrOk house (pathClean ps) asks ask = true then (house, pathClean ps, asks, ask, true) else none5
theorem way_li (house ask : ByteArray) (asks : Bool) (hh : house.size ≤ 100000) (hq : ask.size ≤ 1048576) (ls : List ByteArray) (hl : ls.length ≤ 900) (d : Nat) :
  ∀ (i : Nat) (acc : List ByteArray), i + d = ls.length → acc.length ≤ 50 + i → (∀ p ∈ acc, p.size ≤ 1048576) →
  Ev (fun k => impl_readWay.l0 k house ask asks acc ls (ls.length : Int) (i : Int)) (match escAll (ls.drop i) with | none => none5 | some ps => wayI house asks ask (acc ++ ps)) := by
 induction d with
 | zero =>
  intro i acc hi ha hp
  rw [List.drop_eq_nil_of_le (by omega)]
  refine Ev_succ ?_
  simp only [impl_readWay.l0, show ¬ ((i : Int) < (ls.length : Int)) from by omega, if_false, escAll, List.append_nil]
  refine Ev.bind (clean_i acc (by omega)) ?_
  unfold wayI
  have hP : Parts (pathClean acc) := ⟨by have := cleanF_len acc []; unfold pathClean; simp only [List.length_nil] at this; omega, fun p hq => by
   rcases cleanF_mem hq with h | h
   ·cases h
   ·exact hp p h⟩
  refine Ev.bind (addrOk_i house (pathClean acc) asks ask hP (by omega) (by omega)) ?_
  by_cases h2 : addrOk house (pathClean acc) asks ask = true
  ·simp only [h2, if_true]; exact Ev.now _
  ·simp only [h2, if_false]; exact Ev.now _
 | succ d ih =>
  intro i acc hi ha hp
  have hi' : i < ls.length := by omega
  have f1 : (i : Int) < (ls.length : Int) := by omega
  have f2 := ci_nn i
  have e1 := w64n1 i (by omega)
  have hr := rd_at hi'
  rw [List.drop_eq_getElem_cons hi']
  generalize ls[i] = p at hr ⊢
  have hz := escNorm_size p
  refine Ev_succ ?_
  simp only [impl_readWay.l0, f1, f2, if_true, hr, e1]
  refine Ev.bind (escNorm_i p) ?_
  unfold escAll
  by_cases h1 : (escNorm p).2 = true
  ·have g3 : acc.length < 8796093022208 := by omega
   simp only [h1, if_true, g3]
   have ih' := ih (i + 1) (acc ++ [(escNorm p).1]) (by omega) (by simp; omega) (fun x hx => by
    rcases List.mem_append.1 hx with h | h
    ·exact hp x h
    ·rw [List.mem_singleton.1 h]; omega)
   cases he : escAll (ls.drop (i + 1)) with
   | none => rw [he] at ih'; exact ih'
   | some ps =>
    rw [he] at ih'
    simp only [Option.map_some]
    simpa using ih'
  ·simp only [h1, if_false]; exact Ev.now _
theorem way_i (house : ByteArray) (base : List ByteArray) (way : ByteArray) (hh : house.size ≤ 100000) (hb : base.length ≤ 50) (hp : ∀ p ∈ base, p.size ≤ 1048576) (hw : way.size ≤ 800) :
  Ev (fun k => impl_readWay.f k house base way) (wayO house base way) := by
 unfold impl_readWay.f wayO
 have hc := cutB_size 63 way
 rw [cut_i way 63 (by omega)]
 simp only [Option.bind_some]
 have hz := escNorm_size (cutB 63 way).2.1
 refine Ev.bind (escNorm_i (cutB 63 way).2.1) ?_
 by_cases h1 : (escNorm (cutB 63 way).2.1).2 = true
 ·simp only [h1, if_true, slices_Clone_string_string.f, show base.length * 16 ≤ 140737488355328 from by omega, Option.bind_some]
  refine Ev.bind (split_i (cutB 63 way).1 47 (by omega)) ?_
  have hl := splitL_len 47 (L (cutB 63 way).1)
  rw [L_size] at hl
  have := way_li house (escNorm (cutB 63 way).2.1).1 (cutB 63 way).2.2 hh (by omega) ((splitL 47 (L (cutB 63 way).1)).map ofL) (by rw [List.length_map]; omega) _ 0 base (Nat.zero_add _) (by omega) hp
  rw [List.drop_zero] at this
  exact this
 ·simp only [h1, if_false]
  generalize escAll ((splitL 47 (L (cutB 63 way).1)).map ofL) = o
  cases o <;> exact Ev.now _
theorem any_house : ∀ l : List UInt8, (Lib.indexAny l [47, 63] = -1 → houseL l = (l, [])) ∧ (∀ n : Nat, Lib.indexAny l [47, 63] = (n : Int) → houseL l = (l.take n, l.drop n) ∧ n ≤ l.length)
 | [] => ⟨fun _ => rfl, fun n h => by unfold Lib.indexAny at h; omega⟩
 | x :: xs => by
  obtain ⟨i1, i2⟩ := any_house xs
  unfold Lib.indexAny houseL
  by_cases h : x = 47 ∨ x = 63
  ·have hc : ([47, 63] : List UInt8).contains x = true := by rcases h with h | h <;> subst h <;> decide
   rw [if_pos h, if_pos hc]
   refine ⟨fun e => by omega, fun n e => ?_⟩
   obtain rfl : n = 0 := by omega
   exact ⟨rfl, Nat.zero_le _⟩
  ·have hc : ¬ ([47, 63] : List UInt8).contains x = true := by
    simp only [List.contains_cons, List.contains_nil, Bool.or_false, Bool.or_eq_true, beq_iff_eq]
    exact h
   rw [if_neg h, if_neg hc]
   have hge := Lib.indexAny_ge [47, 63] xs
   by_cases h2 : Lib.indexAny xs [47, 63] = -1
   ·have hb : (Lib.indexAny xs [47, 63] == -1) = true := by simp [h2]
    rw [if_pos hb]
    refine ⟨fun _ => by rw [i1 h2], fun n e => by omega⟩
   ·have hb : ¬ (Lib.indexAny xs [47, 63] == -1) = true := by simp [h2]
    rw [if_neg hb]
    refine ⟨fun e => by omega, fun n e => ?_⟩
    obtain ⟨m, hm⟩ : ∃ m : Nat, Lib.indexAny xs [47, 63] = (m : Int) := ⟨(Lib.indexAny xs [47, 63]).toNat, by omega⟩
    obtain ⟨g1, g2⟩ := i2 m hm
    obtain rfl : n = m + 1 := by omega
    rw [g1]
    exact ⟨rfl, by simp only [List.length_cons]; omega⟩
def wholeI (s : ByteArray) : A5 := if s.size < 2 then none5 else if (L s).take 2 = [47, 47] then wholeO (s.extract 2 s.size) else none5
theorem prefix_i (s : ByteArray) (hs : s.size ≤ 800) : stringslite_HasPrefix.f s ⟨#[47, 47]⟩ = some (decide (2 ≤ s.size) && decide ((L s).take 2 = [47, 47])) := by
 unfold stringslite_HasPrefix.f
 have e2 : (⟨#[47, 47]⟩ : ByteArray).size = 2 := rfl
 rw [e2]
 by_cases h : 2 ≤ s.size
 ·rw [if_pos (by omega), if_pos (by omega), if_pos (by omega)]
  have hx : (s.extract 0 2).toList = (L s).take 2 := by rw [Lib.toList_data]; show L (s.extract 0 2) = _; rw [L_ext]; simp
  have hy : (⟨#[47, 47]⟩ : ByteArray).toList = [47, 47] := by rw [Lib.toList_data]
  simp only [Int.toNat_natCast, hx, hy, h, decide_true, Bool.true_and]
  congr 1
  rw [Bool.eq_iff_iff]; simp
 ·rw [if_neg (by omega)]
  simp [h]
theorem whole_i (s : ByteArray) (hs : s.size ≤ 800) : Ev (fun k => impl_readWhole.f k s) (wholeI s) := by
 unfold impl_readWhole.f strings_CutPrefix.f stringslite_CutPrefix.f wholeI
 have e2 : (⟨#[47, 47]⟩ : ByteArray).size = 2 := rfl
 rw [prefix_i s hs, e2]
 simp only [Option.bind_some]
 by_cases h : 2 ≤ s.size
 ·by_cases h3 : (L s).take 2 = [47, 47]
  ·simp only [h, h3, decide_true, Bool.true_and, if_true, show ¬ (s.size < 2) from by omega, if_false]
   rw [if_pos (by omega), if_pos (by omega)]
   simp only [Option.bind_some, if_true, Int.toNat_natCast]
   have hz : (s.extract 2 s.size).size ≤ 800 := by rw [ByteArray.size_extract]; omega
   generalize s.extract 2 s.size = z at hz
   unfold strings_IndexAny.f wholeO
   have ez : L (⟨#[47, 63]⟩ : ByteArray) = [47, 63] := rfl
   rw [ez, if_pos ⟨rfl, by omega⟩]
   obtain ⟨a1, a2⟩ := any_house (L z)
   have hge := Lib.indexAny_ge [47, 63] (L z)
   by_cases hi : Lib.indexAny (L z) [47, 63] = -1
   ·have hH := a1 hi
    rw [hH]
    have x1 : z.extract 0 ((z.size : Int)).toNat = z := by apply L_inj; rw [L_ext, Int.toNat_natCast, List.drop_zero]; exact List.take_of_length_le (by rw [Nat.sub_zero]; exact Nat.le_of_eq (L_size z))
    have x2 : z.extract ((z.size : Int)).toNat z.size = ofL [] := by apply L_inj; rw [L_ext, L_of, Int.toNat_natCast, Nat.sub_self]; exact List.take_zero
    rw [of_L]
    refine Ev.congr (f := fun k => (impl_readWay.f k (smallB z) [] (ofL [])).bind fun b => some (b.1, b.2.1, b.2.2.1, b.2.2.2.1, b.2.2.2.2)) (fun k => ?_) ?_
    ·rw [hi, Option.bind_some, if_pos (by omega), if_pos (by omega), if_pos (by omega)]
     first | rw [x1, x2] | (simp only [Int.toNat_natCast] at x1 x2; rw [x1, x2])
     unfold impl_smallLetters.f
     rw [if_pos (by omega), Option.bind_some]
    refine Ev.bind (way_i (smallB z) [] (ofL []) (by unfold smallB; rw [ofL_size, List.length_map, L_size]; omega) (by simp) (by simp) (by decide)) ?_
    exact Ev.now _
   ·obtain ⟨n, hn⟩ : ∃ n : Nat, Lib.indexAny (L z) [47, 63] = (n : Int) := ⟨(Lib.indexAny (L z) [47, 63]).toNat, by omega⟩
    obtain ⟨hH, hle⟩ := a2 n hn
    rw [L_size] at hle
    rw [hH]
    have x1 : z.extract 0 ((n : Int)).toNat = ofL ((L z).take n) := by apply L_inj; rw [L_ext, L_of]; simp
    have x2 : z.extract ((n : Int)).toNat z.size = ofL ((L z).drop n) := by
     apply L_inj; rw [L_ext, L_of, Int.toNat_natCast]
     exact List.take_of_length_le (by rw [List.length_drop, L_size]; exact Nat.le_refl _)
    have s1 : (ofL ((L z).take n)).size ≤ 800 := by rw [ofL_size, List.length_take, L_size]; omega
    have s2 : (ofL ((L z).drop n)).size ≤ 800 := by rw [ofL_size, List.length_drop, L_size]; omega
    generalize ofL ((L z).take n) = y at s1 x1 ⊢
    refine Ev.congr (f := fun k => (impl_readWay.f k (smallB y) [] (ofL ((L z).drop n))).bind fun b => some (b.1, b.2.1, b.2.2.1, b.2.2.2.1, b.2.2.2.2)) (fun k => ?_) ?_
    ·rw [hn, Option.bind_some, if_neg (by omega), if_pos (by omega), if_pos (by omega), x1, x2]
     unfold impl_smallLetters.f
     rw [if_pos (by omega), Option.bind_some]
    refine Ev.bind (way_i (smallB y) [] _ (by unfold smallB; rw [ofL_size, List.length_map, L_size]; omega) (by simp) (by simp) s2) ?_
    exact Ev.now _
  ·simp only [h, h3, decide_true, decide_false, Bool.and_false, Bool.false_eq_true, if_false, Option.bind_some, show ¬ (s.size < 2) from by omega]
   exact Ev.now _
 ·simp only [h, decide_false, Bool.false_and, Bool.false_eq_true, if_false, Option.bind_some, show s.size < 2 from by omega, if_true]
  exact Ev.now _
end Go.Proofs.YtgjfegfopjfdpaaGreatDoor.Ad
end
section
namespace Go.Proofs.YtgjfegfopjfdpaaGreatDoor.Ad
open Go.RowKit Go.Proofs.YtgjfegfopjfdpaaGreatDoor.P Go.Proofs.YtgjfegfopjfdpaaGreatDoorW.PrintWords Go.Proofs.YtgjfegfopjfdpaaGreatDoorW.PrintLast Go.Proofs.YtgjfegfopjfdpaaGreatDoorW.PrintMore Go.Proofs.YtgjfegfopjfdpaaGreatDoor.B
set_option linter.unusedVariables false
set_option linter.unusedSimpArgs false
def joinS (h : ByteArray) (ps : List ByteArray) (asks : Bool) (ask s : ByteArray) : A5 :=
 if (decide (2 ≤ s.size) && decide ((L s).take 2 = [47, 47])) = true then wholeO (s.extract 2 s.size)
 else if s.toList = [] then (h, ps, asks, ask, true)
 else if bt s 0 = 47 then wayO h [] s
 else if bt s 0 = 63 then wayO h ps s
 else wayO h (ps.take (ps.length - 1)) s
def joinO (h : ByteArray) (ps : List ByteArray) (asks : Bool) (ask ref : ByteArray) : A5 :=
 if ref.size > 60 then none5 else if addrOk h ps asks ask = true then joinS h ps asks ask (cutB 35 ref).1 else none5
theorem fine_joinS (h : ByteArray) (ps : List ByteArray) (asks : Bool) (ask s : ByteArray) (ho : addrOk h ps asks ask = true) : Fine (joinS h ps asks ask s) := by
 unfold joinS
 split
 ·exact fine_way _ _ _
 ·split
  ·exact Or.inr ⟨rfl, ho⟩
  ·split
   ·exact fine_way _ _ _
   ·split
    ·exact fine_way _ _ _
    ·exact fine_way _ _ _
theorem fine_join (h : ByteArray) (ps : List ByteArray) (asks : Bool) (ask ref : ByteArray) : Fine (joinO h ps asks ask ref) := by
 unfold joinO
 split
 ·exact fine_none
 ·split
  ·rename_i ho; exact fine_joinS _ _ _ _ _ ho
  ·exact fine_none
theorem ok_small {h : ByteArray} {ps : List ByteArray} {asks : Bool} {ask : ByteArray} (ho : addrOk h ps asks ask = true) : ps.length ≤ 5 ∧ (∀ p ∈ ps, p.size ≤ 60) ∧ h.size ≤ 5 ∧ ask.size ≤ 60 := by
 unfold addrOk at ho
 simp only [Bool.and_eq_true, decide_eq_true_eq] at ho
 obtain ⟨⟨⟨⟨⟨h1, h2⟩, h3⟩, h4⟩, h5⟩, h6⟩ := ho
 refine ⟨h2, fun p hp => ?_, isHouse_size h1, isNorm_size h3⟩
 have := List.all_eq_true.1 h5 p hp
 unfold partOk at this
 simp only [Bool.and_eq_true] at this
 exact isNorm_size this.1.1.1
theorem ev_eta {g : Nat → Option A5} {r : A5} (h : Ev g r) : Ev (fun k => (g k).bind fun b => some (b.1, b.2.1, b.2.2.1, b.2.2.2.1, b.2.2.2.2)) r := Ev.bind h (Ev.now r)
theorem mx_len (n : Nat) (h : n ≤ 1000) : mx (wrap64 ((n : Int) - 1)) 0 = ((n - 1 : Nat) : Int) := by
 rw [w64 (by omega) (by omega)]; unfold mx; split <;> omega
theorem join_i (h : ByteArray) (ps : List ByteArray) (asks : Bool) (ask ref : ByteArray) (hP : Parts ps) (hq : ask.size ≤ 1048576) (hh : h.size ≤ 1048576) :
  Ev (fun k => impl_AddrJoin.f k h ps asks ask ref) (joinO h ps asks ask ref) := by
 have bad : Ev (fun k => impl_AddrJoin.j0 k ref true h ps asks ask) none5 := Ev_succ (by simp only [impl_AddrJoin.j0, if_true]; exact Ev.now _)
 unfold impl_AddrJoin.f joinO
 by_cases hr : ref.size > 60
 ·simp only [show ((ref.size : Int) > 60) from by omega, if_true, hr]
  exact bad
 ·simp only [show ¬ ((ref.size : Int) > 60) from by omega, if_false, hr]
  refine Ev.bind (addrOk_i h ps asks ask hP hq hh) ?_
  by_cases ho : addrOk h ps asks ask = true
  ·simp only [ho, if_true, Bool.not_true]
   obtain ⟨z1, z2, z3, z4⟩ := ok_small ho
   have hc := cutB_size 35 ref
   refine Ev_succ ?_
   simp only [impl_AddrJoin.j0, Bool.false_eq_true, if_false]
   rw [cut_i ref 35 (by omega)]
   simp only [Option.bind_some]
   have hs : (cutB 35 ref).1.size ≤ 60 := by omega
   generalize (cutB 35 ref).1 = s at hs
   unfold strings_HasPrefix.f
   rw [prefix_i s (by omega)]
   simp only [Option.bind_some]
   unfold joinS
   by_cases h1 : (decide (2 ≤ s.size) && decide ((L s).take 2 = [47, 47])) = true
   ·simp only [h1, if_true]
    have e : wholeI s = wholeO (s.extract 2 s.size) := by
     simp only [Bool.and_eq_true, decide_eq_true_eq] at h1
     unfold wholeI
     rw [if_neg (by omega), if_pos h1.2]
    rw [← e]
    exact ev_eta (whole_i s (by omega))
   ·simp only [h1, if_false]
    by_cases h2 : s.toList = []
    ·simp only [h2, if_true, slices_Clone_string_string.f, show ps.length * 16 ≤ 140737488355328 from by omega, Option.bind_some]
     exact Ev.now _
    ·have hpos : 0 < s.size := by
      rcases Nat.eq_zero_or_pos s.size with e | e
      ·exact absurd (toList_nil.2 e) h2
      ·exact e
     simp only [h2, if_false, show (0 : Int) < (s.size : Int) from by omega, if_true]
     by_cases h3 : bt s 0 = 47
     ·simp only [h3, if_true]
      exact ev_eta (way_i h [] s (by omega) (by simp) (by simp) (by omega))
     ·by_cases h4 : bt s 0 = 63
      ·simp only [h3, h4, if_true, if_false, show ¬ ((63 : Int) = 47) from by omega]
       exact ev_eta (way_i h ps s (by omega) (by omega) (fun p hp => by have := z2 p hp; omega) (by omega))
      ·simp only [h3, h4, if_false]
       rw [mx_len ps.length (by omega)]
       simp only [show (0 : Int) ≤ ((ps.length - 1 : Nat) : Int) from by omega, show ((ps.length - 1 : Nat) : Int) ≤ (ps.length : Int) from by omega, if_true, Int.toNat_natCast]
       exact ev_eta (way_i h (ps.take (ps.length - 1)) s (by omega) (by rw [List.length_take]; omega) (fun p hp => by have := z2 p (List.mem_of_mem_take hp); omega) (by omega))
  ·simp only [show addrOk h ps asks ask = false from by simpa using ho, Bool.not_false, Bool.false_eq_true, if_false]
   exact bad
set_option maxHeartbeats 1600000 in
theorem join_ev (h : ByteArray) (ps : List ByteArray) (asks : Bool) (ask ref : ByteArray) (hP : Parts ps) (hq : ask.size ≤ 1048576) (hh : h.size ≤ 1048576) (hs : ref.size ≤ 140737488351232) :
  Ev (fun k => spec_AddrJoin.f k h ps asks ask ref) (joinO h ps asks ask ref) := by
 have bad : ∀ s, Ev (fun k => spec_AddrJoin.j0 k s true h ps asks ask) none5 := fun s => Ev_succ (by simp only [spec_AddrJoin.j0, if_true]; exact Ev.now _)
 unfold spec_AddrJoin.f joinO
 refine Ev.bind (cut_ev ref 35 (by omega)) ?_
 refine Ev.bind (addrOk_ev h ps asks ask hP hq hh) ?_
 by_cases ho : addrOk h ps asks ask = true
 ·simp only [ho, if_true]
  by_cases hr : ref.size > 60
  ·simp only [show decide ((ref.size : Int) > 60) = true from by simp; omega, hr, if_true]
   exact bad _
  ·simp only [show decide ((ref.size : Int) > 60) = false from by simp; omega, hr, if_false]
   obtain ⟨z1, z2, z3, z4⟩ := ok_small ho
   have hc := cutB_size 35 ref
   have hs : (cutB 35 ref).1.size ≤ 60 := by omega
   generalize (cutB 35 ref).1 = s at hs
   have main : Ev (fun k => spec_AddrJoin.j1 k s (decide (2 ≤ s.size) && decide ((L s).take 2 = [47, 47])) h ps asks ask) (joinS h ps asks ask s) := by
    refine Ev_succ ?_
    simp only [spec_AddrJoin.j1]
    unfold joinS
    by_cases h1 : (decide (2 ≤ s.size) && decide ((L s).take 2 = [47, 47])) = true
    ·have h1' := h1
     simp only [Bool.and_eq_true, decide_eq_true_eq] at h1'
     simp only [h1, if_true, show (2 : Int) ≤ (s.size : Int) from by omega]
     exact ev_eta (whole_ev (s.extract 2 s.size) (by rw [ByteArray.size_extract]; omega))
    ·simp only [h1, if_false]
     by_cases h2 : s.toList = []
     ·simp only [h2, if_true, Option.bind_some, show ([] : List ByteArray).length + ps.length < 8796093022208 from by simp; omega, List.nil_append]
      exact Ev.now _
     ·have hpos : 0 < s.size := by
       rcases Nat.eq_zero_or_pos s.size with e | e
       ·exact absurd (toList_nil.2 e) h2
       ·exact e
      simp only [h2, if_false, show (0 : Int) < (s.size : Int) from by omega, if_true]
      by_cases h3 : bt s 0 = 47
      ·simp only [h3, if_true]
       exact ev_eta (way_ev h [] false _ s (by omega) (by simp) (by simp) (by omega))
      ·by_cases h4 : bt s 0 = 63
       ·simp only [h3, h4, if_true, if_false, show ¬ ((63 : Int) = 47) from by omega]
        exact ev_eta (way_ev h ps false _ s (by omega) (by omega) (fun p hp => by have := z2 p hp; omega) (by omega))
       ·simp only [h3, h4, if_false]
        have up : spec_l1Up.f h ps asks ask = some (h, ps.take (ps.length - 1), false, ⟨#[]⟩) := by
         unfold spec_l1Up.f
         rw [mx_len ps.length (by omega), Option.bind_some, if_pos (by omega), if_pos (by omega), Int.toNat_natCast, if_pos (by rw [List.length_take]; simp; omega)]
         rfl
        rw [up]
        simp only [Option.bind_some]
        exact ev_eta (way_ev h (ps.take (ps.length - 1)) false _ s (by omega) (by rw [List.length_take]; omega) (fun p hp => by have := z2 p (List.mem_of_mem_take hp); omega) (by omega))
   refine Ev_succ ?_
   simp only [spec_AddrJoin.j0, Bool.false_eq_true, if_false]
   by_cases h2 : 2 ≤ s.size
   ·have hx : (s.extract 0 2).toList = (L s).take 2 := by rw [Lib.toList_data]; show L (s.extract 0 2) = _; rw [L_ext]; simp
    have e : ((s.extract 0 2).toList == ([47, 47] : List UInt8)) = (decide (2 ≤ s.size) && decide ((L s).take 2 = [47, 47])) := by
     rw [hx, Bool.eq_iff_iff]; simp [h2]
    simp only [show (s.size : Int) ≥ 2 from by omega, show (0 : Int) ≤ 2 from by omega, show (2 : Int) ≤ (s.size : Int) from by omega, if_true, e]
    exact main
   ·have e : (decide (2 ≤ s.size) && decide ((L s).take 2 = [47, 47])) = false := by simp [h2]
    rw [e] at main
    simp only [show ¬ ((s.size : Int) ≥ 2) from by omega, if_false]
    exact main
 ·simp only [show addrOk h ps asks ask = false from by simpa using ho, Bool.false_eq_true, if_false, ite_self]
  exact bad _
end Go.Proofs.YtgjfegfopjfdpaaGreatDoor.Ad
end
section
namespace Go.Proofs.YtgjfegfopjfdpaaGreatDoor.Mk
open Go.RowKit Go.Proofs.YtgjfegfopjfdpaaGreatDoor.P Go.Proofs.YtgjfegfopjfdpaaGreatDoorW.PrintWords Go.Proofs.YtgjfegfopjfdpaaGreatDoorW.PrintLast Go.Proofs.YtgjfegfopjfdpaaGreatDoorW.PrintMore Go.Proofs.YtgjfegfopjfdpaaGreatDoor.B
set_option linter.unusedVariables false
set_option linter.unusedSimpArgs false
def headIs (m : ByteArray) (c : Int) : Bool := decide (0 < m.size) && (bt m 0 == c)
theorem begins_f (m : ByteArray) (c : Int) : impl_beginsWith.f m c = some (headIs m c) := by
 unfold impl_beginsWith.f headIs
 by_cases h : m.size = 0
 ·rw [if_pos (toList_nil.2 h)]; simp [h]
 ·rw [if_neg (fun e => h (toList_nil.1 e)), if_pos (by omega)]
  have : 0 < m.size := by omega
  simp [this]
theorem head_f (m : ByteArray) (c : Int) (hc : c ≠ 0) : ∃ h, spec_l3Head.f m = some h ∧ (h = c ↔ headIs m c = true) := by
 unfold spec_l3Head.f headIs
 by_cases h : m.size = 0
 ·rw [if_pos (toList_nil.2 h)]
  exact ⟨0, rfl, by simp [h]; omega⟩
 ·rw [if_neg (fun e => h (toList_nil.1 e)), if_pos (by omega)]
  have : 0 < m.size := by omega
  exact ⟨_, rfl, by simp [this]⟩
def isLink (m : ByteArray) : Bool := !headIs m 33 && !headIs m 64
def links (ms : List ByteArray) : List ByteArray := ms.filter isLink
def base (ms : List ByteArray) : ByteArray × Bool := match ms.find? (headIs · 64) with
 | some m => (m.extract 1 m.size, true)
 | none => (⟨#[]⟩, false)
theorem links_skip {m : ByteArray} (r : List ByteArray) (h : isLink m = false) : links (m :: r) = links r := by simp [links, h]
theorem links_take {m : ByteArray} (r : List ByteArray) (h : isLink m = true) : links (m :: r) = m :: links r := by simp [links, h]
theorem base_hit {m : ByteArray} (r : List ByteArray) (h : headIs m 64 = true) : base (m :: r) = (m.extract 1 m.size, true) := by simp [base, h]
theorem base_skip {m : ByteArray} (r : List ByteArray) (h : ¬ headIs m 64 = true) : base (m :: r) = base r := by simp [base, h]
theorem rdOf_at {l : List ByteArray} {i : Nat} (h : i < l.length) : rdOf ByteArray.empty l (i : Int) = l[i] := by
 unfold rdOf
 rw [List.getD_eq_getElem?_getD, Int.toNat_natCast, List.getElem?_eq_getElem h]
 rfl
theorem impl_links_l (ms : List ByteArray) (hn : ms.length ≤ 1000) (d : Nat) : ∀ (i : Nat) (acc : List ByteArray), i + d = ms.length → acc.length ≤ i →
  Ev (fun k => impl_PageLinks.l0 k acc ms (ms.length : Int) i) (acc ++ links (ms.drop i)) := by
 induction d with
 | zero =>
  intro i acc hi _
  refine Ev.of (fun k => impl_PageLinks.mono_l k _ _ _ _) (k := 1) ?_
  simp only [impl_PageLinks.l0]
  rw [if_neg (by omega), List.drop_eq_nil_of_le (by omega)]
  simp [links]
 | succ d ih =>
  intro i acc hi ha
  have hlt : i < ms.length := by omega
  have hw : wrap64 ((i : Int) + 1) = ((i + 1 : Nat) : Int) := by rw [w64 (by omega) (by omega)]; omega
  rw [List.drop_eq_getElem_cons hlt]
  by_cases h1 : headIs ms[i] 33 = true
  ·refine Ev.step (fun k => ?_) (by have := ih (i + 1) acc (by omega) (by omega); rwa [links_skip _ (by simp [isLink, h1])])
   simp only [impl_PageLinks.l0, begins_f, rdOf_at hlt, Option.bind_some]
   rw [if_pos (by omega), if_pos (by omega), if_pos (by omega), if_pos h1, hw]
  ·by_cases h2 : headIs ms[i] 64 = true
   ·refine Ev.step (fun k => ?_) (by have := ih (i + 1) acc (by omega) (by omega); rwa [links_skip _ (by simp [isLink, h2])])
    simp only [impl_PageLinks.l0, begins_f, rdOf_at hlt, Option.bind_some]
    rw [if_pos (by omega), if_pos (by omega), if_pos (by omega), if_neg h1, if_pos h2, hw]
   ·refine Ev.step (fun k => ?_) (by have := ih (i + 1) (acc ++ [ms[i]]) (by omega) (by simp; omega); rwa [links_take _ (by simp [isLink, h1, h2]), ← List.singleton_append, ← List.append_assoc])
    simp only [impl_PageLinks.l0, begins_f, rdOf_at hlt, Option.bind_some]
    rw [if_pos (by omega), if_pos (by omega), if_pos (by omega), if_neg h1, if_neg h2, if_pos (by omega), hw]
theorem spec_links_l (ms : List ByteArray) (hn : ms.length ≤ 1000) (d : Nat) : ∀ (i : Nat) (acc : List ByteArray), i + d = ms.length → acc.length ≤ i →
  Ev (fun k => spec_PageLinks.l0 k ms acc i) (acc ++ links (ms.drop i)) := by
 induction d with
 | zero =>
  intro i acc hi _
  refine Ev.of (fun k => spec_PageLinks.mono_l k _ _ _) (k := 1) ?_
  simp only [spec_PageLinks.l0]
  rw [if_neg (by omega), List.drop_eq_nil_of_le (by omega)]
  simp [links]
 | succ d ih =>
  intro i acc hi ha
  have hlt : i < ms.length := by omega
  have hw : wrap64 ((i : Int) + 1) = ((i + 1 : Nat) : Int) := by rw [w64 (by omega) (by omega)]; omega
  rw [List.drop_eq_getElem_cons hlt]
  obtain ⟨a, e1, q1⟩ := head_f ms[i] 33 (by omega)
  obtain ⟨b, e2, q2⟩ := head_f ms[i] 64 (by omega)
  obtain rfl : a = b := Option.some.inj (e1.symm.trans e2)
  by_cases h1 : headIs ms[i] 33 = true
  ·refine Ev.step (fun k => ?_) (by have := ih (i + 1) acc (by omega) (by omega); rwa [links_skip _ (by simp [isLink, h1])])
   simp only [spec_PageLinks.l0, rdOf_at hlt, e1, Option.bind_some]
   rw [if_pos (by omega), if_pos (by omega), if_pos (q1.2 h1), hw]
  ·by_cases h2 : headIs ms[i] 64 = true
   ·refine Ev.step (fun k => ?_) (by have := ih (i + 1) acc (by omega) (by omega); rwa [links_skip _ (by simp [isLink, h2])])
    simp only [spec_PageLinks.l0, rdOf_at hlt, e1, Option.bind_some]
    rw [if_pos (by omega), if_pos (by omega), if_neg (fun e => h1 (q1.1 e)), if_pos (q2.2 h2), hw]
   ·refine Ev.step (fun k => ?_) (by have := ih (i + 1) (acc ++ [ms[i]]) (by omega) (by simp; omega); rwa [links_take _ (by simp [isLink, h1, h2]), ← List.singleton_append, ← List.append_assoc])
    simp only [spec_PageLinks.l0, rdOf_at hlt, e1, Option.bind_some]
    rw [if_pos (by omega), if_pos (by omega), if_neg (fun e => h1 (q1.1 e)), if_neg (fun e => h2 (q2.1 e)), if_pos (by omega), hw]
theorem marks_len (s : ByteArray) : (marks s).length ≤ 300 := by
 unfold marks
 split
 ·have := (pmTo_ok s s.size).2.2; omega
 ·simp
theorem impl_links_ev (s : ByteArray) : Ev (fun k => impl_PageLinks.f k s) (links (marks s)) := by
 unfold impl_PageLinks.f impl_pageMarks.f
 simp only [Option.bind_some]
 have h := impl_links_l (marks s) (by have := marks_len s; omega) (marks s).length 0 [] (by omega) (by simp)
 simpa using h
theorem spec_links_ev (s : ByteArray) (hs : s.size ≤ 140737488351232) : Ev (fun k => spec_PageLinks.f k s) (links (marks s)) := by
 unfold spec_PageLinks.f
 refine Ev.bind (spec_ev s hs) ?_
 have h := spec_links_l (marks s) (by have := marks_len s; omega) (marks s).length 0 [] (by omega) (by simp)
 simpa using h
theorem headIs_pos {m : ByteArray} {c : Int} (h : headIs m c = true) : 0 < m.size := by
 unfold headIs at h
 simp at h
 exact h.1
theorem impl_base_l (ms : List ByteArray) (hn : ms.length ≤ 1000) (d : Nat) : ∀ (i : Nat), i + d = ms.length →
  Ev (fun k => impl_PageBase.l0 k ms (ms.length : Int) i) (base (ms.drop i)) := by
 induction d with
 | zero =>
  intro i hi
  refine Ev.of (fun k => impl_PageBase.mono_l k _ _ _) (k := 1) ?_
  simp only [impl_PageBase.l0]
  rw [if_neg (by omega), List.drop_eq_nil_of_le (by omega)]
  simp [base]
 | succ d ih =>
  intro i hi
  have hlt : i < ms.length := by omega
  have hw : wrap64 ((i : Int) + 1) = ((i + 1 : Nat) : Int) := by rw [w64 (by omega) (by omega)]; omega
  rw [List.drop_eq_getElem_cons hlt]
  by_cases h2 : headIs ms[i] 64 = true
  ·refine Ev.of (fun k => impl_PageBase.mono_l k _ _ _) (k := 1) ?_
   have := headIs_pos h2
   simp only [impl_PageBase.l0, begins_f, rdOf_at hlt, Option.bind_some]
   rw [if_pos (by omega), if_pos (by omega), if_pos (by omega), if_pos h2, if_pos (by omega)]
   rw [base_hit _ h2]
  ·refine Ev.step (fun k => ?_) (by have := ih (i + 1) (by omega); rwa [base_skip _ h2])
   simp only [impl_PageBase.l0, begins_f, rdOf_at hlt, Option.bind_some]
   rw [if_pos (by omega), if_pos (by omega), if_pos (by omega), if_neg h2, hw]
theorem spec_base_l (ms : List ByteArray) (hn : ms.length ≤ 1000) (d : Nat) : ∀ (i : Nat), i + d = ms.length →
  Ev (fun k => spec_PageBase.l0 k ms i) (base (ms.drop i)) := by
 induction d with
 | zero =>
  intro i hi
  refine Ev.of (fun k => spec_PageBase.mono_l k _ _) (k := 1) ?_
  simp only [spec_PageBase.l0]
  rw [if_neg (by omega), List.drop_eq_nil_of_le (by omega)]
  simp [base]
 | succ d ih =>
  intro i hi
  have hlt : i < ms.length := by omega
  have hw : wrap64 ((i : Int) + 1) = ((i + 1 : Nat) : Int) := by rw [w64 (by omega) (by omega)]; omega
  rw [List.drop_eq_getElem_cons hlt]
  obtain ⟨a, e1, q2⟩ := head_f ms[i] 64 (by omega)
  by_cases h2 : headIs ms[i] 64 = true
  ·refine Ev.of (fun k => spec_PageBase.mono_l k _ _) (k := 1) ?_
   have := headIs_pos h2
   simp only [spec_PageBase.l0, rdOf_at hlt, e1, Option.bind_some]
   rw [if_pos (by omega), if_pos (by omega), if_pos (q2.2 h2), if_pos (by omega)]
   rw [base_hit _ h2]
  ·refine Ev.step (fun k => ?_) (by have := ih (i + 1) (by omega); rwa [base_skip _ h2])
   simp only [spec_PageBase.l0, rdOf_at hlt, e1, Option.bind_some]
   rw [if_pos (by omega), if_pos (by omega), if_neg (fun e => h2 (q2.1 e)), hw]
theorem impl_base_ev (s : ByteArray) : Ev (fun k => impl_PageBase.f k s) (base (marks s)) := by
 unfold impl_PageBase.f impl_pageMarks.f
 simp only [Option.bind_some]
 have h := impl_base_l (marks s) (by have := marks_len s; omega) (marks s).length 0 (by omega)
 simpa using h
theorem spec_base_ev (s : ByteArray) (hs : s.size ≤ 140737488351232) : Ev (fun k => spec_PageBase.f k s) (base (marks s)) := by
 unfold spec_PageBase.f
 refine Ev.bind (spec_ev s hs) ?_
 have h := spec_base_l (marks s) (by have := marks_len s; omega) (marks s).length 0 (by omega)
 simpa using h
theorem links_len (ms : List ByteArray) : (links ms).length ≤ ms.length := List.length_filter_le _ _
end Go.Proofs.YtgjfegfopjfdpaaGreatDoor.Mk
end
section
namespace Go.Proofs.YtgjfegfopjfdpaaGreatDoor.Ad
open Go.RowKit Go.Proofs.YtgjfegfopjfdpaaGreatDoor.P Go.Proofs.YtgjfegfopjfdpaaGreatDoorW.PrintWords Go.Proofs.YtgjfegfopjfdpaaGreatDoorW.PrintLast Go.Proofs.YtgjfegfopjfdpaaGreatDoorW.PrintMore Go.Proofs.YtgjfegfopjfdpaaGreatDoor.B Go.Proofs.YtgjfegfopjfdpaaGreatDoor.Mk
set_option linter.unusedVariables false
set_option linter.unusedSimpArgs false
def hasB (l : List ByteArray) (s : ByteArray) : Bool := l.any fun x => x.toList == s.toList
theorem hasB_iff {l : List ByteArray} {s : ByteArray} : hasB l s = true ↔ s ∈ l := by
  unfold hasB
  rw [List.any_eq_true]
  constructor
  · rintro ⟨x, hx, he⟩
    rw [← toList_inj.1 (beq_iff_eq.1 he)]; exact hx
  · intro h
    exact ⟨s, h, beq_self_eq_true _⟩
def putL (l : List ByteArray) (s : ByteArray) : List ByteArray := if hasB l s = true then l else l ++ [s]
theorem putL_len (l : List ByteArray) (s : ByteArray) : (putL l s).length ≤ l.length + 1 := by unfold putL; split <;> simp
theorem put_ev_l (l : List ByteArray) (s : ByteArray) (hl : l.length ≤ 1000000) (d : Nat) : ∀ (i : Nat), i + d = l.length → s ∉ l.take i → Ev (fun k => spec_l3Put.l0 k l s (i : Int)) (putL l s) := by
  induction d with
  | zero =>
    intro i hi hn
    rw [List.take_of_length_le (by omega)] at hn
    refine Ev_succ ?_
    simp only [spec_l3Put.l0, show ¬ ((i : Int) < (l.length : Int)) from by omega, if_false, show l.length < 8796093022208 from by omega, if_true]
    unfold putL
    rw [if_neg (fun h => hn (hasB_iff.1 h))]
    exact Ev.now _
  | succ d ih =>
    intro i hi hn
    have hlt : i < l.length := by omega
    have hr := rd_at hlt
    have w1 := w64n1 i (by omega)
    refine Ev_succ ?_
    simp only [spec_l3Put.l0, show ((i : Int) < (l.length : Int)) from by omega, ci_nn i, if_true, hr]
    by_cases h : l[i].toList = s.toList
    · simp only [h, if_true]
      unfold putL
      rw [if_pos (hasB_iff.2 (by rw [← toList_inj.1 h]; exact List.getElem_mem hlt))]
      exact Ev.now _
    · simp only [h, if_false]
      rw [w1]
      refine ih (i + 1) (by omega) ?_
      rw [List.take_succ_eq_append_getElem hlt, List.mem_append, List.mem_singleton]
      rintro (h' | h')
      · exact hn h'
      · exact h (by rw [h'])
theorem put_ev (l : List ByteArray) (s : ByteArray) (hl : l.length ≤ 1000000) : Ev (fun k => spec_l3Put.f k l s) (putL l s) := put_ev_l l s hl l.length 0 (by omega) (by simp)
theorem has_i_l (l : List ByteArray) (s : ByteArray) (hl : l.length ≤ 1000000) (d : Nat) : ∀ (i : Nat), i + d = l.length → s ∉ l.take i → ∃ r : Int, Ev (fun k => slices_Index_string_string.l0 k l s (l.length : Int) (i : Int)) r ∧ (0 ≤ r ↔ s ∈ l) := by
  induction d with
  | zero =>
    intro i hi hn
    rw [List.take_of_length_le (by omega)] at hn
    refine ⟨-1, Ev_succ ?_, ⟨fun h => by omega, fun h => absurd h hn⟩⟩
    simp only [slices_Index_string_string.l0, show ¬ ((i : Int) < (l.length : Int)) from by omega, if_false]
    exact Ev.now _
  | succ d ih =>
    intro i hi hn
    have hlt : i < l.length := by omega
    have hr := rd_at hlt
    have w1 := w64n1 i (by omega)
    by_cases h : s.toList = l[i].toList
    · refine ⟨(i : Int), Ev_succ ?_, ⟨fun _ => by rw [toList_inj.1 h]; exact List.getElem_mem hlt, fun _ => ci_nn i⟩⟩
      simp only [slices_Index_string_string.l0, show ((i : Int) < (l.length : Int)) from by omega, ci_nn i, if_true, hr, h]
      exact Ev.now _
    · obtain ⟨r, h1, h2⟩ := ih (i + 1) (by omega) (by
        rw [List.take_succ_eq_append_getElem hlt, List.mem_append, List.mem_singleton]
        rintro (h' | h')
        · exact hn h'
        · exact h (by rw [h']))
      refine ⟨r, Ev_succ ?_, h2⟩
      simp only [slices_Index_string_string.l0, show ((i : Int) < (l.length : Int)) from by omega, ci_nn i, if_true, hr, h, if_false]
      rw [w1]
      exact h1
theorem has_i (l : List ByteArray) (s : ByteArray) (hl : l.length ≤ 1000000) : Ev (fun k => slices_Contains_string_string.f k l s) (hasB l s) := by
  obtain ⟨r, h1, h2⟩ := has_i_l l s hl l.length 0 (by omega) (by simp)
  unfold slices_Contains_string_string.f slices_Index_string_string.f
  refine Ev.bind h1 ?_
  rw [show hasB l s = decide (r ≥ 0) from by rw [Bool.eq_iff_iff, hasB_iff]; simp [h2.symm]]
  exact Ev.now _
def addrs1 (h : ByteArray) (ps : List ByteArray) (asks : Bool) (ask : ByteArray) (out : List ByteArray) (link : ByteArray) : List ByteArray :=
  if (joinO h ps asks ask link).2.2.2.2 = true then putL out (addrText (joinO h ps asks ask link).1 (joinO h ps asks ask link).2.1 (joinO h ps asks ask link).2.2.1 (joinO h ps asks ask link).2.2.2.1) else out
def addrsL (h : ByteArray) (ps : List ByteArray) (asks : Bool) (ask : ByteArray) (ls : List ByteArray) : List ByteArray := ls.foldl (addrs1 h ps asks ask) []
def from5 (h : ByteArray) (ps : List ByteArray) (asks : Bool) (ask : ByteArray) (b : ByteArray × Bool) : A5 :=
  if b.2 = true then (if (joinO h ps asks ask b.1).2.2.2.2 = true then joinO h ps asks ask b.1 else (h, ps, asks, ask, true)) else (h, ps, asks, ask, true)
def pageAddrs (h : ByteArray) (ps : List ByteArray) (asks : Bool) (ask text : ByteArray) : List ByteArray :=
  if addrOk h ps asks ask = true then addrsL (from5 h ps asks ask (base (marks text))).1 (from5 h ps asks ask (base (marks text))).2.1 (from5 h ps asks ask (base (marks text))).2.2.1 (from5 h ps asks ask (base (marks text))).2.2.2.1 (links (marks text)) else []
theorem addrs1_len (h : ByteArray) (ps : List ByteArray) (asks : Bool) (ask : ByteArray) (out : List ByteArray) (link : ByteArray) : (addrs1 h ps asks ask out link).length ≤ out.length + 1 := by
  unfold addrs1
  split
  · exact putL_len _ _
  · omega
theorem base_size (ms : List ByteArray) (n : Nat) (h : ∀ m ∈ ms, m.size ≤ n) : (base ms).1.size ≤ n := by
  unfold base
  split
  · rename_i m hm
    have := h m (List.mem_of_find?_eq_some hm)
    show (m.extract 1 m.size).size ≤ n
    rw [ByteArray.size_extract]; omega
  · exact Nat.zero_le _
theorem pmTo_size (s : ByteArray) (k : Nat) : ∀ m ∈ (pmTo s k).1, m.size ≤ s.size := by
  induction k with
  | zero => intro m hm; simp [pmTo] at hm
  | succ k ih =>
    intro m hm
    unfold pmTo at hm
    unfold pmStep at hm
    repeat' split at hm
    all_goals first
      | exact ih m hm
      | (rcases List.mem_append.1 hm with h | h
         · exact ih m h
         · rw [List.mem_singleton.1 h, ByteArray.size_extract]; omega)
theorem marks_size (s : ByteArray) : ∀ m ∈ marks s, m.size ≤ 300 := by
  intro m hm
  unfold marks at hm
  split at hm
  · have := pmTo_size s s.size m hm; omega
  · cases hm
theorem addrs_i (h : ByteArray) (ps : List ByteArray) (asks : Bool) (ask : ByteArray) (ls : List ByteArray) (hP : Parts ps) (hq : ask.size ≤ 1048576) (hh : h.size ≤ 1048576) (hl : ls.length ≤ 300) (d : Nat) : ∀ (i : Nat) (out : List ByteArray), i + d = ls.length → out.length ≤ i →
    Ev (fun k => impl_PageAddrs.l0 k out ls (ls.length : Int) (i : Int) h ps asks ask) ((ls.drop i).foldl (addrs1 h ps asks ask) out) := by
  induction d with
  | zero =>
    intro i out hi ho
    rw [List.drop_eq_nil_of_le (by omega)]
    refine Ev_succ ?_
    simp only [impl_PageAddrs.l0, show ¬ ((i : Int) < (ls.length : Int)) from by omega, if_false]
    exact Ev.now _
  | succ d ih =>
    intro i out hi ho
    have hlt : i < ls.length := by omega
    have hr := rd_at hlt
    have w1 := w64n1 i (by omega)
    have f1 : (i : Int) < (ls.length : Int) := by omega
    rw [List.drop_eq_getElem_cons hlt, List.foldl_cons]
    generalize ls[i] = p at hr ⊢
    have hj := join_i h ps asks ask p hP hq hh
    have hF := fine_join h ps asks ask p
    have next := ih (i + 1) (addrs1 h ps asks ask out p) (by omega) (by have := addrs1_len h ps asks ask out p; omega)
    refine Ev_succ ?_
    simp only [impl_PageAddrs.l0, f1, ci_nn i, if_true, hr]
    rw [w1]
    refine Ev.bind hj ?_
    rw [show addrs1 h ps asks ask out p = if (joinO h ps asks ask p).2.2.2.2 = true then putL out (addrText (joinO h ps asks ask p).1 (joinO h ps asks ask p).2.1 (joinO h ps asks ask p).2.2.1 (joinO h ps asks ask p).2.2.2.1) else out from rfl] at next ⊢
    generalize joinO h ps asks ask p = x at hF next ⊢
    by_cases hx : x.2.2.2.2 = true
    · obtain ⟨q1, q2, q3⟩ := fine_parts hF
      simp only [hx, if_true] at next ⊢
      refine Ev.bind (addrText_i x.1 x.2.1 x.2.2.1 x.2.2.2.1 q1 (by omega) (by omega)) ?_
      generalize addrText x.1 x.2.1 x.2.2.1 x.2.2.2.1 = t at next
      refine Ev.bind (has_i out t (by omega)) ?_
      unfold putL at next ⊢
      by_cases ht : hasB out t = true
      · simp only [ht, if_true] at next ⊢
        exact next
      · simp only [ht, Bool.false_eq_true, if_false, show out.length < 8796093022208 from by omega, if_true] at next ⊢
        exact next
    · simp only [hx, Bool.false_eq_true, if_false] at next ⊢
      exact next
theorem pageAddrs_i (h : ByteArray) (ps : List ByteArray) (asks : Bool) (ask text : ByteArray) (hP : Parts ps) (hq : ask.size ≤ 1048576) (hh : h.size ≤ 1048576) :
    Ev (fun k => impl_PageAddrs.f k h ps asks ask text) (pageAddrs h ps asks ask text) := by
  have hlen : (links (marks text)).length ≤ 300 := Nat.le_trans (links_len _) (marks_len text)
  have main : ∀ (h : ByteArray) (ps : List ByteArray) (asks : Bool) (ask : ByteArray), Parts ps → ask.size ≤ 1048576 → h.size ≤ 1048576 → Ev (fun k => impl_PageAddrs.j0 k text h ps asks ask) (addrsL h ps asks ask (links (marks text))) := fun h ps asks ask hP hq hh => by
    refine Ev_succ ?_
    simp only [impl_PageAddrs.j0]
    refine Ev.bind (impl_links_ev text) ?_
    exact addrs_i h ps asks ask _ hP hq hh hlen _ 0 [] (Nat.zero_add _) (by simp)
  unfold impl_PageAddrs.f pageAddrs
  refine Ev.bind (addrOk_i h ps asks ask hP hq hh) ?_
  by_cases ho : addrOk h ps asks ask = true
  · simp only [ho, if_true]
    refine Ev.bind (impl_base_ev text) ?_
    unfold from5
    by_cases hb : (base (marks text)).2 = true
    · simp only [hb, if_true]
      have hF := fine_join h ps asks ask (base (marks text)).1
      refine Ev.bind (join_i h ps asks ask (base (marks text)).1 hP hq hh) ?_
      generalize joinO h ps asks ask (base (marks text)).1 = x at hF
      obtain ⟨q1, q2, q3⟩ := fine_parts hF
      by_cases hx : x.2.2.2.2 = true
      · simp only [hx, if_true]
        exact main x.1 x.2.1 x.2.2.1 x.2.2.2.1 q1 (by omega) (by omega)
      · simp only [hx, if_false]
        exact main h ps asks ask hP hq hh
    · simp only [hb, if_false]
      exact main h ps asks ask hP hq hh
  · simp only [ho, if_false]
    exact Ev.now _
theorem addrs_ev (h : ByteArray) (ps : List ByteArray) (asks : Bool) (ask : ByteArray) (ls : List ByteArray) (hP : Parts ps) (hq : ask.size ≤ 1048576) (hh : h.size ≤ 1048576) (hl : ls.length ≤ 300) (hz : ∀ m ∈ ls, m.size ≤ 300) (d : Nat) : ∀ (i : Nat) (out : List ByteArray), i + d = ls.length → out.length ≤ i →
    Ev (fun k => spec_PageAddrs.l0 k out ls (i : Int) h ps asks ask) ((ls.drop i).foldl (addrs1 h ps asks ask) out) := by
  induction d with
  | zero =>
    intro i out hi ho
    rw [List.drop_eq_nil_of_le (by omega)]
    refine Ev_succ ?_
    simp only [spec_PageAddrs.l0, show ¬ ((i : Int) < (ls.length : Int)) from by omega, if_false]
    exact Ev.now _
  | succ d ih =>
    intro i out hi ho
    have hlt : i < ls.length := by omega
    have hr := rd_at hlt
    have w1 := w64n1 i (by omega)
    have f1 : (i : Int) < (ls.length : Int) := by omega
    have hm := hz ls[i] (List.getElem_mem hlt)
    rw [List.drop_eq_getElem_cons hlt, List.foldl_cons]
    generalize ls[i] = p at hr hm ⊢
    have hj := join_ev h ps asks ask p hP hq hh (by omega)
    have hF := fine_join h ps asks ask p
    have next := ih (i + 1) (addrs1 h ps asks ask out p) (by omega) (by have := addrs1_len h ps asks ask out p; omega)
    refine Ev_succ ?_
    simp only [spec_PageAddrs.l0, f1, ci_nn i, if_true, hr]
    rw [w1]
    refine Ev.bind hj ?_
    rw [show addrs1 h ps asks ask out p = if (joinO h ps asks ask p).2.2.2.2 = true then putL out (addrText (joinO h ps asks ask p).1 (joinO h ps asks ask p).2.1 (joinO h ps asks ask p).2.2.1 (joinO h ps asks ask p).2.2.2.1) else out from rfl] at next ⊢
    generalize joinO h ps asks ask p = x at hF next ⊢
    by_cases hx : x.2.2.2.2 = true
    · obtain ⟨q1, q2, q3⟩ := fine_parts hF
      simp only [hx, if_true] at next ⊢
      refine Ev.bind (addrText_ev x.1 x.2.1 x.2.2.1 x.2.2.2.1 q1 (by omega) (by omega)) ?_
      generalize addrText x.1 x.2.1 x.2.2.1 x.2.2.2.1 = t at next
      refine Ev.bind (put_ev out t (by omega)) ?_
      exact next
    · simp only [hx, Bool.false_eq_true, if_false] at next ⊢
      exact next
theorem links_size (text : ByteArray) : ∀ m ∈ links (marks text), m.size ≤ 300 := fun m hm => marks_size text m (List.mem_filter.1 hm).1
theorem pageAddrs_ev (h : ByteArray) (ps : List ByteArray) (asks : Bool) (ask text : ByteArray) (hP : Parts ps) (hq : ask.size ≤ 1048576) (hh : h.size ≤ 1048576) (hs : text.size ≤ 140737488351232) :
    Ev (fun k => spec_PageAddrs.f k h ps asks ask text) (pageAddrs h ps asks ask text) := by
  have hlen : (links (marks text)).length ≤ 300 := Nat.le_trans (links_len _) (marks_len text)
  have main : ∀ (h : ByteArray) (ps : List ByteArray) (asks : Bool) (ask : ByteArray), Parts ps → ask.size ≤ 1048576 → h.size ≤ 1048576 → Ev (fun k => spec_PageAddrs.j0 k text [] h ps asks ask) (addrsL h ps asks ask (links (marks text))) := fun h ps asks ask hP hq hh => by
    refine Ev_succ ?_
    simp only [spec_PageAddrs.j0]
    refine Ev.bind (spec_links_ev text hs) ?_
    exact addrs_ev h ps asks ask _ hP hq hh hlen (links_size text) _ 0 [] (Nat.zero_add _) (by simp)
  unfold spec_PageAddrs.f pageAddrs
  simp only [Option.bind_some]
  refine Ev.bind (addrOk_ev h ps asks ask hP hq hh) ?_
  by_cases ho : addrOk h ps asks ask = true
  · simp only [ho, if_true]
    refine Ev.bind (spec_base_ev text hs) ?_
    unfold from5
    by_cases hb : (base (marks text)).2 = true
    · simp only [hb, if_true]
      have hF := fine_join h ps asks ask (base (marks text)).1
      have hz := base_size (marks text) 300 (marks_size text)
      refine Ev.bind (join_ev h ps asks ask (base (marks text)).1 hP hq hh (by omega)) ?_
      generalize joinO h ps asks ask (base (marks text)).1 = x at hF
      obtain ⟨q1, q2, q3⟩ := fine_parts hF
      by_cases hx : x.2.2.2.2 = true
      · simp only [hx, if_true]
        exact main x.1 x.2.1 x.2.2.1 x.2.2.2.1 q1 (by omega) (by omega)
      · simp only [hx, if_false]
        exact main h ps asks ask hP hq hh
    · simp only [hb, if_false]
      exact main h ps asks ask hP hq hh
  · simp only [ho, if_false]
    exact Ev.now _
theorem pageAddrs_len (h : ByteArray) (ps : List ByteArray) (asks : Bool) (ask text : ByteArray) : (pageAddrs h ps asks ask text).length ≤ 300 := by
  have key : ∀ (h : ByteArray) (ps : List ByteArray) (asks : Bool) (ask : ByteArray) (ls out : List ByteArray), (ls.foldl (addrs1 h ps asks ask) out).length ≤ out.length + ls.length := by
    intro h ps asks ask ls
    induction ls with
    | nil => intro out; simp
    | cons p ls ih =>
      intro out
      rw [List.foldl_cons]
      have := ih (addrs1 h ps asks ask out p)
      have := addrs1_len h ps asks ask out p
      simp only [List.length_cons]; omega
  unfold pageAddrs
  split
  · have := key (from5 h ps asks ask (base (marks text))).1 (from5 h ps asks ask (base (marks text))).2.1 (from5 h ps asks ask (base (marks text))).2.2.1 (from5 h ps asks ask (base (marks text))).2.2.2.1 (links (marks text)) []
    have := Nat.le_trans (links_len _) (marks_len text)
    unfold addrsL
    simp only [List.length_nil] at *
    omega
  · exact Nat.zero_le _
end Go.Proofs.YtgjfegfopjfdpaaGreatDoor.Ad
end
section
namespace Go.Proofs.YtgjfegfopjfdpaaGreatDoor.Ad
open Go.RowKit Go.Proofs.YtgjfegfopjfdpaaGreatDoor.P Go.Proofs.YtgjfegfopjfdpaaGreatDoorW.PrintWords Go.Proofs.YtgjfegfopjfdpaaGreatDoorW.PrintLast Go.Proofs.YtgjfegfopjfdpaaGreatDoorW.PrintMore Go.Proofs.YtgjfegfopjfdpaaGreatDoor.B Go.Proofs.YtgjfegfopjfdpaaGreatDoor.Mk
set_option linter.unusedVariables false
set_option linter.unusedSimpArgs false
theorem many_not {h : ByteArray} {ps : List ByteArray} {asks : Bool} {ask : ByteArray} (hn : ¬ ps.length ≤ 1000) : addrOk h ps asks ask = false := by
 unfold addrOk
 rw [decide_eq_false (show ¬ ps.length ≤ 5 from by omega)]
 simp
theorem addrOk_evB (h : ByteArray) (ps : List ByteArray) (asks : Bool) (ask : ByteArray) (hs : ∀ p ∈ ps, p.size ≤ 1048576) (hq : ask.size ≤ 1048576) (hh : h.size ≤ 1048576) :
  Ev (fun k => spec_AddrOk.f k h ps asks ask) (addrOk h ps asks ask) := by
 by_cases hn : ps.length ≤ 1000
 ·exact addrOk_ev h ps asks ask ⟨hn, hs⟩ hq hh
 ·rw [many_not hn]
  have bad : Ev (fun k => spec_AddrOk.j0 k true h ps asks ask) false := Ev_succ (by simp only [spec_AddrOk.j0, if_true]; exact Ev.now _)
  unfold spec_AddrOk.f
  refine Ev.bind (house_ev h (by omega)) ?_
  simp only [show (ps.length : Int) > 5 from by omega, if_true]
  split
  ·exact bad
  ·exact bad
theorem addrOk_iB (h : ByteArray) (ps : List ByteArray) (asks : Bool) (ask : ByteArray) (hs : ∀ p ∈ ps, p.size ≤ 1048576) (hq : ask.size ≤ 1048576) (hh : h.size ≤ 1048576) :
  Ev (fun k => impl_AddrOk.f k h ps asks ask) (addrOk h ps asks ask) := by
 by_cases hn : ps.length ≤ 1000
 ·exact addrOk_i h ps asks ask ⟨hn, hs⟩ hq hh
 ·rw [many_not hn]
  have bad : Ev (fun k => impl_AddrOk.j0 k true h ps asks ask) false := Ev_succ (by simp only [impl_AddrOk.j0, if_true]; exact Ev.now _)
  unfold impl_AddrOk.f
  refine Ev.bind (house_i h (by omega)) ?_
  rw [show decide ((ps.length : Int) > 5) = true from by simp; omega]
  split
  ·exact bad
  ·exact bad
theorem pageAddrs_evB (h : ByteArray) (ps : List ByteArray) (asks : Bool) (ask text : ByteArray) (hs : ∀ p ∈ ps, p.size ≤ 1048576) (hq : ask.size ≤ 1048576) (hh : h.size ≤ 1048576) (ht : text.size ≤ 140737488351232) :
  Ev (fun k => spec_PageAddrs.f k h ps asks ask text) (pageAddrs h ps asks ask text) := by
 by_cases hn : ps.length ≤ 1000
 ·exact pageAddrs_ev h ps asks ask text ⟨hn, hs⟩ hq hh ht
 ·have ho := addrOk_evB h ps asks ask hs hq hh
  have e := many_not (h := h) (asks := asks) (ask := ask) hn
  rw [e] at ho
  unfold spec_PageAddrs.f pageAddrs
  simp only [Option.bind_some]
  refine Ev.bind ho ?_
  simp only [e, Bool.false_eq_true, if_false]
  exact Ev.now _
theorem pageAddrs_iB (h : ByteArray) (ps : List ByteArray) (asks : Bool) (ask text : ByteArray) (hs : ∀ p ∈ ps, p.size ≤ 1048576) (hq : ask.size ≤ 1048576) (hh : h.size ≤ 1048576) :
  Ev (fun k => impl_PageAddrs.f k h ps asks ask text) (pageAddrs h ps asks ask text) := by
 by_cases hn : ps.length ≤ 1000
 ·exact pageAddrs_i h ps asks ask text ⟨hn, hs⟩ hq hh
 ·have ho := addrOk_iB h ps asks ask hs hq hh
  have e := many_not (h := h) (asks := asks) (ask := ask) hn
  rw [e] at ho
  unfold impl_PageAddrs.f pageAddrs
  refine Ev.bind ho ?_
  simp only [e, Bool.false_eq_true, if_false]
  exact Ev.now _
end Go.Proofs.YtgjfegfopjfdpaaGreatDoor.Ad
end
section
namespace Go.Proofs.YtgjfegfopjfdpaaGreatDoor.Tx
open Go.RowKit Go.Proofs.YtgjfegfopjfdpaaGreatDoor.P Go.Proofs.YtgjfegfopjfdpaaGreatDoorW.PrintWords Go.Proofs.YtgjfegfopjfdpaaGreatDoorW.PrintLast Go.Proofs.YtgjfegfopjfdpaaGreatDoorW.PrintMore Go.Proofs.YtgjfegfopjfdpaaGreatDoor.B Go.Proofs.YtgjfegfopjfdpaaGreatDoor.Ad
set_option linter.unusedVariables false
set_option linter.unusedSimpArgs false
theorem szS_l (l : List ByteArray) (hl : l.length ≤ 8796093021952) (hs : ∀ p ∈ l, p.size ≤ 4611686018427387904) (d : Nat) : ∀ (i : Nat) (x : Int), i + d = l.length → 0 ≤ x → x ≤ 1048576 →
  ∃ r : Int, Ev (fun k => laws_szStringS.l0 k l x (i : Int)) r ∧ r ≤ 1048576 ∧ -1 ≤ r ∧ (0 ≤ r → ∀ p ∈ l.drop i, p.size ≤ 1048576) := by
 induction d with
 | zero =>
  intro i x hi h0 h1
  refine ⟨x, Ev_succ ?_, h1, by omega, fun _ p hp => ?_⟩
  ·simp only [laws_szStringS.l0, show ¬ ((i : Int) < (l.length : Int)) from by omega, if_false]
   exact Ev.now _
  ·rw [List.drop_eq_nil_of_le (by omega)] at hp; cases hp
 | succ d ih =>
  intro i x hi h0 h1
  have hlt : i < l.length := by omega
  have hr := rd_at hlt
  have w1 : wrap64 ((i : Int) + 1) = ((i + 1 : Nat) : Int) := by rw [w64 (by omega) (by omega)]; rfl
  have f1 : (i : Int) < (l.length : Int) := by omega
  have hz := hs l[i] (List.getElem_mem hlt)
  rw [List.drop_eq_getElem_cons hlt]
  generalize l[i] = p at hr hz ⊢
  have w2 : wrap64 (x - (p.size : Int)) = x - (p.size : Int) := w64 (by omega) (by omega)
  by_cases hn : x - (p.size : Int) < 0
  ·refine ⟨-1, Ev_succ ?_, by omega, by omega, fun h => by omega⟩
   simp only [laws_szStringS.l0, f1, ci_nn i, if_true, hr]
   rw [w2]
   simp only [hn, if_true]
   exact Ev.now _
  ·obtain ⟨r, e, r1, r2, r3⟩ := ih (i + 1) (x - (p.size : Int)) (by omega) (by omega) (by omega)
   refine ⟨r, Ev_succ ?_, r1, r2, fun h q hq => ?_⟩
   ·simp only [laws_szStringS.l0, f1, ci_nn i, if_true, hr]
    rw [w2, w1]
    simp only [hn, if_false]
    exact e
   ·rcases List.mem_cons.1 hq with rfl | hq
    ·omega
    ·exact r3 h q hq
theorem szA_ev (h : ByteArray) (l : List ByteArray) (asks : Bool) (ask : ByteArray) (hl : l.length ≤ 8796093021952) (hs : ∀ p ∈ l, p.size ≤ 4611686018427387904) (hh : h.size ≤ 4611686018427387904) (hq : ask.size ≤ 4611686018427387904) :
  ∃ r : Int, Ev (fun k => laws_szAddr.f k h l asks ask 1048576) r ∧ (0 ≤ r → l.length ≤ 1048576 ∧ (∀ p ∈ l, p.size ≤ 1048576) ∧ h.size ≤ 1048576 ∧ ask.size ≤ 1048576) := by
 unfold laws_szAddr.f laws_szStringS.f
 have w1 : wrap64 (1048576 - (h.size : Int)) = 1048576 - (h.size : Int) := w64 (by omega) (by omega)
 rw [w1]
 by_cases c1 : 1048576 - (h.size : Int) < 0
 ·exact ⟨-1, by simp only [c1, if_true]; exact Ev.now _, fun h => by omega⟩
 ·simp only [c1, if_false]
  have w2 : wrap64 (1048576 - (h.size : Int) - (l.length : Int)) = 1048576 - (h.size : Int) - (l.length : Int) := w64 (by omega) (by omega)
  rw [w2]
  by_cases c2 : 1048576 - (h.size : Int) - (l.length : Int) < 0
  ·exact ⟨-1, by simp only [c2, if_true, Option.bind_some, show (-1 : Int) < 0 from by omega]; exact Ev.now _, fun h => by omega⟩
  ·simp only [c2, if_false]
   obtain ⟨r, e, r1, r2, r3⟩ := szS_l l hl hs l.length 0 (1048576 - (h.size : Int) - (l.length : Int)) (Nat.zero_add _) (by omega) (by omega)
   by_cases c3 : r < 0
   ·refine ⟨-1, Ev.bind e ?_, fun h => by omega⟩
    simp only [c3, if_true]
    exact Ev.now _
   ·have w3 : wrap64 (r - (ask.size : Int)) = r - (ask.size : Int) := w64 (by omega) (by omega)
    by_cases c4 : r - (ask.size : Int) < 0
    ·refine ⟨-1, Ev.bind e ?_, fun h => by omega⟩
     simp only [c3, if_false]
     rw [w3]
     simp only [c4, if_true]
     exact Ev.now _
    ·refine ⟨r - (ask.size : Int), Ev.bind e ?_, fun _ => ⟨by omega, r3 (by omega), by omega, by omega⟩⟩
     simp only [c3, if_false]
     rw [w3]
     simp only [c4, if_false]
     exact Ev.now _
theorem toS_l (l : List ByteArray) (hl : l.length ≤ 8796093021952) (d : Nat) : ∀ (i : Nat), i + d = l.length → Ev (fun k => laws_toStringS.l0 k l (l.take i ++ List.replicate d (⟨#[]⟩ : ByteArray)) (i : Int)) l := by
 induction d with
 | zero =>
  intro i hi
  refine Ev_succ ?_
  simp only [laws_toStringS.l0, show ¬ ((i : Int) < (l.length : Int)) from by omega, if_false]
  rw [List.take_of_length_le (by omega), List.replicate_zero, List.append_nil]
  exact Ev.now _
 | succ d ih =>
  intro i hi
  have hlt : i < l.length := by omega
  have hr := rd_at hlt
  have w1 : wrap64 ((i : Int) + 1) = ((i + 1 : Nat) : Int) := by rw [w64 (by omega) (by omega)]; rfl
  have f1 : (i : Int) < (l.length : Int) := by omega
  have next := ih (i + 1) (by omega)
  have f2 : (i : Int) < ((l.take i ++ List.replicate (d + 1) (⟨#[]⟩ : ByteArray)).length : Int) := by
   rw [List.length_append, List.length_take, List.length_replicate]; omega
  have hset : (l.take i ++ List.replicate (d + 1) (⟨#[]⟩ : ByteArray)).set i l[i] = l.take (i + 1) ++ List.replicate d (⟨#[]⟩ : ByteArray) := by
   have e : (l.take i).length = i := by rw [List.length_take]; omega
   rw [List.set_append_right i l[i] (by omega), e, Nat.sub_self, List.replicate_succ, List.set_cons_zero, List.take_succ_eq_append_getElem hlt, List.append_assoc]
   rfl
  refine Ev_succ ?_
  simp only [laws_toStringS.l0, f1, f2, ci_nn i, if_true, hr, Int.toNat_natCast]
  rw [w1, hset]
  exact next
theorem toA_ev (h : ByteArray) (l : List ByteArray) (asks : Bool) (ask : ByteArray) (hl : l.length ≤ 8796093021952) : Ev (fun k => laws_toAddr.f k h l asks ask) (h, l, asks, ask) := by
 have := toS_l l hl l.length 0 (Nat.zero_add _)
 rw [List.take_zero, List.nil_append] at this
 unfold laws_toAddr.f laws_toStringS.f
 simp only [show (0 : Int) ≤ (l.length : Int) from by omega, if_true, Int.toNat_natCast, show l.length ≤ 17592186044416 from by omega]
 exact Ev.bind this (Ev.now _)
end Go.Proofs.YtgjfegfopjfdpaaGreatDoor.Tx
end
section
namespace Go.Proofs.YtgjfegfopjfdpaaGreatDoor.Tx
open Go.RowKit Go.Proofs.YtgjfegfopjfdpaaGreatDoor.P Go.Proofs.YtgjfegfopjfdpaaGreatDoorW.PrintWords Go.Proofs.YtgjfegfopjfdpaaGreatDoorW.PrintLast Go.Proofs.YtgjfegfopjfdpaaGreatDoorW.PrintMore Go.Proofs.YtgjfegfopjfdpaaGreatDoor.B
set_option linter.unusedVariables false
set_option linter.unusedSimpArgs false
theorem size_one (n : Int) : (strOfNums [n]).size = 1 := by simp [strOfNums, ByteArray.size]
theorem mark_l (d : Nat) : ∀ (k : Nat) (x : Int) (t : ByteArray), 0 ≤ x → x < 2 ^ d → x < 4611686018427387904 → d < k → t.size + d ≤ 1000 → ∃ r, laws_markText.l0 k x t = some r := by
 induction d with
 | zero =>
  intro k x t h0 h1 _ hk ht
  obtain ⟨k, rfl⟩ : ∃ m, k = m + 1 := ⟨k - 1, by omega⟩
  simp only [laws_markText.l0]
  rw [if_neg (by omega), if_pos (by omega)]
  exact ⟨_, rfl⟩
 | succ d ih =>
  intro k x t h0 h1 h2 hk ht
  obtain ⟨k, rfl⟩ : ∃ m, k = m + 1 := ⟨k - 1, by omega⟩
  simp only [laws_markText.l0]
  by_cases hx : x > 0
  ·rw [if_pos hx]
   simp only [Option.bind_some, size_one]
   rw [if_pos (by omega)]
   have e : Int.tdiv x 10 = x / 10 := Int.tdiv_eq_ediv_of_nonneg h0
   have hp : (2 : Int) ^ (d + 1) = 2 * 2 ^ d := by rw [Int.pow_succ]; omega
   rw [e, w64 (n := x / 10) (by omega) (by omega)]
   refine ih k _ _ (by omega) (by omega) (by omega) (by omega) ?_
   rw [ByteArray.size_append, size_one]; omega
  ·rw [if_neg hx, if_pos (by omega)]
   exact ⟨_, rfl⟩
theorem mark_ev (x : Int) (h0 : 0 ≤ x) (h1 : x < 4611686018427387904) : ∃ r, Ev (fun k => laws_markText.f k x) r := by
 by_cases h : x ≤ 0
 ·exact ⟨_, by unfold laws_markText.f; simp only [h, if_true]; exact Ev.now _⟩
 ·obtain ⟨r, hr⟩ := mark_l 62 63 x ⟨#[]⟩ h0 (by omega) h1 (by omega) (by decide)
  refine ⟨r, Ev.of (fun k => laws_markText.mono _ k) (k := 63) ?_⟩
  unfold laws_markText.f
  rw [if_neg h]
  exact hr
noncomputable def mt (x : Int) : ByteArray := Classical.epsilon fun r => Ev (fun k => laws_markText.f k x) r
theorem mt_ev (x : Int) (h0 : 0 ≤ x) (h1 : x < 4611686018427387904) : Ev (fun k => laws_markText.f k x) (mt x) := Classical.epsilon_spec (mark_ev x h0 h1)
end Go.Proofs.YtgjfegfopjfdpaaGreatDoor.Tx
end
section
namespace Go.Proofs.YtgjfegfopjfdpaaGreatDoor.Tx
open Go.RowKit Go.Proofs.YtgjfegfopjfdpaaGreatDoor.P Go.Proofs.YtgjfegfopjfdpaaGreatDoorW.PrintWords Go.Proofs.YtgjfegfopjfdpaaGreatDoorW.PrintLast Go.Proofs.YtgjfegfopjfdpaaGreatDoorW.PrintMore Go.Proofs.YtgjfegfopjfdpaaGreatDoor.B
set_option linter.unusedVariables false
set_option linter.unusedSimpArgs false
def Marked (l : List ByteArray) (x : Int) : Prop := ∀ j, j < l.length → rdOf ByteArray.empty l j = mt (x + j)
theorem markS_l (n : Nat) (x : Int) (hn : n < 1152921504606846976) (h0 : 0 ≤ x) (h1 : x < 1152921504606846976) (d : Nat) : ∀ (i : Nat) (l : List ByteArray), l.length = n → i + d = n →
  (∀ j, j < i → rdOf ByteArray.empty l j = mt (x + j)) →
  ∃ l', Ev (fun k => laws_markStringS.l0 k l (x + i) i) (x + n, l') ∧ l'.length = n ∧ Marked l' x := by
 induction d with
 | zero =>
  intro i l hl hi hm
  obtain rfl : i = n := by omega
  refine ⟨l, Ev.of (fun k => laws_markStringS.mono_l k _ _ _) (k := 1) ?_, hl, fun j hj => hm j (by omega)⟩
  simp only [laws_markStringS.l0]
  rw [if_neg (by omega)]
 | succ d ih =>
  intro i l hl hi hm
  have hlen : (l.set i (mt (x + i))).length = n := by rw [List.length_set]; exact hl
  obtain ⟨l', h, h2, h3⟩ := ih (i + 1) (l.set i (mt (x + i))) hlen (by omega) (fun j hj => by
   unfold rdOf
   rw [List.getD_eq_getElem?_getD]
   simp only [Int.toNat_natCast]
   rcases Nat.lt_or_ge j i with hji | hji
   ·rw [List.getElem?_set_ne (by omega)]
    have := hm j hji
    unfold rdOf at this
    rw [List.getD_eq_getElem?_getD] at this
    simpa using this
   ·obtain rfl : j = i := by omega
    rw [List.getElem?_set_self (by omega)]
    rfl)
  refine ⟨l', Ev.step (f := fun k => (laws_markText.f k (x + i)).bind fun t => laws_markStringS.l0 k (l.set i t) (x + (i + 1 : Nat)) (i + 1 : Nat)) (fun k => ?_) (Ev.bind (mt_ev (x + i) (by omega) (by omega)) h), h2, h3⟩
  simp only [laws_markStringS.l0]
  rw [if_pos (by omega)]
  congr 1
  funext t
  rw [if_pos (by omega), w64 (n := x + i + 1) (by omega) (by omega), w64 (n := (i : Int) + 1) (by omega) (by omega)]
  simp only [Int.toNat_natCast]
  rw [show x + (i : Int) + 1 = x + ((i + 1 : Nat) : Int) from by omega, show (i : Int) + 1 = ((i + 1 : Nat) : Int) from by omega]
theorem markS_ev (l : List ByteArray) (x : Int) (hn : l.length < 1152921504606846976) (h0 : 0 ≤ x) (h1 : x < 1152921504606846976) :
  ∃ l', Ev (fun k => laws_markStringS.f k l x) (x + l.length, l') ∧ l'.length = l.length ∧ Marked l' x := by
 obtain ⟨l', h, h2, h3⟩ := markS_l l.length x hn h0 h1 l.length 0 l rfl (by omega) (fun j hj => by omega)
 refine ⟨l', ?_, h2, h3⟩
 unfold laws_markStringS.f
 simpa using h
theorem heldS_l (l : List ByteArray) (x : Int) (hn : l.length < 1152921504606846976) (h0 : 0 ≤ x) (h1 : x < 1152921504606846976) (hm : Marked l x) (d : Nat) : ∀ (i : Nat), i + d = l.length →
  Ev (fun k => laws_heldStringS.l0 k l (x + i) i) (x + l.length) := by
 induction d with
 | zero =>
  intro i hi
  refine Ev.of (fun k => laws_heldStringS.mono_l k _ _ _) (k := 1) ?_
  simp only [laws_heldStringS.l0]
  rw [if_neg (by omega), show (i : Nat) = l.length from by omega]
 | succ d ih =>
  intro i hi
  refine Ev.step (f := fun k => (laws_markText.f k (x + i)).bind fun t => if (rdOf ByteArray.empty l (i : Int)).toList = t.toList then laws_heldStringS.l0 k l (x + (i + 1 : Nat)) (i + 1 : Nat) else some (-1)) (fun k => ?_) (Ev.bind (mt_ev (x + i) (by omega) (by omega)) ?_)
  ·simp only [laws_heldStringS.l0]
   rw [if_pos (by omega), if_pos (by omega), w64 (n := x + i + 1) (by omega) (by omega), w64 (n := (i : Int) + 1) (by omega) (by omega), show x + (i : Int) + 1 = x + ((i + 1 : Nat) : Int) from by omega, show (i : Int) + 1 = ((i + 1 : Nat) : Int) from by omega]
  ·have := hm i (by omega)
   simp only [this, if_true]
   exact ih (i + 1) (by omega)
theorem heldS_ev (l : List ByteArray) (x : Int) (hn : l.length < 1152921504606846976) (h0 : 0 ≤ x) (h1 : x < 1152921504606846976) (hm : Marked l x) : Ev (fun k => laws_heldStringS.f k l x) (x + l.length) := by
 unfold laws_heldStringS.f
 have := heldS_l l x hn h0 h1 hm l.length 0 (by omega)
 simpa using this
theorem eqS_l (l : List ByteArray) (hn : l.length < 1152921504606846976) (d : Nat) : ∀ (i : Nat), i + d = l.length → Ev (fun k => laws_eqStringS.l0 k l l i) true := by
 induction d with
 | zero =>
  intro i hi
  refine Ev.of (fun k => laws_eqStringS.mono_l k _ _ _) (k := 1) ?_
  simp only [laws_eqStringS.l0]
  rw [if_neg (by omega)]
 | succ d ih =>
  intro i hi
  refine Ev.step (f := fun k => laws_eqStringS.l0 k l l (i + 1 : Nat)) (fun k => ?_) (ih (i + 1) (by omega))
  simp only [laws_eqStringS.l0]
  rw [if_pos (by omega), if_pos (by omega), if_pos (by omega), if_pos trivial, w64 (n := (i : Int) + 1) (by omega) (by omega), show (i : Int) + 1 = ((i + 1 : Nat) : Int) from by omega]
theorem eqS_ev (l : List ByteArray) (hn : l.length < 1152921504606846976) : Ev (fun k => laws_eqStringS.f k l l) true := by
 unfold laws_eqStringS.f
 simp only [if_true]
 exact eqS_l l hn l.length 0 (by omega)
end Go.Proofs.YtgjfegfopjfdpaaGreatDoor.Tx
end
section
namespace Go.Proofs.YtgjfegfopjfdpaaGreatDoor.Pure
open Go.RowKit Go.Proofs.YtgjfegfopjfdpaaGreatDoor.P Go.Proofs.YtgjfegfopjfdpaaGreatDoorW.PrintWords Go.Proofs.YtgjfegfopjfdpaaGreatDoorW.PrintLast Go.Proofs.YtgjfegfopjfdpaaGreatDoor.Mk Go.Proofs.YtgjfegfopjfdpaaGreatDoor.Tx Go.Proofs.YtgjfegfopjfdpaaGreatDoor.Ad Go.Proofs.YtgjfegfopjfdpaaGreatDoor.B
set_option linter.unusedSimpArgs false
set_option linter.unusedVariables false
theorem eqA_ev (h : ByteArray) (l : List ByteArray) (asks : Bool) (ask : ByteArray) (hl : l.length ≤ 8796093021952) : Ev (fun k => laws_eqAddr.f k h l asks ask h l asks ask) true := by
 unfold laws_eqAddr.f
 simp only [if_true]
 refine Ev.bind (eqS_ev l (by omega)) ?_
 simp only [bne_self_eq_false, Bool.false_eq_true, if_false, if_true]
 exact Ev.now _
theorem FnExactPageAddrs (h : ByteArray) (l : List ByteArray) (asks : Bool) (ask text : ByteArray) (hl : l.length ≤ 8796093021952) (hs : ∀ p ∈ l, p.size ≤ 4611686018427387904) (hh : h.size ≤ 4611686018427387904) (hq : ask.size ≤ 4611686018427387904) :
  Ev (fun k => laws_FnExactPageAddrs.f k h l asks ask text) true := by
 unfold laws_FnExactPageAddrs.f
 by_cases ht : (text.size : Int) > 1048576
 ·simp only [ht, if_true]; exact Ev.now _
 simp only [ht, if_false]
 obtain ⟨r, hr, hb⟩ := szA_ev h l asks ask hl hs hh hq
 refine Ev.bind hr ?_
 by_cases hr0 : r < 0
 ·simp only [hr0, if_true]; exact Ev.now _
 simp only [hr0, if_false]
 obtain ⟨b1, b2, b3, b4⟩ := hb (by omega)
 have hA := toA_ev h l asks ask hl
 have hv := pageAddrs_evB h l asks ask text b2 b4 b3 (by omega)
 have hi := pageAddrs_iB h l asks ask text b2 b4 b3
 have hlen := pageAddrs_len h l asks ask text
 generalize pageAddrs h l asks ask text = t at hv hi hlen
 have he := eqS_ev t (by omega)
 obtain ⟨l', hm, hl', hM⟩ := markS_ev t 1 (by omega) (by omega) (by omega)
 obtain ⟨l2, hm2, _, _⟩ := markS_ev l 1 (by omega) (by omega) (by omega)
 have hh' := heldS_ev l' 1 (by omega) (by omega) (by omega) hM
 have e1 : ¬ (1 + (l'.length : Int)) < 0 := by omega
 have e2 : (1 + (l'.length : Int)) = 1 + (t.length : Int) := by omega
 refine Ev.bind hA (Ev.bind hv (Ev.bind hA (Ev.bind hi (Ev.bind he ?_))))
 simp only [if_true]
 refine Ev.bind hA (Ev.bind (eqA_ev h l asks ask hl) ?_)
 simp only [if_true]
 have hMA : Ev (fun k => laws_markAddr.f k h l asks ask 1) (1 + (l.length : Int), l2) := by
  unfold laws_markAddr.f
  exact Ev.bind hm2 (Ev.now _)
 refine Ev.bind hMA ?_
 simp only [show ¬ (1 + (l.length : Int)) < 0 from by omega, if_false]
 refine Ev.bind he (Ev_succ ?_)
 simp only [laws_FnExactPageAddrs.j0, Bool.not_true, Bool.false_eq_true, if_false]
 refine Ev.bind hm (Ev.bind hh' ?_)
 simp only [e1, e2, if_false, if_true]
 refine Ev.bind hA (Ev.bind hi (Ev.bind he ?_))
 simp only [if_true]
 refine Ev.bind hh' ?_
 simp only [e1, e2, if_false, if_true]
 exact Ev.now _
end Go.Proofs.YtgjfegfopjfdpaaGreatDoor.Pure
end
section
namespace Go.Proofs.YtgjfegfopjfdpaaGreatDoorW.PrintWords
open Go.ChangeShapes Go.WideShapes
end Go.Proofs.YtgjfegfopjfdpaaGreatDoorW.PrintWords
end
section
namespace Go.Proofs.YtgjfegfopjfdpaaGreatDoor.fnExactPageAddrs
open Go.ChangeShapes Go.WideShapes Go.ChangeAt Go.RowKit
open Go.ChangeMaps (open_string shut_string)
set_option linter.unusedVariables false
theorem own : ownKnob Tryz.prog.godebug = none := by kernel_rfl
theorem laidOut : laidOutB Tryz.prog = true := by kernel_rfl
theorem weights_all {H : Type} {P : Program} {e : TypeId} : ∀ {ds : List (DataW H)} {d : DataW H}, d ∈ ds → ∀ n ∈ d.weights P e, n ∈ DataW.weightsAll P e ds
 | d0 :: ds, d, h, n, hn => by
  simp only [DataW.weightsAll, List.mem_append]
  rcases List.mem_cons.1 h with rfl | h'
  ·exact .inl hn
  ·exact .inr (weights_all h' n hn)
theorem lit_size {H : Type} {P : Program} {t : TypeId} (s : ByteArray) : s.size ∈ (DataW.lit (H := H) (.string s.data.toList)).weights P t := by
 simp [DataW.weights]
theorem row_of {W : World} {a : Addr} {ss : List ByteArray} {len : Nat} (hl : len ≤ ss.length) (hm : len ≤ 9223372036854775807)
  (hc : ∀ i, i < ss.length → W.cell? (a.add i) = some (.string (ss.getD i ByteArray.empty))) :
  YtgjfegfopjfdpaaGreatDoorW.PrintWords.Kd.C YtgjfegfopjfdpaaGreatDoorW.PrintWords.Kd.string W (some a) (ss.take len).length (ss.take len) := by
 have e : (ss.take len).length = len := by simp; omega
 refine YtgjfegfopjfdpaaGreatDoorW.PrintWords.Kd.C_of_reads (d := ByteArray.empty) ⟨rfl, by rw [e]; exact hm, fun _ => ⟨a, rfl, fun j hj => ?_⟩⟩
 rw [e] at hj
 rw [hc j (by omega)]
 simp [List.getD, hj]
set_option maxRecDepth 100000 in
theorem lifted (os : Os) (started : os.Started) (H : Type) (enc : TypeId × Value → H) :
  ReturnsInHanded {} Tryz.checked os 3 .any (fun w args => (Rows.fnExactPageAddrsSpec.pre enc Tryz.prog Tryz.f3 Rows.fnExactPageAddrsRow.domain false w args ∧ laidMetH Tryz.prog Rows.fnExactPageAddrsRow.laid w) ∧ sizedMet enc Tryz.prog Tryz.f3 (OpenSpec.ofChange Rows.fnExactPageAddrsSpec) false w args)
   (Rows.fnExactPageAddrsSpec.post enc Tryz.prog Tryz.f3 false true false false) := by
 refine returnsInHanded_of_change_and (C := Tryz.checked) (X := fun w _ => laidMetH Tryz.prog Rows.fnExactPageAddrsRow.laid w) (fun _ _ _ hh h => h.of_heap hh) own started (by kernel_rfl) Tryz.func3
  (ChangeSpec.witness_shaped (enc := enc) (C := Tryz.checked) (os := os) (X := fun w _ => laidMetH Tryz.prog Rows.fnExactPageAddrsRow.laid w) false (World.laidAll Tryz.prog os Rows.fnExactPageAddrsRow.laid) #[.agg #[.string ByteArray.empty, .slice none 0 0, .bool false, .string ByteArray.empty], .string ByteArray.empty] 8 (World.laidAll_os _ _ _)
   (World.shaped_of_ZipB (by kernel_rfl) (by kernel_rfl)) (by kernel_rfl) (by kernel_rfl) (by kernel_rfl)
   (by rw [MakeChecks.laidMetH_plain _ _ _ (by kernel_rfl)]; exact laidMet_laidAll _ (by kernel_rfl) (by kernel_rfl))) ?_
 intro W base args ds gs before hval0 hW hcnd hsz0 hL _
 have hsz : (DataW.weightsEach Tryz.prog (Tryz.f3.params.toList ++ Rows.fnExactPageAddrsSpec.plain.varTypes Tryz.prog) (ds ++ gs)).all (· ≤ reachBytes) = true := hsz0
 have hval : ∀ (j : Nat) t v, Tryz.f3.params[j]? = some t → args[j]? = some v → Value.okWide Tryz.prog W .any base t v := hval0
 have hW' := hW
 obtain ⟨p, q, hA0, hV, rfl, hfz, hnd⟩ := hW
 have hA : DataW.TrodAll enc Tryz.prog W 0 (fun _ => true) true Tryz.f3.params.toList args.toList ds p := hA0
 rw [Tryz.params3] at hA hval hsz
 obtain ⟨v0, vs0, d0, ds0, p0, q0, hargs, rfl, rfl, h0, r0⟩ := trodAll_cons hA
 obtain ⟨v1, vs1, d1, ds1, p1, q1, rfl, rfl, rfl, h1, r1⟩ := trodAll_cons r0
 obtain ⟨rfl, rfl, rfl⟩ := trodAll_nil r1
 obtain rfl : args = #[v0, v1] := by cases args; simp_all
 obtain ⟨rfl, rfl⟩ := trodVars_none hV
 have k0 := h0
 have lt0 : ∀ x ∈ p0, x.block < W.heap.size := by obtain ⟨m, hm⟩ := k0; exact DataW.trod_lt m _ _ _ hm
 have k1 := h1
 have lt1 : ∀ x ∈ p1, x.block < W.heap.size := by obtain ⟨m, hm⟩ := k1; exact DataW.trod_lt m _ _ _ hm
 obtain ⟨c0, c1, c2, c3, y0, y1, y2, y3, n, rfl, rfl, rfl, t0, t1, t2, t3⟩ := Joins.open_agg4 Tryz.underlying24 (by kernel_rfl) (by kernel_rfl) (hval 0 24 v0 rfl rfl) h0
 obtain ⟨s0, e0, rfl, z0⟩ := DataW.trod_string Tryz.underlying9 t0
 obtain rfl : c0 = .string s0 := by simpa using e0
 obtain ⟨b2, e2, rfl⟩ := DataW.trod_bool Tryz.underlying4 t2
 obtain rfl : c2 = .bool b2 := by simpa using e2
 obtain ⟨s3, e3, rfl, z3⟩ := DataW.trod_string Tryz.underlying9 t3
 obtain rfl : c3 = .string s3 := by simpa using e3
 obtain ⟨n1, f1⟩ := h1
 have hw : ∀ (j : Nat) (t : TypeId) (d : DataW H) (x : Nat), ([9, 22, 4, 9] : List TypeId)[j]? = some t → ([.lit (.string s0.data.toList), y1.1, .lit (.bool b2), .lit (.string s3.data.toList)] : List (DataW H))[j]? = some d → x ∈ d.weights Tryz.prog t → x ≤ reachBytes := by
  intro j t d x ht hd hx
  have g := DataW.weights_mem_each (P := Tryz.prog) ht hd x hx
  have g1 : x ∈ (DataW.agg [.lit (.string s0.data.toList), y1.1, .lit (.bool b2), .lit (.string s3.data.toList)] : DataW H).weights Tryz.prog 24 := by
   simp only [DataW.weights, Tryz.underlying24]
   exact g
  have g2 := List.all_eq_true.1 hsz _ (DataW.weights_mem_each (j := 0) (t := 24) rfl rfl x g1)
  simpa using g2
 have w0 : s0.size ≤ reachBytes := hw 0 9 _ _ rfl rfl (lit_size s0)
 have w3 : s3.size ≤ reachBytes := hw 3 9 _ _ rfl rfl (lit_size s3)
 have hrb : reachBytes = 140737488351232 := rfl
 obtain ⟨A1, l1, cp1, rfl, hC, hcap, hlen, hss⟩ : ∃ (A : Option Addr) (l : List ByteArray) (c : Nat), c1 = .slice A l.length c ∧ YtgjfegfopjfdpaaGreatDoorW.PrintWords.Kd.C YtgjfegfopjfdpaaGreatDoorW.PrintWords.Kd.string W A l.length l ∧ l.length ≤ c ∧ l.length ≤ 8796093021952 ∧ ∀ s ∈ l, s.size ≤ 4611686018427387904 := by
  rcases open_strings Tryz.underlying22 Tryz.underlying9 (by kernel_rfl) t1 with ⟨e1, _⟩ | ⟨a, len, cap, ss, e1, _, hl, hm, hsl, ex, hcell, _⟩
  ·obtain rfl : c1 = .slice none 0 0 := by simpa using e1
   exact ⟨none, [], 0, rfl, YtgjfegfopjfdpaaGreatDoorW.PrintWords.Kd.C_of_reads (d := ByteArray.empty) (YtgjfegfopjfdpaaGreatDoorW.PrintWords.ReadsOf.nil _ _ _), Nat.le_refl _, by simp, by simp⟩
  ·obtain rfl : c1 = .slice (some a) len cap := by simpa using e1
   have hsl' : ss.length = cap := by simpa using hsl
   have wl := fun x hx => hw 1 22 y1.1 x rfl rfl hx
   rw [ex] at wl
   simp only [DataW.weights, Tryz.underlying22, List.mem_cons, List.mem_append] at wl
   have wn := wl _ (.inl rfl)
   have hb : Tryz.prog.bytesOf 9 = 16 := by kernel_rfl
   rw [hb] at wn
   simp only [strs, List.length_map, List.length_take, List.length_drop] at wn
   have e : (ss.take len).length = len := by simp; omega
   refine ⟨some a, ss.take len, cap, by rw [e], row_of (by omega) (by omega) hcell, by omega, by omega, fun s hs => ?_⟩
   have ws := wl s.size (.inr (.inl (weights_all (d := .lit (.string s.data.toList)) (by simp only [strs, List.mem_map]; exact ⟨s, hs, rfl⟩) _ (lit_size s))))
   omega
 obtain ⟨s1, e1, rfl⟩ : ∃ s, v1 = .string s ∧ d1 = .lit (.string s.data.toList) := by
  obtain ⟨s, hs, hx, _⟩ := open_string Tryz.underlying9 (hval 1 9 v1 rfl rfl) k1
  exact ⟨s, hs, hx⟩
 subst e1
 obtain ⟨K, hK⟩ := Pure.FnExactPageAddrs s0 l1 b2 s3 s1 hlen hss (by omega) (by omega)
 clear hA0 hval0 hsz0 hsz
 refine (P.laws_FnExactPageAddrs.calls K s0 A1 cp1 l1 b2 s3 s1 true W hC hcap (hK K (Nat.le_refl _))).mono fun e W' ⟨he, bel⟩ => ?_
 subst he
 exact ⟨_, rfl, _, _, _, [], _, [], hW', trodAll_mk1 (shut_bool Tryz.underlying4 _), (trodAll_cons_mk (Below.trod laidOut (by kernel_rfl) (of_decide_eq_true (by kernel_rfl)) k0 bel lt0) (trodAll_cons_mk (Below.trod laidOut (by kernel_rfl) (of_decide_eq_true (by kernel_rfl)) k1 bel lt1) trodAll_mk0)), rfl, bel.frame _, fun h => by cases h⟩
set_option maxHeartbeats 4000000 in
theorem over : Rows.fnExactPageAddrsRow.holds Tryz.pinned (OpenSpec.ofChange Rows.fnExactPageAddrsSpec) :=
 OpenClaim.holds_of_wide 3 Tryz.f3 rfl rfl rfl rfl rfl rfl rfl ⟨rfl, rfl, rfl, rfl, rfl⟩ rfl rfl rfl rfl rfl (by as_aux_lemma => kernel_rfl) Tryz.func3 (by as_aux_lemma => kernel_rfl)
  (of_decide_eq_true (by as_aux_lemma => kernel_rfl)) (by unfold Func.isWrapper; first | (rw [if_pos (by decide +kernel)]; kernel_rfl) | (rw [if_neg (by decide +kernel)]; exact ⟨rfl, rfl⟩))
  (fun os started H enc _ => lifted os started H enc)
theorem card_holds : Rows.FnExactPageAddrsCardSaid :=
 Claim7.holds_tied_plain_at .later [] [.data, .pinned] true (true, "ed35e726fe9ce4a5a2c950f451ee72f64af63785e0932cae000ce98e8f70e758") false over (fun _ h => by cases h) (by as_aux_lemma => kernel_rfl) (fun _ h => by cases h) fnExactPageAddrs_row_tie rfl ⟨rfl, rfl⟩ (by as_aux_lemma => kernel_rfl) rfl
  (fun f fn hf hfn => by
   obtain rfl : f = 3 := Option.some.inj ((show Tryz.prog.funcNamed "loop.example/pedlar/laws.FnExactPageAddrs" = some 3 by as_aux_lemma => kernel_rfl).symm.trans hf) |>.symm
   obtain rfl : fn = Tryz.f3 := (Option.some.inj (Tryz.func3.symm.trans hfn)).symm
   exact ⟨by as_aux_lemma => kernel_rfl, fun j t ht => by
    rw [Tryz.params3] at ht
    have hm : t ∈ [24, 9] := by simpa using Array.mem_of_getElem? ht
    have hall : ([24, 9].all fun u => !Tryz.prog.wantsStandIn u) = true := by as_aux_lemma => kernel_rfl
    exact (show Tryz.prog.wantsStandIn t = false by simpa using List.all_eq_true.1 hall t hm)⟩)
  (by as_aux_lemma => kernel_rfl)
#print axioms card_holds
end Go.Proofs.YtgjfegfopjfdpaaGreatDoor.fnExactPageAddrs
namespace Go.Proofs.YtgjfegfopjfdpaaGreatDoor
theorem fnExactPageAddrs_holds : Rows.FnExactPageAddrsCardSaid := fnExactPageAddrs.card_holds
end Go.Proofs.YtgjfegfopjfdpaaGreatDoor
end
