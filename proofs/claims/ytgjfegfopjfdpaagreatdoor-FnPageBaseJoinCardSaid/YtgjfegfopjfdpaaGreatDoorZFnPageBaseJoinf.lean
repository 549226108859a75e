/- FnPageBaseJoin holds of the given program at every input: From where is told one goes as if one were there. So one does in a drawn page. No condition. Written by a program of this session (wip/pr.py). -/
import Derived.Test.YtgjfegfopjfdpaaGreatDoorZFnPageBaseJoinb
import Derived.Test.YtgjfegfopjfdpaaGreatDoorZFnPageBaseJoine
import Derived.Test.YtgjfegfopjfdpaaGreatDoorZFnPageBaseJoind
import Derived.Test.YtgjfegfopjfdpaaGreatDoorZFnPageBaseJoinc
import Derived.Lib.IndexAny
import Derived.SizedLaws
import Derived.ChangeSlices
import Derived.Test.YtgjfegfopjfdpaaGreatDoorRows
import Derived.Test.YtgjfegfopjfdpaaGreatDoorCards
import Derived.Test.YtgjfegfopjfdpaaGreatDoorTie
import Derived.LaidMore
import Derived.Lay
import Derived.SevenTiedAt
import Derived.Stop.Joined
import Derived.WalkKit
import Derived.ProofKit
import Derived.OpenShut
import Derived.ShutString
import Derived.ChangeOld
import Derived.Below

section
namespace Go.Proofs.YtgjfegfopjfdpaaGreatDoor.Ad
open Go.RowKit Go.Proofs.YtgjfegfopjfdpaaGreatDoor.P Go.Proofs.YtgjfegfopjfdpaaGreatDoorW.PrintWords Go.Proofs.YtgjfegfopjfdpaaGreatDoorW.PrintLast Go.Proofs.YtgjfegfopjfdpaaGreatDoorW.PrintMore Go.Proofs.YtgjfegfopjfdpaaGreatDoor.B
set_option linter.unusedVariables false
set_option linter.unusedSimpArgs false
def cutL (c : UInt8) : List UInt8 → List UInt8 × List UInt8 × Bool
 | [] => ([], [], false)
 | x :: xs => if x = c then ([], xs, true) else (x :: (cutL c xs).1, (cutL c xs).2)
theorem cutL_false {c : UInt8} : ∀ {l : List UInt8}, (cutL c l).2.2 = false → (cutL c l).1 = l ∧ (cutL c l).2.1 = []
 | [], _ => by simp [cutL]
 | x :: xs, h => by
  unfold cutL at h ⊢
  by_cases e : x = c
  ·rw [if_pos e] at h; cases h
  ·rw [if_neg e] at h ⊢
   have := cutL_false (l := xs) h
   exact ⟨by rw [this.1], this.2⟩
theorem cutL_true {c : UInt8} : ∀ {l : List UInt8}, (cutL c l).2.2 = true → l = (cutL c l).1 ++ c :: (cutL c l).2.1
 | [], h => by simp [cutL] at h
 | x :: xs, h => by
  unfold cutL at h ⊢
  by_cases e : x = c
  ·rw [if_pos e, e]; rfl
  ·rw [if_neg e] at h ⊢
   have := cutL_true (l := xs) h
   show x :: xs = x :: ((cutL c xs).1 ++ c :: (cutL c xs).2.1)
   rw [← this]
theorem cutL_len {c : UInt8} : ∀ (l : List UInt8), (cutL c l).1.length + (cutL c l).2.1.length ≤ l.length ∧ ((cutL c l).2.2 = true → (cutL c l).1.length + (cutL c l).2.1.length + 1 = l.length)
 | [] => by simp [cutL]
 | x :: xs => by
  unfold cutL
  by_cases e : x = c
  ·rw [if_pos e]; simp
  ·rw [if_neg e]
   have := cutL_len (c := c) xs
   simp only [List.length_cons]
   exact ⟨by omega, fun h => by have := this.2 h; omega⟩
theorem bt_at {s : ByteArray} {i : Nat} {c : UInt8} {l : List UInt8} (h : (L s).drop i = c :: l) : i < s.size ∧ bt s i = (c.toNat : Int) ∧ (L s).drop (i + 1) = l := by
 have hl : i < (L s).length := by
  rcases Nat.lt_or_ge i (L s).length with h' | h'
  ·exact h'
  ·rw [List.drop_eq_nil_of_le h'] at h; cases h
 have hd : (L s).drop i = (L s)[i] :: (L s).drop (i + 1) := List.drop_eq_getElem_cons hl
 rw [h] at hd
 injection hd with h1 h2
 refine ⟨by rw [← L_size]; exact hl, ?_, h2.symm⟩
 rw [bt_L, List.getD_eq_getElem?_getD, List.getElem?_eq_getElem hl, ← h1]
 rfl
theorem bt_end {s : ByteArray} {i : Nat} (h : (L s).drop i = []) : s.size ≤ i := by
 rw [← L_size]; exact List.drop_eq_nil_iff.1 h
theorem u8_eq {a b : UInt8} : ((a.toNat : Int) = (b.toNat : Int)) ↔ a = b := by
 constructor
 ·intro h; exact UInt8.toNat_inj.1 (by omega)
 ·intro h; rw [h]
def cutB (c : UInt8) (s : ByteArray) : ByteArray × ByteArray × Bool := (ofL (cutL c (L s)).1, ofL (cutL c (L s)).2.1, (cutL c (L s)).2.2)
theorem cut_l (s : ByteArray) (c : UInt8) (hs : s.size ≤ 140737488351232) : ∀ (l : List UInt8) (i : Nat), (L s).drop i = l →
  Ev (fun k => spec_l1Cut.l0 k s (c.toNat : Int) (i : Int)) (ofL ((L s).take i ++ (cutL c l).1), ofL (cutL c l).2.1, (cutL c l).2.2)
 | [], i, h => by
  have := bt_end h
  have n1 : ¬ ((i : Int) < (s.size : Int)) := by omega
  refine Ev_succ ?_
  simp only [spec_l1Cut.l0, n1, if_false]
  have e : (L s).take i = L s := List.take_of_length_le (by rw [L_size]; omega)
  simp only [cutL, e, List.append_nil, of_L]
  exact Ev.now _
 | x :: xs, i, h => by
  obtain ⟨hi, hb, hd⟩ := bt_at h
  refine Ev_succ ?_
  have e1 : wrap64 ((i : Int) + 1) = ((i + 1 : Nat) : Int) := by rw [w64 (by omega) (by omega)]; rfl
  have f1 : (i : Int) < (s.size : Int) := by omega
  have f2 : (0 : Int) ≤ (i : Int) := by omega
  have f3 : (i : Int) ≤ (s.size : Int) := by omega
  have f4 : (0 : Int) ≤ ((i + 1 : Nat) : Int) := by omega
  have f5 : ((i + 1 : Nat) : Int) ≤ (s.size : Int) := by omega
  simp only [spec_l1Cut.l0, e1, f1, f2, f3, f4, f5, if_true, hb, u8_eq]
  unfold cutL
  by_cases e : x = c
  ·simp only [e, if_true]
   have a1 : s.extract 0 ((i : Int)).toNat = ofL ((L s).take i ++ []) := by
    apply L_inj; rw [L_ext, L_of]; simp
   have a2 : s.extract ((((i + 1 : Nat) : Int))).toNat s.size = ofL xs := by
    apply L_inj; rw [L_ext, L_of, Int.toNat_natCast, hd, List.take_of_length_le]
    rw [← hd, List.length_drop, L_size]; omega
   rw [a1, a2]
   exact Ev.now _
  ·simp only [e, if_false]
   have := cut_l s c hs xs (i + 1) hd
   have ht : (L s).take (i + 1) ++ (cutL c xs).1 = (L s).take i ++ (x :: (cutL c xs).1) := by
    have hl : i < (L s).length := by rw [L_size]; exact hi
    have : (L s)[i] = x := by
     have hd2 : (L s).drop i = (L s)[i] :: (L s).drop (i + 1) := List.drop_eq_getElem_cons hl
     rw [h] at hd2
     injection hd2 with h1 h2
     exact h1.symm
    rw [List.take_succ_eq_append_getElem hl, this]
    simp
   rw [ht] at this
   exact this
theorem cut_ev (s : ByteArray) (c : UInt8) (hs : s.size ≤ 140737488351232) : Ev (fun k => spec_l1Cut.f k s (c.toNat : Int)) (cutB c s) := by
 have := cut_l s c hs (L s) 0 rfl
 simp only [List.take_zero, List.nil_append] at this
 exact this
def splitN (c : UInt8) : Nat → List UInt8 → List (List UInt8)
 | 0, l => [l]
 | n + 1, l => (cutL c l).1 :: (if (cutL c l).2.2 = true then splitN c n (cutL c l).2.1 else [])
def splitL (c : UInt8) (l : List UInt8) : List (List UInt8) := splitN c (l.length + 1) l
theorem splitN_eq (c : UInt8) : ∀ (n m : Nat) (l : List UInt8), l.length < n → l.length < m → splitN c n l = splitN c m l
 | 0, _, l, h, _ => absurd h (by omega)
 | _ + 1, 0, l, _, h => absurd h (by omega)
 | n + 1, m + 1, l, h1, h2 => by
  simp only [splitN]
  by_cases e : (cutL c l).2.2 = true
  ·have := (cutL_len (c := c) l).2 e
   rw [if_pos e, if_pos e, splitN_eq c n m _ (by omega) (by omega)]
  ·rw [if_neg e, if_neg e]
theorem splitL_eq (c : UInt8) (l : List UInt8) : splitL c l = (cutL c l).1 :: (if (cutL c l).2.2 = true then splitL c (cutL c l).2.1 else []) := by
 unfold splitL
 rw [splitN]
 by_cases e : (cutL c l).2.2 = true
 ·have := (cutL_len (c := c) l).2 e
  rw [if_pos e, if_pos e, splitN_eq c _ ((cutL c l).2.1.length + 1) _ (by omega) (by omega)]
 ·rw [if_neg e, if_neg e]
theorem splitN_len (c : UInt8) : ∀ (n : Nat) (l : List UInt8), (splitN c n l).length ≤ l.length + 1
 | 0, l => by simp [splitN]
 | n + 1, l => by
  simp only [splitN]
  by_cases e : (cutL c l).2.2 = true
  ·have := (cutL_len (c := c) l).2 e
   have ih := splitN_len c n (cutL c l).2.1
   rw [if_pos e]; simp only [List.length_cons]; omega
  ·rw [if_neg e]; simp
theorem splitL_len (c : UInt8) (l : List UInt8) : (splitL c l).length ≤ l.length + 1 := splitN_len c _ l
theorem split_l (c : UInt8) (n : Nat) : ∀ (s : ByteArray) (acc : List ByteArray), s.size < n → s.size ≤ 1000000000 → acc.length + s.size ≤ 2000000000 →
  Ev (fun k => spec_l1Split.l0 k (c.toNat : Int) acc s true) (acc ++ (splitL c (L s)).map ofL) := by
 induction n with
 | zero => intro s acc h; exact absurd h (by omega)
 | succ n ih =>
  intro s acc h h1 h2
  refine Ev_succ ?_
  simp only [spec_l1Split.l0, if_true]
  refine Ev.bind (cut_ev s c (by omega)) ?_
  have g1 : acc.length < 8796093022208 := by omega
  simp only [g1, if_true]
  rw [splitL_eq]
  have hl := cutL_len (c := c) (L s)
  rw [L_size] at hl
  by_cases e : (cutL c (L s)).2.2 = true
  ·have e' : (cutB c s).2.2 = true := e
   have hz : (ofL (cutL c (L s)).2.1).size = (cutL c (L s)).2.1.length := ofL_size _
   have := hl.2 e
   have ih' := ih (ofL (cutL c (L s)).2.1) (acc ++ [ofL (cutL c (L s)).1]) (by omega) (by omega) (by simp only [List.length_append, List.length_singleton]; omega)
   rw [if_pos e]
   simp only [cutB, e]
   rw [L_of] at ih'
   simpa using ih'
  ·have e' : (cutL c (L s)).2.2 = false := by simpa using e
   rw [if_neg e]
   simp only [cutB, e']
   refine Ev_succ ?_
   simp only [spec_l1Split.l0]
   simp
   exact Ev.now _
theorem split_ev (s : ByteArray) (c : UInt8) (hs : s.size ≤ 1000000000) : Ev (fun k => spec_l1Split.f k s (c.toNat : Int)) ((splitL c (L s)).map ofL) := by
 have := split_l c (s.size + 1) s [] (by omega) hs (by simp; omega)
 rw [List.nil_append] at this
 exact this
end Go.Proofs.YtgjfegfopjfdpaaGreatDoor.Ad
end
section
namespace Go.Proofs.YtgjfegfopjfdpaaGreatDoor.Ad
open Go.RowKit Go.Proofs.YtgjfegfopjfdpaaGreatDoorW.PrintWords Go.Proofs.YtgjfegfopjfdpaaGreatDoor.B
set_option linter.unusedVariables false
set_option linter.unusedSimpArgs false
abbrev A5 := ByteArray × List ByteArray × Bool × ByteArray × Bool
def none5 : A5 := ((⟨#[]⟩ : ByteArray), ([] : List ByteArray), false, (⟨#[]⟩ : ByteArray), false)
def escAll : List ByteArray → Option (List ByteArray)
 | [] => some []
 | q :: qs => if (escNorm q).2 = true then (escAll qs).map ((escNorm q).1 :: ·) else none
def clean1 (acc : List ByteArray) (p : ByteArray) : List ByteArray :=
 if p.toList = [] then acc else if p.toList = [46] then acc else if p.toList = [46, 46] then acc.take (acc.length - 1) else acc ++ [p]
def pathClean (ps : List ByteArray) : List ByteArray := ps.foldl clean1 []
def wayO (house : ByteArray) (base : List ByteArray) (way : ByteArray) : A5 :=
 match escAll ((splitL 47 (L (cutB 63 way).1)).map ofL) with
 | none => none5
 | some ps => if (escNorm (cutB 63 way).2.1).2 = true then (if addrOk house (pathClean (base ++ ps)) (cutB 63 way).2.2 (escNorm (cutB 63 way).2.1).1 = true then (house, pathClean (base ++ ps), (cutB 63 way).2.2, (escNorm (cutB 63 way).2.1).1, true) else none5) else none5
def houseL : List UInt8 → List UInt8 × List UInt8
 | [] => ([], [])
 | x :: xs => if x = 47 ∨ x = 63 then ([], x :: xs) else (x :: (houseL xs).1, (houseL xs).2)
def wholeO (rest : ByteArray) : A5 := wayO (smallB (ofL (houseL (L rest)).1)) [] (ofL (houseL (L rest)).2)
def readO (raw : ByteArray) : A5 :=
 if raw.size > 60 then none5 else if (cutB 35 raw).1.size < 2 then none5 else if (L (cutB 35 raw).1).take 2 = [47, 47] then wholeO ((cutB 35 raw).1.extract 2 (cutB 35 raw).1.size) else none5
def Fine (a : A5) : Prop := a = none5 ∨ (a.2.2.2.2 = true ∧ addrOk a.1 a.2.1 a.2.2.1 a.2.2.2.1 = true)
theorem fine_none : Fine none5 := Or.inl rfl
theorem fine_way (h : ByteArray) (b : List ByteArray) (w : ByteArray) : Fine (wayO h b w) := by
 unfold wayO
 split
 ·exact fine_none
 ·split
  ·split
   ·rename_i hh
    exact Or.inr ⟨rfl, hh⟩
   ·exact fine_none
  ·exact fine_none
theorem fine_read (raw : ByteArray) : Fine (readO raw) := by
 unfold readO
 split
 ·exact fine_none
 ·split
  ·exact fine_none
  ·split
   ·exact fine_way _ _ _
   ·exact fine_none
theorem isHouse_size {s : ByteArray} (h : isHouse s = true) : s.size ≤ 5 := by
 unfold isHouse at h
 simp only [Bool.and_eq_true, decide_eq_true_eq] at h
 exact h.1.2
theorem clean1_mem {acc : List ByteArray} {p x : ByteArray} (h : x ∈ clean1 acc p) : x ∈ acc ∨ x = p := by
 unfold clean1 at h
 split at h
 ·exact Or.inl h
 ·split at h
  ·exact Or.inl h
  ·split at h
   ·exact Or.inl (List.mem_of_mem_take h)
   ·rcases List.mem_append.1 h with h | h
    ·exact Or.inl h
    ·exact Or.inr (List.mem_singleton.1 h)
theorem clean1_len (acc : List ByteArray) (p : ByteArray) : (clean1 acc p).length ≤ acc.length + 1 := by
 unfold clean1
 split
 ·omega
 ·split
  ·omega
  ·split
   ·rw [List.length_take]; omega
   ·simp
theorem cleanF_mem : ∀ {ps acc : List ByteArray} {x : ByteArray}, x ∈ ps.foldl clean1 acc → x ∈ acc ∨ x ∈ ps
 | [], acc, x, h => Or.inl h
 | p :: ps, acc, x, h => by
  rw [List.foldl_cons] at h
  rcases cleanF_mem h with h | h
  ·rcases clean1_mem h with h | h
   ·exact Or.inl h
   ·exact Or.inr (by rw [h]; exact List.mem_cons_self)
  ·exact Or.inr (List.mem_cons_of_mem _ h)
theorem cleanF_len : ∀ (ps acc : List ByteArray), (ps.foldl clean1 acc).length ≤ acc.length + ps.length
 | [], acc => by simp
 | p :: ps, acc => by
  rw [List.foldl_cons]
  have := cleanF_len ps (clean1 acc p)
  have := clean1_len acc p
  simp only [List.length_cons]; omega
end Go.Proofs.YtgjfegfopjfdpaaGreatDoor.Ad
end
section
namespace Go.Proofs.YtgjfegfopjfdpaaGreatDoor.Ad
open Go.RowKit Go.Proofs.YtgjfegfopjfdpaaGreatDoorW.PrintWords Go.Proofs.YtgjfegfopjfdpaaGreatDoor.B
set_option linter.unusedVariables false
set_option linter.unusedSimpArgs false
def quiet (c : UInt8) : Bool := c != 35 && c != 47 && c != 63
theorem encN_quiet : ∀ n : Nat, n < 256 → (encN n).all quiet = true := by decide +kernel
theorem esc_quiet (n : Nat) : ∀ (l r : List UInt8), l.length ≤ n → esc l = some r → r.all quiet = true := by
 induction n with
 | zero =>
  intro l r hl h
  obtain rfl : l = [] := List.length_eq_zero_iff.1 (by omega)
  simp [esc] at h
  subst h
  rfl
 | succ n ih =>
  intro l r hl h
  match l, hl, h with
  | [], _, h => simp [esc] at h; subst h; rfl
  | c :: q, hl, h =>
   unfold esc at h
   split at h
   ·match q, hl, h with
    | a :: b :: q', hl, h =>
     simp only at h
     split at h
     ·rename_i x y hx hy
      obtain ⟨t, ht, rfl⟩ := Option.map_eq_some_iff.1 h
      have := ih q' t (by simp at hl; omega) ht
      have h1 := hexN_lt hx
      have h2 := hexN_lt hy
      rw [List.all_append, encN_quiet _ (by omega), this]; rfl
     ·cases h
    | [], _, h => simp at h
    | [_], _, h => simp at h
   ·obtain ⟨t, ht, rfl⟩ := Option.map_eq_some_iff.1 h
    have := ih q t (by simp at hl; omega) ht
    rw [List.all_append, encN_quiet _ c.toNat_lt, this]; rfl
theorem norm_same {s : ByteArray} (h : isNorm s = true) : escNorm s = (s, true) ∧ (L s).all quiet = true := by
 unfold isNorm at h
 rw [Bool.and_eq_true, beq_iff_eq] at h
 obtain ⟨h1, h2⟩ := h
 have e : (escNorm s).1 = s := toList_inj.1 h2
 refine ⟨Prod.ext e h1, ?_⟩
 unfold escNorm at e h1
 split at e
 ·rename_i hb
  rw [if_pos hb] at h1
  cases h1
 ·rename_i hb
  rw [if_neg hb] at h1
  cases hr : esc (L s) with
  | none => rw [hr] at h1; cases h1
  | some r =>
   rw [hr] at e
   have := esc_quiet _ _ _ (Nat.le_refl _) hr
   rw [show L s = r from by rw [← e]; exact L_of r]
   exact this
theorem quiet_not {l : List UInt8} (h : l.all quiet = true) : (35 : UInt8) ∉ l ∧ (47 : UInt8) ∉ l ∧ (63 : UInt8) ∉ l := by
 rw [List.all_eq_true] at h
 exact ⟨fun hm => absurd (h _ hm) (by decide), fun hm => absurd (h _ hm) (by decide), fun hm => absurd (h _ hm) (by decide)⟩
theorem cut_none {c : UInt8} : ∀ {l : List UInt8}, c ∉ l → cutL c l = (l, [], false)
 | [], _ => rfl
 | x :: xs, h => by
  have h1 : ¬ x = c := fun e => h (by rw [e]; exact List.mem_cons_self)
  have h2 := cut_none (l := xs) (fun hm => h (List.mem_cons_of_mem _ hm))
  unfold cutL
  rw [if_neg h1, h2]
theorem cut_some {c : UInt8} (b : List UInt8) : ∀ {l : List UInt8}, c ∉ l → cutL c (l ++ c :: b) = (l, b, true)
 | [], _ => by rw [List.nil_append]; unfold cutL; rw [if_pos rfl]
 | x :: xs, h => by
  have h1 : ¬ x = c := fun e => h (by rw [e]; exact List.mem_cons_self)
  have h2 := cut_some b (l := xs) (fun hm => h (List.mem_cons_of_mem _ hm))
  rw [List.cons_append]
  unfold cutL
  rw [if_neg h1, h2]
def bodyL (ps : List ByteArray) : List UInt8 := ps.flatMap fun p => 47 :: L p
theorem split_body : ∀ (ps : List ByteArray) (a : List UInt8), (47 : UInt8) ∉ a → (∀ p ∈ ps, (47 : UInt8) ∉ L p) → splitL 47 (a ++ bodyL ps) = a :: ps.map L
 | [], a, ha, _ => by
  rw [show a ++ bodyL [] = a from List.append_nil a, splitL_eq, cut_none ha]; rfl
 | p :: ps, a, ha, hp => by
  rw [show a ++ bodyL (p :: ps) = a ++ 47 :: (L p ++ bodyL ps) from rfl, splitL_eq, cut_some _ ha]
  have := split_body ps (L p) (hp p List.mem_cons_self) (fun q hq => hp q (List.mem_cons_of_mem _ hq))
  simp only [if_true, this, List.map_cons]
theorem L_foldB : ∀ (r : List ByteArray) (acc : ByteArray), L (r.foldl (fun a q => (a ++ ⟨#[47]⟩) ++ q) acc) = L acc ++ bodyL r
 | [], acc => (List.append_nil _).symm
 | q :: r, acc => by
  rw [List.foldl_cons, L_foldB r, L_app, L_app]
  show L acc ++ [47] ++ L q ++ bodyL r = L acc ++ (47 :: L q ++ bodyL r)
  simp
def shown (ps : List ByteArray) : List ByteArray := match ps with
 | [] => [⟨#[]⟩]
 | p :: r => p :: r
theorem L_bodyB : ∀ ps : List ByteArray, L (body ps) = bodyL (shown ps)
 | [] => rfl
 | p :: r => by
  show L (r.foldl (fun a q => (a ++ ⟨#[47]⟩) ++ q) ((⟨#[47]⟩ : ByteArray) ++ p)) = bodyL (p :: r)
  rw [L_foldB, L_app]; rfl
theorem shown_not {ps : List ByteArray} (c : UInt8) (h : ∀ p ∈ ps, c ∉ L p) : ∀ p ∈ shown ps, c ∉ L p := by
 cases ps with
 | nil => intro p hp; rw [List.mem_singleton.1 hp]; simp [L]
 | cons q r => exact h
theorem bodyL_not {c : UInt8} (hc : c ≠ 47) {ps : List ByteArray} (h : ∀ p ∈ ps, c ∉ L p) : c ∉ bodyL ps := by
 intro hm
 obtain ⟨p, hp, hq⟩ := List.mem_flatMap.1 hm
 rcases List.mem_cons.1 hq with e | hq
 ·exact hc e
 ·exact h p hp hq
theorem L_path (ps : List ByteArray) (asks : Bool) (ask : ByteArray) : L (pathB ps asks ask) = if asks = true then bodyL (shown ps) ++ 63 :: L ask else bodyL (shown ps) := by
 unfold pathB
 split
 ·rw [L_app, L_app, L_bodyB]
  show bodyL (shown ps) ++ [63] ++ L ask = _
  simp
 ·exact L_bodyB ps
theorem small_at (s : ByteArray) : ∀ (d i : Nat), smallFrom s d i = true → ∀ j, i ≤ j → j < i + d → 97 ≤ bt s j ∧ bt s j ≤ 122
 | 0, i, _, j, h1, h2 => by omega
 | d + 1, i, h, j, h1, h2 => by
  unfold smallFrom at h
  split at h
  ·cases h
  ·split at h
   ·cases h
   ·by_cases e : j = i
    ·subst e; omega
    ·exact small_at s d (i + 1) h j (by omega) (by omega)
theorem house_mem {h : ByteArray} (hh : isHouse h = true) : ∀ c ∈ L h, 97 ≤ c.toNat ∧ c.toNat ≤ 122 := by
 unfold isHouse isSmall at hh
 rw [Bool.and_eq_true] at hh
 intro c hc
 obtain ⟨j, hj, e⟩ := List.mem_iff_getElem.1 hc
 have hj' : j < h.size := by rw [← L_size]; exact hj
 have := small_at h h.size 0 hh.2 j (by omega) (by omega)
 rw [bt_L, List.getD_eq_getElem?_getD, List.getElem?_eq_getElem hj] at this
 simp only [Option.getD_some, e] at this
 omega
theorem houseL_stop (r : List UInt8) (hr : ∃ x xs, r = x :: xs ∧ x = 47) : ∀ l : List UInt8, (∀ c ∈ l, 97 ≤ c.toNat ∧ c.toNat ≤ 122) → houseL (l ++ r) = (l, r)
 | [], _ => by
  obtain ⟨x, xs, rfl, hx⟩ := hr
  rw [List.nil_append]
  unfold houseL
  rw [if_pos (Or.inl hx)]
 | y :: l, h => by
  have hy := h y List.mem_cons_self
  have ih := houseL_stop r hr l (fun c hc => h c (List.mem_cons_of_mem _ hc))
  rw [List.cons_append]
  unfold houseL
  rw [if_neg (fun e => by rcases e with rfl | rfl <;> simp at hy), ih]
theorem small_same {h : ByteArray} (hh : ∀ c ∈ L h, 97 ≤ c.toNat ∧ c.toNat ≤ 122) : smallB h = h := by
 unfold smallB
 rw [show (L h).map sm = L h from by
  conv => rhs; rw [← List.map_id (L h)]
  refine List.map_congr_left (fun c hc => ?_)
  have := hh c hc
  unfold sm
  rw [if_neg (by omega)]; rfl]
theorem esc_same : ∀ {ps : List ByteArray}, (∀ p ∈ ps, escNorm p = (p, true)) → escAll ps = some ps
 | [], _ => rfl
 | p :: ps, h => by
  unfold escAll
  rw [h p List.mem_cons_self, if_pos rfl, esc_same (fun q hq => h q (List.mem_cons_of_mem _ hq))]; rfl
theorem clean_same : ∀ (ps acc : List ByteArray), (∀ p ∈ ps, partOk p = true) → ps.foldl clean1 acc = acc ++ ps
 | [], acc, _ => (List.append_nil _).symm
 | p :: ps, acc, h => by
  have hp := h p List.mem_cons_self
  unfold partOk at hp
  simp only [Bool.and_eq_true, Bool.not_eq_true', beq_eq_false_iff_ne] at hp
  rw [List.foldl_cons, show clean1 acc p = acc ++ [p] from by unfold clean1; rw [if_neg hp.1.1.2, if_neg hp.1.2, if_neg hp.2], clean_same ps _ (fun q hq => h q (List.mem_cons_of_mem _ hq))]
  simp
theorem norm_nil : escNorm (⟨#[]⟩ : ByteArray) = ((⟨#[]⟩ : ByteArray), true) := rfl
theorem clean_shown {ps : List ByteArray} (h : ∀ p ∈ ps, partOk p = true) : pathClean ((⟨#[]⟩ : ByteArray) :: shown ps) = ps := by
 have e : clean1 [] (⟨#[]⟩ : ByteArray) = [] := by unfold clean1; rw [if_pos (toList_nil.2 rfl)]
 unfold pathClean
 rw [List.foldl_cons, e]
 cases ps with
 | nil => show [(⟨#[]⟩ : ByteArray)].foldl clean1 [] = []; rw [List.foldl_cons, e]; rfl
 | cons p r => exact clean_same (p :: r) [] h
theorem ok_all {h : ByteArray} {ps : List ByteArray} {asks : Bool} {ask : ByteArray} (ho : addrOk h ps asks ask = true) :
  isHouse h = true ∧ isNorm ask = true ∧ (asks = true ∨ ask = ⟨#[]⟩) ∧ (∀ p ∈ ps, partOk p = true) ∧ (textB h ps asks ask).size ≤ 60 := by
 unfold addrOk at ho
 simp only [Bool.and_eq_true, decide_eq_true_eq, Bool.or_eq_true, beq_iff_eq, List.all_eq_true] at ho
 obtain ⟨⟨⟨⟨⟨h1, h2⟩, h3⟩, h4⟩, h5⟩, h6⟩ := ho
 exact ⟨h1, h3, h4.imp id (fun e => L_inj (by show ask.data.toList = _; rw [← Lib.toList_data, e])), h5, h6⟩
theorem part_norm {p : ByteArray} (h : partOk p = true) : isNorm p = true := by
 unfold partOk at h
 simp only [Bool.and_eq_true] at h
 exact h.1.1.1
theorem way_back {h : ByteArray} {ps : List ByteArray} {asks : Bool} {ask : ByteArray} (ho : addrOk h ps asks ask = true) : wayO h [] (pathB ps asks ask) = (h, ps, asks, ask, true) := by
 obtain ⟨h1, h2, h3, h4, h5⟩ := ok_all ho
 have hq : ∀ p ∈ ps, (L p).all quiet = true := fun p hp => (norm_same (part_norm (h4 p hp))).2
 have h47 : ∀ p ∈ shown ps, (47 : UInt8) ∉ L p := shown_not 47 (fun p hp => (quiet_not (hq p hp)).2.1)
 have h63 : (63 : UInt8) ∉ bodyL (shown ps) := bodyL_not (by decide) (shown_not 63 (fun p hp => (quiet_not (hq p hp)).2.2))
 have hc : cutB 63 (pathB ps asks ask) = (ofL (bodyL (shown ps)), ask, asks) := by
  unfold cutB
  rw [L_path]
  cases asks with
  | true => rw [if_pos rfl, cut_some _ h63, of_L]
  | false =>
   rw [if_neg (by decide), cut_none h63]
   rcases h3 with h3 | h3
   ·cases h3
   ·rw [h3]
 have hs := split_body (shown ps) [] (by simp) h47
 rw [List.nil_append] at hs
 have hm : ((splitL 47 (L (ofL (bodyL (shown ps))))).map ofL) = (⟨#[]⟩ : ByteArray) :: shown ps := by
  rw [L_of, hs, List.map_cons, List.map_map, show (ofL ∘ L : ByteArray → ByteArray) = id from funext fun x => of_L x, List.map_id]
 have hn : ∀ p ∈ shown ps, escNorm p = (p, true) := by
  cases ps with
  | nil => intro p hp; rw [List.mem_singleton.1 hp]; exact norm_nil
  | cons q r => exact fun p hp => (norm_same (part_norm (h4 p hp))).1
 have he : escAll ((⟨#[]⟩ : ByteArray) :: shown ps) = some ((⟨#[]⟩ : ByteArray) :: shown ps) := esc_same (fun p hp => by
  rcases List.mem_cons.1 hp with e | hp
  ·rw [e]; exact norm_nil
  ·exact hn p hp)
 unfold wayO
 rw [hc]
 simp only
 rw [hm, he]
 simp only [List.nil_append, (norm_same h2).1, clean_shown h4, ho, if_true]
theorem L_text (h : ByteArray) (ps : List ByteArray) (asks : Bool) (ask : ByteArray) : L (textB h ps asks ask) = 47 :: 47 :: (L h ++ L (pathB ps asks ask)) := by
 unfold textB
 rw [L_app, L_app]
 show [47, 47] ++ L h ++ L (pathB ps asks ask) = _
 simp
theorem whole_back {h : ByteArray} {ps : List ByteArray} {asks : Bool} {ask : ByteArray} (ho : addrOk h ps asks ask = true) :
  (textB h ps asks ask).size ≤ 60 ∧ (cutB 35 (textB h ps asks ask)).1 = textB h ps asks ask ∧ 2 ≤ (textB h ps asks ask).size ∧ (L (textB h ps asks ask)).take 2 = [47, 47] ∧
  wholeO ((textB h ps asks ask).extract 2 (textB h ps asks ask).size) = (h, ps, asks, ask, true) := by
 obtain ⟨h1, h2, h3, h4, h5⟩ := ok_all ho
 have hm := house_mem h1
 have hq : ∀ p ∈ ps, (L p).all quiet = true := fun p hp => (norm_same (part_norm (h4 p hp))).2
 have hx : ∃ x xs, L (pathB ps asks ask) = x :: xs ∧ x = 47 := by
  rw [L_path]
  cases ps <;> cases asks <;> exact ⟨_, _, rfl, rfl⟩
 have hst := houseL_stop _ hx (L h) hm
 have h35 : (35 : UInt8) ∉ L (textB h ps asks ask) := by
  rw [L_text]
  intro hc
  rcases List.mem_cons.1 hc with e | hc
  ·cases e
  rcases List.mem_cons.1 hc with e | hc
  ·cases e
  rcases List.mem_append.1 hc with hc | hc
  ·have := hm _ hc; simp at this
  ·have hb : (35 : UInt8) ∉ bodyL (shown ps) := bodyL_not (by decide) (shown_not 35 (fun p hp => (quiet_not (hq p hp)).1))
   rw [L_path] at hc
   split at hc
   ·rcases List.mem_append.1 hc with hc | hc
    ·exact hb hc
    ·rcases List.mem_cons.1 hc with e | hc
     ·cases e
     ·exact (quiet_not (norm_same h2).2).1 hc
   ·exact hb hc
 have hsz : 2 ≤ (textB h ps asks ask).size := by rw [← L_size, L_text]; simp
 have hex : L ((textB h ps asks ask).extract 2 (textB h ps asks ask).size) = L h ++ L (pathB ps asks ask) := by
  rw [L_ext, ← L_size, L_text]
  simp
  exact List.take_of_length_le (by rw [List.length_append, L_size, L_size]; omega)
 refine ⟨h5, ?_, hsz, by rw [L_text]; rfl, ?_⟩
 ·unfold cutB
  rw [cut_none h35]
 ·unfold wholeO
  rw [hex, hst]
  simp only [of_L, small_same hm]
  exact way_back ho
end Go.Proofs.YtgjfegfopjfdpaaGreatDoor.Ad
end
section
namespace Go.Proofs.YtgjfegfopjfdpaaGreatDoor.Ad
open Go.RowKit Go.Proofs.YtgjfegfopjfdpaaGreatDoorW.PrintWords Go.Proofs.YtgjfegfopjfdpaaGreatDoor.B Go.Proofs.YtgjfegfopjfdpaaGreatDoor.Mk
set_option linter.unusedVariables false
set_option linter.unusedSimpArgs false
def calm (c : UInt8) : Bool := c != 62
theorem encN_calm : ∀ n : Nat, n < 256 → (encN n).all calm = true := by decide +kernel
theorem esc_calm (n : Nat) : ∀ (l r : List UInt8), l.length ≤ n → esc l = some r → r.all calm = true := by
 induction n with
 | zero =>
  intro l r hl h
  obtain rfl : l = [] := List.length_eq_zero_iff.1 (by omega)
  simp [esc] at h
  subst h
  rfl
 | succ n ih =>
  intro l r hl h
  match l, hl, h with
  | [], _, h => simp [esc] at h; subst h; rfl
  | c :: q, hl, h =>
   unfold esc at h
   split at h
   ·match q, hl, h with
    | a :: b :: q', hl, h =>
     simp only at h
     split at h
     ·rename_i x y hx hy
      obtain ⟨t, ht, rfl⟩ := Option.map_eq_some_iff.1 h
      have := ih q' t (by simp at hl; omega) ht
      have h1 := hexN_lt hx
      have h2 := hexN_lt hy
      rw [List.all_append, encN_calm _ (by omega), this]; rfl
     ·cases h
    | [], _, h => simp at h
    | [_], _, h => simp at h
   ·obtain ⟨t, ht, rfl⟩ := Option.map_eq_some_iff.1 h
    have := ih q t (by simp at hl; omega) ht
    rw [List.all_append, encN_calm _ c.toNat_lt, this]; rfl
theorem norm_calm {s : ByteArray} (h : isNorm s = true) : (62 : UInt8) ∉ L s := by
 have hs := (norm_same h).1
 unfold escNorm at hs
 split at hs
 ·cases hs
 ·cases hr : esc (L s) with
  | none => rw [hr] at hs; cases hs
  | some r =>
   rw [hr] at hs
   have e : ofL r = s := congrArg Prod.fst hs
   have := esc_calm _ _ _ (Nat.le_refl _) hr
   rw [show L s = r from by rw [← e]]
   exact fun hm => absurd (List.all_eq_true.1 this _ hm) (by decide)
theorem text_calm {h : ByteArray} {ps : List ByteArray} {asks : Bool} {ask : ByteArray} (ho : addrOk h ps asks ask = true) : (62 : UInt8) ∉ L (textB h ps asks ask) := by
 obtain ⟨h1, h2, h3, h4, h5⟩ := ok_all ho
 have hm := house_mem h1
 have hb : (62 : UInt8) ∉ bodyL (shown ps) := bodyL_not (by decide) (shown_not 62 (fun p hp => norm_calm (part_norm (h4 p hp))))
 rw [L_text]
 intro hc
 rcases List.mem_cons.1 hc with e | hc
 ·cases e
 rcases List.mem_cons.1 hc with e | hc
 ·cases e
 rcases List.mem_append.1 hc with hc | hc
 ·have := hm _ hc; simp at this
 ·rw [L_path] at hc
  split at hc
  ·rcases List.mem_append.1 hc with hc | hc
   ·exact hb hc
   ·rcases List.mem_cons.1 hc with e | hc
    ·cases e
    ·exact norm_calm h2 hc
  ·exact hb hc
theorem pm_one (c m : ByteArray) (hL : L c = 60 :: (L m ++ [62])) (hm : (62 : UInt8) ∉ L m) : pmTo c c.size = ([m], 0, 1) := by
 have hz : c.size = m.size + 2 := by rw [← L_size, hL]; simp [L_size]
 have run : ∀ k, k ≤ m.size → pmTo c (k + 1) = ([], 1, 1) := by
  intro k
  induction k with
  | zero =>
   intro _
   have : bt c ((0 : Nat) : Int) = 60 := by rw [bt_L, hL]; rfl
   show pmStep c 0 [] 0 0 = _
   unfold pmStep
   rw [if_neg (by decide), if_neg (by decide), if_pos this]
  | succ k ih =>
   intro hk
   have hk' : k < (L m).length := by rw [L_size]; omega
   have hne : ¬ (bt c ((k + 1 : Nat) : Int) = 62) := by
    rw [bt_L, hL, List.getD_eq_getElem?_getD, List.getElem?_cons_succ, List.getElem?_append_left hk', List.getElem?_eq_getElem hk']
    intro e
    apply hm
    have e' : (((L m)[k]).toNat : Int) = 62 := by simpa using e
    have : (L m)[k] = 62 := UInt8.toNat_inj.1 (by show ((L m)[k]).toNat = 62; omega)
    rw [← this]; exact List.getElem_mem hk'
   show pmStep c (k + 1) (pmTo c (k + 1)).1 (pmTo c (k + 1)).2.1 (pmTo c (k + 1)).2.2 = _
   rw [ih (by omega)]
   unfold pmStep
   rw [if_pos rfl, if_neg hne]
 have last : bt c ((m.size + 1 : Nat) : Int) = 62 := by
  rw [bt_L, hL, List.getD_eq_getElem?_getD, List.getElem?_cons_succ, List.getElem?_append_right (by rw [L_size]; omega), L_size, Nat.sub_self]; rfl
 rw [hz]
 show pmStep c (m.size + 1) (pmTo c (m.size + 1)).1 (pmTo c (m.size + 1)).2.1 (pmTo c (m.size + 1)).2.2 = _
 rw [run m.size (Nat.le_refl _)]
 unfold pmStep
 rw [if_pos rfl, if_pos last]
 have : c.extract 1 (m.size + 1) = m := by
  apply L_inj
  rw [L_ext, hL]
  simp
 rw [this]; rfl
end Go.Proofs.YtgjfegfopjfdpaaGreatDoor.Ad
end
section
namespace Go.Proofs.YtgjfegfopjfdpaaGreatDoor.Draw
open Go.RowKit Go.Proofs.YtgjfegfopjfdpaaGreatDoor.P Go.Proofs.YtgjfegfopjfdpaaGreatDoorW.PrintWords Go.Proofs.YtgjfegfopjfdpaaGreatDoorW.PrintLast Go.Proofs.YtgjfegfopjfdpaaGreatDoorW.PrintMore Go.Proofs.YtgjfegfopjfdpaaGreatDoor.B
set_option linter.unusedVariables false
set_option linter.unusedSimpArgs false
structure Code (b : List Int) : Prop where
 byte : ∀ x ∈ b, 0 ≤ x ∧ x ≤ 255
 short : b.length ≤ 2000
theorem open_some (l0 : List Int) (hw : ∀ x ∈ l0, (Lit.int .u8 x).wf = true) : ∃ b, spec_l6Open.f l0 = some (b, 0) ∧ Code b := by
 unfold spec_l6Open.f
 by_cases h : (l0.length : Int) > 2000
 ·rw [if_pos h, if_pos (by omega)]
  exact ⟨_, rfl, fun x hx => wf_u8 (hw x (List.mem_of_mem_take hx)), by rw [List.length_take]; omega⟩
 ·rw [if_neg h]
  exact ⟨_, rfl, fun x hx => wf_u8 (hw x hx), by omega⟩
theorem pick_one {b : List Int} (hc : Code b) (k : Nat) (p n : Int) (hp : 0 ≤ p) (hp2 : p ≤ 1000000000000) :
  ∃ v, spec_l6Rd_pick.f (k + 1) b p n = some (v, p + 1) ∧ 0 ≤ v ∧ (1 ≤ n → v < n) := by
 have hl := hc.short
 have e1 : wrap64 (p + 1) = p + 1 := w64 (by omega) (by omega)
 have e2 : wrap64 (p + 1 - 1) = p := by rw [w64 (by omega) (by omega)]; omega
 unfold spec_l6Rd_pick.f
 rw [e1]
 by_cases h1 : n < 1
 ·rw [if_pos h1]
  exact ⟨0, by simp [spec_l6Rd_pick.j0], by omega, by omega⟩
 ·rw [if_neg h1]
  simp only [spec_l6Rd_pick.j0, e2]
  by_cases h2 : (b.length : Int) = 0
  ·rw [if_pos (by simpa using h2)]
   exact ⟨0, rfl, by omega, by omega⟩
  ·rw [if_neg (by simpa using h2)]
   by_cases h3 : p < (b.length : Int)
   ·rw [if_pos h3, if_pos hp, if_neg (by omega)]
    have hr := rd_byte hc.byte p
    rw [w64 (by omega) (by omega)]
    exact ⟨_, rfl, (tmod_nn hr.1 (by omega)).1, fun _ => (tmod_nn hr.1 (by omega)).2⟩
   ·rw [if_neg h3, if_neg h2]
    have hq := tmod_nn (a := p) (b := (b.length : Int)) hp (by omega)
    have ew1 : wrap64 (p * 7) = p * 7 := w64 (by omega) (by omega)
    have ew2 : wrap64 (p * 7 + 3) = p * 7 + 3 := w64 (by omega) (by omega)
    have hq2 := tmod_nn (a := p * 7 + 3) (b := (b.length : Int)) (by omega) (by omega)
    rw [if_pos hq.1, if_pos hq.2, ew1, ew2, if_pos hq2.1, if_pos hq2.2, if_neg (by omega)]
    have r1 := rd_byte hc.byte (Int.tmod p (b.length : Int))
    have r2 := rd_byte hc.byte (Int.tmod (p * 7 + 3) (b.length : Int))
    generalize rd b (Int.tmod p (b.length : Int)) = a1 at r1 ⊢
    generalize rd b (Int.tmod (p * 7 + 3) (b.length : Int)) = a2 at r2 ⊢
    have r3 := tdiv_nn (a := p) (b := (b.length : Int)) hp (by omega)
    generalize Int.tdiv p (b.length : Int) = q at r3 ⊢
    have s1 : wrap64 a1 = a1 := w64 (by omega) (by omega)
    have s2 : wrap64 a2 = a2 := w64 (by omega) (by omega)
    have s3 : wrap64 (a1 * 131) = a1 * 131 := w64 (by omega) (by omega)
    have s4 : wrap64 (a2 * 1117) = a2 * 1117 := w64 (by omega) (by omega)
    have s5 : wrap64 (p * 29) = p * 29 := w64 (by omega) (by omega)
    have s6 : wrap64 q = q := w64 (by omega) (by omega)
    have s7 : wrap64 (q * 53) = q * 53 := w64 (by omega) (by omega)
    have s8 : wrap64 (a1 * 131 + a2 * 1117) = a1 * 131 + a2 * 1117 := w64 (by omega) (by omega)
    have s9 : wrap64 (a1 * 131 + a2 * 1117 + p * 29) = a1 * 131 + a2 * 1117 + p * 29 := w64 (by omega) (by omega)
    have s10 : wrap64 (a1 * 131 + a2 * 1117 + p * 29 + q * 53) = a1 * 131 + a2 * 1117 + p * 29 + q * 53 := w64 (by omega) (by omega)
    simp only [s1, s2, s3, s4, s5, s6, s7, s8, s9, s10]
    have hX0 : 0 ≤ a1 * 131 + a2 * 1117 + p * 29 + q * 53 := by omega
    have hX1 : a1 * 131 + a2 * 1117 + p * 29 + q * 53 < 2 ^ 62 := by omega
    generalize a1 * 131 + a2 * 1117 + p * 29 + q * 53 = X at hX0 hX1 ⊢
    have d := tdiv_nn (a := X) (b := 64) hX0 (by omega)
    have s11 : wrap64 (Int.tdiv X 64) = Int.tdiv X 64 := w64 (by omega) (by omega)
    rw [s11]
    have z := xor_nn hX0 hX1 d.1 (by omega)
    exact ⟨_, rfl, (tmod_nn z.1 (by omega)).1, fun _ => (tmod_nn z.1 (by omega)).2⟩
theorem pick_ev {b : List Int} (hc : Code b) (p n : Int) (hp : 0 ≤ p) (hp2 : p ≤ 1000000000000) :
  ∃ v, Ev (fun k => spec_l6Rd_pick.f k b p n) (v, p + 1) ∧ 0 ≤ v ∧ (1 ≤ n → v < n) := by
 obtain ⟨v, h, h0, h1⟩ := pick_one hc 0 p n hp hp2
 exact ⟨v, Ev.of (fun k => spec_l6Rd_pick.mono _ _ _ k) h, h0, h1⟩
end Go.Proofs.YtgjfegfopjfdpaaGreatDoor.Draw
end
section
namespace Go.Proofs.YtgjfegfopjfdpaaGreatDoor.Draw
open Go.RowKit Go.Proofs.YtgjfegfopjfdpaaGreatDoor.P Go.Proofs.YtgjfegfopjfdpaaGreatDoorW.PrintWords Go.Proofs.YtgjfegfopjfdpaaGreatDoorW.PrintLast Go.Proofs.YtgjfegfopjfdpaaGreatDoorW.PrintMore Go.Proofs.YtgjfegfopjfdpaaGreatDoor.B
set_option linter.unusedVariables false
set_option linter.unusedSimpArgs false
theorem of_ev {b : List Int} (hc : Code b) (p : Int) (l : List ByteArray) (hl : l ≠ []) (hl2 : (l.length : Int) < 1000000) (hp : 0 ≤ p) (hp2 : p ≤ 1000000000000) :
  ∃ s, Ev (fun k => spec_l6Rd_of.f k b p l) (s, p + 1) ∧ s ∈ l := by
 have hpos : 0 < l.length := List.length_pos_iff.2 hl
 obtain ⟨v, h, h0, h1⟩ := pick_ev hc p (l.length : Int) hp hp2
 have hv := h1 (by omega)
 refine ⟨rdOf ByteArray.empty l v, Ev.bind h ?_, ?_⟩
 ·simp only [h0, hv, if_true]
  exact Ev.now _
 ·unfold rdOf
  have hlt : v.toNat < l.length := by omega
  rw [List.getD_eq_getElem?_getD, List.getElem?_eq_getElem hlt]
  exact List.getElem_mem hlt
end Go.Proofs.YtgjfegfopjfdpaaGreatDoor.Draw
end
section
namespace Go.Proofs.YtgjfegfopjfdpaaGreatDoor.Ad
open Go.RowKit Go.Proofs.YtgjfegfopjfdpaaGreatDoor.P Go.Proofs.YtgjfegfopjfdpaaGreatDoorW.PrintWords Go.Proofs.YtgjfegfopjfdpaaGreatDoorW.PrintLast Go.Proofs.YtgjfegfopjfdpaaGreatDoorW.PrintMore Go.Proofs.YtgjfegfopjfdpaaGreatDoor.B
set_option linter.unusedVariables false
set_option linter.unusedSimpArgs false
theorem hex_all : ∀ n : Nat, n < 256 → spec_l1Hex.f 2 (n : Int) = some (match hexN (UInt8.ofNat n) with | some x => (x : Int) | none => -1) := by decide +kernel
theorem plain_all : ∀ n : Nat, n < 256 → spec_l1Plain.f (n : Int) = some (plainB (UInt8.ofNat n)) := by decide +kernel
theorem sign_all : ∀ n : Nat, n < 256 → (spec_l1Sign.f (n : Int)).map L = some [37, fig (n / 16), fig (n % 16)] := by decide +kernel
theorem of_toNat (c : UInt8) : UInt8.ofNat c.toNat = c := UInt8.ofNat_toNat
theorem hex_ev (c : UInt8) : Ev (fun k => spec_l1Hex.f k (c.toNat : Int)) (match hexN c with | some x => (x : Int) | none => -1) := by
 refine Ev.of (fun k => spec_l1Hex.mono _ k) (k := 2) ?_
 have := hex_all c.toNat c.toNat_lt
 rwa [of_toNat] at this
theorem sign_f (n : Nat) (h : n < 256) : spec_l1Sign.f (n : Int) = some (ofL [37, fig (n / 16), fig (n % 16)]) := by
 have := sign_all n h
 obtain ⟨s, hs, e⟩ := Option.map_eq_some_iff.1 this
 rw [hs, ← e, of_L]
theorem nums_one (n : Nat) (h : n < 256) : strOfNums [(n : Int) % 256] = ofL [UInt8.ofNat n] := by
 unfold strOfNums ofL
 simp only [List.map_cons, List.map_nil, ByteArray.mk.injEq]
 congr 2
 rw [show ((n : Int) % 256) = (n : Int) from by omega]
 simp
theorem enc_ev (s acc : ByteArray) (i n : Nat) (h : n < 256) (hi : i < 1000000) (ha : acc.size ≤ 1000000) {r : ByteArray × Bool}
  (H : Ev (fun k => spec_EscNorm.l0 k s (acc ++ ofL (encN n)) (i + 1 : Nat)) r) : Ev (fun k => spec_EscNorm.j2 k s acc (i : Int) (n : Int)) r := by
 refine Ev.step (fun k => ?_) H
 have hw : wrap64 ((i : Int) + 1) = ((i + 1 : Nat) : Int) := by rw [w64 (by omega) (by omega)]; omega
 simp only [spec_EscNorm.j2]
 rw [show ((n : Int) % 256) = (n : Int) from by omega, plain_all n h]
 simp only [Option.bind_some]
 by_cases hp : plainB (UInt8.ofNat n) = true
 ·have e := nums_one n h
  rw [show ((n : Int) % 256) = (n : Int) from by omega] at e
  have he : encN n = [UInt8.ofNat n] := by unfold encN; rw [if_pos hp]
  have hz := ofL_size [UInt8.ofNat n]
  rw [if_pos hp, e, if_pos (by simp at hz; omega), hw, he]
 ·have he : encN n = [37, fig (n / 16), fig (n % 16)] := by unfold encN; rw [if_neg hp]
  rw [if_neg hp, sign_f n h]
  simp only [Option.bind_some]
  have hz := ofL_size [37, fig (n / 16), fig (n % 16)]
  rw [if_pos (by simp at hz; omega), hw, he]
theorem drop_at {l : List UInt8} {i : Nat} (h : i < l.length) : l.drop i = l[i] :: l.drop (i + 1) := List.drop_eq_getElem_cons h
theorem bt_get (s : ByteArray) (i : Nat) (h : i < (L s).length) : bt s i = (((L s)[i]).toNat : Int) := by
 rw [bt_L, List.getD_eq_getElem?_getD, List.getElem?_eq_getElem h]; rfl
theorem app_nil (a : ByteArray) : a ++ ofL [] = a := by apply L_inj; rw [L_app, L_of, List.append_nil]
def escR (acc : ByteArray) (o : Option (List UInt8)) : ByteArray × Bool := match o with
 | some r => (acc ++ ofL r, true)
 | none => (⟨#[]⟩, false)
theorem escR_map (acc : ByteArray) (x : List UInt8) (o : Option (List UInt8)) : escR acc (o.map (x ++ ·)) = escR (acc ++ ofL x) o := by
 cases o with
 | none => rfl
 | some r => simp only [escR, Option.map_some, ofL_app, ByteArray.append_assoc]
theorem esc_l (s : ByteArray) (hs : s.size ≤ 60) (n : Nat) : ∀ (i : Nat) (acc : ByteArray), i ≤ s.size → s.size - i ≤ n → acc.size ≤ 3 * i →
  Ev (fun k => spec_EscNorm.l0 k s acc (i : Int)) (escR acc (esc ((L s).drop i))) := by
 have hL := L_size s
 induction n with
 | zero =>
  intro i acc hi hn ha
  refine Ev.of (fun k => spec_EscNorm.mono_l k |>.1 _ _ _) (k := 1) ?_
  simp only [spec_EscNorm.l0]
  rw [if_neg (by omega), List.drop_eq_nil_of_le (by omega)]
  simp only [esc, escR]
  rw [app_nil]
 | succ n ih =>
  intro i acc hi hn ha
  by_cases hlt : i < s.size
  ·have hlt' : i < (L s).length := by omega
   rw [drop_at hlt']
   have hb := bt_get s i hlt'
   by_cases hc : (L s)[i] = 37
   ·have hb37 : bt s i = 37 := by rw [hb, hc]; rfl
    have w2 : wrap64 ((i : Int) + 2) = ((i + 2 : Nat) : Int) := by rw [w64 (by omega) (by omega)]; omega
    have w1 : wrap64 ((i : Int) + 1) = ((i + 1 : Nat) : Int) := by rw [w64 (by omega) (by omega)]; omega
    rw [hc]
    by_cases h2 : i + 2 < s.size
    ·have g1 : i + 1 < (L s).length := by omega
     have g2 : i + 2 < (L s).length := by omega
     rw [drop_at g1, drop_at g2]
     have b1 := bt_get s (i + 1) g1
     have b2 := bt_get s (i + 2) g2
     have q1 := hex_ev (L s)[i + 1]
     have q2 := hex_ev (L s)[i + 2]
     have l1 := @hexN_lt (L s)[i + 1]
     have l2 := @hexN_lt (L s)[i + 2]
     generalize (L s)[i + 1] = ca at b1 q1 l1 ⊢
     generalize (L s)[i + 2] = cb at b2 q2 l2 ⊢
     have e3 : i + 2 + 1 = i + 3 := rfl
     have bad : Ev (fun k => spec_EscNorm.j1 k s acc (i : Int) true) ((⟨#[]⟩ : ByteArray), false) :=
      Ev.of (fun k => spec_EscNorm.mono_l k |>.2.2 _ _ _ _) (k := 1) (by simp [spec_EscNorm.j1])
     refine Ev.step (f := fun k => (spec_l1Hex.f k (ca.toNat : Int)).bind fun t => if t < 0 then spec_EscNorm.j1 k s acc (i : Int) true else (spec_l1Hex.f k (cb.toNat : Int)).bind fun t2 => spec_EscNorm.j1 k s acc (i : Int) (decide (t2 < 0))) (fun k => ?_) ?_
     ·simp only [spec_EscNorm.l0]
      rw [if_pos (by omega), if_pos (by omega), if_pos hb37, w2, w1, if_neg (by omega), if_pos (by omega), if_pos (by omega), b1]
      congr 1
      funext t
      by_cases ht : t < 0
      ·rw [if_pos ht, if_pos ht]
      ·rw [if_neg ht, if_neg ht, if_pos (by omega), if_pos (by omega), b2]
     ·refine Ev.bind q1 ?_
      cases ha' : hexN ca with
      | none =>
       rw [esc_bad1 _ _ ha']
       simp only [show ((-1 : Int) < 0) from by omega, if_true]
       exact bad
      | some x =>
       have hx := l1 ha'
       simp only [show ¬ ((x : Int) < 0) from by omega, if_false]
       refine Ev.bind q2 ?_
       cases hb' : hexN cb with
       | none =>
        rw [esc_bad2 _ _ hb']
        simp only [show decide ((-1 : Int) < 0) = true from by decide]
        exact bad
       | some y =>
        have hy := l2 hb'
        simp only [show decide ((y : Int) < 0) = false from by simp]
        rw [ha'] at q1
        rw [hb'] at q2
        refine Ev.step (f := fun k => (spec_l1Hex.f k (ca.toNat : Int)).bind fun t => (spec_l1Hex.f k (cb.toNat : Int)).bind fun t2 => spec_EscNorm.j2 k s acc ((i + 2 : Nat) : Int) (wrap64 (wrap64 (t * 16) + t2))) (fun k => ?_) ?_
        ·simp only [spec_EscNorm.j1]
         rw [if_neg (by simp), w1, w2, if_pos (by omega), if_pos (by omega), b1]
         congr 1
         funext t
         rw [if_pos (by omega), if_pos (by omega), b2]
        ·refine Ev.bind q1 (Ev.bind q2 ?_)
         rw [esc_sign _ ha' hb']
         rw [show wrap64 (wrap64 ((x : Int) * 16) + (y : Int)) = ((x * 16 + y : Nat) : Int) from by rw [w64 (n := (x : Int) * 16) (by omega) (by omega), w64 (by omega) (by omega)]; omega]
         refine enc_ev s acc (i + 2) (x * 16 + y) (by omega) (by omega) (by omega) ?_
         rw [escR_map]
         exact ih (i + 2 + 1) _ (by omega) (by omega) (by have z := ofL_size (encN (x * 16 + y)); have := encN_len (x * 16 + y); rw [ByteArray.size_append]; omega)
    ·rw [esc_short (by rw [List.length_drop]; omega)]
     refine Ev.of (fun k => spec_EscNorm.mono_l k |>.1 _ _ _) (k := 2) ?_
     simp only [spec_EscNorm.l0, spec_EscNorm.j1]
     rw [if_pos (by omega), if_pos (by omega), if_pos hb37, w2, if_pos (by omega)]
     rfl
   ·have hb37 : ¬ bt s i = 37 := by
     rw [hb]
     intro e
     exact hc (UInt8.toNat_inj.1 (by have : (37 : UInt8).toNat = 37 := rfl; omega))
    rw [esc_plain _ hc]
    have hlt8 := (L s)[i].toNat_lt
    refine Ev.step (f := fun k => spec_EscNorm.j2 k s acc (i : Int) (((L s)[i].toNat : Nat) : Int)) (fun k => ?_) ?_
    ·simp only [spec_EscNorm.l0]
     rw [if_pos (by omega), if_pos (by omega), if_neg hb37, hb, w64 (by omega) (by omega)]
    ·refine enc_ev s acc i _ (by omega) (by omega) (by omega) ?_
     rw [escR_map]
     exact ih (i + 1) _ (by omega) (by omega) (by have z := ofL_size (encN (L s)[i].toNat); have := encN_len (L s)[i].toNat; rw [ByteArray.size_append]; omega)
  ·refine Ev.of (fun k => spec_EscNorm.mono_l k |>.1 _ _ _) (k := 1) ?_
   simp only [spec_EscNorm.l0]
   rw [if_neg (by omega), List.drop_eq_nil_of_le (by omega)]
   simp only [esc, escR]
   rw [app_nil]
theorem escNorm_ev (s : ByteArray) : Ev (fun k => spec_EscNorm.f k s) (escNorm s) := by
 unfold spec_EscNorm.f escNorm
 by_cases h : s.size > 60
 ·simp only [show ((s.size : Int) > 60) from by omega, if_true, h]
  exact Ev.now _
 ·simp only [show ¬ ((s.size : Int) > 60) from by omega, if_false, h]
  have := esc_l s (by omega) s.size 0 ⟨#[]⟩ (by omega) (by omega) (Nat.le_refl 0)
  simp only [List.drop_zero] at this
  have e : escR (⟨#[]⟩ : ByteArray) (esc (L s)) = escO (esc (L s)) := by
   unfold escR escO
   cases esc (L s) with
   | none => rfl
   | some r => simp only [Prod.mk.injEq, and_true]; apply L_inj; rw [L_app]; rfl
  rw [← e]
  exact this
theorem norm_ev (s : ByteArray) : Ev (fun k => spec_l1Norm.f k s) (isNorm s) := by
 unfold spec_l1Norm.f isNorm
 refine Ev.bind (escNorm_ev s) ?_
 by_cases h : (escNorm s).2 = true
 ·simp only [h, if_true, Bool.true_and]
  exact Ev.now _
 ·simp only [h, if_false, Bool.false_and]
  exact Ev.now _
end Go.Proofs.YtgjfegfopjfdpaaGreatDoor.Ad
end
section
namespace Go.Proofs.YtgjfegfopjfdpaaGreatDoor.Ad
open Go.RowKit Go.Proofs.YtgjfegfopjfdpaaGreatDoor.P Go.Proofs.YtgjfegfopjfdpaaGreatDoorW.PrintWords Go.Proofs.YtgjfegfopjfdpaaGreatDoorW.PrintLast Go.Proofs.YtgjfegfopjfdpaaGreatDoorW.PrintMore Go.Proofs.YtgjfegfopjfdpaaGreatDoor.B
set_option linter.unusedVariables false
set_option linter.unusedSimpArgs false
theorem spec_house_l (s : ByteArray) (hs : s.size ≤ 140737488351232) (d : Nat) : ∀ (k : Nat) (i : Nat), i + d = s.size → d < k →
  spec_l1House.l0 k s (i : Int) = some (smallFrom s d i && (decide (1 ≤ s.size) && decide (s.size ≤ 5))) := by
 induction d with
 | zero =>
  intro k i h hk
  obtain ⟨k, rfl⟩ : ∃ m, k = m + 1 := ⟨k - 1, by omega⟩
  simp only [spec_l1House.l0, smallFrom, spec_l6In.f]
  rw [if_neg (by omega)]
  by_cases h1 : 1 ≤ s.size
  ·rw [if_pos (by omega)]; simp [h1]; omega
  ·rw [if_neg (by omega)]; simp [h1]
 | succ d ih =>
  intro k i h hk
  obtain ⟨k, rfl⟩ : ∃ m, k = m + 1 := ⟨k - 1, by omega⟩
  simp only [spec_l1House.l0, smallFrom]
  rw [if_pos (by omega), if_pos (by omega)]
  by_cases h1 : bt s i < 97
  ·rw [if_pos h1, if_pos h1]; rfl
  ·rw [if_neg h1, if_neg h1]
   by_cases h2 : bt s i > 122
   ·rw [if_pos h2, if_pos h2]; rfl
   ·rw [if_neg h2, if_neg h2, w64 (by omega) (by omega)]
    exact ih k (i + 1) (by omega) (by omega)
theorem house_ev (s : ByteArray) (hs : s.size ≤ 140737488351232) : Ev (fun k => spec_l1House.f k s) (isHouse s) := by
 refine Ev.of (fun k => spec_l1House.mono _ k) (k := s.size + 1) ?_
 unfold spec_l1House.f
 have := spec_house_l s hs s.size (s.size + 1) 0 (by omega) (by omega)
 rw [show ((0 : Nat) : Int) = 0 from rfl] at this
 rw [this]
 unfold isHouse isSmall
 cases smallFrom s s.size 0 <;> simp
theorem rd_at {l : List ByteArray} {i : Nat} (h : i < l.length) : rdOf ByteArray.empty l (i : Int) = l[i] := by
 unfold rdOf
 rw [List.getD_eq_getElem?_getD, Int.toNat_natCast, List.getElem?_eq_getElem h]
 rfl
structure Parts (ps : List ByteArray) : Prop where
 few : ps.length ≤ 1000
 short : ∀ p ∈ ps, p.size ≤ 1048576
def fin (asks : Bool) (ask b : ByteArray) : ByteArray := if asks = true then (b ++ ⟨#[63]⟩) ++ ask else b
theorem path_end (acc house : ByteArray) (parts : List ByteArray) (asks : Bool) (ask : ByteArray) (i : Nat) (hi : i = parts.length) (ha : acc.size ≤ 2000000000) (hq : ask.size ≤ 1048576) :
  Ev (fun k => spec_l1Path.l0 k acc (i : Int) house parts asks ask) (fin asks ask acc) := by
 refine Ev.of (fun k => spec_l1Path.mono_l k _ _ _ _ _ _) (k := 1) ?_
 simp only [spec_l1Path.l0, fin]
 rw [if_neg (by omega)]
 by_cases h : asks = true
 ·rw [if_pos h, if_pos h, if_pos (by omega), if_pos (by omega)]
 ·rw [if_neg h, if_neg h]
theorem path_l (house : ByteArray) (parts : List ByteArray) (asks : Bool) (ask : ByteArray) (hP : Parts parts) (hq : ask.size ≤ 1048576) (d : Nat) : ∀ (i : Nat) (acc : ByteArray), i + d = parts.length → 1 ≤ i → (acc.size : Int) ≤ 1 + (i : Int) * 1048577 →
  Ev (fun k => spec_l1Path.l0 k acc (i : Int) house parts asks ask) (fin asks ask ((parts.drop i).foldl (fun a q => (a ++ ⟨#[47]⟩) ++ q) acc)) := by
 have hf := hP.few
 induction d with
 | zero =>
  intro i acc hi _ ha
  rw [List.drop_eq_nil_of_le (by omega)]
  exact path_end acc house parts asks ask i (by omega) (by omega) hq
 | succ d ih =>
  intro i acc hi h1 ha
  have hlt : i < parts.length := by omega
  have hz := hP.short parts[i] (List.getElem_mem hlt)
  rw [List.drop_eq_getElem_cons hlt, List.foldl_cons]
  have h47 : (⟨#[47]⟩ : ByteArray).size = 1 := rfl
  have hsz : ((acc ++ (⟨#[47]⟩ : ByteArray)) ++ parts[i]).size = acc.size + 1 + parts[i].size := by rw [ByteArray.size_append, ByteArray.size_append, h47]
  have f1 : (i : Int) < (parts.length : Int) := by omega
  have f2 : (i : Int) > 0 := by omega
  have f3 : acc.size + 1 ≤ 9223372036854775807 := by omega
  have f4 : 0 ≤ (i : Int) := by omega
  have f5 : acc.size + 1 + parts[i].size ≤ 9223372036854775807 := by omega
  have hw : wrap64 ((i : Int) + 1) = ((i + 1 : Nat) : Int) := by rw [w64 (by omega) (by omega)]; omega
  have h := ih (i + 1) ((acc ++ (⟨#[47]⟩ : ByteArray)) ++ parts[i]) (by omega) (by omega) (by rw [hsz]; omega)
  refine Ev.step (fun k => ?_) h
  simp only [spec_l1Path.l0]
  rw [if_pos f1, if_pos f2, if_pos f3, if_pos f4, rd_at hlt, if_pos f5, hw]
theorem path_ev (house : ByteArray) (parts : List ByteArray) (asks : Bool) (ask : ByteArray) (hP : Parts parts) (hq : ask.size ≤ 1048576) :
  Ev (fun k => spec_l1Path.f k house parts asks ask) (pathB parts asks ask) := by
 unfold spec_l1Path.f
 match parts, hP with
 | [], hP =>
  have := path_end ⟨#[47]⟩ house [] asks ask 0 rfl (by decide) hq
  exact this
 | p :: r, hP =>
  have hz := hP.short p List.mem_cons_self
  have hs : ((⟨#[47]⟩ : ByteArray) ++ p).size = 1 + p.size := by rw [ByteArray.size_append]; rfl
  refine Ev.step (fun k => ?_) (path_l house (p :: r) asks ask hP hq r.length 1 ((⟨#[47]⟩ : ByteArray) ++ p) (by simp; omega) (by omega) (by omega))
  have h47 : (⟨#[47]⟩ : ByteArray).size = 1 := rfl
  have hr0 : rdOf ByteArray.empty (p :: r) 0 = p := rfl
  simp only [spec_l1Path.l0]
  have f1 : (0 : Int) < ((p :: r).length : Int) := by simp only [List.length_cons]; omega
  have f5 : (⟨#[47]⟩ : ByteArray).size + p.size ≤ 9223372036854775807 := by omega
  rw [if_pos f1, if_neg (by omega), if_pos (by omega), hr0, if_pos f5, w64 (by omega) (by omega)]
  rfl
theorem path_size (parts : List ByteArray) (asks : Bool) (ask : ByteArray) (hP : Parts parts) (hq : ask.size ≤ 1048576) : (pathB parts asks ask).size ≤ 2000000000 := by
 have hf := hP.few
 have hb : ((body parts).size : Int) ≤ 1 + (parts.length : Int) * 1048577 := by
  match parts, hP with
  | [], _ => simp [body]; decide
  | p :: r, hP =>
   have key : ∀ (r : List ByteArray) (acc : ByteArray), (∀ q ∈ r, q.size ≤ 1048576) → ((r.foldl (fun a q => (a ++ ⟨#[47]⟩) ++ q) acc).size : Int) ≤ (acc.size : Int) + (r.length : Int) * 1048577 := by
    intro r
    induction r with
    | nil => intro acc _; simp
    | cons q r ih =>
     intro acc h
     have := ih ((acc ++ ⟨#[47]⟩) ++ q) (fun x hx => h x (List.mem_cons_of_mem _ hx))
     have hq := h q List.mem_cons_self
     have h47 : (⟨#[47]⟩ : ByteArray).size = 1 := rfl
     rw [List.foldl_cons]
     rw [ByteArray.size_append, ByteArray.size_append] at this
     simp only [List.length_cons]
     omega
   have := key r ((⟨#[47]⟩ : ByteArray) ++ p) (fun x hx => hP.short x (List.mem_cons_of_mem _ hx))
   have hz := hP.short p List.mem_cons_self
   have hs : ((⟨#[47]⟩ : ByteArray) ++ p).size = 1 + p.size := by rw [ByteArray.size_append]; rfl
   simp only [body, List.length_cons]
   omega
 unfold pathB
 have h63 : (⟨#[63]⟩ : ByteArray).size = 1 := rfl
 split
 ·rw [ByteArray.size_append, ByteArray.size_append]; omega
 ·omega
theorem text_ev (house : ByteArray) (parts : List ByteArray) (asks : Bool) (ask : ByteArray) (hP : Parts parts) (hq : ask.size ≤ 1048576) (hh : house.size ≤ 1048576) :
  Ev (fun k => spec_l1Text.f k house parts asks ask) (textB house parts asks ask) := by
 unfold spec_l1Text.f
 have hz := path_size parts asks ask hP hq
 simp only [show 2 + house.size ≤ 9223372036854775807 from by omega, if_true]
 refine Ev.bind (path_ev house parts asks ask hP hq) ?_
 simp only [show 2 + house.size + (pathB parts asks ask).size ≤ 9223372036854775807 from by omega, if_true]
 exact Ev.now _
theorem ok_l (house : ByteArray) (parts : List ByteArray) (asks : Bool) (ask : ByteArray) (hP : Parts parts) (hq : ask.size ≤ 1048576) (hh : house.size ≤ 1048576) (d : Nat) : ∀ (i : Nat), i + d = parts.length →
  Ev (fun k => spec_AddrOk.l0 k (i : Int) house parts asks ask) ((parts.drop i).all partOk && decide ((textB house parts asks ask).size ≤ 60)) := by
 have hf := hP.few
 induction d with
 | zero =>
  intro i hi
  rw [List.drop_eq_nil_of_le (by omega)]
  simp only [List.all_nil, Bool.true_and]
  refine Ev.step (f := fun k => (spec_l1Text.f k house parts asks ask).bind fun t => some (decide ((t.size : Int) ≤ 60))) (fun k => ?_) (Ev.bind (text_ev house parts asks ask hP hq hh) ?_)
  ·simp only [spec_AddrOk.l0]
   rw [if_neg (by omega)]
  ·have e : decide (((textB house parts asks ask).size : Int) ≤ 60) = decide ((textB house parts asks ask).size ≤ 60) := by rw [Bool.eq_iff_iff]; simp; omega
   rw [e]
   exact Ev.now _
 | succ d ih =>
  intro i hi
  have hlt : i < parts.length := by omega
  rw [List.drop_eq_getElem_cons hlt, List.all_cons]
  refine Ev.step (f := fun k => (spec_l1Norm.f k parts[i]).bind fun t => if t = true then (if parts[i].toList = [] then some false else if parts[i].toList = [46] then some false else if parts[i].toList = [46, 46] then some false else spec_AddrOk.l0 k ((i + 1 : Nat) : Int) house parts asks ask) else some false) (fun k => ?_) (Ev.bind (norm_ev parts[i]) ?_)
  ·simp only [spec_AddrOk.l0]
   rw [if_pos (by omega), if_pos (by omega), rd_at hlt, w64 (by omega) (by omega)]
   rfl
  ·by_cases h1 : isNorm parts[i] = true
   ·by_cases h2 : parts[i].toList = []
    ·simp only [h1, h2, if_true]
     rw [show partOk parts[i] = false from by simp [partOk, h2]]
     exact Ev.now _
    ·by_cases h3 : parts[i].toList = [46]
     ·simp only [h1, h3, if_true]
      rw [show partOk parts[i] = false from by simp [partOk, h3]]
      exact Ev.now _
     ·by_cases h4 : parts[i].toList = [46, 46]
      ·simp only [h1, h4, if_true]
       rw [show partOk parts[i] = false from by simp [partOk, h4]]
       exact Ev.now _
      ·simp only [h1, h2, h3, h4, if_true, if_false]
       rw [show partOk parts[i] = true from by simp [partOk, h1, h2, h3, h4], Bool.true_and]
       exact ih (i + 1) (by omega)
   ·simp only [h1, if_false]
    rw [show partOk parts[i] = false from by simp [partOk, h1]]
    exact Ev.now _
theorem addrOk_ev (house : ByteArray) (parts : List ByteArray) (asks : Bool) (ask : ByteArray) (hP : Parts parts) (hq : ask.size ≤ 1048576) (hh : house.size ≤ 1048576) :
  Ev (fun k => spec_AddrOk.f k house parts asks ask) (addrOk house parts asks ask) := by
 have hf := hP.few
 have bad : ∀ r, r = false → Ev (fun k => spec_AddrOk.j0 k true house parts asks ask) r := fun r hr => by
  subst hr
  exact Ev.of (fun k => spec_AddrOk.mono_l k |>.1 _ _ _ _ _) (k := 1) (by simp [spec_AddrOk.j0])
 have good : Ev (fun k => spec_AddrOk.j0 k false house parts asks ask) (parts.all partOk && decide ((textB house parts asks ask).size ≤ 60)) := by
  refine Ev.step (fun k => ?_) (by simpa using ok_l house parts asks ask hP hq hh parts.length 0 (by omega))
  simp [spec_AddrOk.j0]
 unfold spec_AddrOk.f
 refine Ev.bind (house_ev house (by omega)) ?_
 by_cases h1 : isHouse house = true
 ·simp only [h1, if_true]
  by_cases h2 : parts.length ≤ 5
  ·simp only [show ¬ ((parts.length : Int) > 5) from by omega, if_false]
   refine Ev.bind (norm_ev ask) ?_
   by_cases h3 : isNorm ask = true
   ·simp only [h3, if_true]
    by_cases h4 : asks = true
    ·simp only [h4, if_true]
     rw [h4] at good
     rw [show addrOk house parts true ask = (parts.all partOk && decide ((textB house parts true ask).size ≤ 60)) from by simp [addrOk, h1, h2, h3]]
     exact good
    ·rw [show (fun k => if asks = true then spec_AddrOk.j0 k false house parts asks ask else spec_AddrOk.j0 k (ask.toList != []) house parts asks ask) = (fun k => spec_AddrOk.j0 k (ask.toList != []) house parts asks ask) from by funext k; rw [if_neg h4]]
     by_cases h5 : ask.toList = []
     ·obtain rfl : asks = false := by simpa using h4
      simp only [h5, bne_self_eq_false, Bool.false_eq_true, if_false]
      rw [show addrOk house parts false ask = (parts.all partOk && decide ((textB house parts false ask).size ≤ 60)) from by simp [addrOk, h1, h2, h3, h5]]
      exact good
     ·rw [show (ask.toList != ([] : List UInt8)) = true from by simp [h5]]
      exact bad _ (by simp [addrOk, h4, h5])
   ·simp only [h3, if_false]
    exact bad _ (by simp [addrOk, h3])
  ·simp only [show (parts.length : Int) > 5 from by omega, if_true]
   exact bad _ (by simp [addrOk, h2])
 ·simp only [h1, if_false]
  exact bad _ (by simp [addrOk, h1])
theorem addrText_ev (house : ByteArray) (parts : List ByteArray) (asks : Bool) (ask : ByteArray) (hP : Parts parts) (hq : ask.size ≤ 1048576) (hh : house.size ≤ 1048576) :
  Ev (fun k => spec_AddrText.f k house parts asks ask) (addrText house parts asks ask) := by
 unfold spec_AddrText.f addrText
 refine Ev.bind (addrOk_ev house parts asks ask hP hq hh) ?_
 by_cases h : addrOk house parts asks ask = true
 ·simp only [h, if_true]
  exact Ev.bind (text_ev house parts asks ask hP hq hh) (Ev.now _)
 ·simp only [h, if_false]
  exact Ev.now _
end Go.Proofs.YtgjfegfopjfdpaaGreatDoor.Ad
end
section
namespace Go.Proofs.YtgjfegfopjfdpaaGreatDoor.Draw
open Go.RowKit Go.Proofs.YtgjfegfopjfdpaaGreatDoor.P Go.Proofs.YtgjfegfopjfdpaaGreatDoorW.PrintWords Go.Proofs.YtgjfegfopjfdpaaGreatDoorW.PrintLast Go.Proofs.YtgjfegfopjfdpaaGreatDoorW.PrintMore Go.Proofs.YtgjfegfopjfdpaaGreatDoor.B Go.Proofs.YtgjfegfopjfdpaaGreatDoor.Ad
set_option linter.unusedVariables false
set_option linter.unusedSimpArgs false
theorem of_sz {b : List Int} (hc : Code b) (p : Int) (l : List ByteArray) (N : Nat) (hp : 0 ≤ p) (hp2 : p ≤ 1000000000000)
  (hl : decide (0 < l.length ∧ l.length < 1000000) = true) (hN : (l.all fun s => decide (s.size ≤ N)) = true) :
  ∃ s, Ev (fun k => spec_l6Rd_of.f k b p l) (s, p + 1) ∧ s.size ≤ N := by
 have h := of_decide_eq_true hl
 obtain ⟨s, h1, h2⟩ := of_ev hc p l (List.length_pos_iff.1 h.1) (by omega) hp hp2
 exact ⟨s, h1, of_decide_eq_true (List.all_eq_true.1 hN s h2)⟩
theorem addr_l {b : List Int} (hc : Code b) (house : ByteArray) (hh : house.size ≤ 3) (d : Nat) : ∀ (p : Int) (parts : List ByteArray), 0 ≤ p → p + d ≤ 100000000000 → (∀ q ∈ parts, q.size ≤ 6) → parts.length + d ≤ 5 →
  ∃ s p', Ev (fun k => spec_l71Addr.l0 k (d : Int) b p house parts false ⟨#[]⟩) (s, p') ∧ s.size ≤ 60 ∧ p ≤ p' ∧ p' ≤ p + d + 2 := by
 induction d with
 | zero =>
  intro p parts h0 h1 hs hl
  have hP : Parts parts := ⟨by omega, fun q hq => by have := hs q hq; omega⟩
  obtain ⟨v, hv, _, _⟩ := pick_ev hc p 8 h0 (by omega)
  by_cases hv0 : v = 0
  ·obtain ⟨ask, ha, hz⟩ := of_sz hc (p + 1) ([(⟨#[]⟩ : ByteArray), (⟨#[97]⟩ : ByteArray), (⟨#[98, 37, 51, 68]⟩ : ByteArray)] : List ByteArray) 4 (by omega) (by omega) (by decide) (by decide)
   refine ⟨addrText house parts true ask, p + 1 + 1, Ev.step (f := fun k => (spec_l6Rd_pick.f k b p 8).bind fun bt => if bt.1 = 0 then ((spec_l6Rd_of.f k b bt.2 ([(⟨#[]⟩ : ByteArray), (⟨#[97]⟩ : ByteArray), (⟨#[98, 37, 51, 68]⟩ : ByteArray)] : List ByteArray)).bind fun b2 => (spec_AddrText.f k house parts true b2.1).bind fun t => some (t, b2.2)) else (spec_AddrText.f k house parts false ⟨#[]⟩).bind fun t => some (t, bt.2)) (fun k => ?_) (Ev.bind hv ?_), addrText_size _ _ _ _, by omega, by omega⟩
   ·simp only [spec_l71Addr.l0]
    rw [if_neg (by omega)]
   ·simp only [hv0, if_true]
    exact Ev.bind ha (Ev.bind (addrText_ev house parts true ask hP (by omega) (by omega)) (Ev.now _))
  ·refine ⟨addrText house parts false ⟨#[]⟩, p + 1, Ev.step (f := fun k => (spec_l6Rd_pick.f k b p 8).bind fun bt => if bt.1 = 0 then ((spec_l6Rd_of.f k b bt.2 ([(⟨#[]⟩ : ByteArray), (⟨#[97]⟩ : ByteArray), (⟨#[98, 37, 51, 68]⟩ : ByteArray)] : List ByteArray)).bind fun b2 => (spec_AddrText.f k house parts true b2.1).bind fun t => some (t, b2.2)) else (spec_AddrText.f k house parts false ⟨#[]⟩).bind fun t => some (t, bt.2)) (fun k => ?_) (Ev.bind hv ?_), addrText_size _ _ _ _, by omega, by omega⟩
   ·simp only [spec_l71Addr.l0]
    rw [if_neg (by omega)]
   ·simp only [hv0, if_false]
    exact Ev.bind (addrText_ev house parts false ⟨#[]⟩ hP (by decide) (by omega)) (Ev.now _)
 | succ d ih =>
  intro p parts h0 h1 hs hl
  obtain ⟨q, hq, hz⟩ := of_sz hc p ([(⟨#[97]⟩ : ByteArray), (⟨#[98]⟩ : ByteArray), (⟨#[99]⟩ : ByteArray), (⟨#[110, 111, 116, 105, 99, 101]⟩ : ByteArray)] : List ByteArray) 6 h0 (by omega) (by decide) (by decide)
  obtain ⟨s, p', h, h2, h3, h4⟩ := ih (p + 1) (parts ++ [q]) (by omega) (by omega) (fun x hx => by
   rcases List.mem_append.1 hx with hx | hx
   ·exact hs x hx
   ·rw [List.mem_singleton.1 hx]; exact hz) (by simp; omega)
  refine ⟨s, p', Ev.step (f := fun k => (spec_l6Rd_of.f k b p ([(⟨#[97]⟩ : ByteArray), (⟨#[98]⟩ : ByteArray), (⟨#[99]⟩ : ByteArray), (⟨#[110, 111, 116, 105, 99, 101]⟩ : ByteArray)] : List ByteArray)).bind fun bt => spec_l71Addr.l0 k (d : Int) b bt.2 house (parts ++ [bt.1]) false ⟨#[]⟩) (fun k => ?_) (Ev.bind hq h), h2, by omega, by omega⟩
  simp only [spec_l71Addr.l0]
  rw [if_pos (by omega), show wrap64 (((d + 1 : Nat) : Int) - 1) = (d : Int) from by rw [w64 (by omega) (by omega)]; omega]
  congr 1
  funext bt
  rw [if_pos (by omega)]
theorem addr_ev {b : List Int} (hc : Code b) (p : Int) (h0 : 0 ≤ p) (h1 : p ≤ 10000000000) : ∃ s p', Ev (fun k => spec_l71Addr.f k b p) (s, p') ∧ s.size ≤ 60 ∧ p ≤ p' ∧ p' ≤ p + 10 := by
 obtain ⟨v, hv, v0, v1⟩ := pick_ev hc p 4 h0 (by omega)
 have v2 := v1 (by omega)
 obtain ⟨n, hn, n0, n1⟩ := pick_ev hc (p + 1) 3 (by omega) (by omega)
 have n2 := n1 (by omega)
 obtain ⟨m, rfl⟩ := Int.eq_ofNat_of_zero_le n0
 have hh : (rdOf ByteArray.empty ([(⟨#[97, 98]⟩ : ByteArray), (⟨#[99, 100]⟩ : ByteArray), (⟨#[101]⟩ : ByteArray), (⟨#[102, 111, 120]⟩ : ByteArray)] : List ByteArray) v).size ≤ 3 := by
  obtain rfl | rfl | rfl | rfl : v = 0 ∨ v = 1 ∨ v = 2 ∨ v = 3 := by omega
  all_goals decide
 obtain ⟨s, p', h, h2, h3, h4⟩ := addr_l hc _ hh m (p + 1 + 1) [] (by omega) (by omega) (by simp) (by simp; omega)
 refine ⟨s, p', ?_, h2, by omega, by omega⟩
 unfold spec_l71Addr.f spec_l71Houses.f
 simp only [Option.bind_some]
 refine Ev.bind hv ?_
 simp only [v0, show v < (([(⟨#[97, 98]⟩ : ByteArray), (⟨#[99, 100]⟩ : ByteArray), (⟨#[101]⟩ : ByteArray), (⟨#[102, 111, 120]⟩ : ByteArray)] : List ByteArray).length : Int) from by simp; omega, if_true]
 exact Ev.bind hn h
end Go.Proofs.YtgjfegfopjfdpaaGreatDoor.Draw
end
section
namespace Go.Proofs.YtgjfegfopjfdpaaGreatDoor.Draw
open Go.RowKit Go.Proofs.YtgjfegfopjfdpaaGreatDoor.P Go.Proofs.YtgjfegfopjfdpaaGreatDoorW.PrintWords Go.Proofs.YtgjfegfopjfdpaaGreatDoorW.PrintLast Go.Proofs.YtgjfegfopjfdpaaGreatDoorW.PrintMore Go.Proofs.YtgjfegfopjfdpaaGreatDoor.B Go.Proofs.YtgjfegfopjfdpaaGreatDoor.Ad
set_option linter.unusedVariables false
set_option linter.unusedSimpArgs false
theorem ref_j {b : List Int} (hc : Code b) (x : Int) (y : Bool) (p : Int) (h0 : 0 ≤ p) (h1 : p ≤ 10000000000) : ∃ s p', Ev (fun k => spec_l71Ref.j0 k x y b p) (s, p') ∧ s.size ≤ 60 ∧ p ≤ p' ∧ p' ≤ p + 10 := by
 by_cases hy : y = true
 ·obtain ⟨s, p', h, h2, h3, h4⟩ := addr_ev hc p h0 h1
  refine ⟨s, p', Ev.step (f := fun k => (spec_l71Addr.f k b p).bind fun bt => some (bt.1, bt.2)) (fun k => ?_) (Ev.bind h (Ev.now _)), h2, h3, h4⟩
  simp only [spec_l71Ref.j0]
  rw [if_pos hy]
 by_cases x2 : x = 2
 ·obtain ⟨s, h, hz⟩ := of_sz hc p (([(⟨#[97]⟩ : ByteArray), (⟨#[98]⟩ : ByteArray), (⟨#[97, 47, 98]⟩ : ByteArray), (⟨#[99, 47, 46, 46, 47, 98]⟩ : ByteArray), (⟨#[]⟩ : ByteArray), (⟨#[120, 47, 46, 47, 99]⟩ : ByteArray)] : List ByteArray)) 9 h0 (by omega) (by decide) (by decide)
  have h47 : (⟨#[47]⟩ : ByteArray).size = 1 := rfl
  refine ⟨(⟨#[47]⟩ : ByteArray) ++ s, p + 1, Ev.step (f := fun k => (spec_l6Rd_of.f k b p (([(⟨#[97]⟩ : ByteArray), (⟨#[98]⟩ : ByteArray), (⟨#[97, 47, 98]⟩ : ByteArray), (⟨#[99, 47, 46, 46, 47, 98]⟩ : ByteArray), (⟨#[]⟩ : ByteArray), (⟨#[120, 47, 46, 47, 99]⟩ : ByteArray)] : List ByteArray))).bind fun bt => if 1 + bt.1.size ≤ 9223372036854775807 then some ((⟨#[47]⟩ : ByteArray) ++ bt.1, bt.2) else none) (fun k => ?_) (Ev.bind h ?_), by rw [ByteArray.size_append]; omega, by omega, by omega⟩
  ·simp only [spec_l71Ref.j0]
   rw [if_neg hy, if_pos x2]
  ·simp only [show 1 + s.size ≤ 9223372036854775807 from by omega, if_true]
   exact Ev.now _
 by_cases x3 : x = 3
 ·obtain ⟨s, h, hz⟩ := of_sz hc p (([(⟨#[46, 46]⟩ : ByteArray), (⟨#[46, 46, 47, 99]⟩ : ByteArray), (⟨#[46, 46, 47, 46, 46, 47, 46, 46]⟩ : ByteArray), (⟨#[46]⟩ : ByteArray), (⟨#[46, 47, 97]⟩ : ByteArray)] : List ByteArray)) 9 h0 (by omega) (by decide) (by decide)
  refine ⟨s, p + 1, Ev.step (fun k => ?_) (Ev.bind (f := fun k bt => some (bt.1, bt.2)) h (Ev.now _)), by omega, by omega, by omega⟩
  simp only [spec_l71Ref.j0]
  rw [if_neg hy, if_neg x2, if_pos x3]
 by_cases x4 : x = 4
 ·obtain ⟨s, h, hz⟩ := of_sz hc p (([(⟨#[63, 97]⟩ : ByteArray), (⟨#[63]⟩ : ByteArray), (⟨#[35, 116, 111, 112]⟩ : ByteArray), (⟨#[]⟩ : ByteArray), (⟨#[97, 35, 98]⟩ : ByteArray), (⟨#[98, 63, 97]⟩ : ByteArray)] : List ByteArray)) 9 h0 (by omega) (by decide) (by decide)
  refine ⟨s, p + 1, Ev.step (fun k => ?_) (Ev.bind (f := fun k bt => some (bt.1, bt.2)) h (Ev.now _)), by omega, by omega, by omega⟩
  simp only [spec_l71Ref.j0]
  rw [if_neg hy, if_neg x2, if_neg x3, if_pos x4]
 by_cases x5 : x = 5
 ·obtain ⟨s, h, hz⟩ := of_sz hc p (([(⟨#[47, 47, 65, 66, 47, 97]⟩ : ByteArray), (⟨#[47, 47, 99, 100]⟩ : ByteArray), (⟨#[47, 47, 99, 100, 63, 120]⟩ : ByteArray), (⟨#[47, 47, 97, 98, 47, 37, 54, 49]⟩ : ByteArray), (⟨#[47, 47, 116, 111, 111, 108, 111, 110, 103, 47, 97]⟩ : ByteArray), (⟨#[47, 47, 97, 49, 47, 98]⟩ : ByteArray), (⟨#[47, 47, 47, 97]⟩ : ByteArray)] : List ByteArray)) 20 h0 (by omega) (by decide) (by decide)
  refine ⟨s, p + 1, Ev.step (fun k => ?_) (Ev.bind (f := fun k bt => some (bt.1, bt.2)) h (Ev.now _)), by omega, by omega, by omega⟩
  simp only [spec_l71Ref.j0]
  rw [if_neg hy, if_neg x2, if_neg x3, if_neg x4, if_pos x5]
 ·obtain ⟨s, h, hz⟩ := of_sz hc p (([(⟨#[97]⟩ : ByteArray), (⟨#[98]⟩ : ByteArray), (⟨#[99]⟩ : ByteArray), (⟨#[97, 47, 98]⟩ : ByteArray)] : List ByteArray)) 9 h0 (by omega) (by decide) (by decide)
  refine ⟨s, p + 1, Ev.step (fun k => ?_) (Ev.bind (f := fun k bt => some (bt.1, bt.2)) h (Ev.now _)), by omega, by omega, by omega⟩
  simp only [spec_l71Ref.j0]
  rw [if_neg hy, if_neg x2, if_neg x3, if_neg x4, if_neg x5]
theorem ref_ev {b : List Int} (hc : Code b) (p : Int) (h0 : 0 ≤ p) (h1 : p ≤ 1000000000) : ∃ s p', Ev (fun k => spec_l71Ref.f k b p) (s, p') ∧ s.size ≤ 60 ∧ p ≤ p' ∧ p' ≤ p + 20 := by
 obtain ⟨v, hv, v0, v1⟩ := pick_ev hc p 8 h0 (by omega)
 by_cases hv0 : v = 0
 ·obtain ⟨s, p', h, h2, h3, h4⟩ := ref_j hc v (v == 0) (p + 1) (by omega) (by omega)
  refine ⟨s, p', ?_, h2, by omega, by omega⟩
  unfold spec_l71Ref.f
  refine Ev.bind hv ?_
  simp only [if_pos hv0]
  exact h
 ·obtain ⟨s, p', h, h2, h3, h4⟩ := ref_j hc v (v == 1) (p + 1) (by omega) (by omega)
  refine ⟨s, p', ?_, h2, by omega, by omega⟩
  unfold spec_l71Ref.f
  refine Ev.bind hv ?_
  simp only [if_neg hv0]
  exact h
theorem page_l {b : List Int} (hc : Code b) (d : Nat) : ∀ (p : Int) (t : ByteArray), 0 ≤ p → p + 50 * d ≤ 1000000000 → t.size + 150 * d ≤ 10000 →
  ∃ s p', Ev (fun k => spec_l71Page.l0 k t (d : Int) b p) (s, p') ∧ s.size ≤ 10000 ∧ p ≤ p' ∧ p' ≤ p + 50 * d := by
 induction d with
 | zero =>
  intro p t h0 h1 ht
  refine ⟨t, p, Ev.of (fun k => spec_l71Page.mono_l k _ _ _ _) (k := 1) ?_, by omega, by omega, by omega⟩
  simp only [spec_l71Page.l0]
  rw [if_neg (by omega)]
 | succ d ih =>
  intro p t h0 h1 ht
  have hw : wrap64 (((d + 1 : Nat) : Int) - 1) = (d : Int) := by rw [w64 (by omega) (by omega)]; omega
  have hpos : ((d + 1 : Nat) : Int) > 0 := by omega
  obtain ⟨v, hv, v0, v1⟩ := pick_ev hc p 9 h0 (by omega)
  obtain ⟨r1, p1, hr1, z1, a1, b1⟩ := ref_ev hc (p + 1) (by omega) (by omega)
  obtain ⟨r2, p2, hr2, z2, a2, b2⟩ := ref_ev hc p1 (by omega) (by omega)
  have s40 : (⟨#[40]⟩ : ByteArray).size = 1 := rfl
  have s60 : (⟨#[60]⟩ : ByteArray).size = 1 := rfl
  have s62 : (⟨#[62]⟩ : ByteArray).size = 1 := rfl
  have s6241 : (⟨#[62, 41]⟩ : ByteArray).size = 2 := rfl
  have s6033 : (⟨#[60, 33]⟩ : ByteArray).size = 2 := rfl
  have s6064 : (⟨#[60, 64]⟩ : ByteArray).size = 2 := rfl
  by_cases c0 : v = 0
  ·obtain ⟨s, p', h, h2, h3, h4⟩ := ih p2 (((((t ++ (⟨#[40]⟩ : ByteArray)) ++ r1) ++ (⟨#[60]⟩ : ByteArray)) ++ r2) ++ (⟨#[62, 41]⟩ : ByteArray)) (by omega) (by omega) (by simp only [ByteArray.size_append]; omega)
   refine ⟨s, p', Ev_succ ?_, h2, by omega, by omega⟩
   simp only [spec_l71Page.l0, hpos, hw, if_true]
   refine Ev.bind hv ?_
   simp only [c0, if_true, show t.size + 1 ≤ 9223372036854775807 from by omega]
   refine Ev.bind hr1 ?_
   simp only [show t.size + 1 + r1.size ≤ 9223372036854775807 from by omega, show t.size + 1 + r1.size + 1 ≤ 9223372036854775807 from by omega, if_true]
   refine Ev.bind hr2 ?_
   simp only [show t.size + 1 + r1.size + 1 + r2.size ≤ 9223372036854775807 from by omega, show t.size + 1 + r1.size + 1 + r2.size + 2 ≤ 9223372036854775807 from by omega, if_true]
   exact h
  by_cases c1 : v = 1
  ·obtain ⟨s, p', h, h2, h3, h4⟩ := ih p1 (((t ++ (⟨#[60, 33]⟩ : ByteArray)) ++ r1) ++ (⟨#[62]⟩ : ByteArray)) (by omega) (by omega) (by simp only [ByteArray.size_append]; omega)
   refine ⟨s, p', Ev_succ ?_, h2, by omega, by omega⟩
   simp only [spec_l71Page.l0, hpos, hw, if_true]
   refine Ev.bind hv ?_
   simp only [c0, c1, if_true, if_false, show t.size + 2 ≤ 9223372036854775807 from by omega]
   refine Ev.bind hr1 ?_
   simp only [show t.size + 2 + r1.size ≤ 9223372036854775807 from by omega, show t.size + 2 + r1.size + 1 ≤ 9223372036854775807 from by omega, if_true]
   exact h
  by_cases c2 : v = 2
  ·obtain ⟨s, p', h, h2, h3, h4⟩ := ih p1 (((t ++ (⟨#[60, 64]⟩ : ByteArray)) ++ r1) ++ (⟨#[62]⟩ : ByteArray)) (by omega) (by omega) (by simp only [ByteArray.size_append]; omega)
   refine ⟨s, p', Ev_succ ?_, h2, by omega, by omega⟩
   simp only [spec_l71Page.l0, hpos, hw, if_true]
   refine Ev.bind hv ?_
   simp only [c0, c1, c2, if_true, if_false, show t.size + 2 ≤ 9223372036854775807 from by omega]
   refine Ev.bind hr1 ?_
   simp only [show t.size + 2 + r1.size ≤ 9223372036854775807 from by omega, show t.size + 2 + r1.size + 1 ≤ 9223372036854775807 from by omega, if_true]
   exact h
  by_cases c3 : v = 3
  ·obtain ⟨q, hq, hz⟩ := of_sz hc (p + 1) (([(⟨#[116, 101, 120, 116, 32]⟩ : ByteArray), (⟨#[60]⟩ : ByteArray), (⟨#[62]⟩ : ByteArray), (⟨#[40]⟩ : ByteArray), (⟨#[41]⟩ : ByteArray), (⟨#[60, 97]⟩ : ByteArray)] : List ByteArray)) 5 (by omega) (by omega) (by decide) (by decide)
   obtain ⟨s, p', h, h2, h3, h4⟩ := ih (p + 1 + 1) (t ++ q) (by omega) (by omega) (by simp only [ByteArray.size_append]; omega)
   refine ⟨s, p', Ev_succ ?_, h2, by omega, by omega⟩
   simp only [spec_l71Page.l0, hpos, hw, if_true]
   refine Ev.bind hv ?_
   simp only [c0, c1, c2, c3, if_true, if_false]
   refine Ev.bind hq ?_
   simp only [show t.size + q.size ≤ 9223372036854775807 from by omega, if_true]
   exact h
  ·obtain ⟨s, p', h, h2, h3, h4⟩ := ih p1 (((t ++ (⟨#[60]⟩ : ByteArray)) ++ r1) ++ (⟨#[62]⟩ : ByteArray)) (by omega) (by omega) (by simp only [ByteArray.size_append]; omega)
   refine ⟨s, p', Ev_succ ?_, h2, by omega, by omega⟩
   simp only [spec_l71Page.l0, hpos, hw, if_true]
   refine Ev.bind hv ?_
   simp only [c0, c1, c2, c3, if_true, if_false, show t.size + 1 ≤ 9223372036854775807 from by omega]
   refine Ev.bind hr1 ?_
   simp only [show t.size + 1 + r1.size ≤ 9223372036854775807 from by omega, show t.size + 1 + r1.size + 1 ≤ 9223372036854775807 from by omega, if_true]
   exact h
theorem page_ev {b : List Int} (hc : Code b) (p : Int) (h0 : 0 ≤ p) (h1 : p ≤ 100000000) : ∃ s p', Ev (fun k => spec_l71Page.f k b p) (s, p') ∧ s.size ≤ 10000 ∧ p ≤ p' ∧ p' ≤ p + 300 := by
 obtain ⟨v, hv, v0, v1⟩ := pick_ev hc p 5 h0 (by omega)
 have v2 := v1 (by omega)
 obtain ⟨n, rfl⟩ := Int.eq_ofNat_of_zero_le v0
 obtain ⟨s, p', h, h2, h3, h4⟩ := page_l hc n (p + 1) ⟨#[]⟩ (by omega) (by omega) (by have : (⟨#[]⟩ : ByteArray).size = 0 := rfl; omega)
 refine ⟨s, p', ?_, h2, by omega, by omega⟩
 unfold spec_l71Page.f
 exact Ev.bind hv h
end Go.Proofs.YtgjfegfopjfdpaaGreatDoor.Draw
end
section
namespace Go.Proofs.YtgjfegfopjfdpaaGreatDoor.Ad
open Go.RowKit Go.Proofs.YtgjfegfopjfdpaaGreatDoor.P Go.Proofs.YtgjfegfopjfdpaaGreatDoorW.PrintWords Go.Proofs.YtgjfegfopjfdpaaGreatDoorW.PrintLast Go.Proofs.YtgjfegfopjfdpaaGreatDoorW.PrintMore Go.Proofs.YtgjfegfopjfdpaaGreatDoor.B
set_option linter.unusedVariables false
set_option linter.unusedSimpArgs false
def ints (l : List UInt8) : List Int := l.map fun c => (c.toNat : Int)
theorem ints_app (a b : List UInt8) : ints (a ++ b) = ints a ++ ints b := by simp [ints]
theorem ints_len (a : List UInt8) : (ints a).length = a.length := by simp [ints]
theorem nums_ints (l : List UInt8) : strOfNums (ints l) = ofL l := by
 unfold strOfNums ofL ints
 rw [List.map_map]
 congr 2
 have h : ((fun n : Int => UInt8.ofNat n.toNat) ∘ fun c : UInt8 => (c.toNat : Int)) = id := by funext c; simp
 exact (congrArg (fun f => List.map f l) h).trans (List.map_id l)
theorem figv_all : ∀ n : Nat, n < 256 → impl_figureValue.f (n : Int) = some (match hexN (UInt8.ofNat n) with | some x => ((x : Int), true) | none => (0, false)) := by decide +kernel
theorem figv (c : UInt8) : impl_figureValue.f (c.toNat : Int) = some (match hexN c with | some x => ((x : Int), true) | none => (0, false)) := by
 have := figv_all c.toNat c.toNat_lt
 rwa [of_toNat] at this
theorem stands_all : ∀ n : Nat, n < 256 → impl_standsForItself.f (n : Int) = some (plainB (UInt8.ofNat n)) := by decide +kernel
def hexT : ByteArray := ⟨#[48, 49, 50, 51, 52, 53, 54, 55, 56, 57, 65, 66, 67, 68, 69, 70]⟩
theorem put_all : ∀ n : Nat, n < 256 → (plainB (UInt8.ofNat n) = true → [(n : Int)] = ints (encN n)) ∧ (plainB (UInt8.ofNat n) = false → 0 ≤ (n : Int) / 16 ∧ (n : Int) / 16 < 16 ∧ 0 ≤ Go.bits .and .u8 (n : Int) 15 ∧ Go.bits .and .u8 (n : Int) 15 < 16 ∧
  ([37, bt hexT ((n : Int) / 16), bt hexT (Go.bits .and .u8 (n : Int) 15)] : List Int) = ints (encN n)) := by decide +kernel
theorem sign_i (s : ByteArray) (i : Nat) (hs : s.size ≤ 60) (hi : i < s.size) :
  impl_signByte.f s (i : Int) = some (if h : i + 2 < (L s).length then (match hexN ((L s)[i + 1]'(by omega)), hexN ((L s)[i + 2]'h) with | some x, some y => (((x * 16 + y : Nat) : Int), true) | _, _ => (0, false)) else (0, false)) := by
 have hL := L_size s
 unfold impl_signByte.f
 rw [w64 (n := (s.size : Int) - i) (by omega) (by omega)]
 by_cases h : i + 2 < (L s).length
 ·rw [dif_pos h, if_neg (by omega), w64 (n := (i : Int) + 1) (by omega) (by omega), w64 (n := (i : Int) + 2) (by omega) (by omega), if_pos (by omega), if_pos (by omega)]
  have b1 := bt_get s (i + 1) (by omega)
  have b2 := bt_get s (i + 2) h
  have l1 := @hexN_lt ((L s)[i + 1]'(by omega))
  have l2 := @hexN_lt ((L s)[i + 2]'h)
  rw [show ((i : Int) + 1) = ((i + 1 : Nat) : Int) from by omega, show ((i : Int) + 2) = ((i + 2 : Nat) : Int) from by omega, b1, b2]
  generalize (L s)[i + 1]'(by omega) = ca at l1 ⊢
  generalize (L s)[i + 2]'h = cb at l2 ⊢
  rw [figv ca, figv cb]
  simp only [Option.bind_some]
  rw [if_pos (by omega), if_pos (by omega)]
  cases ha : hexN ca with
  | none => simp
  | some x =>
   cases hb : hexN cb with
   | none => simp
   | some y =>
    have := l1 ha
    have := l2 hb
    simp only [if_true]
    rw [w64 (n := (x : Int) * 16) (by omega) (by omega), w64 (by omega) (by omega)]
    congr 2
    omega
 ·rw [dif_neg h, if_pos (by omega)]
theorem enc_i (s : ByteArray) (acc : List UInt8) (n : Nat) (j : Int) (h : n < 256) (ha : acc.length ≤ 1000000) (k : Nat) :
  ((impl_standsForItself.f (n : Int)).bind fun t => (if t = true then (if (ints acc).length < 140737488355328 then (impl_EscNorm.l0 k s (ints acc ++ [(n : Int)]) j) else (none)) else (if 0 ≤ ((n : Int) / 16) then (if ((n : Int) / 16) < 16 then (if 0 ≤ (Go.bits .and .u8 (n : Int) 15) then (if (Go.bits .and .u8 (n : Int) 15) < 16 then ((some (([37, bt (⟨#[48, 49, 50, 51, 52, 53, 54, 55, 56, 57, 65, 66, 67, 68, 69, 70]⟩ : ByteArray) ((n : Int) / 16), bt (⟨#[48, 49, 50, 51, 52, 53, 54, 55, 56, 57, 65, 66, 67, 68, 69, 70]⟩ : ByteArray) (Go.bits .and .u8 (n : Int) 15)] : List Int) : List Int)).bind fun y => (if (ints acc).length + y.length < 140737488355328 then (impl_EscNorm.l0 k s (ints acc ++ y) j) else (none))) else (none)) else (none)) else (none)) else (none)))) = impl_EscNorm.l0 k s (ints (acc ++ encN n)) j := by
 obtain ⟨p1, p2⟩ := put_all n h
 rw [stands_all n h]
 simp only [Option.bind_some]
 have hl := ints_len acc
 cases hp : plainB (UInt8.ofNat n) with
 | true => rw [if_pos rfl, if_pos (by omega), ints_app, p1 hp]
 | false =>
  obtain ⟨q1, q2, q3, q4, q5⟩ := p2 hp
  rw [if_neg (by simp), if_pos q1, if_pos q2, if_pos q3, if_pos q4]
  unfold hexT at q5
  rw [q5]
  have := encN_len n
  have := ints_len (encN n)
  rw [if_pos (by omega), ints_app]
theorem esc_i (s : ByteArray) (hs : s.size ≤ 60) (n : Nat) : ∀ (i : Nat) (acc : List UInt8), i ≤ s.size → s.size - i ≤ n → acc.length ≤ 3 * i →
  Ev (fun k => impl_EscNorm.l0 k s (ints acc) (i : Int)) (escR (ofL acc) (esc ((L s).drop i))) := by
 have hL := L_size s
 induction n with
 | zero =>
  intro i acc hi hn ha
  refine Ev.of (fun k => impl_EscNorm.mono_l k |> fun h => h _ _ _) (k := 1) ?_
  simp only [impl_EscNorm.l0]
  rw [if_neg (by omega), List.drop_eq_nil_of_le (by omega)]
  simp only [esc, escR]
  rw [app_nil, nums_ints]
 | succ n ih =>
  intro i acc hi hn ha
  by_cases hlt : i < s.size
  ·have hlt' : i < (L s).length := by omega
   rw [drop_at hlt']
   have hb := bt_get s i hlt'
   by_cases hc : (L s)[i] = 37
   ·have hb37 : bt s i = 37 := by rw [hb, hc]; rfl
    have w3 : wrap64 (wrap64 ((i : Int) + 2) + 1) = ((i + 2 + 1 : Nat) : Int) := by rw [w64 (n := (i : Int) + 2) (by omega) (by omega), w64 (by omega) (by omega)]; omega
    rw [hc]
    have sg := sign_i s i hs hlt
    refine Ev_succ ?_
    simp only [impl_EscNorm.l0]
    simp only [show ((i : Int) < (s.size : Int)) from by omega, show ((0 : Int) ≤ (i : Int)) from by omega, hb37, if_true, sg, Option.bind_some, w3]
    by_cases h2 : i + 2 < (L s).length
    ·have g1 : i + 1 < (L s).length := by omega
     rw [drop_at g1, drop_at h2]
     simp only [h2, dif_pos]
     generalize (L s)[i + 1]'g1 = ca
     generalize (L s)[i + 2]'h2 = cb
     cases ha' : hexN ca with
     | none =>
      rw [esc_bad1 _ _ ha']
      simp only [Bool.false_eq_true, if_false]
      exact Ev.now _
     | some x =>
      cases hb' : hexN cb with
      | none =>
       rw [esc_bad2 _ _ hb']
       simp only [Bool.false_eq_true, if_false]
       exact Ev.now _
      | some y =>
       have hx := hexN_lt ha'
       have hy := hexN_lt hb'
       rw [esc_sign _ ha' hb', escR_map]
       simp only [if_true]
       refine Ev.congr (fun k => enc_i s acc (x * 16 + y) _ (by omega) (by omega) k) ?_
       have := encN_len (x * 16 + y)
       rw [← ofL_app]
       exact ih (i + 2 + 1) _ (by omega) (by omega) (by rw [List.length_append]; omega)
    ·rw [esc_short (by rw [List.length_drop]; omega)]
     simp only [h2, dif_neg, not_false_eq_true, Bool.false_eq_true, if_false]
     exact Ev.now _
   ·have hb37 : ¬ bt s i = 37 := by
     rw [hb]
     intro e
     exact hc (UInt8.toNat_inj.1 (by have : (37 : UInt8).toNat = 37 := rfl; omega))
    rw [esc_plain _ hc]
    have hlt8 := (L s)[i].toNat_lt
    have w1 : wrap64 ((i : Int) + 1) = ((i + 1 : Nat) : Int) := by rw [w64 (by omega) (by omega)]; omega
    refine Ev_succ ?_
    simp only [impl_EscNorm.l0]
    simp only [show ((i : Int) < (s.size : Int)) from by omega, show ((0 : Int) ≤ (i : Int)) from by omega, hb37, if_true, if_false, w1]
    rw [escR_map]
    simp only [hb]
    refine Ev.congr (fun k => enc_i s acc (L s)[i].toNat _ (by omega) (by omega) k) ?_
    have hz := encN_len (L s)[i].toNat
    rw [← ofL_app]
    refine ih (i + 1) _ (by omega) (by omega) ?_
    rw [List.length_append]; omega
  ·refine Ev.of (fun k => impl_EscNorm.mono_l k |> fun h => h _ _ _) (k := 1) ?_
   simp only [impl_EscNorm.l0]
   rw [if_neg (by omega), List.drop_eq_nil_of_le (by omega)]
   simp only [esc, escR]
   rw [app_nil, nums_ints]
theorem escNorm_i (s : ByteArray) : Ev (fun k => impl_EscNorm.f k s) (escNorm s) := by
 unfold impl_EscNorm.f escNorm
 by_cases h : s.size > 60
 ·simp only [show ((s.size : Int) > 60) from by omega, if_true, h]
  exact Ev.now _
 ·simp only [show ¬ ((s.size : Int) > 60) from by omega, if_false, h]
  have := esc_i s (by omega) s.size 0 [] (by omega) (by omega) (Nat.le_refl 0)
  simp only [List.drop_zero] at this
  have e : escR (ofL []) (esc (L s)) = escO (esc (L s)) := by
   unfold escR escO
   cases esc (L s) with
   | none => rfl
   | some r => simp only [Prod.mk.injEq, and_true]; apply L_inj; rw [L_app]; rfl
  rw [← e]
  exact this
theorem norm_i (s : ByteArray) : Ev (fun k => impl_isNormal.f k s) (isNorm s) := by
 unfold impl_isNormal.f isNorm
 refine Ev.bind (escNorm_i s) ?_
 by_cases h : (escNorm s).2 = true
 ·simp only [h, if_true, Bool.true_and]
  exact Ev.now _
 ·simp only [h, if_false, Bool.false_and]
  exact Ev.now _
end Go.Proofs.YtgjfegfopjfdpaaGreatDoor.Ad
end
section
namespace Go.Proofs.YtgjfegfopjfdpaaGreatDoor.Ad
open Go.RowKit Go.Proofs.YtgjfegfopjfdpaaGreatDoor.P Go.Proofs.YtgjfegfopjfdpaaGreatDoorW.PrintWords Go.Proofs.YtgjfegfopjfdpaaGreatDoorW.PrintLast Go.Proofs.YtgjfegfopjfdpaaGreatDoorW.PrintMore Go.Proofs.YtgjfegfopjfdpaaGreatDoor.B
set_option linter.unusedVariables false
set_option linter.unusedSimpArgs false
theorem small_i (s : ByteArray) (hs : s.size ≤ 140737488351232) (d : Nat) : ∀ (k : Nat) (i : Nat), i + d = s.size → d < k →
  impl_allSmallLetters.l0 k s (i : Int) = some (smallFrom s d i) := by
 induction d with
 | zero =>
  intro k i h hk
  obtain ⟨k, rfl⟩ : ∃ m, k = m + 1 := ⟨k - 1, by omega⟩
  simp only [impl_allSmallLetters.l0, smallFrom]
  rw [if_neg (by omega)]
 | succ d ih =>
  intro k i h hk
  obtain ⟨k, rfl⟩ : ∃ m, k = m + 1 := ⟨k - 1, by omega⟩
  simp only [impl_allSmallLetters.l0, smallFrom]
  rw [if_pos (by omega), if_pos (by omega)]
  by_cases h1 : bt s i < 97
  ·rw [if_pos h1, if_pos h1]
  ·rw [if_neg h1, if_neg h1]
   by_cases h2 : bt s i > 122
   ·rw [if_pos h2, if_pos h2]
   ·rw [if_neg h2, if_neg h2, w64 (by omega) (by omega)]
    exact ih k (i + 1) (by omega) (by omega)
theorem smalls_i (s : ByteArray) (hs : s.size ≤ 140737488351232) : Ev (fun k => impl_allSmallLetters.f k s) (isSmall s) := by
 refine Ev.of (fun k => impl_allSmallLetters.mono _ k) (k := s.size + 1) ?_
 exact small_i s hs s.size (s.size + 1) 0 (by omega) (by omega)
theorem house_i (s : ByteArray) (hs : s.size ≤ 140737488351232) : Ev (fun k => impl_isHouse.f k s) (isHouse s) := by
 unfold impl_isHouse.f isHouse
 by_cases h1 : 1 ≤ s.size
 ·simp only [show ((s.size : Int) ≥ 1) from by omega, if_true, h1, decide_true, Bool.true_and]
  by_cases h2 : s.size ≤ 5
  ·simp only [show ((s.size : Int) ≤ 5) from by omega, if_true, h2, decide_true, Bool.true_and]
   exact Ev.bind (smalls_i s hs) (Ev.now _)
  ·simp only [show ¬ ((s.size : Int) ≤ 5) from by omega, if_false, h2, decide_false, Bool.false_and]
   exact Ev.now _
 ·simp only [show ¬ ((s.size : Int) ≥ 1) from by omega, if_false, h1, decide_false, Bool.false_and]
  exact Ev.now _
theorem L_fold : ∀ (r : List ByteArray) (acc : ByteArray), L (r.foldl (fun a q => (a ++ ⟨#[47]⟩) ++ q) acc) = L acc ++ Lib.joinTail [47] (r.map L)
 | [], acc => by simp [Lib.joinTail]
 | q :: r, acc => by
  rw [List.foldl_cons, L_fold r, L_app, L_app]
  simp [Lib.joinTail, L]
theorem L_body (ps : List ByteArray) : L (body ps) = 47 :: Lib.join (ps.map L) [47] := by
 cases ps with
 | nil => rfl
 | cons p r =>
  unfold body
  rw [L_fold, List.map_cons, Lib.join_cons, L_app]
  rfl
theorem body_join (ps : List ByteArray) : (⟨#[47]⟩ : ByteArray) ++ ofL (Lib.join (ps.map L) [47]) = body ps := by
 apply L_inj
 rw [L_app, L_of, L_body]
 rfl
theorem join_len (ps : List ByteArray) : (Lib.join (ps.map L) [47]).length + 1 = (body ps).size := by
 rw [← L_size, L_body]; simp
theorem path_i (parts : List ByteArray) (asks : Bool) (ask house : ByteArray) (hP : Parts parts) (hq : ask.size ≤ 1048576) : impl_writePath.f house parts asks ask = some (pathB parts asks ask) := by
 have hz := path_size parts false ask hP hq
 have hb : pathB parts false ask = body parts := rfl
 rw [hb] at hz
 have hj := join_len parts
 have hf := hP.few
 unfold impl_writePath.f strings_Join.f
 have e47 : L (⟨#[47]⟩ : ByteArray) = [47] := rfl
 rw [e47, if_pos ⟨by omega, by omega⟩]
 simp only [Option.bind_some]
 have hs := ofL_size (Lib.join (parts.map L) [47])
 rw [if_pos (by omega), body_join]
 by_cases h : asks = true
 ·rw [if_pos h, if_pos (by omega), if_pos (by omega)]
  unfold pathB
  rw [if_pos h, ByteArray.append_assoc]
 ·rw [if_neg h]
  unfold pathB
  rw [if_neg h]
theorem text_i (house : ByteArray) (parts : List ByteArray) (asks : Bool) (ask : ByteArray) (hP : Parts parts) (hq : ask.size ≤ 1048576) (hh : house.size ≤ 1048576) :
  impl_writeAddr.f house parts asks ask = some (textB house parts asks ask) := by
 have hz := path_size parts asks ask hP hq
 unfold impl_writeAddr.f
 rw [if_pos (by omega), path_i parts asks ask house hP hq]
 simp only [Option.bind_some]
 rw [if_pos (by omega)]
 rfl
def okEnd (house : ByteArray) (parts : List ByteArray) (asks : Bool) (ask : ByteArray) : Bool := isNorm ask && (asks || ask.toList == []) && decide ((textB house parts asks ask).size ≤ 60)
theorem ok_i (house : ByteArray) (parts : List ByteArray) (asks : Bool) (ask : ByteArray) (hP : Parts parts) (hq : ask.size ≤ 1048576) (hh : house.size ≤ 1048576) (d : Nat) : ∀ (i : Nat), i + d = parts.length →
  Ev (fun k => impl_AddrOk.l0 k parts (parts.length : Int) (i : Int) house parts asks ask) ((parts.drop i).all partOk && okEnd house parts asks ask) := by
 have hf := hP.few
 induction d with
 | zero =>
  intro i hi
  rw [List.drop_eq_nil_of_le (by omega)]
  simp only [List.all_nil, Bool.true_and]
  refine Ev_succ ?_
  simp only [impl_AddrOk.l0]
  simp only [show ¬ ((i : Int) < (parts.length : Int)) from by omega, if_false, text_i house parts asks ask hP hq hh, Option.bind_some]
  refine Ev.bind (norm_i ask) ?_
  unfold okEnd
  have e : decide (((textB house parts asks ask).size : Int) ≤ 60) = decide ((textB house parts asks ask).size ≤ 60) := by rw [Bool.eq_iff_iff]; simp; omega
  by_cases h3 : isNorm ask = true
  ·simp only [h3, if_true, Bool.true_and, e]
   by_cases h4 : asks = true
   ·simp only [h4, if_true, Bool.true_or, Bool.true_and]
    exact Ev.now _
   ·by_cases h5 : ask.toList = []
    ·simp only [h4, if_false, h5, if_true, beq_self_eq_true, Bool.or_true, Bool.true_and]
     exact Ev.now _
    ·simp only [h4, if_false, h5, show (ask.toList == ([] : List UInt8)) = false from by simp [h5], Bool.or_false, Bool.false_and]
     exact Ev.now _
  ·simp only [h3, if_false, Bool.false_and]
   exact Ev.now _
 | succ d ih =>
  intro i hi
  have hlt : i < parts.length := by omega
  rw [List.drop_eq_getElem_cons hlt, List.all_cons]
  refine Ev_succ ?_
  simp only [impl_AddrOk.l0]
  have w1 : wrap64 ((i : Int) + 1) = ((i + 1 : Nat) : Int) := by rw [w64 (by omega) (by omega)]; omega
  simp only [show ((i : Int) < (parts.length : Int)) from by omega, show ((0 : Int) ≤ (i : Int)) from by omega, if_true, rd_at hlt, w1]
  by_cases h2 : parts[i].toList = []
  ·simp only [h2, if_true]
   rw [show partOk parts[i] = false from by simp [partOk, h2]]
   exact Ev.now _
  ·by_cases h3 : parts[i].toList = [46]
   ·simp only [h2, h3, if_true, if_false]
    rw [show partOk parts[i] = false from by simp [partOk, h3]]
    first | exact Ev.now _ | simpa using Ev.now _
   ·by_cases h4 : parts[i].toList = [46, 46]
    ·simp only [h2, h3, h4, if_true, if_false]
     rw [show partOk parts[i] = false from by simp [partOk, h4]]
     first | exact Ev.now _ | simpa using Ev.now _
    ·simp only [h2, h3, h4, if_false]
     refine Ev.bind (norm_i parts[i]) ?_
     by_cases h1 : isNorm parts[i] = true
     ·simp only [h1, if_true]
      rw [show partOk parts[i] = true from by simp [partOk, h1, h2, h3, h4], Bool.true_and]
      exact ih (i + 1) (by omega)
     ·simp only [h1, if_false]
      rw [show partOk parts[i] = false from by simp [partOk, h1]]
      exact Ev.now _
theorem okEnd_is (house : ByteArray) (parts : List ByteArray) (asks : Bool) (ask : ByteArray) : addrOk house parts asks ask = (isHouse house && decide (parts.length ≤ 5) && (parts.all partOk && okEnd house parts asks ask)) := by
 unfold addrOk okEnd
 cases isHouse house <;> cases decide (parts.length ≤ 5) <;> cases isNorm ask <;> cases (asks || ask.toList == []) <;> cases parts.all partOk <;> rfl
theorem addrOk_i (house : ByteArray) (parts : List ByteArray) (asks : Bool) (ask : ByteArray) (hP : Parts parts) (hq : ask.size ≤ 1048576) (hh : house.size ≤ 1048576) :
  Ev (fun k => impl_AddrOk.f k house parts asks ask) (addrOk house parts asks ask) := by
 have hf := hP.few
 have bad : Ev (fun k => impl_AddrOk.j0 k true house parts asks ask) false := Ev_succ (by simp only [impl_AddrOk.j0, if_true]; exact Ev.now _)
 unfold impl_AddrOk.f
 rw [okEnd_is]
 refine Ev.bind (house_i house (by omega)) ?_
 by_cases h1 : isHouse house = true
 ·simp only [h1, if_true, Bool.true_and]
  by_cases h2 : parts.length ≤ 5
  ·rw [show decide ((parts.length : Int) > 5) = false from by simp; omega]
   simp only [h2, decide_true, Bool.true_and]
   refine Ev_succ ?_
   simp only [impl_AddrOk.j0, Bool.false_eq_true, if_false]
   have := ok_i house parts asks ask hP hq hh parts.length 0 (by omega)
   simpa using this
  ·rw [show decide ((parts.length : Int) > 5) = true from by simp; omega]
   simp only [h2, decide_false, Bool.false_and]
   exact bad
 ·simp only [h1, if_false, Bool.false_and]
  exact bad
theorem addrText_i (house : ByteArray) (parts : List ByteArray) (asks : Bool) (ask : ByteArray) (hP : Parts parts) (hq : ask.size ≤ 1048576) (hh : house.size ≤ 1048576) :
  Ev (fun k => impl_AddrText.f k house parts asks ask) (addrText house parts asks ask) := by
 unfold impl_AddrText.f addrText
 refine Ev.bind (addrOk_i house parts asks ask hP hq hh) ?_
 by_cases h : addrOk house parts asks ask = true
 ·simp only [h, if_true, text_i house parts asks ask hP hq hh, Option.bind_some]
  exact Ev.now _
 ·simp only [h, if_false]
  exact Ev.now _
end Go.Proofs.YtgjfegfopjfdpaaGreatDoor.Ad
end
section
namespace Go.Proofs.YtgjfegfopjfdpaaGreatDoor.Ad
open Go.RowKit Go.Proofs.YtgjfegfopjfdpaaGreatDoor.P Go.Proofs.YtgjfegfopjfdpaaGreatDoorW.PrintWords Go.Proofs.YtgjfegfopjfdpaaGreatDoorW.PrintLast Go.Proofs.YtgjfegfopjfdpaaGreatDoorW.PrintMore Go.Proofs.YtgjfegfopjfdpaaGreatDoor.B
set_option linter.unusedVariables false
set_option linter.unusedSimpArgs false
theorem index_cut (c : UInt8) : ∀ l : List UInt8, Lib.indexByte l c = if (cutL c l).2.2 = true then (((cutL c l).1.length : Nat) : Int) else -1
 | [] => rfl
 | x :: xs => by
  unfold Lib.indexByte cutL
  by_cases h : x = c
  ·subst h; simp
  ·have hb : (x == c) = false := by simp [h]
   simp only [hb, h, if_false, Bool.false_eq_true, index_cut c xs]
   by_cases h2 : (cutL c xs).2.2 = true
   ·simp only [h2, if_true]
    have : ((((cutL c xs).1.length : Nat) : Int) == -1) = false := by simp
    rw [this]
    simp
   ·simp only [h2, if_false, Bool.false_eq_true]
    rfl
theorem cut_parts {c : UInt8} {s : ByteArray} (h : (cutL c (L s)).2.2 = true) :
  s.extract 0 (cutL c (L s)).1.length = ofL (cutL c (L s)).1 ∧ s.extract ((cutL c (L s)).1.length + 1) s.size = ofL (cutL c (L s)).2.1 ∧ (cutL c (L s)).1.length + 1 ≤ s.size := by
 have e := cutL_true h
 have hn := (cutL_len (c := c) (L s)).2 h
 rw [L_size] at hn
 generalize (cutL c (L s)).1 = a at *
 generalize (cutL c (L s)).2.1 = b at *
 have e' : s.data.toList = a ++ c :: b := e
 refine ⟨?_, ?_, by omega⟩
 ·apply L_inj
  rw [L_ext, L_of, e']
  simp
 ·apply L_inj
  have : (a ++ c :: b).drop (a.length + 1) = b := by rw [List.drop_append]; simp
  rw [L_ext, L_of, e', this, List.take_of_length_le (by omega)]
theorem cut_i (s : ByteArray) (c : UInt8) (hs : s.size ≤ 140737488351232) : strings_Cut.f s ⟨#[c]⟩ = some (cutB c s) := by
 have e1 : L (⟨#[c]⟩ : ByteArray) = [c] := rfl
 have e2 : (⟨#[c]⟩ : ByteArray).size = 1 := rfl
 unfold strings_Cut.f stringslite_Cut.f stringslite_Index.f cutB
 rw [e1]
 simp only [Option.bind_some, index_cut, e2]
 by_cases h : (cutL c (L s)).2.2 = true
 ·obtain ⟨h1, h2, h3⟩ := cut_parts h
  simp only [h, if_true]
  rw [if_pos (by omega), if_pos (by omega), if_pos (by omega), w64 (by omega) (by omega), if_pos (by omega), if_pos (by omega)]
  simp only [Option.bind_some, Int.toNat_natCast]
  rw [h1, show (((cutL c (L s)).1.length : Int) + ((1 : Nat) : Int)).toNat = (cutL c (L s)).1.length + 1 from by omega, h2]
 ·simp only [h, if_false, Bool.false_eq_true]
  rw [if_neg (by decide)]
  obtain ⟨g1, g2⟩ := cutL_false (c := c) (l := L s) (by simpa using h)
  simp only [Option.bind_some, g1, g2, of_L]
  first | done | rfl
theorem count_cut_false {c : UInt8} : ∀ {l : List UInt8}, Lib.countByte l c = 0 → (cutL c l).2.2 = false
 | [], _ => rfl
 | x :: xs, h => by
  unfold Lib.countByte at h
  unfold cutL
  by_cases e : x = c
  ·subst e; simp at h
  ·rw [if_neg e]
   have h' : Lib.countByte xs c = 0 := by unfold Lib.countByte; rw [List.count_cons] at h; omega
   exact count_cut_false h'
theorem count_cut_true {c : UInt8} {m : Nat} : ∀ {l : List UInt8}, Lib.countByte l c = m + 1 → (cutL c l).2.2 = true ∧ Lib.countByte (cutL c l).2.1 c = m
 | [], h => by simp [Lib.countByte] at h
 | x :: xs, h => by
  unfold Lib.countByte at h
  unfold cutL
  by_cases e : x = c
  ·subst e
   rw [if_pos rfl]
   refine ⟨rfl, ?_⟩
   unfold Lib.countByte
   rw [List.count_cons_self] at h
   exact Nat.succ.inj h
  ·rw [if_neg e]
   have h' : Lib.countByte xs c = m + 1 := by
    unfold Lib.countByte
    rw [List.count_cons_of_ne e] at h
    exact h
   exact count_cut_true h'
theorem w64n0 (a : Nat) (h : a < 4611686018427387904) : wrap64 ((a : Int) + 0) = (a : Int) := by rw [w64 (by omega) (by omega)]; omega
theorem w64n1 (a : Nat) (h : a < 4611686018427387904) : wrap64 ((a : Int) + 1) = ((a + 1 : Nat) : Int) := by rw [w64 (by omega) (by omega)]; omega
theorem w64n2 (a : Nat) (h : a < 4611686018427387904) : wrap64 ((a : Int) + ((1 : Nat) : Int)) = ((a + 1 : Nat) : Int) := by rw [w64 (by omega) (by omega)]; omega
theorem w64b {n m : Nat} (h : n + 1 ≤ m) (hm : m ≤ 1000000000) : n < 4611686018427387904 := by omega
theorem w64d {n m : Nat} (h : n + m ≤ 2000000000) : n < 4611686018427387904 := by omega
theorem ci_lt (a m : Nat) : (a : Int) < ((a + (m + 1) : Nat) : Int) := by omega
theorem ci_neg (n : Nat) : ¬ ((n : Int) < 0) := by omega
theorem ci_nn (n : Nat) : (0 : Int) ≤ (n : Int) := by omega
theorem ci_le {n s : Nat} (h : n + 1 ≤ s) : (n : Int) ≤ (s : Int) := by omega
theorem ci_le1 {n s : Nat} (h : n + 1 ≤ s) : ((n + 1 : Nat) : Int) ≤ (s : Int) := by omega
theorem ci_l6 {a m l : Nat} (h : l = a + (m + 2)) : (a : Int) < (l : Int) := by omega
theorem set_mid (a : List ByteArray) (m : Nat) (p e : ByteArray) : (a ++ List.replicate (m + 1) e).set a.length p = (a ++ [p]) ++ List.replicate m e := by
 rw [List.set_append_right _ _ (Nat.le_refl _), Nat.sub_self, List.replicate_succ, List.set_cons_zero, List.append_assoc]
 rfl
theorem take_mid (a b : List ByteArray) (p : ByteArray) : ((a ++ [p]) ++ b).take (a.length + 1) = a ++ [p] := by
 rw [List.take_append_of_le_length (by simp)]
 exact List.take_of_length_le (by simp)
theorem split_li (c : UInt8) : ∀ (m : Nat) (s : ByteArray) (a : List ByteArray), Lib.countByte (L s) c = m → s.size ≤ 1000000000 → a.length + m ≤ 2000000000 →
  Ev (fun k => strings_genSplit.l0 k s ⟨#[c]⟩ 0 ((a.length + m : Nat) : Int) (a ++ List.replicate (m + 1) (⟨#[]⟩ : ByteArray)) (a.length : Int)) (a ++ (splitL c (L s)).map ofL) := by
 intro m
 have e1 : L (⟨#[c]⟩ : ByteArray) = [c] := rfl
 have e2 : (⟨#[c]⟩ : ByteArray).size = 1 := rfl
 induction m with
 | zero =>
  intro s a hc hs ha
  have hf := count_cut_false hc
  obtain ⟨g1, g2⟩ := cutL_false hf
  rw [splitL_eq, hf]
  refine Ev_succ ?_
  simp only [strings_genSplit.l0]
  have hl : (a ++ List.replicate (0 + 1) (⟨#[]⟩ : ByteArray)).length = a.length + 1 := by simp
  have hw : wrap64 ((a.length : Int) + 1) = ((a.length + 1 : Nat) : Int) := by rw [w64 (by omega) (by omega)]; omega
  simp only [show ¬ ((a.length : Int) < ((a.length + 0 : Nat) : Int)) from by omega, if_false, hl, show ((0 : Int) ≤ (a.length : Int)) from by omega, show ((a.length : Int) < ((a.length + 1 : Nat) : Int)) from by omega, if_true, hw,
   show ((0 : Int) ≤ ((a.length + 1 : Nat) : Int)) from by omega, Int.toNat_natCast, Int.le_refl]
  rw [set_mid, take_mid]
  simp only [Bool.false_eq_true, if_false, List.map_cons, List.map_nil, g1, of_L]
  exact Ev.now _
 | succ m ih =>
  intro s a hc hs ha
  obtain ⟨ht, hc'⟩ := count_cut_true hc
  obtain ⟨h1, h2, h3⟩ := cut_parts ht
  have hix : Lib.indexByte (L s) c = (((cutL c (L s)).1.length : Nat) : Int) := by rw [index_cut, if_pos ht]
  rw [splitL_eq, if_pos ht]
  have hz : (ofL (cutL c (L s)).2.1).size ≤ 1000000000 := by
   have := (cutL_len (c := c) (L s)).1
   rw [L_size] at this
   rw [ofL_size]; omega
  have key := ih (ofL (cutL c (L s)).2.1) (a ++ [ofL (cutL c (L s)).1]) (by rw [L_of]; exact hc') hz (by simp; omega)
  rw [L_of] at key
  rw [List.map_cons, show a ++ ofL (cutL c (L s)).1 :: List.map ofL (splitL c (cutL c (L s)).2.1) = a ++ [ofL (cutL c (L s)).1] ++ List.map ofL (splitL c (cutL c (L s)).2.1) from by simp]
  generalize (cutL c (L s)).1.length = n at h1 h2 h3 hix
  rw [show (cutL c (L s)).2.1 = L (s.extract (n + 1) s.size) from by rw [h2, L_of]]
  rw [← h1] at key ⊢
  rw [← h2] at key
  clear hz h1 h2 hc' ht hc
  have hl : (a ++ List.replicate (m + 1 + 1) (⟨#[]⟩ : ByteArray)).length = a.length + (m + 2) := by simp
  have hl2 : (a ++ [s.extract 0 n]).length = a.length + 1 := by simp
  rw [hl2] at key
  refine Ev.step (fun k => ?_) key
  have c1 := ci_lt a.length m
  have c2 := ci_neg n
  have c3 := ci_nn n
  have c4 := ci_le h3
  have c5 := ci_nn a.length
  have c6 := ci_l6 hl
  have c7 := ci_nn (n + 1)
  have c8 := ci_le1 h3
  have hw : wrap64 ((a.length : Int) + 1) = ((a.length + 1 : Nat) : Int) := w64n1 a.length (w64d ha)
  have hw0 : wrap64 ((n : Int) + 0) = (n : Int) := w64n0 n (w64b h3 hs)
  have hw1 : wrap64 ((n : Int) + ((1 : Nat) : Int)) = ((n + 1 : Nat) : Int) := w64n2 n (w64b h3 hs)
  simp only [strings_genSplit.l0, strings_Index.f, stringslite_Index.f]
  rw [if_pos c1, hix, Option.bind_some, Option.bind_some]
  rw [if_neg c2, hw0, if_pos c3, if_pos c4, if_pos c5, if_pos c6, e2, hw1, if_pos c7, if_pos c8, hw]
  simp only [Int.toNat_natCast]
  rw [set_mid, show a.length + 1 + m = a.length + (m + 1) from by rw [Nat.add_assoc, Nat.add_comm 1 m]]
theorem split_i (s : ByteArray) (c : UInt8) (hs : s.size ≤ 1000000000) : Ev (fun k => strings_Split.f k s ⟨#[c]⟩) ((splitL c (L s)).map ofL) := by
 have e1 : L (⟨#[c]⟩ : ByteArray) = [c] := rfl
 have hcnt : Lib.countByte (L s) c ≤ s.size := by rw [← L_size]; exact List.count_le_length
 unfold strings_Split.f strings_genSplit.f strings_Count.f
 have en : ¬ ((⟨#[c]⟩ : ByteArray).toList = ([] : List UInt8)) := by rw [toList_nil]; show ¬ (1 = 0); omega
 rw [e1]
 simp only [show ¬ ((-1 : Int) = 0) from by omega, if_false, en, show ((-1 : Int) < 0) from by omega, if_true, Option.bind_some]
 refine Ev.bind (a := (splitL c (L s)).map ofL) ?_ (Ev.now _)
 refine Ev_succ ?_
 have hw : wrap64 (((Lib.countByte (L s) c : Nat) : Int) + 1) = ((Lib.countByte (L s) c + 1 : Nat) : Int) := by rw [w64 (by omega) (by omega)]; omega
 have hw2 : wrap64 ((s.size : Int) + 1) = ((s.size + 1 : Nat) : Int) := by rw [w64 (by omega) (by omega)]; omega
 have hm : mn ((Lib.countByte (L s) c + 1 : Nat) : Int) ((s.size + 1 : Nat) : Int) = ((Lib.countByte (L s) c + 1 : Nat) : Int) := by unfold mn; split <;> omega
 have hw3 : wrap64 (((Lib.countByte (L s) c + 1 : Nat) : Int) - 1) = ((0 + Lib.countByte (L s) c : Nat) : Int) := by rw [w64 (by omega) (by omega)]; omega
 simp only [strings_genSplit.j0, hw, hw2, hm, show ((0 : Int) ≤ ((Lib.countByte (L s) c + 1 : Nat) : Int)) from by omega, if_true, Int.toNat_natCast, show Lib.countByte (L s) c + 1 ≤ 17592186044416 from by omega, hw3]
 have := split_li c (Lib.countByte (L s) c) s [] rfl hs (by simp; omega)
 simpa using this
end Go.Proofs.YtgjfegfopjfdpaaGreatDoor.Ad
end
section
namespace Go.Proofs.YtgjfegfopjfdpaaGreatDoor.Ad
open Go.RowKit Go.Proofs.YtgjfegfopjfdpaaGreatDoor.P Go.Proofs.YtgjfegfopjfdpaaGreatDoorW.PrintWords Go.Proofs.YtgjfegfopjfdpaaGreatDoorW.PrintLast Go.Proofs.YtgjfegfopjfdpaaGreatDoorW.PrintMore Go.Proofs.YtgjfegfopjfdpaaGreatDoor.B
set_option linter.unusedVariables false
set_option linter.unusedSimpArgs false
theorem fine_parts {a : A5} (h : Fine a) : Parts a.2.1 ∧ a.1.size ≤ 60 ∧ a.2.2.2.1.size ≤ 60 := by
 rcases h with rfl | ⟨_, h⟩
 ·exact ⟨⟨by simp [none5], by simp [none5]⟩, Nat.zero_le _, Nat.zero_le _⟩
 ·unfold addrOk at h
  simp only [Bool.and_eq_true, decide_eq_true_eq] at h
  obtain ⟨⟨⟨⟨⟨h1, h2⟩, h3⟩, h4⟩, h5⟩, h6⟩ := h
  refine ⟨⟨by omega, fun p hp => ?_⟩, ?_, ?_⟩
  ·have := List.all_eq_true.1 h5 p hp
   unfold partOk at this
   simp only [Bool.and_eq_true] at this
   have := isNorm_size this.1.1.1
   omega
  ·have := isHouse_size h1; omega
  ·exact isNorm_size h3
theorem clean_l (ps : List ByteArray) (hl : ps.length ≤ 1000000) (d : Nat) : ∀ (i : Nat) (acc : List ByteArray), i + d = ps.length → acc.length ≤ i →
  Ev (fun k => spec_PathClean.l0 k ps acc (i : Int)) ((ps.drop i).foldl clean1 acc) := by
 induction d with
 | zero =>
  intro i acc hi ha
  have n1 : ¬ ((i : Int) < (ps.length : Int)) := by omega
  rw [List.drop_eq_nil_of_le (by omega)]
  refine Ev_succ ?_
  simp only [spec_PathClean.l0, n1, if_false]
  exact Ev.now _
 | succ d ih =>
  intro i acc hi ha
  have hi' : i < ps.length := by omega
  have f1 : (i : Int) < (ps.length : Int) := by omega
  have f2 : (0 : Int) ≤ (i : Int) := by omega
  have e1 : wrap64 ((i : Int) + 1) = ((i + 1 : Nat) : Int) := by rw [w64 (by omega) (by omega)]; rfl
  have hr := rd_at hi'
  rw [List.drop_eq_getElem_cons hi', List.foldl_cons]
  generalize ps[i] = p at hr ⊢
  have hc := clean1_len acc p
  have ih' := ih (i + 1) (clean1 acc p) (by omega) (by omega)
  refine Ev_succ ?_
  simp only [spec_PathClean.l0, f1, f2, if_true, hr]
  unfold clean1 at ih' ⊢
  by_cases h1 : p.toList = []
  ·simp only [h1, if_true] at ih' ⊢
   refine Ev_succ ?_
   simp only [spec_PathClean.j1, if_true, e1]
   exact ih'
  ·simp only [h1, if_false] at ih' ⊢
   refine Ev_succ ?_
   by_cases h2 : p.toList = [46]
   ·simp only [h2, if_true] at ih' ⊢
    simp only [spec_PathClean.j1, beq_self_eq_true, if_true, e1]
    exact ih'
   ·have h2' : (p.toList == [46]) = false := by simpa using h2
    simp only [h2, if_false] at ih' ⊢
    simp only [spec_PathClean.j1, h2', Bool.false_eq_true, if_false, f1, f2, if_true, hr, e1]
    by_cases h3 : p.toList = [46, 46]
    ·have m : mx (wrap64 ((acc.length : Int) - 1)) 0 = ((acc.length - 1 : Nat) : Int) := by
      rw [w64 (by omega) (by omega)]; unfold mx; split <;> omega
     have g1 : (0 : Int) ≤ ((acc.length - 1 : Nat) : Int) := by omega
     have g2 : ((acc.length - 1 : Nat) : Int) ≤ (acc.length : Int) := by omega
     simp only [h3, if_true] at ih' ⊢
     simp only [m, g1, g2, if_true, Int.toNat_natCast]
     exact ih'
    ·have g3 : acc.length < 8796093022208 := by omega
     simp only [h3, if_false] at ih' ⊢
     simp only [g3, if_true]
     exact ih'
theorem clean_ev (ps : List ByteArray) (hl : ps.length ≤ 1000000) : Ev (fun k => spec_PathClean.f k ps) (pathClean ps) :=
 clean_l ps hl ps.length 0 [] (by omega) (by simp)
def wayE (house : ByteArray) (asks : Bool) (ask : ByteArray) (ps : List ByteArray) : A5 :=
 if (escNorm ask).2 = true then (if addrOk house (pathClean ps) asks (escNorm ask).1 = true then (house, pathClean ps, asks, (escNorm ask).1, true) else none5) else none5
theorem way_l (house ask : ByteArray) (asks : Bool) (base : List ByteArray) (b0 : Bool) (a0 : ByteArray) (hh : house.size ≤ 100000) (ls : List ByteArray) (hl : ls.length ≤ 900) (d : Nat) :
  ∀ (i : Nat) (acc : List ByteArray), i + d = ls.length → acc.length ≤ i + 50 → (∀ p ∈ acc, p.size ≤ 1048576) →
  Ev (fun k => spec_l1Way.l0 k ask asks acc ls (i : Int) house base b0 a0) (match escAll (ls.drop i) with | none => none5 | some ps => wayE house asks ask (acc ++ ps)) := by
 induction d with
 | zero =>
  intro i acc hi ha hp
  have n1 : ¬ ((i : Int) < (ls.length : Int)) := by omega
  rw [List.drop_eq_nil_of_le (by omega)]
  refine Ev_succ ?_
  simp only [spec_l1Way.l0, n1, if_false, escAll, List.append_nil]
  refine Ev.bind (escNorm_ev ask) (Ev.bind (clean_ev acc (by omega)) ?_)
  have hz := escNorm_size ask
  unfold wayE
  by_cases h1 : (escNorm ask).2 = true
  ·simp only [h1, if_true]
   have hP : Parts (pathClean acc) := ⟨by have := cleanF_len acc []; unfold pathClean; simp only [List.length_nil] at this; omega, fun p hq => by
    rcases cleanF_mem hq with h | h
    ·cases h
    ·exact hp p h⟩
   refine Ev.bind (addrOk_ev house (pathClean acc) asks (escNorm ask).1 hP (by omega) (by omega)) ?_
   by_cases h2 : addrOk house (pathClean acc) asks (escNorm ask).1 = true
   ·simp only [h2, if_true]; exact Ev.now _
   ·simp only [h2, if_false]; exact Ev.now _
  ·simp only [h1, if_false]; exact Ev.now _
 | succ d ih =>
  intro i acc hi ha hp
  have hi' : i < ls.length := by omega
  have f1 : (i : Int) < (ls.length : Int) := by omega
  have f2 : (0 : Int) ≤ (i : Int) := by omega
  have e1 : wrap64 ((i : Int) + 1) = ((i + 1 : Nat) : Int) := by rw [w64 (by omega) (by omega)]; rfl
  have hr := rd_at hi'
  rw [List.drop_eq_getElem_cons hi']
  generalize ls[i] = p at hr ⊢
  have hz := escNorm_size p
  refine Ev_succ ?_
  simp only [spec_l1Way.l0, f1, f2, if_true, hr, e1]
  refine Ev.bind (escNorm_ev p) ?_
  unfold escAll
  by_cases h1 : (escNorm p).2 = true
  ·have g3 : acc.length < 8796093022208 := by omega
   simp only [h1, if_true, g3]
   have ih' := ih (i + 1) (acc ++ [(escNorm p).1]) (by omega) (by simp; omega) (fun x hx => by
    rcases List.mem_append.1 hx with h | h
    ·exact hp x h
    ·rw [List.mem_singleton.1 h]; omega)
   cases he : escAll (ls.drop (i + 1)) with
   | none => rw [he] at ih'; exact ih'
   | some ps =>
    rw [he] at ih'
    simp only [Option.map_some]
    simpa using ih'
  ·simp only [h1, if_false]; exact Ev.now _
theorem cutB_size (c : UInt8) (s : ByteArray) : (cutB c s).1.size ≤ s.size ∧ (cutB c s).2.1.size ≤ s.size := by
 have := (cutL_len (c := c) (L s)).1
 rw [L_size] at this
 unfold cutB
 constructor
 ·show (ofL _).size ≤ _; rw [ofL_size]; omega
 ·show (ofL _).size ≤ _; rw [ofL_size]; omega
theorem way_ev (house : ByteArray) (base : List ByteArray) (b0 : Bool) (a0 way : ByteArray) (hh : house.size ≤ 100000) (hb : base.length ≤ 50) (hp : ∀ p ∈ base, p.size ≤ 1048576) (hw : way.size ≤ 800) :
  Ev (fun k => spec_l1Way.f k house base b0 a0 way) (wayO house base way) := by
 unfold spec_l1Way.f wayO
 refine Ev.bind (cut_ev way 63 (by omega)) ?_
 have hc := cutB_size 63 way
 have g : ([] : List ByteArray).length + base.length < 8796093022208 := by simp; omega
 simp only [Option.bind_some, g, if_true, List.nil_append]
 refine Ev.bind (split_ev (cutB 63 way).1 47 (by omega)) ?_
 have hl := splitL_len 47 (L (cutB 63 way).1)
 rw [L_size] at hl
 have := way_l house (cutB 63 way).2.1 (cutB 63 way).2.2 base b0 a0 hh ((splitL 47 (L (cutB 63 way).1)).map ofL) (by rw [List.length_map]; omega) _ 0 base (Nat.zero_add _) (by omega) hp
 rw [List.drop_zero] at this
 exact this
theorem house_l (s h : ByteArray) (hs : s.size ≤ 800) : ∀ (l : List UInt8) (i : Nat), (L s).drop i = l → h = s →
  Ev (fun k => spec_l1Whole.l0 k s h (⟨#[]⟩ : ByteArray) (i : Int)) (wayO (smallB (ofL ((L s).take i ++ (houseL l).1))) [] (ofL (houseL l).2))
 | [], i, h', e => by
  have := bt_end h'
  have n1 : ¬ ((i : Int) < (s.size : Int)) := by omega
  have eq : (L s).take i = L s := List.take_of_length_le (by rw [L_size]; omega)
  subst e
  refine Ev_succ ?_
  simp only [spec_l1Whole.l0, n1, if_false, houseL, eq, List.append_nil, of_L, spec_l1Small.f, show h.size ≤ 140737488351232 from by omega, if_true, Option.bind_some]
  refine Ev.bind (way_ev (smallB h) [] false _ _ (by unfold smallB; rw [ofL_size, List.length_map, L_size]; omega) (by simp) (by simp) (by decide)) ?_
  exact Ev.now _
 | x :: xs, i, h', e => by
  obtain ⟨hi, hb, hd⟩ := bt_at h'
  have e1 : wrap64 ((i : Int) + 1) = ((i + 1 : Nat) : Int) := by rw [w64 (by omega) (by omega)]; rfl
  have f1 : (i : Int) < (s.size : Int) := by omega
  have f2 : (0 : Int) ≤ (i : Int) := by omega
  have f3 : (i : Int) ≤ (s.size : Int) := by omega
  have c1 : ((x.toNat : Int) = 47) ↔ x = 47 := u8_eq (b := 47)
  have c2 : ((x.toNat : Int) = 63) ↔ x = 63 := u8_eq (b := 63)
  have x1 : s.extract 0 i = ofL ((L s).take i) := by apply L_inj; rw [L_ext, L_of]; simp
  have x2 : s.extract i s.size = ofL (x :: xs) := by
   apply L_inj; rw [L_ext, L_of, h', List.take_of_length_le]
   rw [← h', List.length_drop, L_size]; omega
  have z1 : (ofL ((L s).take i)).size ≤ 800 := by rw [ofL_size, List.length_take, L_size]; omega
  have z2 : (ofL (x :: xs)).size ≤ 800 := by rw [ofL_size, ← h', List.length_drop, L_size]; omega
  have fin : Ev (fun k => (spec_l1Way.f k (smallB (ofL ((L s).take i))) ([] : List ByteArray) false (⟨#[]⟩ : ByteArray) (ofL (x :: xs))).bind fun bt204 => (some (bt204.1, bt204.2.1, bt204.2.2.1, bt204.2.2.2.1, bt204.2.2.2.2))) (wayO (smallB (ofL ((L s).take i ++ []))) [] (ofL (x :: xs))) := by
   rw [List.append_nil]
   refine Ev.bind (way_ev _ [] false _ _ (by unfold smallB; rw [ofL_size, List.length_map, L_size]; omega) (by simp) (by simp) z2) ?_
   exact Ev.now _
  refine Ev_succ ?_
  simp only [spec_l1Whole.l0, f1, f2, f3, if_true, hb, c1, c2, e1, Int.toNat_natCast, x1, x2, spec_l1Small.f, show (ofL ((L s).take i)).size ≤ 140737488351232 from by omega, Option.bind_some]
  unfold houseL
  by_cases h1 : x = 47
  ·simp only [h1, if_true, true_or]
   rw [h1] at fin
   exact fin
  ·by_cases h2 : x = 63
   ·simp only [h1, h2, if_true, if_false, or_true, show ¬ ((63 : UInt8) = 47) from by decide]
    rw [h2] at fin
    exact fin
   ·simp only [h1, h2, if_false, or_self]
    have := house_l s h hs xs (i + 1) hd e
    have ht : (L s).take (i + 1) ++ (houseL xs).1 = (L s).take i ++ (x :: (houseL xs).1) := by
     have hl : i < (L s).length := by rw [L_size]; exact hi
     have : (L s)[i] = x := by
      have hd2 : (L s).drop i = (L s)[i] :: (L s).drop (i + 1) := List.drop_eq_getElem_cons hl
      rw [h'] at hd2
      injection hd2 with h1 h2
      exact h1.symm
     rw [List.take_succ_eq_append_getElem hl, this]
     simp
    rw [ht] at this
    exact this
theorem whole_ev (s : ByteArray) (hs : s.size ≤ 800) : Ev (fun k => spec_l1Whole.f k s) (wholeO s) := by
 have := house_l s s hs (L s) 0 rfl rfl
 simp only [List.take_zero, List.nil_append] at this
 exact this
theorem read_ev (raw : ByteArray) (hs : raw.size ≤ 140737488351232) : Ev (fun k => spec_AddrRead.f k raw) (readO raw) := by
 unfold spec_AddrRead.f readO
 refine Ev.bind (cut_ev raw 35 hs) ?_
 have hc := (cutB_size 35 raw).1
 generalize (cutB 35 raw).1 = c at hc ⊢
 by_cases h1 : raw.size > 60
 ·have n1 : (raw.size : Int) > 60 := by omega
  simp only [n1, h1, if_true]; exact Ev.now _
 ·have n1 : ¬ (raw.size : Int) > 60 := by omega
  simp only [n1, h1, if_false]
  by_cases h2 : c.size < 2
  ·have n2 : (c.size : Int) < 2 := by omega
   simp only [n2, h2, if_true]; exact Ev.now _
  ·have n2 : ¬ (c.size : Int) < 2 := by omega
   have n3 : (2 : Int) ≤ (c.size : Int) := by omega
   have hx : ((c.extract 0 2).toList = [47, 47]) ↔ ((L c).take 2 = [47, 47]) := by
    rw [Lib.toList_data]
    show L (c.extract 0 2) = _ ↔ _
    rw [L_ext]; simp
   simp only [n2, h2, n3, if_true, if_false, show (0 : Int) ≤ 2 from by omega, hx]
   by_cases h3 : (L c).take 2 = [47, 47]
   ·simp only [h3, if_true]
    have hz : (c.extract 2 c.size).size ≤ 800 := by rw [ByteArray.size_extract]; omega
    generalize c.extract 2 c.size = z at hz ⊢
    exact Ev.bind (whole_ev z hz) (Ev.now _)
   ·simp only [h3, if_false]; exact Ev.now _
end Go.Proofs.YtgjfegfopjfdpaaGreatDoor.Ad
end
section
namespace Go.Proofs.YtgjfegfopjfdpaaGreatDoor.P
open Go.RowKit Go.Proofs.YtgjfegfopjfdpaaGreatDoorW.PrintWords Go.Proofs.YtgjfegfopjfdpaaGreatDoorW.PrintLast Go.Proofs.YtgjfegfopjfdpaaGreatDoorW.PrintMore
attribute [local go_sem] max2_int min2_int max_two min_two max_three min_three max_four min_four
set_option linter.unusedVariables false
set_option linter.unusedSimpArgs false

end Go.Proofs.YtgjfegfopjfdpaaGreatDoor.P
end
section
namespace Go.Proofs.YtgjfegfopjfdpaaGreatDoor.Ad
open Go.RowKit Go.Proofs.YtgjfegfopjfdpaaGreatDoor.P Go.Proofs.YtgjfegfopjfdpaaGreatDoorW.PrintWords Go.Proofs.YtgjfegfopjfdpaaGreatDoorW.PrintLast Go.Proofs.YtgjfegfopjfdpaaGreatDoorW.PrintMore Go.Proofs.YtgjfegfopjfdpaaGreatDoor.B
set_option linter.unusedVariables false
set_option linter.unusedSimpArgs false
theorem clean_li (ps : List ByteArray) (hl : ps.length ≤ 1000000) (d : Nat) : ∀ (i : Nat) (acc : List ByteArray), i + d = ps.length → acc.length ≤ i →
  Ev (fun k => impl_PathClean.l0 k acc ps (ps.length : Int) (i : Int)) ((ps.drop i).foldl clean1 acc) := by
 induction d with
 | zero =>
  intro i acc hi ha
  rw [List.drop_eq_nil_of_le (by omega)]
  refine Ev_succ ?_
  simp only [impl_PathClean.l0, show ¬ ((i : Int) < (ps.length : Int)) from by omega, if_false]
  exact Ev.now _
 | succ d ih =>
  intro i acc hi ha
  have hlt : i < ps.length := by omega
  have hr := rd_at hlt
  have w1 := w64n1 i (by omega)
  have f1 : (i : Int) < (ps.length : Int) := by omega
  have f2 := ci_nn i
  rw [List.drop_eq_getElem_cons hlt, List.foldl_cons]
  generalize ps[i] = p at hr ⊢
  have next : ∀ acc', acc'.length ≤ i + 1 → acc' = clean1 acc p → Ev (fun k => impl_PathClean.l0 k acc' ps (ps.length : Int) ((i + 1 : Nat) : Int)) ((ps.drop (i + 1)).foldl clean1 (clean1 acc p)) := fun acc' h1 h2 => by
   rw [← h2]; exact ih (i + 1) acc' (by omega) h1
  refine Ev_succ ?_
  simp only [impl_PathClean.l0, f1, f2, if_true]
  rw [hr]
  by_cases h1 : p.toList = []
  ·simp only [h1, if_true]
   refine Ev_succ ?_
   simp only [impl_PathClean.j1]
   simp only [show (([] : List UInt8) == []) = true from rfl, if_true]
   rw [w1]
   exact next acc (by omega) (by unfold clean1; rw [if_pos h1])
  ·simp only [h1, if_false]
   by_cases h2 : p.toList = [46]
   ·refine Ev_succ ?_
    simp only [impl_PathClean.j1]
    simp only [h2, show (([46] : List UInt8) == [46]) = true from rfl, if_true]
    rw [w1]
    exact next acc (by omega) (by unfold clean1; rw [if_neg h1, if_pos h2])
   ·refine Ev_succ ?_
    simp only [impl_PathClean.j1]
    simp only [show (p.toList == ([46] : List UInt8)) = false from by simp [h2], Bool.false_eq_true, if_false]
    by_cases h3 : p.toList = [46, 46]
    ·simp only [h3, if_true]
     have hc : clean1 acc p = acc.take (acc.length - 1) := by unfold clean1; rw [if_neg h1, if_neg h2, if_pos h3]
     by_cases h4 : acc.length = 0
     ·simp only [show ¬ ((acc.length : Int) > 0) from by omega, if_false]
      rw [w1]
      exact next acc (by omega) (by rw [hc, List.length_eq_zero_iff.1 h4]; rfl)
     ·have w2 : wrap64 ((acc.length : Int) - 1) = ((acc.length - 1 : Nat) : Int) := by rw [w64 (by omega) (by omega)]; omega
      simp only [show ((acc.length : Int) > 0) from by omega, if_true]
      rw [w2]
      simp only [show ((0 : Int) ≤ ((acc.length - 1 : Nat) : Int)) from by omega, show (((acc.length - 1 : Nat) : Int) ≤ (acc.length : Int)) from by omega, if_true, Int.toNat_natCast]
      rw [w1]
      exact next _ (by rw [List.length_take]; omega) hc.symm
    ·simp only [h3, if_false, show acc.length < 8796093022208 from by omega, if_true]
     rw [w1]
     exact next _ (by simp; omega) (by unfold clean1; rw [if_neg h1, if_neg h2, if_neg h3])
theorem clean_i (ps : List ByteArray) (hl : ps.length ≤ 1000000) : Ev (fun k => impl_PathClean.f k ps) (pathClean ps) :=
 clean_li ps hl ps.length 0 [] (by omega) (by simp)
def wayI (house : ByteArray) (asks : Bool) (ask : ByteArray) (ps : List ByteArray) : A5 := if addrOk house (pathClean ps) asks ask = true then (house, pathClean ps, asks, ask, true) else none5
theorem way_li (house ask : ByteArray) (asks : Bool) (hh : house.size ≤ 100000) (hq : ask.size ≤ 1048576) (ls : List ByteArray) (hl : ls.length ≤ 900) (d : Nat) :
  ∀ (i : Nat) (acc : List ByteArray), i + d = ls.length → acc.length ≤ 50 + i → (∀ p ∈ acc, p.size ≤ 1048576) →
  Ev (fun k => impl_readWay.l0 k house ask asks acc ls (ls.length : Int) (i : Int)) (match escAll (ls.drop i) with | none => none5 | some ps => wayI house asks ask (acc ++ ps)) := by
 induction d with
 | zero =>
  intro i acc hi ha hp
  rw [List.drop_eq_nil_of_le (by omega)]
  refine Ev_succ ?_
  simp only [impl_readWay.l0, show ¬ ((i : Int) < (ls.length : Int)) from by omega, if_false, escAll, List.append_nil]
  refine Ev.bind (clean_i acc (by omega)) ?_
  unfold wayI
  have hP : Parts (pathClean acc) := ⟨by have := cleanF_len acc []; unfold pathClean; simp only [List.length_nil] at this; omega, fun p hq => by
   rcases cleanF_mem hq with h | h
   ·cases h
   ·exact hp p h⟩
  refine Ev.bind (addrOk_i house (pathClean acc) asks ask hP (by omega) (by omega)) ?_
  by_cases h2 : addrOk house (pathClean acc) asks ask = true
  ·simp only [h2, if_true]; exact Ev.now _
  ·simp only [h2, if_false]; exact Ev.now _
 | succ d ih =>
  intro i acc hi ha hp
  have hi' : i < ls.length := by omega
  have f1 : (i : Int) < (ls.length : Int) := by omega
  have f2 := ci_nn i
  have e1 := w64n1 i (by omega)
  have hr := rd_at hi'
  rw [List.drop_eq_getElem_cons hi']
  generalize ls[i] = p at hr ⊢
  have hz := escNorm_size p
  refine Ev_succ ?_
  simp only [impl_readWay.l0, f1, f2, if_true, hr, e1]
  refine Ev.bind (escNorm_i p) ?_
  unfold escAll
  by_cases h1 : (escNorm p).2 = true
  ·have g3 : acc.length < 8796093022208 := by omega
   simp only [h1, if_true, g3]
   have ih' := ih (i + 1) (acc ++ [(escNorm p).1]) (by omega) (by simp; omega) (fun x hx => by
    rcases List.mem_append.1 hx with h | h
    ·exact hp x h
    ·rw [List.mem_singleton.1 h]; omega)
   cases he : escAll (ls.drop (i + 1)) with
   | none => rw [he] at ih'; exact ih'
   | some ps =>
    rw [he] at ih'
    simp only [Option.map_some]
    simpa using ih'
  ·simp only [h1, if_false]; exact Ev.now _
theorem way_i (house : ByteArray) (base : List ByteArray) (way : ByteArray) (hh : house.size ≤ 100000) (hb : base.length ≤ 50) (hp : ∀ p ∈ base, p.size ≤ 1048576) (hw : way.size ≤ 800) :
  Ev (fun k => impl_readWay.f k house base way) (wayO house base way) := by
 unfold impl_readWay.f wayO
 have hc := cutB_size 63 way
 rw [cut_i way 63 (by omega)]
 simp only [Option.bind_some]
 have hz := escNorm_size (cutB 63 way).2.1
 refine Ev.bind (escNorm_i (cutB 63 way).2.1) ?_
 by_cases h1 : (escNorm (cutB 63 way).2.1).2 = true
 ·simp only [h1, if_true, slices_Clone_string_string.f, show base.length * 16 ≤ 140737488355328 from by omega, Option.bind_some]
  refine Ev.bind (split_i (cutB 63 way).1 47 (by omega)) ?_
  have hl := splitL_len 47 (L (cutB 63 way).1)
  rw [L_size] at hl
  have := way_li house (escNorm (cutB 63 way).2.1).1 (cutB 63 way).2.2 hh (by omega) ((splitL 47 (L (cutB 63 way).1)).map ofL) (by rw [List.length_map]; omega) _ 0 base (Nat.zero_add _) (by omega) hp
  rw [List.drop_zero] at this
  exact this
 ·simp only [h1, if_false]
  generalize escAll ((splitL 47 (L (cutB 63 way).1)).map ofL) = o
  cases o <;> exact Ev.now _
theorem any_house : ∀ l : List UInt8, (Lib.indexAny l [47, 63] = -1 → houseL l = (l, [])) ∧ (∀ n : Nat, Lib.indexAny l [47, 63] = (n : Int) → houseL l = (l.take n, l.drop n) ∧ n ≤ l.length)
 | [] => ⟨fun _ => rfl, fun n h => by unfold Lib.indexAny at h; omega⟩
 | x :: xs => by
  obtain ⟨i1, i2⟩ := any_house xs
  unfold Lib.indexAny houseL
  by_cases h : x = 47 ∨ x = 63
  ·have hc : ([47, 63] : List UInt8).contains x = true := by rcases h with h | h <;> subst h <;> decide
   rw [if_pos h, if_pos hc]
   refine ⟨fun e => by omega, fun n e => ?_⟩
   obtain rfl : n = 0 := by omega
   exact ⟨rfl, Nat.zero_le _⟩
  ·have hc : ¬ ([47, 63] : List UInt8).contains x = true := by
    simp only [List.contains_cons, List.contains_nil, Bool.or_false, Bool.or_eq_true, beq_iff_eq]
    exact h
   rw [if_neg h, if_neg hc]
   have hge := Lib.indexAny_ge [47, 63] xs
   by_cases h2 : Lib.indexAny xs [47, 63] = -1
   ·have hb : (Lib.indexAny xs [47, 63] == -1) = true := by simp [h2]
    rw [if_pos hb]
    refine ⟨fun _ => by rw [i1 h2], fun n e => by omega⟩
   ·have hb : ¬ (Lib.indexAny xs [47, 63] == -1) = true := by simp [h2]
    rw [if_neg hb]
    refine ⟨fun e => by omega, fun n e => ?_⟩
    obtain ⟨m, hm⟩ : ∃ m : Nat, Lib.indexAny xs [47, 63] = (m : Int) := ⟨(Lib.indexAny xs [47, 63]).toNat, by omega⟩
    obtain ⟨g1, g2⟩ := i2 m hm
    obtain rfl : n = m + 1 := by omega
    rw [g1]
    exact ⟨rfl, by simp only [List.length_cons]; omega⟩
def wholeI (s : ByteArray) : A5 := if s.size < 2 then none5 else if (L s).take 2 = [47, 47] then wholeO (s.extract 2 s.size) else none5
theorem prefix_i (s : ByteArray) (hs : s.size ≤ 800) : stringslite_HasPrefix.f s ⟨#[47, 47]⟩ = some (decide (2 ≤ s.size) && decide ((L s).take 2 = [47, 47])) := by
 unfold stringslite_HasPrefix.f
 have e2 : (⟨#[47, 47]⟩ : ByteArray).size = 2 := rfl
 rw [e2]
 by_cases h : 2 ≤ s.size
 ·rw [if_pos (by omega), if_pos (by omega), if_pos (by omega)]
  have hx : (s.extract 0 2).toList = (L s).take 2 := by rw [Lib.toList_data]; show L (s.extract 0 2) = _; rw [L_ext]; simp
  have hy : (⟨#[47, 47]⟩ : ByteArray).toList = [47, 47] := by rw [Lib.toList_data]
  simp only [Int.toNat_natCast, hx, hy, h, decide_true, Bool.true_and]
  congr 1
  rw [Bool.eq_iff_iff]; simp
 ·rw [if_neg (by omega)]
  simp [h]
theorem whole_i (s : ByteArray) (hs : s.size ≤ 800) : Ev (fun k => impl_readWhole.f k s) (wholeI s) := by
 unfold impl_readWhole.f strings_CutPrefix.f stringslite_CutPrefix.f wholeI
 have e2 : (⟨#[47, 47]⟩ : ByteArray).size = 2 := rfl
 rw [prefix_i s hs, e2]
 simp only [Option.bind_some]
 by_cases h : 2 ≤ s.size
 ·by_cases h3 : (L s).take 2 = [47, 47]
  ·simp only [h, h3, decide_true, Bool.true_and, if_true, show ¬ (s.size < 2) from by omega, if_false]
   rw [if_pos (by omega), if_pos (by omega)]
   simp only [Option.bind_some, if_true, Int.toNat_natCast]
   have hz : (s.extract 2 s.size).size ≤ 800 := by rw [ByteArray.size_extract]; omega
   generalize s.extract 2 s.size = z at hz
   unfold strings_IndexAny.f wholeO
   have ez : L (⟨#[47, 63]⟩ : ByteArray) = [47, 63] := rfl
   rw [ez, if_pos ⟨rfl, by omega⟩]
   obtain ⟨a1, a2⟩ := any_house (L z)
   have hge := Lib.indexAny_ge [47, 63] (L z)
   by_cases hi : Lib.indexAny (L z) [47, 63] = -1
   ·have hH := a1 hi
    rw [hH]
    have x1 : z.extract 0 ((z.size : Int)).toNat = z := by apply L_inj; rw [L_ext, Int.toNat_natCast, List.drop_zero]; exact List.take_of_length_le (by rw [Nat.sub_zero]; exact Nat.le_of_eq (L_size z))
    have x2 : z.extract ((z.size : Int)).toNat z.size = ofL [] := by apply L_inj; rw [L_ext, L_of, Int.toNat_natCast, Nat.sub_self]; exact List.take_zero
    rw [of_L]
    refine Ev.congr (f := fun k => (impl_readWay.f k (smallB z) [] (ofL [])).bind fun b => some (b.1, b.2.1, b.2.2.1, b.2.2.2.1, b.2.2.2.2)) (fun k => ?_) ?_
    ·rw [hi, Option.bind_some, if_pos (by omega), if_pos (by omega), if_pos (by omega)]
     first | rw [x1, x2] | (simp only [Int.toNat_natCast] at x1 x2; rw [x1, x2])
     unfold impl_smallLetters.f
     rw [if_pos (by omega), Option.bind_some]
    refine Ev.bind (way_i (smallB z) [] (ofL []) (by unfold smallB; rw [ofL_size, List.length_map, L_size]; omega) (by simp) (by simp) (by decide)) ?_
    exact Ev.now _
   ·obtain ⟨n, hn⟩ : ∃ n : Nat, Lib.indexAny (L z) [47, 63] = (n : Int) := ⟨(Lib.indexAny (L z) [47, 63]).toNat, by omega⟩
    obtain ⟨hH, hle⟩ := a2 n hn
    rw [L_size] at hle
    rw [hH]
    have x1 : z.extract 0 ((n : Int)).toNat = ofL ((L z).take n) := by apply L_inj; rw [L_ext, L_of]; simp
    have x2 : z.extract ((n : Int)).toNat z.size = ofL ((L z).drop n) := by
     apply L_inj; rw [L_ext, L_of, Int.toNat_natCast]
     exact List.take_of_length_le (by rw [List.length_drop, L_size]; exact Nat.le_refl _)
    have s1 : (ofL ((L z).take n)).size ≤ 800 := by rw [ofL_size, List.length_take, L_size]; omega
    have s2 : (ofL ((L z).drop n)).size ≤ 800 := by rw [ofL_size, List.length_drop, L_size]; omega
    generalize ofL ((L z).take n) = y at s1 x1 ⊢
    refine Ev.congr (f := fun k => (impl_readWay.f k (smallB y) [] (ofL ((L z).drop n))).bind fun b => some (b.1, b.2.1, b.2.2.1, b.2.2.2.1, b.2.2.2.2)) (fun k => ?_) ?_
    ·rw [hn, Option.bind_some, if_neg (by omega), if_pos (by omega), if_pos (by omega), x1, x2]
     unfold impl_smallLetters.f
     rw [if_pos (by omega), Option.bind_some]
    refine Ev.bind (way_i (smallB y) [] _ (by unfold smallB; rw [ofL_size, List.length_map, L_size]; omega) (by simp) (by simp) s2) ?_
    exact Ev.now _
  ·simp only [h, h3, decide_true, decide_false, Bool.and_false, Bool.false_eq_true, if_false, Option.bind_some, show ¬ (s.size < 2) from by omega]
   exact Ev.now _
 ·simp only [h, decide_false, Bool.false_and, Bool.false_eq_true, if_false, Option.bind_some, show s.size < 2 from by omega, if_true]
  exact Ev.now _
end Go.Proofs.YtgjfegfopjfdpaaGreatDoor.Ad
end
section
namespace Go.Proofs.YtgjfegfopjfdpaaGreatDoor.Ad
open Go.RowKit Go.Proofs.YtgjfegfopjfdpaaGreatDoor.P Go.Proofs.YtgjfegfopjfdpaaGreatDoorW.PrintWords Go.Proofs.YtgjfegfopjfdpaaGreatDoorW.PrintLast Go.Proofs.YtgjfegfopjfdpaaGreatDoorW.PrintMore Go.Proofs.YtgjfegfopjfdpaaGreatDoor.B
set_option linter.unusedVariables false
set_option linter.unusedSimpArgs false
def joinS (h : ByteArray) (ps : List ByteArray) (asks : Bool) (ask s : ByteArray) : A5 :=
 if (decide (2 ≤ s.size) && decide ((L s).take 2 = [47, 47])) = true then wholeO (s.extract 2 s.size)
 else if s.toList = [] then (h, ps, asks, ask, true)
 else if bt s 0 = 47 then wayO h [] s
 else if bt s 0 = 63 then wayO h ps s
 else wayO h (ps.take (ps.length - 1)) s
def joinO (h : ByteArray) (ps : List ByteArray) (asks : Bool) (ask ref : ByteArray) : A5 :=
 if ref.size > 60 then none5 else if addrOk h ps asks ask = true then joinS h ps asks ask (cutB 35 ref).1 else none5
theorem fine_joinS (h : ByteArray) (ps : List ByteArray) (asks : Bool) (ask s : ByteArray) (ho : addrOk h ps asks ask = true) : Fine (joinS h ps asks ask s) := by
 unfold joinS
 split
 ·exact fine_way _ _ _
 ·split
  ·exact Or.inr ⟨rfl, ho⟩
  ·split
   ·exact fine_way _ _ _
   ·split
    ·exact fine_way _ _ _
    ·exact fine_way _ _ _
theorem fine_join (h : ByteArray) (ps : List ByteArray) (asks : Bool) (ask ref : ByteArray) : Fine (joinO h ps asks ask ref) := by
 unfold joinO
 split
 ·exact fine_none
 ·split
  ·rename_i ho; exact fine_joinS _ _ _ _ _ ho
  ·exact fine_none
theorem ok_small {h : ByteArray} {ps : List ByteArray} {asks : Bool} {ask : ByteArray} (ho : addrOk h ps asks ask = true) : ps.length ≤ 5 ∧ (∀ p ∈ ps, p.size ≤ 60) ∧ h.size ≤ 5 ∧ ask.size ≤ 60 := by
 unfold addrOk at ho
 simp only [Bool.and_eq_true, decide_eq_true_eq] at ho
 obtain ⟨⟨⟨⟨⟨h1, h2⟩, h3⟩, h4⟩, h5⟩, h6⟩ := ho
 refine ⟨h2, fun p hp => ?_, isHouse_size h1, isNorm_size h3⟩
 have := List.all_eq_true.1 h5 p hp
 unfold partOk at this
 simp only [Bool.and_eq_true] at this
 exact isNorm_size this.1.1.1
theorem ev_eta {g : Nat → Option A5} {r : A5} (h : Ev g r) : Ev (fun k => (g k).bind fun b => some (b.1, b.2.1, b.2.2.1, b.2.2.2.1, b.2.2.2.2)) r := Ev.bind h (Ev.now r)
theorem mx_len (n : Nat) (h : n ≤ 1000) : mx (wrap64 ((n : Int) - 1)) 0 = ((n - 1 : Nat) : Int) := by
 rw [w64 (by omega) (by omega)]; unfold mx; split <;> omega
theorem join_i (h : ByteArray) (ps : List ByteArray) (asks : Bool) (ask ref : ByteArray) (hP : Parts ps) (hq : ask.size ≤ 1048576) (hh : h.size ≤ 1048576) :
  Ev (fun k => impl_AddrJoin.f k h ps asks ask ref) (joinO h ps asks ask ref) := by
 have bad : Ev (fun k => impl_AddrJoin.j0 k ref true h ps asks ask) none5 := Ev_succ (by simp only [impl_AddrJoin.j0, if_true]; exact Ev.now _)
 unfold impl_AddrJoin.f joinO
 by_cases hr : ref.size > 60
 ·simp only [show ((ref.size : Int) > 60) from by omega, if_true, hr]
  exact bad
 ·simp only [show ¬ ((ref.size : Int) > 60) from by omega, if_false, hr]
  refine Ev.bind (addrOk_i h ps asks ask hP hq hh) ?_
  by_cases ho : addrOk h ps asks ask = true
  ·simp only [ho, if_true, Bool.not_true]
   obtain ⟨z1, z2, z3, z4⟩ := ok_small ho
   have hc := cutB_size 35 ref
   refine Ev_succ ?_
   simp only [impl_AddrJoin.j0, Bool.false_eq_true, if_false]
   rw [cut_i ref 35 (by omega)]
   simp only [Option.bind_some]
   have hs : (cutB 35 ref).1.size ≤ 60 := by omega
   generalize (cutB 35 ref).1 = s at hs
   unfold strings_HasPrefix.f
   rw [prefix_i s (by omega)]
   simp only [Option.bind_some]
   unfold joinS
   by_cases h1 : (decide (2 ≤ s.size) && decide ((L s).take 2 = [47, 47])) = true
   ·simp only [h1, if_true]
    have e : wholeI s = wholeO (s.extract 2 s.size) := by
     simp only [Bool.and_eq_true, decide_eq_true_eq] at h1
     unfold wholeI
     rw [if_neg (by omega), if_pos h1.2]
    rw [← e]
    exact ev_eta (whole_i s (by omega))
   ·simp only [h1, if_false]
    by_cases h2 : s.toList = []
    ·simp only [h2, if_true, slices_Clone_string_string.f, show ps.length * 16 ≤ 140737488355328 from by omega, Option.bind_some]
     exact Ev.now _
    ·have hpos : 0 < s.size := by
      rcases Nat.eq_zero_or_pos s.size with e | e
      ·exact absurd (toList_nil.2 e) h2
      ·exact e
     simp only [h2, if_false, show (0 : Int) < (s.size : Int) from by omega, if_true]
     by_cases h3 : bt s 0 = 47
     ·simp only [h3, if_true]
      exact ev_eta (way_i h [] s (by omega) (by simp) (by simp) (by omega))
     ·by_cases h4 : bt s 0 = 63
      ·simp only [h3, h4, if_true, if_false, show ¬ ((63 : Int) = 47) from by omega]
       exact ev_eta (way_i h ps s (by omega) (by omega) (fun p hp => by have := z2 p hp; omega) (by omega))
      ·simp only [h3, h4, if_false]
       rw [mx_len ps.length (by omega)]
       simp only [show (0 : Int) ≤ ((ps.length - 1 : Nat) : Int) from by omega, show ((ps.length - 1 : Nat) : Int) ≤ (ps.length : Int) from by omega, if_true, Int.toNat_natCast]
       exact ev_eta (way_i h (ps.take (ps.length - 1)) s (by omega) (by rw [List.length_take]; omega) (fun p hp => by have := z2 p (List.mem_of_mem_take hp); omega) (by omega))
  ·simp only [show addrOk h ps asks ask = false from by simpa using ho, Bool.not_false, Bool.false_eq_true, if_false]
   exact bad
set_option maxHeartbeats 1600000 in
theorem join_ev (h : ByteArray) (ps : List ByteArray) (asks : Bool) (ask ref : ByteArray) (hP : Parts ps) (hq : ask.size ≤ 1048576) (hh : h.size ≤ 1048576) (hs : ref.size ≤ 140737488351232) :
  Ev (fun k => spec_AddrJoin.f k h ps asks ask ref) (joinO h ps asks ask ref) := by
 have bad : ∀ s, Ev (fun k => spec_AddrJoin.j0 k s true h ps asks ask) none5 := fun s => Ev_succ (by simp only [spec_AddrJoin.j0, if_true]; exact Ev.now _)
 unfold spec_AddrJoin.f joinO
 refine Ev.bind (cut_ev ref 35 (by omega)) ?_
 refine Ev.bind (addrOk_ev h ps asks ask hP hq hh) ?_
 by_cases ho : addrOk h ps asks ask = true
 ·simp only [ho, if_true]
  by_cases hr : ref.size > 60
  ·simp only [show decide ((ref.size : Int) > 60) = true from by simp; omega, hr, if_true]
   exact bad _
  ·simp only [show decide ((ref.size : Int) > 60) = false from by simp; omega, hr, if_false]
   obtain ⟨z1, z2, z3, z4⟩ := ok_small ho
   have hc := cutB_size 35 ref
   have hs : (cutB 35 ref).1.size ≤ 60 := by omega
   generalize (cutB 35 ref).1 = s at hs
   have main : Ev (fun k => spec_AddrJoin.j1 k s (decide (2 ≤ s.size) && decide ((L s).take 2 = [47, 47])) h ps asks ask) (joinS h ps asks ask s) := by
    refine Ev_succ ?_
    simp only [spec_AddrJoin.j1]
    unfold joinS
    by_cases h1 : (decide (2 ≤ s.size) && decide ((L s).take 2 = [47, 47])) = true
    ·have h1' := h1
     simp only [Bool.and_eq_true, decide_eq_true_eq] at h1'
     simp only [h1, if_true, show (2 : Int) ≤ (s.size : Int) from by omega]
     exact ev_eta (whole_ev (s.extract 2 s.size) (by rw [ByteArray.size_extract]; omega))
    ·simp only [h1, if_false]
     by_cases h2 : s.toList = []
     ·simp only [h2, if_true, Option.bind_some, show ([] : List ByteArray).length + ps.length < 8796093022208 from by simp; omega, List.nil_append]
      exact Ev.now _
     ·have hpos : 0 < s.size := by
       rcases Nat.eq_zero_or_pos s.size with e | e
       ·exact absurd (toList_nil.2 e) h2
       ·exact e
      simp only [h2, if_false, show (0 : Int) < (s.size : Int) from by omega, if_true]
      by_cases h3 : bt s 0 = 47
      ·simp only [h3, if_true]
       exact ev_eta (way_ev h [] false _ s (by omega) (by simp) (by simp) (by omega))
      ·by_cases h4 : bt s 0 = 63
       ·simp only [h3, h4, if_true, if_false, show ¬ ((63 : Int) = 47) from by omega]
        exact ev_eta (way_ev h ps false _ s (by omega) (by omega) (fun p hp => by have := z2 p hp; omega) (by omega))
       ·simp only [h3, h4, if_false]
        have up : spec_l1Up.f h ps asks ask = some (h, ps.take (ps.length - 1), false, ⟨#[]⟩) := by
         unfold spec_l1Up.f
         rw [mx_len ps.length (by omega), Option.bind_some, if_pos (by omega), if_pos (by omega), Int.toNat_natCast, if_pos (by rw [List.length_take]; simp; omega)]
         rfl
        rw [up]
        simp only [Option.bind_some]
        exact ev_eta (way_ev h (ps.take (ps.length - 1)) false _ s (by omega) (by rw [List.length_take]; omega) (fun p hp => by have := z2 p (List.mem_of_mem_take hp); omega) (by omega))
   refine Ev_succ ?_
   simp only [spec_AddrJoin.j0, Bool.false_eq_true, if_false]
   by_cases h2 : 2 ≤ s.size
   ·have hx : (s.extract 0 2).toList = (L s).take 2 := by rw [Lib.toList_data]; show L (s.extract 0 2) = _; rw [L_ext]; simp
    have e : ((s.extract 0 2).toList == ([47, 47] : List UInt8)) = (decide (2 ≤ s.size) && decide ((L s).take 2 = [47, 47])) := by
     rw [hx, Bool.eq_iff_iff]; simp [h2]
    simp only [show (s.size : Int) ≥ 2 from by omega, show (0 : Int) ≤ 2 from by omega, show (2 : Int) ≤ (s.size : Int) from by omega, if_true, e]
    exact main
   ·have e : (decide (2 ≤ s.size) && decide ((L s).take 2 = [47, 47])) = false := by simp [h2]
    rw [e] at main
    simp only [show ¬ ((s.size : Int) ≥ 2) from by omega, if_false]
    exact main
 ·simp only [show addrOk h ps asks ask = false from by simpa using ho, Bool.false_eq_true, if_false, ite_self]
  exact bad _
end Go.Proofs.YtgjfegfopjfdpaaGreatDoor.Ad
end
section
namespace Go.Proofs.YtgjfegfopjfdpaaGreatDoor.Draw
open Go.RowKit Go.Proofs.YtgjfegfopjfdpaaGreatDoor.P Go.Proofs.YtgjfegfopjfdpaaGreatDoorW.PrintWords Go.Proofs.YtgjfegfopjfdpaaGreatDoorW.PrintLast Go.Proofs.YtgjfegfopjfdpaaGreatDoorW.PrintMore Go.Proofs.YtgjfegfopjfdpaaGreatDoor.B Go.Proofs.YtgjfegfopjfdpaaGreatDoor.Ad
set_option linter.unusedVariables false
set_option linter.unusedSimpArgs false
theorem ok_len {a : A5} (h : Fine a) : a.2.1.length ≤ 20 ∧ (∀ p ∈ a.2.1, p.size ≤ 60) ∧ a.1.size ≤ 60 ∧ a.2.2.2.1.size ≤ 60 := by
 rcases h with rfl | ⟨_, h⟩
 ·exact ⟨by simp [none5], by simp [none5], Nat.zero_le _, Nat.zero_le _⟩
 ·obtain ⟨h1, h2, h3, h4⟩ := ok_small h
  exact ⟨by omega, h2, by omega, h4⟩
theorem struct_ev {b : List Int} (hc : Code b) (p : Int) (h0 : 0 ≤ p) (h1 : p ≤ 100000000) :
  ∃ h ps asks ask p', Ev (fun k => spec_l71Struct.f k b p) (h, ps, asks, ask, p') ∧ ps.length ≤ 30 ∧ (∀ q ∈ ps, q.size ≤ 60) ∧ h.size ≤ 60 ∧ ask.size ≤ 60 ∧ p ≤ p' ∧ p' ≤ p + 30 := by
 obtain ⟨s, p1, hs, hz, a1, b1⟩ := addr_ev hc p h0 (by omega)
 have hr := read_ev s (by omega)
 obtain ⟨f1, f2, f3, f4⟩ := ok_len (fine_read s)
 generalize readO s = r at hr f1 f2 f3 f4
 obtain ⟨h, ps, asks, ask, ok⟩ := r
 replace f1 : ps.length ≤ 20 := f1
 replace f2 : ∀ p ∈ ps, p.size ≤ 60 := f2
 replace f3 : h.size ≤ 60 := f3
 replace f4 : ask.size ≤ 60 := f4
 obtain ⟨v, hv, v0, v1⟩ := pick_ev hc p1 12 (by omega) (by omega)
 by_cases c0 : v = 0
 ·obtain ⟨q, hq, hqz⟩ := of_sz hc (p1 + 1) (([(⟨#[46, 46]⟩ : ByteArray), (⟨#[]⟩ : ByteArray), (⟨#[37, 54, 49]⟩ : ByteArray), (⟨#[65]⟩ : ByteArray), (⟨#[97, 47, 98]⟩ : ByteArray), (⟨#[37, 51, 70]⟩ : ByteArray)] : List ByteArray)) 5 (by omega) (by omega) (by decide) (by decide)
  refine ⟨h, ps ++ [q], asks, ask, p1 + 1 + 1, ?_, by simp only [List.length_append, List.length_cons, List.length_nil]; omega, fun x hx => ?_, f3, f4, by omega, by omega⟩
  ·unfold spec_l71Struct.f
   refine Ev.bind hs (Ev.bind hr (Ev.bind hv ?_))
   simp only [c0, if_true]
   refine Ev.bind hq ?_
   simp only [show ps.length < 8796093022208 from by omega, if_true]
   exact Ev.now _
  ·rcases List.mem_append.1 hx with hx | hx
   ·exact f2 x hx
   ·rw [List.mem_singleton.1 hx]; omega
 by_cases c1 : v = 1
 ·obtain ⟨q, hq, hqz⟩ := of_sz hc (p1 + 1) (([(⟨#[]⟩ : ByteArray), (⟨#[65, 98]⟩ : ByteArray), (⟨#[116, 111, 111, 108, 111, 110, 103]⟩ : ByteArray), (⟨#[97, 49]⟩ : ByteArray)] : List ByteArray)) 9 (by omega) (by omega) (by decide) (by decide)
  refine ⟨q, ps, asks, ask, p1 + 1 + 1, ?_, by omega, f2, by omega, f4, by omega, by omega⟩
  unfold spec_l71Struct.f
  refine Ev.bind hs (Ev.bind hr (Ev.bind hv ?_))
  simp only [c0, c1, if_true, if_false]
  exact Ev.bind hq (Ev.now _)
 by_cases c2 : v = 2
 ·refine ⟨h, ps, asks, (⟨#[120]⟩ : ByteArray), p1 + 1, ?_, by omega, f2, f3, by decide, by omega, by omega⟩
  unfold spec_l71Struct.f
  refine Ev.bind hs (Ev.bind hr (Ev.bind hv ?_))
  simp only [c0, c1, c2, if_true, if_false]
  exact Ev.now _
 by_cases c3 : v = 3
 ·refine ⟨h, ps ++ ([(⟨#[97]⟩ : ByteArray), (⟨#[98]⟩ : ByteArray), (⟨#[99]⟩ : ByteArray), (⟨#[97]⟩ : ByteArray), (⟨#[98]⟩ : ByteArray)] : List ByteArray), asks, ask, p1 + 1, ?_, by simp only [List.length_append, List.length_cons, List.length_nil]; omega, fun x hx => ?_, f3, f4, by omega, by omega⟩
  ·unfold spec_l71Struct.f
   refine Ev.bind hs (Ev.bind hr (Ev.bind hv ?_))
   simp only [c0, c1, c2, c3, if_true, if_false, Option.bind_some]
   simp only [show ps.length + ([(⟨#[97]⟩ : ByteArray), (⟨#[98]⟩ : ByteArray), (⟨#[99]⟩ : ByteArray), (⟨#[97]⟩ : ByteArray), (⟨#[98]⟩ : ByteArray)] : List ByteArray).length < 8796093022208 from by simp only [List.length_append, List.length_cons, List.length_nil]; omega, if_true]
   exact Ev.now _
  ·rcases List.mem_append.1 hx with hx | hx
   ·exact f2 x hx
   ·exact Nat.le_trans (of_decide_eq_true (List.all_eq_true.1 (show (([(⟨#[97]⟩ : ByteArray), (⟨#[98]⟩ : ByteArray), (⟨#[99]⟩ : ByteArray), (⟨#[97]⟩ : ByteArray), (⟨#[98]⟩ : ByteArray)] : List ByteArray).all fun s => decide (s.size ≤ 1)) = true from by decide) x hx)) (by omega)
 ·refine ⟨h, ps, asks, ask, p1 + 1, ?_, by omega, f2, f3, f4, by omega, by omega⟩
  unfold spec_l71Struct.f
  refine Ev.bind hs (Ev.bind hr (Ev.bind hv ?_))
  simp only [c0, c1, c2, c3, if_false]
  exact Ev.now _
theorem parts_of {ps : List ByteArray} (h1 : ps.length ≤ 30) (h2 : ∀ q ∈ ps, q.size ≤ 60) : Parts ps := ⟨by omega, fun q hq => by have := h2 q hq; omega⟩
theorem drawn_ev (l0 : List Int) (hw : ∀ x ∈ l0, (Lit.int .u8 x).wf = true) :
  ∃ h ps asks ask text, Ev (fun k => spec_DrawPageAddrs.f k l0) (h, ps, asks, ask, text) ∧ Parts ps ∧ h.size ≤ 60 ∧ ask.size ≤ 60 ∧ text.size ≤ 10000 := by
 obtain ⟨b, hb, hc⟩ := open_some l0 hw
 obtain ⟨h, ps, asks, ask, p', hs, g1, g2, g3, g4, a, b'⟩ := struct_ev hc 0 (by omega) (by omega)
 obtain ⟨t, p2, ht, tz, _, _⟩ := page_ev hc p' (by omega) (by omega)
 refine ⟨h, ps, asks, ask, t, ?_, parts_of g1 g2, g3, g4, tz⟩
 unfold spec_DrawPageAddrs.f
 rw [hb]
 simp only [Option.bind_some]
 exact Ev.bind hs (Ev.bind ht (Ev.now _))
end Go.Proofs.YtgjfegfopjfdpaaGreatDoor.Draw
end
section
namespace Go.Proofs.YtgjfegfopjfdpaaGreatDoor.Lp
open Go.RowKit Go.Proofs.YtgjfegfopjfdpaaGreatDoor.P Go.Proofs.YtgjfegfopjfdpaaGreatDoorW.PrintWords Go.Proofs.YtgjfegfopjfdpaaGreatDoorW.PrintLast Go.Proofs.YtgjfegfopjfdpaaGreatDoorW.PrintMore Go.Proofs.YtgjfegfopjfdpaaGreatDoor.B
set_option linter.unusedVariables false
set_option linter.unusedSimpArgs false
theorem eqS_l (l : List ByteArray) (hn : l.length < 1152921504606846976) (d : Nat) : ∀ (i : Nat), i + d = l.length → Ev (fun k => laws_lpTexts.l0 k l l i) true := by
 induction d with
 | zero =>
  intro i hi
  refine Ev.of (fun k => laws_lpTexts.mono_l k _ _ _) (k := 1) ?_
  simp only [laws_lpTexts.l0]
  rw [if_neg (by omega)]
 | succ d ih =>
  intro i hi
  refine Ev.step (f := fun k => laws_lpTexts.l0 k l l (i + 1 : Nat)) (fun k => ?_) (ih (i + 1) (by omega))
  simp only [laws_lpTexts.l0]
  rw [if_pos (by omega), if_pos (by omega), if_pos (by omega), if_pos trivial, w64 (n := (i : Int) + 1) (by omega) (by omega), show (i : Int) + 1 = ((i + 1 : Nat) : Int) from by omega]
theorem same_ev (l : List ByteArray) (hn : l.length < 1152921504606846976) : Ev (fun k => laws_lpTexts.f k l l) true := by
 unfold laws_lpTexts.f
 simp only [if_true]
 exact eqS_l l hn l.length 0 (by omega)
end Go.Proofs.YtgjfegfopjfdpaaGreatDoor.Lp
end
section
namespace Go.Proofs.YtgjfegfopjfdpaaGreatDoor.Ad
open Go.RowKit Go.Proofs.YtgjfegfopjfdpaaGreatDoor.P Go.Proofs.YtgjfegfopjfdpaaGreatDoorW.PrintWords Go.Proofs.YtgjfegfopjfdpaaGreatDoorW.PrintLast Go.Proofs.YtgjfegfopjfdpaaGreatDoorW.PrintMore Go.Proofs.YtgjfegfopjfdpaaGreatDoor.B Go.Proofs.YtgjfegfopjfdpaaGreatDoor.Mk
set_option linter.unusedVariables false
set_option linter.unusedSimpArgs false
def hasB (l : List ByteArray) (s : ByteArray) : Bool := l.any fun x => x.toList == s.toList
theorem hasB_iff {l : List ByteArray} {s : ByteArray} : hasB l s = true ↔ s ∈ l := by
  unfold hasB
  rw [List.any_eq_true]
  constructor
  · rintro ⟨x, hx, he⟩
    rw [← toList_inj.1 (beq_iff_eq.1 he)]; exact hx
  · intro h
    exact ⟨s, h, beq_self_eq_true _⟩
def putL (l : List ByteArray) (s : ByteArray) : List ByteArray := if hasB l s = true then l else l ++ [s]
theorem putL_len (l : List ByteArray) (s : ByteArray) : (putL l s).length ≤ l.length + 1 := by unfold putL; split <;> simp
theorem put_ev_l (l : List ByteArray) (s : ByteArray) (hl : l.length ≤ 1000000) (d : Nat) : ∀ (i : Nat), i + d = l.length → s ∉ l.take i → Ev (fun k => spec_l3Put.l0 k l s (i : Int)) (putL l s) := by
  induction d with
  | zero =>
    intro i hi hn
    rw [List.take_of_length_le (by omega)] at hn
    refine Ev_succ ?_
    simp only [spec_l3Put.l0, show ¬ ((i : Int) < (l.length : Int)) from by omega, if_false, show l.length < 8796093022208 from by omega, if_true]
    unfold putL
    rw [if_neg (fun h => hn (hasB_iff.1 h))]
    exact Ev.now _
  | succ d ih =>
    intro i hi hn
    have hlt : i < l.length := by omega
    have hr := rd_at hlt
    have w1 := w64n1 i (by omega)
    refine Ev_succ ?_
    simp only [spec_l3Put.l0, show ((i : Int) < (l.length : Int)) from by omega, ci_nn i, if_true, hr]
    by_cases h : l[i].toList = s.toList
    · simp only [h, if_true]
      unfold putL
      rw [if_pos (hasB_iff.2 (by rw [← toList_inj.1 h]; exact List.getElem_mem hlt))]
      exact Ev.now _
    · simp only [h, if_false]
      rw [w1]
      refine ih (i + 1) (by omega) ?_
      rw [List.take_succ_eq_append_getElem hlt, List.mem_append, List.mem_singleton]
      rintro (h' | h')
      · exact hn h'
      · exact h (by rw [h'])
theorem put_ev (l : List ByteArray) (s : ByteArray) (hl : l.length ≤ 1000000) : Ev (fun k => spec_l3Put.f k l s) (putL l s) := put_ev_l l s hl l.length 0 (by omega) (by simp)
theorem has_i_l (l : List ByteArray) (s : ByteArray) (hl : l.length ≤ 1000000) (d : Nat) : ∀ (i : Nat), i + d = l.length → s ∉ l.take i → ∃ r : Int, Ev (fun k => slices_Index_string_string.l0 k l s (l.length : Int) (i : Int)) r ∧ (0 ≤ r ↔ s ∈ l) := by
  induction d with
  | zero =>
    intro i hi hn
    rw [List.take_of_length_le (by omega)] at hn
    refine ⟨-1, Ev_succ ?_, ⟨fun h => by omega, fun h => absurd h hn⟩⟩
    simp only [slices_Index_string_string.l0, show ¬ ((i : Int) < (l.length : Int)) from by omega, if_false]
    exact Ev.now _
  | succ d ih =>
    intro i hi hn
    have hlt : i < l.length := by omega
    have hr := rd_at hlt
    have w1 := w64n1 i (by omega)
    by_cases h : s.toList = l[i].toList
    · refine ⟨(i : Int), Ev_succ ?_, ⟨fun _ => by rw [toList_inj.1 h]; exact List.getElem_mem hlt, fun _ => ci_nn i⟩⟩
      simp only [slices_Index_string_string.l0, show ((i : Int) < (l.length : Int)) from by omega, ci_nn i, if_true, hr, h]
      exact Ev.now _
    · obtain ⟨r, h1, h2⟩ := ih (i + 1) (by omega) (by
        rw [List.take_succ_eq_append_getElem hlt, List.mem_append, List.mem_singleton]
        rintro (h' | h')
        · exact hn h'
        · exact h (by rw [h']))
      refine ⟨r, Ev_succ ?_, h2⟩
      simp only [slices_Index_string_string.l0, show ((i : Int) < (l.length : Int)) from by omega, ci_nn i, if_true, hr, h, if_false]
      rw [w1]
      exact h1
theorem has_i (l : List ByteArray) (s : ByteArray) (hl : l.length ≤ 1000000) : Ev (fun k => slices_Contains_string_string.f k l s) (hasB l s) := by
  obtain ⟨r, h1, h2⟩ := has_i_l l s hl l.length 0 (by omega) (by simp)
  unfold slices_Contains_string_string.f slices_Index_string_string.f
  refine Ev.bind h1 ?_
  rw [show hasB l s = decide (r ≥ 0) from by rw [Bool.eq_iff_iff, hasB_iff]; simp [h2.symm]]
  exact Ev.now _
def addrs1 (h : ByteArray) (ps : List ByteArray) (asks : Bool) (ask : ByteArray) (out : List ByteArray) (link : ByteArray) : List ByteArray :=
  if (joinO h ps asks ask link).2.2.2.2 = true then putL out (addrText (joinO h ps asks ask link).1 (joinO h ps asks ask link).2.1 (joinO h ps asks ask link).2.2.1 (joinO h ps asks ask link).2.2.2.1) else out
def addrsL (h : ByteArray) (ps : List ByteArray) (asks : Bool) (ask : ByteArray) (ls : List ByteArray) : List ByteArray := ls.foldl (addrs1 h ps asks ask) []
def from5 (h : ByteArray) (ps : List ByteArray) (asks : Bool) (ask : ByteArray) (b : ByteArray × Bool) : A5 :=
  if b.2 = true then (if (joinO h ps asks ask b.1).2.2.2.2 = true then joinO h ps asks ask b.1 else (h, ps, asks, ask, true)) else (h, ps, asks, ask, true)
def pageAddrs (h : ByteArray) (ps : List ByteArray) (asks : Bool) (ask text : ByteArray) : List ByteArray :=
  if addrOk h ps asks ask = true then addrsL (from5 h ps asks ask (base (marks text))).1 (from5 h ps asks ask (base (marks text))).2.1 (from5 h ps asks ask (base (marks text))).2.2.1 (from5 h ps asks ask (base (marks text))).2.2.2.1 (links (marks text)) else []
theorem addrs1_len (h : ByteArray) (ps : List ByteArray) (asks : Bool) (ask : ByteArray) (out : List ByteArray) (link : ByteArray) : (addrs1 h ps asks ask out link).length ≤ out.length + 1 := by
  unfold addrs1
  split
  · exact putL_len _ _
  · omega
theorem base_size (ms : List ByteArray) (n : Nat) (h : ∀ m ∈ ms, m.size ≤ n) : (base ms).1.size ≤ n := by
  unfold base
  split
  · rename_i m hm
    have := h m (List.mem_of_find?_eq_some hm)
    show (m.extract 1 m.size).size ≤ n
    rw [ByteArray.size_extract]; omega
  · exact Nat.zero_le _
theorem pmTo_size (s : ByteArray) (k : Nat) : ∀ m ∈ (pmTo s k).1, m.size ≤ s.size := by
  induction k with
  | zero => intro m hm; simp [pmTo] at hm
  | succ k ih =>
    intro m hm
    unfold pmTo at hm
    unfold pmStep at hm
    repeat' split at hm
    all_goals first
      | exact ih m hm
      | (rcases List.mem_append.1 hm with h | h
         · exact ih m h
         · rw [List.mem_singleton.1 h, ByteArray.size_extract]; omega)
theorem marks_size (s : ByteArray) : ∀ m ∈ marks s, m.size ≤ 300 := by
  intro m hm
  unfold marks at hm
  split at hm
  · have := pmTo_size s s.size m hm; omega
  · cases hm
theorem addrs_i (h : ByteArray) (ps : List ByteArray) (asks : Bool) (ask : ByteArray) (ls : List ByteArray) (hP : Parts ps) (hq : ask.size ≤ 1048576) (hh : h.size ≤ 1048576) (hl : ls.length ≤ 300) (d : Nat) : ∀ (i : Nat) (out : List ByteArray), i + d = ls.length → out.length ≤ i →
    Ev (fun k => impl_PageAddrs.l0 k out ls (ls.length : Int) (i : Int) h ps asks ask) ((ls.drop i).foldl (addrs1 h ps asks ask) out) := by
  induction d with
  | zero =>
    intro i out hi ho
    rw [List.drop_eq_nil_of_le (by omega)]
    refine Ev_succ ?_
    simp only [impl_PageAddrs.l0, show ¬ ((i : Int) < (ls.length : Int)) from by omega, if_false]
    exact Ev.now _
  | succ d ih =>
    intro i out hi ho
    have hlt : i < ls.length := by omega
    have hr := rd_at hlt
    have w1 := w64n1 i (by omega)
    have f1 : (i : Int) < (ls.length : Int) := by omega
    rw [List.drop_eq_getElem_cons hlt, List.foldl_cons]
    generalize ls[i] = p at hr ⊢
    have hj := join_i h ps asks ask p hP hq hh
    have hF := fine_join h ps asks ask p
    have next := ih (i + 1) (addrs1 h ps asks ask out p) (by omega) (by have := addrs1_len h ps asks ask out p; omega)
    refine Ev_succ ?_
    simp only [impl_PageAddrs.l0, f1, ci_nn i, if_true, hr]
    rw [w1]
    refine Ev.bind hj ?_
    rw [show addrs1 h ps asks ask out p = if (joinO h ps asks ask p).2.2.2.2 = true then putL out (addrText (joinO h ps asks ask p).1 (joinO h ps asks ask p).2.1 (joinO h ps asks ask p).2.2.1 (joinO h ps asks ask p).2.2.2.1) else out from rfl] at next ⊢
    generalize joinO h ps asks ask p = x at hF next ⊢
    by_cases hx : x.2.2.2.2 = true
    · obtain ⟨q1, q2, q3⟩ := fine_parts hF
      simp only [hx, if_true] at next ⊢
      refine Ev.bind (addrText_i x.1 x.2.1 x.2.2.1 x.2.2.2.1 q1 (by omega) (by omega)) ?_
      generalize addrText x.1 x.2.1 x.2.2.1 x.2.2.2.1 = t at next
      refine Ev.bind (has_i out t (by omega)) ?_
      unfold putL at next ⊢
      by_cases ht : hasB out t = true
      · simp only [ht, if_true] at next ⊢
        exact next
      · simp only [ht, Bool.false_eq_true, if_false, show out.length < 8796093022208 from by omega, if_true] at next ⊢
        exact next
    · simp only [hx, Bool.false_eq_true, if_false] at next ⊢
      exact next
theorem pageAddrs_i (h : ByteArray) (ps : List ByteArray) (asks : Bool) (ask text : ByteArray) (hP : Parts ps) (hq : ask.size ≤ 1048576) (hh : h.size ≤ 1048576) :
    Ev (fun k => impl_PageAddrs.f k h ps asks ask text) (pageAddrs h ps asks ask text) := by
  have hlen : (links (marks text)).length ≤ 300 := Nat.le_trans (links_len _) (marks_len text)
  have main : ∀ (h : ByteArray) (ps : List ByteArray) (asks : Bool) (ask : ByteArray), Parts ps → ask.size ≤ 1048576 → h.size ≤ 1048576 → Ev (fun k => impl_PageAddrs.j0 k text h ps asks ask) (addrsL h ps asks ask (links (marks text))) := fun h ps asks ask hP hq hh => by
    refine Ev_succ ?_
    simp only [impl_PageAddrs.j0]
    refine Ev.bind (impl_links_ev text) ?_
    exact addrs_i h ps asks ask _ hP hq hh hlen _ 0 [] (Nat.zero_add _) (by simp)
  unfold impl_PageAddrs.f pageAddrs
  refine Ev.bind (addrOk_i h ps asks ask hP hq hh) ?_
  by_cases ho : addrOk h ps asks ask = true
  · simp only [ho, if_true]
    refine Ev.bind (impl_base_ev text) ?_
    unfold from5
    by_cases hb : (base (marks text)).2 = true
    · simp only [hb, if_true]
      have hF := fine_join h ps asks ask (base (marks text)).1
      refine Ev.bind (join_i h ps asks ask (base (marks text)).1 hP hq hh) ?_
      generalize joinO h ps asks ask (base (marks text)).1 = x at hF
      obtain ⟨q1, q2, q3⟩ := fine_parts hF
      by_cases hx : x.2.2.2.2 = true
      · simp only [hx, if_true]
        exact main x.1 x.2.1 x.2.2.1 x.2.2.2.1 q1 (by omega) (by omega)
      · simp only [hx, if_false]
        exact main h ps asks ask hP hq hh
    · simp only [hb, if_false]
      exact main h ps asks ask hP hq hh
  · simp only [ho, if_false]
    exact Ev.now _
theorem addrs_ev (h : ByteArray) (ps : List ByteArray) (asks : Bool) (ask : ByteArray) (ls : List ByteArray) (hP : Parts ps) (hq : ask.size ≤ 1048576) (hh : h.size ≤ 1048576) (hl : ls.length ≤ 300) (hz : ∀ m ∈ ls, m.size ≤ 300) (d : Nat) : ∀ (i : Nat) (out : List ByteArray), i + d = ls.length → out.length ≤ i →
    Ev (fun k => spec_PageAddrs.l0 k out ls (i : Int) h ps asks ask) ((ls.drop i).foldl (addrs1 h ps asks ask) out) := by
  induction d with
  | zero =>
    intro i out hi ho
    rw [List.drop_eq_nil_of_le (by omega)]
    refine Ev_succ ?_
    simp only [spec_PageAddrs.l0, show ¬ ((i : Int) < (ls.length : Int)) from by omega, if_false]
    exact Ev.now _
  | succ d ih =>
    intro i out hi ho
    have hlt : i < ls.length := by omega
    have hr := rd_at hlt
    have w1 := w64n1 i (by omega)
    have f1 : (i : Int) < (ls.length : Int) := by omega
    have hm := hz ls[i] (List.getElem_mem hlt)
    rw [List.drop_eq_getElem_cons hlt, List.foldl_cons]
    generalize ls[i] = p at hr hm ⊢
    have hj := join_ev h ps asks ask p hP hq hh (by omega)
    have hF := fine_join h ps asks ask p
    have next := ih (i + 1) (addrs1 h ps asks ask out p) (by omega) (by have := addrs1_len h ps asks ask out p; omega)
    refine Ev_succ ?_
    simp only [spec_PageAddrs.l0, f1, ci_nn i, if_true, hr]
    rw [w1]
    refine Ev.bind hj ?_
    rw [show addrs1 h ps asks ask out p = if (joinO h ps asks ask p).2.2.2.2 = true then putL out (addrText (joinO h ps asks ask p).1 (joinO h ps asks ask p).2.1 (joinO h ps asks ask p).2.2.1 (joinO h ps asks ask p).2.2.2.1) else out from rfl] at next ⊢
    generalize joinO h ps asks ask p = x at hF next ⊢
    by_cases hx : x.2.2.2.2 = true
    · obtain ⟨q1, q2, q3⟩ := fine_parts hF
      simp only [hx, if_true] at next ⊢
      refine Ev.bind (addrText_ev x.1 x.2.1 x.2.2.1 x.2.2.2.1 q1 (by omega) (by omega)) ?_
      generalize addrText x.1 x.2.1 x.2.2.1 x.2.2.2.1 = t at next
      refine Ev.bind (put_ev out t (by omega)) ?_
      exact next
    · simp only [hx, Bool.false_eq_true, if_false] at next ⊢
      exact next
theorem links_size (text : ByteArray) : ∀ m ∈ links (marks text), m.size ≤ 300 := fun m hm => marks_size text m (List.mem_filter.1 hm).1
theorem pageAddrs_ev (h : ByteArray) (ps : List ByteArray) (asks : Bool) (ask text : ByteArray) (hP : Parts ps) (hq : ask.size ≤ 1048576) (hh : h.size ≤ 1048576) (hs : text.size ≤ 140737488351232) :
    Ev (fun k => spec_PageAddrs.f k h ps asks ask text) (pageAddrs h ps asks ask text) := by
  have hlen : (links (marks text)).length ≤ 300 := Nat.le_trans (links_len _) (marks_len text)
  have main : ∀ (h : ByteArray) (ps : List ByteArray) (asks : Bool) (ask : ByteArray), Parts ps → ask.size ≤ 1048576 → h.size ≤ 1048576 → Ev (fun k => spec_PageAddrs.j0 k text [] h ps asks ask) (addrsL h ps asks ask (links (marks text))) := fun h ps asks ask hP hq hh => by
    refine Ev_succ ?_
    simp only [spec_PageAddrs.j0]
    refine Ev.bind (spec_links_ev text hs) ?_
    exact addrs_ev h ps asks ask _ hP hq hh hlen (links_size text) _ 0 [] (Nat.zero_add _) (by simp)
  unfold spec_PageAddrs.f pageAddrs
  simp only [Option.bind_some]
  refine Ev.bind (addrOk_ev h ps asks ask hP hq hh) ?_
  by_cases ho : addrOk h ps asks ask = true
  · simp only [ho, if_true]
    refine Ev.bind (spec_base_ev text hs) ?_
    unfold from5
    by_cases hb : (base (marks text)).2 = true
    · simp only [hb, if_true]
      have hF := fine_join h ps asks ask (base (marks text)).1
      have hz := base_size (marks text) 300 (marks_size text)
      refine Ev.bind (join_ev h ps asks ask (base (marks text)).1 hP hq hh (by omega)) ?_
      generalize joinO h ps asks ask (base (marks text)).1 = x at hF
      obtain ⟨q1, q2, q3⟩ := fine_parts hF
      by_cases hx : x.2.2.2.2 = true
      · simp only [hx, if_true]
        exact main x.1 x.2.1 x.2.2.1 x.2.2.2.1 q1 (by omega) (by omega)
      · simp only [hx, if_false]
        exact main h ps asks ask hP hq hh
    · simp only [hb, if_false]
      exact main h ps asks ask hP hq hh
  · simp only [ho, if_false]
    exact Ev.now _
theorem pageAddrs_len (h : ByteArray) (ps : List ByteArray) (asks : Bool) (ask text : ByteArray) : (pageAddrs h ps asks ask text).length ≤ 300 := by
  have key : ∀ (h : ByteArray) (ps : List ByteArray) (asks : Bool) (ask : ByteArray) (ls out : List ByteArray), (ls.foldl (addrs1 h ps asks ask) out).length ≤ out.length + ls.length := by
    intro h ps asks ask ls
    induction ls with
    | nil => intro out; simp
    | cons p ls ih =>
      intro out
      rw [List.foldl_cons]
      have := ih (addrs1 h ps asks ask out p)
      have := addrs1_len h ps asks ask out p
      simp only [List.length_cons]; omega
  unfold pageAddrs
  split
  · have := key (from5 h ps asks ask (base (marks text))).1 (from5 h ps asks ask (base (marks text))).2.1 (from5 h ps asks ask (base (marks text))).2.2.1 (from5 h ps asks ask (base (marks text))).2.2.2.1 (links (marks text)) []
    have := Nat.le_trans (links_len _) (marks_len text)
    unfold addrsL
    simp only [List.length_nil] at *
    omega
  · exact Nat.zero_le _
end Go.Proofs.YtgjfegfopjfdpaaGreatDoor.Ad
end
section
namespace Go.Proofs.YtgjfegfopjfdpaaGreatDoor.Pure
open Go.RowKit Go.Proofs.YtgjfegfopjfdpaaGreatDoor.P Go.Proofs.YtgjfegfopjfdpaaGreatDoorW.PrintWords Go.Proofs.YtgjfegfopjfdpaaGreatDoorW.PrintLast Go.Proofs.YtgjfegfopjfdpaaGreatDoorW.PrintMore Go.Proofs.YtgjfegfopjfdpaaGreatDoor.Mk Go.Proofs.YtgjfegfopjfdpaaGreatDoor.Draw Go.Proofs.YtgjfegfopjfdpaaGreatDoor.B Go.Proofs.YtgjfegfopjfdpaaGreatDoor.Ad
set_option linter.unusedSimpArgs false
set_option linter.unusedVariables false
theorem drawnA_ev (l0 : List Int) (hw : ∀ x ∈ l0, (Lit.int .u8 x).wf = true) :
  ∃ h ps asks ask, Ev (fun k => spec_DrawAddrText.f k l0) (h, ps, asks, ask) ∧ Parts ps ∧ h.size ≤ 60 ∧ ask.size ≤ 60 := by
 obtain ⟨b, hb, hc⟩ := open_some l0 hw
 obtain ⟨h, ps, asks, ask, p', hs, g1, g2, g3, g4, a, b'⟩ := struct_ev hc 0 (by omega) (by omega)
 refine ⟨h, ps, asks, ask, ?_, parts_of g1 g2, g3, g4⟩
 unfold spec_DrawAddrText.f
 rw [hb]
 simp only [Option.bind_some]
 exact Ev.bind hs (Ev.now _)
def ahead (t : ByteArray) : ByteArray := ((⟨#[60, 64]⟩ : ByteArray) ++ t) ++ (⟨#[62]⟩ : ByteArray)
theorem join_back {h h2 : ByteArray} {ps ps2 : List ByteArray} {asks asks2 : Bool} {ask ask2 : ByteArray} (ho : addrOk h ps asks ask = true) (ho2 : addrOk h2 ps2 asks2 ask2 = true) :
  joinO h ps asks ask (textB h2 ps2 asks2 ask2) = (h2, ps2, asks2, ask2, true) := by
 obtain ⟨s1, s2, s3, s4, s5⟩ := whole_back ho2
 unfold joinO
 rw [if_neg (by omega), if_pos ho, s2]
 unfold joinS
 rw [if_pos (by rw [decide_eq_true s3, decide_eq_true s4]; rfl)]
 exact s5
theorem base_join {h h2 : ByteArray} {ps ps2 : List ByteArray} {asks asks2 : Bool} {ask ask2 : ByteArray} (text : ByteArray) (ho : addrOk h ps asks ask = true) (ho2 : addrOk h2 ps2 asks2 ask2 = true)
  (hb : ¬ (base (marks text)).2 = true) (hz : text.size + 70 ≤ 300) : pageAddrs h ps asks ask (ahead (textB h2 ps2 asks2 ask2) ++ text) = pageAddrs h2 ps2 asks2 ask2 text := by
 have hj := join_back ho ho2
 have hcalm := text_calm ho2
 obtain ⟨s1, _, s3, _, _⟩ := whole_back ho2
 generalize textB h2 ps2 asks2 ask2 = t at hj hcalm s1 s3 ⊢
 have hL : L (ahead t) = 60 :: (L ((⟨#[64]⟩ : ByteArray) ++ t) ++ [62]) := by
  unfold ahead
  rw [L_app, L_app, L_app]; rfl
 have hm : (62 : UInt8) ∉ L ((⟨#[64]⟩ : ByteArray) ++ t) := by
  rw [L_app]
  intro hc
  rcases List.mem_append.1 hc with hc | hc
  ·have : (62 : UInt8) ∈ [(64 : UInt8)] := hc
   simp at this
  ·exact hcalm hc
 have hp := pm_one (ahead t) _ hL hm
 have hsz : (ahead t).size = t.size + 3 := by
  unfold ahead
  rw [ByteArray.size_append, ByteArray.size_append]
  show 2 + t.size + 1 = _
  omega
 have hmk := marks_cat (ahead t) text (by rw [hp]) (by omega)
 rw [hp] at hmk
 have hz1 : ((⟨#[64]⟩ : ByteArray) ++ t).size = 1 + t.size := by rw [ByteArray.size_append]; rfl
 have hb0 : bt ((⟨#[64]⟩ : ByteArray) ++ t) 0 = 64 := by
  have : bt ((⟨#[64]⟩ : ByteArray) ++ t) ((0 : Nat) : Int) = 64 := by rw [bt_L, L_app]; rfl
  exact this
 have hh : headIs ((⟨#[64]⟩ : ByteArray) ++ t) 64 = true := by
  unfold headIs
  rw [hb0, hz1]
  simp
  omega
 have hx : ((⟨#[64]⟩ : ByteArray) ++ t).extract 1 ((⟨#[64]⟩ : ByteArray) ++ t).size = t := by
  apply L_inj
  rw [L_ext, L_app, hz1]
  show (List.drop 1 (64 :: L t)).take (1 + t.size - 1) = L t
  rw [List.drop_one, List.tail_cons]
  exact List.take_of_length_le (by rw [L_size]; omega)
 have e1 : links (marks (ahead t ++ text)) = links (marks text) := by
  rw [hmk, List.singleton_append, links_skip]
  unfold isLink
  rw [hh, Bool.not_true, Bool.and_false]
 have e2 : base (marks (ahead t ++ text)) = (t, true) := by
  rw [hmk, List.singleton_append, base_hit _ hh, hx]
 have e3 : from5 h ps asks ask (base (marks (ahead t ++ text))) = (h2, ps2, asks2, ask2, true) := by
  rw [e2]
  unfold from5
  rw [if_pos rfl, hj, if_pos rfl]
 have e4 : from5 h2 ps2 asks2 ask2 (base (marks text)) = (h2, ps2, asks2, ask2, true) := by
  unfold from5
  rw [if_neg hb]
 unfold pageAddrs
 rw [if_pos ho, if_pos ho2, e1, e3, e4]
theorem FnPageBaseJoin : laws_FnPageBaseJoin.Pure := by
 intro l0 l1 hm hz hw hm1 hz1 hw1
 refine Ev.rounds ?_
 unfold laws_FnPageBaseJoin.f
 have yes : Ev (fun k => laws_FnPageBaseJoin.j0 k l0 l1 true) true := Ev_succ (by simp only [laws_FnPageBaseJoin.j0, if_true]; exact Ev.now _)
 by_cases h : (l0.length : Int) > 1048576
 ·simp only [h, if_true]; exact yes
 simp only [h, if_false]
 by_cases h1 : (l1.length : Int) > 1048576
 ·simp only [h1, decide_true]; exact yes
 simp only [h1, decide_false]
 obtain ⟨hs, ps, asks, ask, text, hd, hP, hh, hq, ht⟩ := drawn_ev l0 hw
 obtain ⟨hs2, ps2, asks2, ask2, hd2, hP2, hh2, hq2⟩ := drawnA_ev l1 hw1
 have hlen := pageAddrs_len hs ps asks ask text
 have hi := pageAddrs_i hs ps asks ask text hP (by omega) (by omega)
 have hv := pageAddrs_ev hs ps asks ask text hP (by omega) (by omega) (by omega)
 have he := Lp.same_ev (pageAddrs hs ps asks ask text) (by omega)
 have out : Ev (fun k => laws_FnPageBaseJoin.j1 k text (pageAddrs hs ps asks ask text) true hs ps asks ask hs2 ps2 asks2 ask2) true := Ev_succ (by
  simp only [laws_FnPageBaseJoin.j1, if_true]
  exact Ev.bind hv (Ev.bind he (Ev.now _)))
 refine Ev_succ ?_
 simp only [laws_FnPageBaseJoin.j0, Bool.false_eq_true, if_false]
 refine Ev.bind hd (Ev.bind hd2 (Ev.bind hi (Ev.bind (spec_base_ev text (by omega)) (Ev.bind hv (Ev.bind he ?_)))))
 simp only [if_true]
 refine Ev.bind (addrOk_ev hs ps asks ask hP (by omega) (by omega)) ?_
 by_cases ho : addrOk hs ps asks ask = true
 ·simp only [ho, if_true]
  refine Ev.bind (addrOk_ev hs2 ps2 asks2 ask2 hP2 (by omega) (by omega)) ?_
  by_cases ho2 : addrOk hs2 ps2 asks2 ask2 = true
  ·simp only [ho2, if_true]
   by_cases hb : (base (marks text)).2 = true
   ·simp only [hb, if_true]; exact out
   ·simp only [hb, Bool.false_eq_true, if_false]
    have e70 : wrap64 ((text.size : Int) + 70) = (text.size : Int) + 70 := w64 (by omega) (by omega)
    rw [e70]
    by_cases h70 : (text.size : Int) + 70 > 300
    ·simp only [h70, decide_true]; exact out
    ·simp only [h70, decide_false]
     obtain ⟨s1, _, _, _, _⟩ := whole_back ho2
     have hT := addrText_i hs2 ps2 asks2 ask2 hP2 (by omega) (by omega)
     rw [show addrText hs2 ps2 asks2 ask2 = textB hs2 ps2 asks2 ask2 from by unfold addrText; rw [if_pos ho2]] at hT
     have hJ := pageAddrs_i hs ps asks ask (ahead (textB hs2 ps2 asks2 ask2) ++ text) hP (by omega) (by omega)
     rw [base_join text ho ho2 hb (by omega)] at hJ
     have hK := pageAddrs_i hs2 ps2 asks2 ask2 text hP2 (by omega) (by omega)
     have hlen2 := pageAddrs_len hs2 ps2 asks2 ask2 text
     have he2 := Lp.same_ev (pageAddrs hs2 ps2 asks2 ask2 text) (by omega)
     unfold ahead at hJ
     refine Ev_succ ?_
     simp only [laws_FnPageBaseJoin.j1, Bool.false_eq_true, if_false]
     refine Ev.bind hT ?_
     simp only [show 2 + (textB hs2 ps2 asks2 ask2).size ≤ 9223372036854775807 from by omega, show 2 + (textB hs2 ps2 asks2 ask2).size + 1 ≤ 9223372036854775807 from by omega, show 2 + (textB hs2 ps2 asks2 ask2).size + 1 + text.size ≤ 9223372036854775807 from by omega, if_true]
     exact Ev.bind hJ (Ev.bind hK (Ev.bind he2 (Ev.now _)))
  ·simp only [ho2, Bool.false_eq_true, if_false]; exact out
 ·simp only [ho, Bool.false_eq_true, if_false]; exact out
end Go.Proofs.YtgjfegfopjfdpaaGreatDoor.Pure
end
section
namespace Go.Proofs.YtgjfegfopjfdpaaGreatDoorW.PrintWords
open Go.ChangeShapes Go.WideShapes
theorem sized_ints {H : Type} {enc : TypeId × Value → H} {P : Program} {W : World} {base : Nat} {spare : Nat → Bool} {held : Bool} {t e : TypeId} {k : IntKind} {a : Option Addr} {len cap : Nat} {d : DataW H} {ps : List MemPlace} {ts : List TypeId} {ds : List (DataW H)} {j : Nat}
  (hsz : (DataW.weightsEach P ts ds).all (· ≤ reachBytes) = true) (ht : ts[j]? = some t) (hd : ds[j]? = some d) (hu : P.underlying t = some (.slice e)) (he : P.underlying e = some (.int k)) (hc : P.cellsOf e = 1) {B : Nat} (hB : P.bytesOf e = B)
  (h : DataW.Trod enc P W base spare held t (.slice a len cap) d ps) : len * B ≤ 140737488351232 := by
 obtain ⟨fuel, hf⟩ := h
 rcases open_ints hu he hc hf with ⟨hcs, _⟩ | ⟨x, l, c, zs, hcs, _, hl, _, hz, hx, _, _⟩
 ·simp [Value.cells] at hcs
  obtain ⟨rfl, rfl, rfl⟩ := hcs
  simp
 ·simp [Value.cells] at hcs
  obtain ⟨rfl, rfl, rfl⟩ := hcs
  obtain ⟨hx, _⟩ := Prod.mk.inj hx
  subst hx
  have z := sized_slice hsz ht hd hu
  rw [hB] at z
  have hl2 : len ≤ zs.length := by
   rw [hz]
   split
   ·exact hl
   ·exact Nat.le_refl _
  have h1 : (lits (H := H) k (zs.take len)).length + (lits (H := H) k (zs.drop len)).length = zs.length := by
   simp [lits]
   omega
  rw [h1] at z
  exact Nat.le_trans (Nat.mul_le_mul_right _ hl2) z
end Go.Proofs.YtgjfegfopjfdpaaGreatDoorW.PrintWords
end
section
namespace Go.Proofs.YtgjfegfopjfdpaaGreatDoor.fnPageBaseJoin
open Go.ChangeShapes Go.WideShapes Go.ChangeAt Go.RowKit
open Go.ChangeMaps (open_string shut_string)
set_option linter.unusedVariables false
theorem own : ownKnob Tryz.prog.godebug = none := by kernel_rfl
theorem laidOut : laidOutB Tryz.prog = true := by kernel_rfl
def IsRow (k : IntKind) (w : World) (a : Option Addr) (len cap : Nat) (zs : List Int) : Prop :=
 (a = none ∧ len = 0 ∧ cap = 0 ∧ zs = []) ∨
 ∃ x, a = some x ∧ len ≤ cap ∧ cap ≤ maxLen ∧ zs.length = cap ∧ (∀ i, i < zs.length → w.cell? (x.add i) = some (.int k (zs.getD i 0))) ∧ ∀ n ∈ zs, (Lit.int k n).wf = true
set_option maxRecDepth 100000 in
theorem lifted (os : Os) (started : os.Started) (H : Type) (enc : TypeId × Value → H) :
  ReturnsInHanded {} Tryz.checked os 4 .any (fun w args => (Rows.fnPageBaseJoinSpec.pre enc Tryz.prog Tryz.f4 Rows.fnPageBaseJoinRow.domain false w args ∧ laidMetH Tryz.prog Rows.fnPageBaseJoinRow.laid w) ∧ sizedMet enc Tryz.prog Tryz.f4 (OpenSpec.ofChange Rows.fnPageBaseJoinSpec) false w args)
   (Rows.fnPageBaseJoinSpec.post enc Tryz.prog Tryz.f4 false true false false) := by
 refine returnsInHanded_of_change_and (C := Tryz.checked) (X := fun w _ => laidMetH Tryz.prog Rows.fnPageBaseJoinRow.laid w) (fun _ _ _ hh h => h.of_heap hh) own started (by kernel_rfl) Tryz.func4
  (ChangeSpec.witness_shaped (enc := enc) (C := Tryz.checked) (os := os) (X := fun w _ => laidMetH Tryz.prog Rows.fnPageBaseJoinRow.laid w) false (World.laidAll Tryz.prog os Rows.fnPageBaseJoinRow.laid) #[.slice none 0 0, .slice none 0 0] 8 (World.laidAll_os _ _ _)
   (World.shaped_of_ZipB (by kernel_rfl) (by kernel_rfl)) (by kernel_rfl) (by kernel_rfl) (by kernel_rfl)
   (by rw [MakeChecks.laidMetH_plain _ _ _ (by kernel_rfl)]; exact laidMet_laidAll _ (by kernel_rfl) (by kernel_rfl))) ?_
 intro W base args ds gs before hval0 hW hcnd hsz0 hL _
 have hsz : (DataW.weightsEach Tryz.prog (Tryz.f4.params.toList ++ Rows.fnPageBaseJoinSpec.plain.varTypes Tryz.prog) (ds ++ gs)).all (· ≤ reachBytes) = true := hsz0
 have hval : ∀ (j : Nat) t v, Tryz.f4.params[j]? = some t → args[j]? = some v → Value.okWide Tryz.prog W .any base t v := hval0
 have hW' := hW
 obtain ⟨p, q, hA0, hV, rfl, hfz, hnd⟩ := hW
 have hA : DataW.TrodAll enc Tryz.prog W 0 (fun _ => true) true Tryz.f4.params.toList args.toList ds p := hA0
 rw [Tryz.params4] at hA hval hsz
 obtain ⟨v0, vs0, d0, ds0, p0, q0, hargs, rfl, rfl, h0, r0⟩ := trodAll_cons hA
 obtain ⟨v1, vs1, d1, ds1, p1, q1, rfl, rfl, rfl, h1, r1⟩ := trodAll_cons r0
 obtain ⟨rfl, rfl, rfl⟩ := trodAll_nil r1
 obtain rfl : args = #[v0, v1] := by cases args; simp_all
 obtain ⟨rfl, rfl⟩ := trodVars_none hV
 obtain ⟨a0, len0, cap0, rfl⟩ := okWide_slice Tryz.underlying34 (hval 0 34 v0 rfl rfl)
 have k0 := h0
 have lt0 : ∀ x ∈ p0, x.block < W.heap.size := by obtain ⟨m, hm⟩ := k0; exact DataW.trod_lt m _ _ _ hm
 obtain ⟨z0, w0⟩ : ∃ zs, IsRow .u8 W a0 len0 cap0 zs := by
  obtain ⟨fuel, hf⟩ := h0
  rcases open_ints Tryz.underlying34 Tryz.underlying5 (by kernel_rfl) hf with ⟨hcs, _⟩ | ⟨x, l, c, zs, hcs, _, hl, hm, hz, _, hcell, hwz⟩
  ·simp [Value.cells] at hcs
   obtain ⟨rfl, rfl, rfl⟩ := hcs
   exact ⟨[], .inl ⟨rfl, rfl, rfl, rfl⟩⟩
  ·simp [Value.cells] at hcs
   obtain ⟨rfl, rfl, rfl⟩ := hcs
   exact ⟨zs, .inr ⟨_, rfl, hl, hm, by simpa using hz, hcell, hwz⟩⟩
 have y0 : len0 * 1 ≤ 140737488351232 := YtgjfegfopjfdpaaGreatDoorW.PrintWords.sized_ints hsz (j := 0) (t := 34) rfl rfl Tryz.underlying34 Tryz.underlying5 (by kernel_rfl) (by kernel_rfl) h0
 obtain ⟨a1, len1, cap1, rfl⟩ := okWide_slice Tryz.underlying34 (hval 1 34 v1 rfl rfl)
 have k1 := h1
 have lt1 : ∀ x ∈ p1, x.block < W.heap.size := by obtain ⟨m, hm⟩ := k1; exact DataW.trod_lt m _ _ _ hm
 obtain ⟨z1, w1⟩ : ∃ zs, IsRow .u8 W a1 len1 cap1 zs := by
  obtain ⟨fuel, hf⟩ := h1
  rcases open_ints Tryz.underlying34 Tryz.underlying5 (by kernel_rfl) hf with ⟨hcs, _⟩ | ⟨x, l, c, zs, hcs, _, hl, hm, hz, _, hcell, hwz⟩
  ·simp [Value.cells] at hcs
   obtain ⟨rfl, rfl, rfl⟩ := hcs
   exact ⟨[], .inl ⟨rfl, rfl, rfl, rfl⟩⟩
  ·simp [Value.cells] at hcs
   obtain ⟨rfl, rfl, rfl⟩ := hcs
   exact ⟨zs, .inr ⟨_, rfl, hl, hm, by simpa using hz, hcell, hwz⟩⟩
 have y1 : len1 * 1 ≤ 140737488351232 := YtgjfegfopjfdpaaGreatDoorW.PrintWords.sized_ints hsz (j := 1) (t := 34) rfl rfl Tryz.underlying34 Tryz.underlying5 (by kernel_rfl) (by kernel_rfl) h1
 clear hA0 hval0 hsz0 hsz
 refine (P.laws_FnPageBaseJoin.walk Pure.FnPageBaseJoin a0 len0 cap0 z0 a1 len1 cap1 z1 W w0 y0 w1 y1).mono fun e W' ⟨he, bel⟩ => ?_
 subst he
 exact ⟨_, rfl, _, _, _, [], _, [], hW', trodAll_mk1 (shut_bool Tryz.underlying4 _), (trodAll_cons_mk (Below.trod laidOut (by kernel_rfl) (of_decide_eq_true (by kernel_rfl)) k0 bel lt0) (trodAll_cons_mk (Below.trod laidOut (by kernel_rfl) (of_decide_eq_true (by kernel_rfl)) k1 bel lt1) trodAll_mk0)), rfl, bel.frame _, fun h => by cases h⟩
set_option maxHeartbeats 4000000 in
theorem over : Rows.fnPageBaseJoinRow.holds Tryz.pinned (OpenSpec.ofChange Rows.fnPageBaseJoinSpec) :=
 OpenClaim.holds_of_wide 4 Tryz.f4 rfl rfl rfl rfl rfl rfl rfl ⟨rfl, rfl, rfl, rfl, rfl⟩ rfl rfl rfl rfl rfl (by as_aux_lemma => kernel_rfl) Tryz.func4 (by as_aux_lemma => kernel_rfl)
  (of_decide_eq_true (by as_aux_lemma => kernel_rfl)) (by unfold Func.isWrapper; first | (rw [if_pos (by decide +kernel)]; kernel_rfl) | (rw [if_neg (by decide +kernel)]; exact ⟨rfl, rfl⟩))
  (fun os started H enc _ => lifted os started H enc)
theorem card_holds : Rows.FnPageBaseJoinCardSaid :=
 Claim7.holds_tied_plain_at .later [] [.data, .pinned] true (true, "ed35e726fe9ce4a5a2c950f451ee72f64af63785e0932cae000ce98e8f70e758") false over (fun _ h => by cases h) (by as_aux_lemma => kernel_rfl) (fun _ h => by cases h) fnPageBaseJoin_row_tie rfl ⟨rfl, rfl⟩ (by as_aux_lemma => kernel_rfl) rfl
  (fun f fn hf hfn => by
   obtain rfl : f = 4 := Option.some.inj ((show Tryz.prog.funcNamed "loop.example/pedlar/laws.FnPageBaseJoin" = some 4 by as_aux_lemma => kernel_rfl).symm.trans hf) |>.symm
   obtain rfl : fn = Tryz.f4 := (Option.some.inj (Tryz.func4.symm.trans hfn)).symm
   exact ⟨by as_aux_lemma => kernel_rfl, fun j t ht => by
    rw [Tryz.params4] at ht
    have hm : t ∈ [34, 34] := by simpa using Array.mem_of_getElem? ht
    have hall : ([34, 34].all fun u => !Tryz.prog.wantsStandIn u) = true := by as_aux_lemma => kernel_rfl
    exact (show Tryz.prog.wantsStandIn t = false by simpa using List.all_eq_true.1 hall t hm)⟩)
  (by as_aux_lemma => kernel_rfl)
#print axioms card_holds
end Go.Proofs.YtgjfegfopjfdpaaGreatDoor.fnPageBaseJoin
namespace Go.Proofs.YtgjfegfopjfdpaaGreatDoor
theorem fnPageBaseJoin_holds : Rows.FnPageBaseJoinCardSaid := fnPageBaseJoin.card_holds
end Go.Proofs.YtgjfegfopjfdpaaGreatDoor
end
