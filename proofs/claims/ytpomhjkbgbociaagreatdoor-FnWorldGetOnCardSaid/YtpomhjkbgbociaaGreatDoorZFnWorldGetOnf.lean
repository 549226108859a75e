/- FnWorldGetOn holds of the given program at every input: What one gets once one gets again. So one does in a drawn world. No condition. Written by a program of this session (wip/pr.py). -/
import Derived.Test.YtpomhjkbgbociaaGreatDoorZFnWorldGetOne
import Derived.Test.YtpomhjkbgbociaaGreatDoorZFnWorldGetOnd
import Derived.Test.YtpomhjkbgbociaaGreatDoorZFnWorldGetOnb
import Derived.Test.YtpomhjkbgbociaaGreatDoorZFnWorldGetOnc
import Derived.SizedLaws
import Derived.ChangeSlices
import Derived.Test.YtpomhjkbgbociaaGreatDoorRows
import Derived.Test.YtpomhjkbgbociaaGreatDoorCards
import Derived.Test.YtpomhjkbgbociaaGreatDoorTie
import Derived.LaidMore
import Derived.Lay
import Derived.SevenTiedAt
import Derived.Stop.Joined
import Derived.WalkKit
import Derived.ProofKit
import Derived.OpenShut
import Derived.ShutString
import Derived.ChangeOld
import Derived.Below

section
namespace Go.Proofs.YtpomhjkbgbociaaGreatDoor.Ad
open Go.RowKit Go.Proofs.YtpomhjkbgbociaaGreatDoor.P Go.Proofs.YtpomhjkbgbociaaGreatDoorW.PrintWords Go.Proofs.YtpomhjkbgbociaaGreatDoorW.PrintLast Go.Proofs.YtpomhjkbgbociaaGreatDoorW.PrintMore Go.Proofs.YtpomhjkbgbociaaGreatDoor.B
set_option linter.unusedVariables false
set_option linter.unusedSimpArgs false
theorem clean_li (ps : List ByteArray) (hl : ps.length ≤ 1000000) (d : Nat) : ∀ (i : Nat) (acc : List ByteArray), i + d = ps.length → acc.length ≤ i →
  Ev (fun k => impl_PathClean.l0 k acc ps (ps.length : Int) (i : Int)) ((ps.drop i).foldl clean1 acc) := by
 induction d with
 | zero =>
  intro i acc hi ha
  rw [List.drop_eq_nil_of_le (by omega)]
  refine Ev_succ ?_
  simp only [impl_PathClean.l0, show ¬ ((i : Int) < (ps.length : Int)) from by omega, if_false]
  exact Ev.now _
 | succ d ih =>
  intro i acc hi ha
  have hlt : i < ps.length := by omega
  have hr := rd_at hlt
  have w1 := w64n1 i (by omega)
  have f1 : (i : Int) < (ps.length : Int) := by omega
  have f2 := ci_nn i
  rw [List.drop_eq_getElem_cons hlt, List.foldl_cons]
  generalize ps[i] = p at hr ⊢
  have next : ∀ acc', acc'.length ≤ i + 1 → acc' = clean1 acc p → Ev (fun k => impl_PathClean.l0 k acc' ps (ps.length : Int) ((i + 1 : Nat) : Int)) ((ps.drop (i + 1)).foldl clean1 (clean1 acc p)) := fun acc' h1 h2 => by
   rw [← h2]; exact ih (i + 1) acc' (by omega) h1
  refine Ev_succ ?_
  simp only [impl_PathClean.l0, f1, f2, if_true]
  rw [hr]
  by_cases h1 : p.toList = []
  ·simp only [h1, if_true]
   refine Ev_succ ?_
   simp only [impl_PathClean.j1]
   simp only [show (([] : List UInt8) == []) = true from rfl, if_true]
   rw [w1]
   exact next acc (by omega) (by unfold clean1; rw [if_pos h1])
  ·simp only [h1, if_false]
   by_cases h2 : p.toList = [46]
   ·refine Ev_succ ?_
    simp only [impl_PathClean.j1]
    simp only [h2, show (([46] : List UInt8) == [46]) = true from rfl, if_true]
    rw [w1]
    exact next acc (by omega) (by unfold clean1; rw [if_neg h1, if_pos h2])
   ·refine Ev_succ ?_
    simp only [impl_PathClean.j1]
    simp only [show (p.toList == ([46] : List UInt8)) = false from by simp [h2], Bool.false_eq_true, if_false]
    by_cases h3 : p.toList = [46, 46]
    ·simp only [h3, if_true]
     have hc : clean1 acc p = acc.take (acc.length - 1) := by unfold clean1; rw [if_neg h1, if_neg h2, if_pos h3]
     by_cases h4 : acc.length = 0
     ·simp only [show ¬ ((acc.length : Int) > 0) from by omega, if_false]
      rw [w1]
      exact next acc (by omega) (by rw [hc, List.length_eq_zero_iff.1 h4]; rfl)
     ·have w2 : wrap64 ((acc.length : Int) - 1) = ((acc.length - 1 : Nat) : Int) := by rw [w64 (by omega) (by omega)]; omega
      simp only [show ((acc.length : Int) > 0) from by omega, if_true]
      rw [w2]
      simp only [show ((0 : Int) ≤ ((acc.length - 1 : Nat) : Int)) from by omega, show (((acc.length - 1 : Nat) : Int) ≤ (acc.length : Int)) from by omega, if_true, Int.toNat_natCast]
      rw [w1]
      exact next _ (by rw [List.length_take]; omega) hc.symm
    ·simp only [h3, if_false, show acc.length < 8796093022208 from by omega, if_true]
     rw [w1]
     exact next _ (by simp; omega) (by unfold clean1; rw [if_neg h1, if_neg h2, if_neg h3])
theorem clean_i (ps : List ByteArray) (hl : ps.length ≤ 1000000) : Ev (fun k => impl_PathClean.f k ps) (pathClean ps) :=
 clean_li ps hl ps.length 0 [] (by omega) (by simp)
def wayI (house : ByteArray) (asks : Bool) (ask : ByteArray) (ps : List ByteArray) : A5 := if addrOk house (pathClean ps) asks ask = true then (house, pathClean ps, asks, ask, true) else none5
theorem way_li (house ask : ByteArray) (asks : Bool) (hh : house.size ≤ 100000) (hq : ask.size ≤ 1048576) (ls : List ByteArray) (hl : ls.length ≤ 900) (d : Nat) :
  ∀ (i : Nat) (acc : List ByteArray), i + d = ls.length → acc.length ≤ 50 + i → (∀ p ∈ acc, p.size ≤ 1048576) →
  Ev (fun k => impl_readWay.l0 k house ask asks acc ls (ls.length : Int) (i : Int)) (match escAll (ls.drop i) with | none => none5 | some ps => wayI house asks ask (acc ++ ps)) := by
 induction d with
 | zero =>
  intro i acc hi ha hp
  rw [List.drop_eq_nil_of_le (by omega)]
  refine Ev_succ ?_
  simp only [impl_readWay.l0, show ¬ ((i : Int) < (ls.length : Int)) from by omega, if_false, escAll, List.append_nil]
  refine Ev.bind (clean_i acc (by omega)) ?_
  unfold wayI
  have hP : Parts (pathClean acc) := ⟨by have := cleanF_len acc []; unfold pathClean; simp only [List.length_nil] at this; omega, fun p hq => by
   rcases cleanF_mem hq with h | h
   ·cases h
   ·exact hp p h⟩
  refine Ev.bind (addrOk_i house (pathClean acc) asks ask hP (by omega) (by omega)) ?_
  by_cases h2 : addrOk house (pathClean acc) asks ask = true
  ·simp only [h2, if_true]; exact Ev.now _
  ·simp only [h2, if_false]; exact Ev.now _
 | succ d ih =>
  intro i acc hi ha hp
  have hi' : i < ls.length := by omega
  have f1 : (i : Int) < (ls.length : Int) := by omega
  have f2 := ci_nn i
  have e1 := w64n1 i (by omega)
  have hr := rd_at hi'
  rw [List.drop_eq_getElem_cons hi']
  generalize ls[i] = p at hr ⊢
  have hz := escNorm_size p
  refine Ev_succ ?_
  simp only [impl_readWay.l0, f1, f2, if_true, hr, e1]
  refine Ev.bind (escNorm_i p) ?_
  unfold escAll
  by_cases h1 : (escNorm p).2 = true
  ·have g3 : acc.length < 8796093022208 := by omega
   simp only [h1, if_true, g3]
   have ih' := ih (i + 1) (acc ++ [(escNorm p).1]) (by omega) (by simp; omega) (fun x hx => by
    rcases List.mem_append.1 hx with h | h
    ·exact hp x h
    ·rw [List.mem_singleton.1 h]; omega)
   cases he : escAll (ls.drop (i + 1)) with
   | none => rw [he] at ih'; exact ih'
   | some ps =>
    rw [he] at ih'
    simp only [Option.map_some]
    simpa using ih'
  ·simp only [h1, if_false]; exact Ev.now _
theorem way_i (house : ByteArray) (base : List ByteArray) (way : ByteArray) (hh : house.size ≤ 100000) (hb : base.length ≤ 50) (hp : ∀ p ∈ base, p.size ≤ 1048576) (hw : way.size ≤ 800) :
  Ev (fun k => impl_readWay.f k house base way) (wayO house base way) := by
 unfold impl_readWay.f wayO
 have hc := cutB_size 63 way
 rw [cut_i way 63 (by omega)]
 simp only [Option.bind_some]
 have hz := escNorm_size (cutB 63 way).2.1
 refine Ev.bind (escNorm_i (cutB 63 way).2.1) ?_
 by_cases h1 : (escNorm (cutB 63 way).2.1).2 = true
 ·simp only [h1, if_true, slices_Clone_string_string.f, show base.length * 16 ≤ 140737488355328 from by omega, Option.bind_some]
  refine Ev.bind (split_i (cutB 63 way).1 47 (by omega)) ?_
  have hl := splitL_len 47 (L (cutB 63 way).1)
  rw [L_size] at hl
  have := way_li house (escNorm (cutB 63 way).2.1).1 (cutB 63 way).2.2 hh (by omega) ((splitL 47 (L (cutB 63 way).1)).map ofL) (by rw [List.length_map]; omega) _ 0 base (Nat.zero_add _) (by omega) hp
  rw [List.drop_zero] at this
  exact this
 ·simp only [h1, if_false]
  generalize escAll ((splitL 47 (L (cutB 63 way).1)).map ofL) = o
  cases o <;> exact Ev.now _
theorem any_house : ∀ l : List UInt8, (Lib.indexAny l [47, 63] = -1 → houseL l = (l, [])) ∧ (∀ n : Nat, Lib.indexAny l [47, 63] = (n : Int) → houseL l = (l.take n, l.drop n) ∧ n ≤ l.length)
 | [] => ⟨fun _ => rfl, fun n h => by unfold Lib.indexAny at h; omega⟩
 | x :: xs => by
  obtain ⟨i1, i2⟩ := any_house xs
  unfold Lib.indexAny houseL
  by_cases h : x = 47 ∨ x = 63
  ·have hc : ([47, 63] : List UInt8).contains x = true := by rcases h with h | h <;> subst h <;> decide
   rw [if_pos h, if_pos hc]
   refine ⟨fun e => by omega, fun n e => ?_⟩
   obtain rfl : n = 0 := by omega
   exact ⟨rfl, Nat.zero_le _⟩
  ·have hc : ¬ ([47, 63] : List UInt8).contains x = true := by
    simp only [List.contains_cons, List.contains_nil, Bool.or_false, Bool.or_eq_true, beq_iff_eq]
    exact h
   rw [if_neg h, if_neg hc]
   have hge := Lib.indexAny_ge [47, 63] xs
   by_cases h2 : Lib.indexAny xs [47, 63] = -1
   ·have hb : (Lib.indexAny xs [47, 63] == -1) = true := by simp [h2]
    rw [if_pos hb]
    refine ⟨fun _ => by rw [i1 h2], fun n e => by omega⟩
   ·have hb : ¬ (Lib.indexAny xs [47, 63] == -1) = true := by simp [h2]
    rw [if_neg hb]
    refine ⟨fun e => by omega, fun n e => ?_⟩
    obtain ⟨m, hm⟩ : ∃ m : Nat, Lib.indexAny xs [47, 63] = (m : Int) := ⟨(Lib.indexAny xs [47, 63]).toNat, by omega⟩
    obtain ⟨g1, g2⟩ := i2 m hm
    obtain rfl : n = m + 1 := by omega
    rw [g1]
    exact ⟨rfl, by simp only [List.length_cons]; omega⟩
def wholeI (s : ByteArray) : A5 := if s.size < 2 then none5 else if (L s).take 2 = [47, 47] then wholeO (s.extract 2 s.size) else none5
theorem prefix_i (s : ByteArray) (hs : s.size ≤ 800) : stringslite_HasPrefix.f s ⟨#[47, 47]⟩ = some (decide (2 ≤ s.size) && decide ((L s).take 2 = [47, 47])) := by
 unfold stringslite_HasPrefix.f
 have e2 : (⟨#[47, 47]⟩ : ByteArray).size = 2 := rfl
 rw [e2]
 by_cases h : 2 ≤ s.size
 ·rw [if_pos (by omega), if_pos (by omega), if_pos (by omega)]
  have hx : (s.extract 0 2).toList = (L s).take 2 := by rw [Lib.toList_data]; show L (s.extract 0 2) = _; rw [L_ext]; simp
  have hy : (⟨#[47, 47]⟩ : ByteArray).toList = [47, 47] := by rw [Lib.toList_data]
  simp only [Int.toNat_natCast, hx, hy, h, decide_true, Bool.true_and]
  congr 1
  rw [Bool.eq_iff_iff]; simp
 ·rw [if_neg (by omega)]
  simp [h]
theorem whole_i (s : ByteArray) (hs : s.size ≤ 800) : Ev (fun k => impl_readWhole.f k s) (wholeI s) := by
 unfold impl_readWhole.f strings_CutPrefix.f stringslite_CutPrefix.f wholeI
 have e2 : (⟨#[47, 47]⟩ : ByteArray).size = 2 := rfl
 rw [prefix_i s hs, e2]
 simp only [Option.bind_some]
 by_cases h : 2 ≤ s.size
 ·by_cases h3 : (L s).take 2 = [47, 47]
  ·simp only [h, h3, decide_true, Bool.true_and, if_true, show ¬ (s.size < 2) from by omega, if_false]
   rw [if_pos (by omega), if_pos (by omega)]
   simp only [Option.bind_some, if_true, Int.toNat_natCast]
   have hz : (s.extract 2 s.size).size ≤ 800 := by rw [ByteArray.size_extract]; omega
   generalize s.extract 2 s.size = z at hz
   unfold strings_IndexAny.f wholeO
   have ez : L (⟨#[47, 63]⟩ : ByteArray) = [47, 63] := rfl
   rw [ez, if_pos ⟨rfl, by omega⟩]
   obtain ⟨a1, a2⟩ := any_house (L z)
   have hge := Lib.indexAny_ge [47, 63] (L z)
   by_cases hi : Lib.indexAny (L z) [47, 63] = -1
   ·have hH := a1 hi
    rw [hH]
    have x1 : z.extract 0 ((z.size : Int)).toNat = z := by apply L_inj; rw [L_ext, Int.toNat_natCast, List.drop_zero]; exact List.take_of_length_le (by rw [Nat.sub_zero]; exact Nat.le_of_eq (L_size z))
    have x2 : z.extract ((z.size : Int)).toNat z.size = ofL [] := by apply L_inj; rw [L_ext, L_of, Int.toNat_natCast, Nat.sub_self]; exact List.take_zero
    rw [of_L]
    refine Ev.congr (f := fun k => (impl_readWay.f k (smallB z) [] (ofL [])).bind fun b => some (b.1, b.2.1, b.2.2.1, b.2.2.2.1, b.2.2.2.2)) (fun k => ?_) ?_
    ·rw [hi, Option.bind_some, if_pos (by omega), if_pos (by omega), if_pos (by omega)]
     first | rw [x1, x2] | (simp only [Int.toNat_natCast] at x1 x2; rw [x1, x2])
     unfold impl_smallLetters.f
     rw [if_pos (by omega), Option.bind_some]
    refine Ev.bind (way_i (smallB z) [] (ofL []) (by unfold smallB; rw [ofL_size, List.length_map, L_size]; omega) (by simp) (by simp) (by decide)) ?_
    exact Ev.now _
   ·obtain ⟨n, hn⟩ : ∃ n : Nat, Lib.indexAny (L z) [47, 63] = (n : Int) := ⟨(Lib.indexAny (L z) [47, 63]).toNat, by omega⟩
    obtain ⟨hH, hle⟩ := a2 n hn
    rw [L_size] at hle
    rw [hH]
    have x1 : z.extract 0 ((n : Int)).toNat = ofL ((L z).take n) := by apply L_inj; rw [L_ext, L_of]; simp
    have x2 : z.extract ((n : Int)).toNat z.size = ofL ((L z).drop n) := by
     apply L_inj; rw [L_ext, L_of, Int.toNat_natCast]
     exact List.take_of_length_le (by rw [List.length_drop, L_size]; exact Nat.le_refl _)
    have s1 : (ofL ((L z).take n)).size ≤ 800 := by rw [ofL_size, List.length_take, L_size]; omega
    have s2 : (ofL ((L z).drop n)).size ≤ 800 := by rw [ofL_size, List.length_drop, L_size]; omega
    generalize ofL ((L z).take n) = y at s1 x1 ⊢
    refine Ev.congr (f := fun k => (impl_readWay.f k (smallB y) [] (ofL ((L z).drop n))).bind fun b => some (b.1, b.2.1, b.2.2.1, b.2.2.2.1, b.2.2.2.2)) (fun k => ?_) ?_
    ·rw [hn, Option.bind_some, if_neg (by omega), if_pos (by omega), if_pos (by omega), x1, x2]
     unfold impl_smallLetters.f
     rw [if_pos (by omega), Option.bind_some]
    refine Ev.bind (way_i (smallB y) [] _ (by unfold smallB; rw [ofL_size, List.length_map, L_size]; omega) (by simp) (by simp) s2) ?_
    exact Ev.now _
  ·simp only [h, h3, decide_true, decide_false, Bool.and_false, Bool.false_eq_true, if_false, Option.bind_some, show ¬ (s.size < 2) from by omega]
   exact Ev.now _
 ·simp only [h, decide_false, Bool.false_and, Bool.false_eq_true, if_false, Option.bind_some, show s.size < 2 from by omega, if_true]
  exact Ev.now _
theorem read_i (raw : ByteArray) : Ev (fun k => impl_AddrRead.f k raw) (readO raw) := by
 unfold impl_AddrRead.f readO
 by_cases h : raw.size > 60
 ·simp only [show ((raw.size : Int) > 60) from by omega, if_true, h]
  exact Ev.now _
 ·simp only [show ¬ ((raw.size : Int) > 60) from by omega, if_false, h]
  have hc := cutB_size 35 raw
  rw [cut_i raw 35 (by omega)]
  simp only [Option.bind_some]
  refine Ev.bind (whole_i (cutB 35 raw).1 (by omega)) ?_
  exact Ev.now _
end Go.Proofs.YtpomhjkbgbociaaGreatDoor.Ad
end
section
namespace Go.Proofs.YtpomhjkbgbociaaGreatDoor.Wd
open Go.RowKit Go.Proofs.YtpomhjkbgbociaaGreatDoor.P Go.Proofs.YtpomhjkbgbociaaGreatDoorW.PrintWords Go.Proofs.YtpomhjkbgbociaaGreatDoorW.PrintLast Go.Proofs.YtpomhjkbgbociaaGreatDoorW.PrintMore Go.Proofs.YtpomhjkbgbociaaGreatDoor.B Go.Proofs.YtpomhjkbgbociaaGreatDoor.Ad
set_option linter.unusedVariables false
set_option linter.unusedSimpArgs false
abbrev Pg := S30
def norm (s : ByteArray) : Bool := (readO s).2.2.2.2 && (textB (readO s).1 (readO s).2.1 (readO s).2.2.1 (readO s).2.2.2.1).toList == s.toList
theorem readAddr_i (s : ByteArray) : Ev (fun k => impl_readAddress.f k s) (if norm s = true then ((readO s).1, (readO s).2.1, (readO s).2.2.1, (readO s).2.2.2.1, true) else none5) := by
 unfold impl_readAddress.f
 refine Ev.bind (read_i s) ?_
 have hF := fine_read s
 obtain ⟨q1, q2, q3⟩ := fine_parts hF
 unfold norm
 by_cases h : (readO s).2.2.2.2 = true
 ·have ht := text_i (readO s).1 (readO s).2.1 (readO s).2.2.1 (readO s).2.2.2.1 q1 (by omega) (by omega)
  simp only [h, if_true, ht, Option.bind_some, Bool.true_and]
  by_cases h2 : (textB (readO s).1 (readO s).2.1 (readO s).2.2.1 (readO s).2.2.2.1).toList = s.toList
  ·simp only [h2, if_true, beq_self_eq_true]
   exact Ev.now _
  ·simp only [h2, if_false, beq_eq_false_iff_ne.mpr h2, Bool.false_eq_true]
   exact Ev.now _
 ·have h' : (readO s).2.2.2.2 = false := by simpa using h
  simp only [h', Bool.false_and, Bool.false_eq_true, if_false]
  exact Ev.now _
theorem isAddr_i (s : ByteArray) : Ev (fun k => impl_isAddress.f k s) (norm s) := by
 unfold impl_isAddress.f
 refine Ev.bind (readAddr_i s) ?_
 by_cases h : norm s = true
 ·rw [if_pos h, h]; exact Ev.now _
 ·rw [if_neg h]
  have h' : norm s = false := by simpa using h
  rw [h']
  exact Ev.now _
theorem norm_s (s : ByteArray) (hs : s.size ≤ 140737488351232) : Ev (fun k => spec_l11Norm.f k s) (norm s) := by
 unfold spec_l11Norm.f
 refine Ev.bind (read_ev s hs) ?_
 have hF := fine_read s
 obtain ⟨q1, q2, q3⟩ := fine_parts hF
 unfold norm
 by_cases h : (readO s).2.2.2.2 = true
 ·simp only [h, if_true, Bool.true_and]
  have ho : addrOk (readO s).1 (readO s).2.1 (readO s).2.2.1 (readO s).2.2.2.1 = true := by
   rcases hF with e | e
   ·rw [e] at h; cases h
   ·exact e.2
  refine Ev.bind (addrText_ev _ _ _ _ q1 (by omega) (by omega)) ?_
  unfold addrText
  rw [if_pos ho]
  exact Ev.now _
 ·have h' : (readO s).2.2.2.2 = false := by simpa using h
  simp only [h', Bool.false_and, Bool.false_eq_true, if_false]
  exact Ev.now _
def pgOk (p : Pg) : Bool := norm p.f0 && decide (p.f1.size ≤ 300) && decide (0 ≤ p.f3) && decide (p.f3 ≤ 9) && (p.f2.toList == [] || norm p.f2 && p.f1.toList == [])
theorem pageOk_i (p : Pg) : Ev (fun k => impl_pageOk.f k p.f0 p.f1 p.f2 p.f3) (pgOk p) := by
 unfold impl_pageOk.f pgOk
 refine Ev.bind (isAddr_i p.f0) ?_
 cases norm p.f0 with
 | false => simp only [Bool.false_and, Bool.false_eq_true, if_false]; exact Ev.now _
 | true =>
  simp only [if_true, Bool.true_and]
  by_cases h1 : (p.f1.size : Int) > 300
  ·simp only [h1, if_true, show ¬ p.f1.size ≤ 300 from by omega, decide_false, Bool.false_and]; exact Ev.now _
  ·simp only [h1, if_false, show p.f1.size ≤ 300 from by omega, decide_true, Bool.true_and]
   by_cases h2 : p.f3 < 0
   ·simp only [h2, if_true, show ¬ 0 ≤ p.f3 from by omega, decide_false, Bool.false_and]; exact Ev.now _
   ·simp only [h2, if_false, show 0 ≤ p.f3 from by omega, decide_true, Bool.true_and]
    by_cases h3 : p.f3 > 9
    ·simp only [h3, if_true, show ¬ p.f3 ≤ 9 from by omega, decide_false, Bool.false_and]; exact Ev.now _
    ·simp only [h3, if_false, show p.f3 ≤ 9 from by omega, decide_true, Bool.true_and]
     by_cases h4 : p.f2.toList = ([] : List UInt8)
     ·simp only [h4, if_true, beq_self_eq_true, Bool.true_or]; exact Ev.now _
     ·simp only [h4, if_false, beq_eq_false_iff_ne.mpr h4, Bool.false_or]
      refine Ev.bind (isAddr_i p.f2) ?_
      cases norm p.f2 with
      | false => simp only [Bool.false_and, Bool.false_eq_true, if_false]; exact Ev.now _
      | true => simp only [if_true, Bool.true_and]; exact Ev.now _
theorem pagesOk_i : ∀ (l : List Pg), (∀ p ∈ l, p.f0.size ≤ 9223372036854775807) → Ev (fun k => pagesOk k l) (l.all pgOk)
 | [], _ => by simp only [pagesOk, List.all_nil]; exact Ev.now _
 | p :: r, h => by
  simp only [pagesOk, h p (List.mem_cons_self ..), if_true, List.all_cons]
  refine Ev.bind (pageOk_i p) ?_
  cases pgOk p with
  | false => simp only [Bool.false_and, Bool.false_eq_true, if_false]; exact Ev.now _
  | true => simp only [if_true, Bool.true_and]; exact pagesOk_i r (fun q hq => h q (List.mem_cons_of_mem _ hq))
def fresh : List Pg → Bool
 | [] => true
 | p :: r => !(r.any fun q => decide (q.f0 = p.f0)) && fresh r
theorem at_any (a : ByteArray) : ∀ (r : List Pg), (pageAtR a r).isSome = r.any fun q => decide (q.f0 = a)
 | [] => rfl
 | p :: r => by
  unfold pageAtR
  by_cases h : p.f0 = a
  ·simp [h]
  ·simp [h, at_any a r]
theorem size_fresh : ∀ (r : List Pg), Maps.size (mapR r) ≤ r.length ∧ (Maps.size (mapR r) = r.length ↔ fresh r = true)
 | [] => ⟨Nat.le_refl _, by simp [fresh, mapR, Maps.size]⟩
 | p :: r => by
  obtain ⟨h1, h2⟩ := size_fresh r
  rw [mapR_size, at_any]
  unfold fresh
  cases hb : (r.any fun q => decide (q.f0 = p.f0)) with
  | true => simp only [if_true, Bool.not_true, Bool.false_and, List.length_cons]; exact ⟨by omega, by constructor <;> intro h <;> first | omega | cases h⟩
  | false => simp only [Bool.false_eq_true, if_false, Bool.not_false, Bool.true_and, List.length_cons]; exact ⟨by omega, by rw [← h2]; omega⟩
def worldOk (l : List Pg) : Bool := decide (l.length ≤ 12) && l.all pgOk && fresh l.reverse
theorem made_i (l : List Pg) (h : ∀ p ∈ l, p.f0.size ≤ 9223372036854775807) : Ev (fun k => (impl_worldOf.f k l).bind fun t => if t = true then some ((Maps.size (mapD l) : Int) == (l.length : Int)) else some false) (worldOk l) := by
 unfold impl_worldOf.f worldOk
 by_cases h12 : 12 < l.length
 ·simp only [h12, if_true, Option.bind_some, Bool.false_eq_true, if_false, show ¬ l.length ≤ 12 from by omega, decide_false, Bool.false_and]
  exact Ev.now _
 ·simp only [h12, if_false, show l.length ≤ 12 from by omega, decide_true, Bool.true_and]
  refine Ev.bind (pagesOk_i l h) ?_
  cases l.all pgOk with
  | false => simp only [Bool.false_eq_true, if_false, Bool.false_and]; exact Ev.now _
  | true =>
   simp only [if_true, Bool.true_and]
   have := (size_fresh l.reverse).2
   rw [List.length_reverse] at this
   have e : ((Maps.size (mapD l) : Int) == (l.length : Int)) = fresh l.reverse := by
    unfold mapD
    rw [Bool.eq_iff_iff, ← this]
    simp
    omega
   rw [e]
   exact Ev.now _
theorem made2 (l : List Pg) (h : ∀ p ∈ l, p.f0.size ≤ 9223372036854775807) : ∃ b, Ev (fun k => impl_worldOf.f k l) b ∧ (b = false → worldOk l = false) ∧ (b = true → ((Maps.size (mapD l) : Int) == (l.length : Int)) = worldOk l) := by
 obtain ⟨K, hK⟩ := made_i l h
 obtain ⟨b, hb, hb2⟩ := Option.bind_eq_some_iff.mp (hK K (Nat.le_refl _))
 refine ⟨b, Ev.of (fun k => impl_worldOf.mono l k) hb, fun e => ?_, fun e => ?_⟩
 ·subst e
  rw [if_neg (by decide)] at hb2
  exact (Option.some.inj hb2).symm
 ·subst e
  rw [if_pos rfl] at hb2
  exact Option.some.inj hb2
theorem rd_pg {l : List Pg} {i : Nat} (h : i < l.length) : rd_T30 l (i : Int) = l[i] := by
 simp [rd_T30, List.getD, List.getElem?_eq_getElem h]
def restOk (l : List Pg) : Nat → Nat → Bool
 | 0, _ => decide (l.length ≤ 12)
 | d + 1, i => pgOk (rd_T30 l (i : Int)) && !((l.take i).any fun q => decide (q.f0 = (rd_T30 l (i : Int)).f0)) && restOk l d (i + 1)
theorem inner_s (l : List Pg) (i : Nat) (hi : i < l.length) (hl : l.length ≤ 1048576) (R : Bool) (hR : Ev (fun k => spec_WorldOk.l0 k l ((i + 1 : Nat) : Int)) R) (d : Nat) : ∀ (j : Nat), j + d = i →
  Ev (fun k => spec_WorldOk.l1 k l (i : Int) (j : Int)) (!(((l.take i).drop j).any fun q => decide (q.f0 = (rd_T30 l (i : Int)).f0)) && R) := by
 induction d with
 | zero =>
  intro j hj
  obtain rfl : j = i := by omega
  have w1 : wrap64 ((j : Int) + 1) = ((j + 1 : Nat) : Int) := by rw [w64 (by omega) (by omega)]; rfl
  refine Ev_succ ?_
  simp only [spec_WorldOk.l1, show ¬ ((j : Int) < (j : Int)) from by omega, if_false]
  rw [w1, List.drop_of_length_le (by rw [List.length_take]; omega)]
  simpa using hR
 | succ d ih =>
  intro j hj
  have hjl : j < l.length := by omega
  have w1 : wrap64 ((j : Int) + 1) = ((j + 1 : Nat) : Int) := by rw [w64 (by omega) (by omega)]; rfl
  have hd : (l.take i).drop j = l[j] :: (l.take i).drop (j + 1) := by
   rw [List.drop_eq_getElem_cons (by rw [List.length_take]; omega)]
   congr 1
   simp
  refine Ev_succ ?_
  simp only [spec_WorldOk.l1, show (j : Int) < (i : Int) from by omega, ci_nn j, ci_nn i, show (j : Int) < (l.length : Int) from by omega, show (i : Int) < (l.length : Int) from by omega, if_true]
  rw [w1, hd, rd_pg hjl, List.any_cons]
  by_cases he : l[j].f0.toList = (rd_T30 l (i : Int)).f0.toList
  ·simp only [he, if_true, decide_eq_true (toList_inj.1 he), Bool.true_or, Bool.not_true, Bool.false_and]
   exact Ev.now _
  ·simp only [he, if_false, decide_eq_false (fun e => he (toList_inj.2 e)), Bool.false_or]
   exact ih (j + 1) (by omega)
theorem outer_s (l : List Pg) (hl : l.length ≤ 1048576) (hs : ∀ p ∈ l, p.f0.size ≤ 140737488351232 ∧ p.f2.size ≤ 140737488351232) (d : Nat) : ∀ (i : Nat), i + d = l.length → Ev (fun k => spec_WorldOk.l0 k l (i : Int)) (restOk l d i) := by
 induction d with
 | zero =>
  intro i hi
  refine Ev_succ ?_
  simp only [spec_WorldOk.l0, show ¬ ((i : Int) < (l.length : Int)) from by omega, if_false, restOk]
  have e : decide ((l.length : Int) ≤ 12) = decide (l.length ≤ 12) := by rw [Bool.eq_iff_iff]; simp; omega
  rw [e]
  exact Ev.now _
 | succ d ih =>
  intro i hi
  have hlt : i < l.length := by omega
  have hr := rd_pg hlt
  have hm := hs _ (List.getElem_mem hlt)
  have stop : Ev (fun k => spec_WorldOk.j1 k l (i : Int) true) false := Ev_succ (by simp only [spec_WorldOk.j1, if_true]; exact Ev.now _)
  have go : Ev (fun k => spec_WorldOk.j1 k l (i : Int) false) (!((l.take i).any fun q => decide (q.f0 = (rd_T30 l (i : Int)).f0)) && restOk l d (i + 1)) := by
   refine Ev_succ ?_
   simp only [spec_WorldOk.j1, Bool.false_eq_true, if_false]
   have := inner_s l i hlt hl _ (ih (i + 1) (by omega)) i 0 (by omega)
   simpa using this
  unfold restOk pgOk
  refine Ev_succ ?_
  simp only [spec_WorldOk.l0, show (i : Int) < (l.length : Int) from by omega, ci_nn i, if_true]
  rw [hr]
  rw [hr] at go
  refine Ev.bind (norm_s _ hm.1) ?_
  generalize l[i] = p at go hm ⊢
  cases norm p.f0 with
  | false => simp only [Bool.false_and, Bool.false_eq_true, if_false]; exact stop
  | true =>
   simp only [if_true, Bool.true_and]
   by_cases h1 : (p.f1.size : Int) > 300
   ·simp only [h1, if_true, show ¬ p.f1.size ≤ 300 from by omega, decide_false, Bool.false_and]; exact stop
   ·simp only [h1, if_false, show p.f1.size ≤ 300 from by omega, decide_true, Bool.true_and]
    have hin : spec_l6In.f p.f3 0 9 = some (decide (0 ≤ p.f3) && decide (p.f3 ≤ 9)) := by
     unfold spec_l6In.f
     by_cases ha : 0 ≤ p.f3 <;> by_cases hb : p.f3 ≤ 9 <;> simp [ha, hb]
    rw [hin]
    simp only [Option.bind_some]
    by_cases h23 : (decide (0 ≤ p.f3) && decide (p.f3 ≤ 9)) = true
    ·simp only [h23, if_true, Bool.true_and]
     by_cases h4 : p.f2.toList = ([] : List UInt8)
     ·simp only [h4, if_true, beq_self_eq_true, Bool.true_or, Bool.true_and]; exact go
     ·simp only [h4, if_false, beq_eq_false_iff_ne.mpr h4, Bool.false_or]
      by_cases h5 : p.f1.toList = ([] : List UInt8)
      ·simp only [h5, if_true, beq_self_eq_true, Bool.and_true]
       refine Ev.bind (norm_s _ hm.2) ?_
       cases norm p.f2 with
       | false => simp only [Bool.not_false, Bool.false_and]; exact stop
       | true => simp only [Bool.not_true, Bool.true_and]; exact go
      ·simp only [h5, if_false, beq_eq_false_iff_ne.mpr h5, Bool.and_false, Bool.false_and]; exact stop
    ·have h23' : (decide (0 ≤ p.f3) && decide (p.f3 ≤ 9)) = false := by simpa using h23
     simp only [h23', Bool.false_eq_true, if_false, Bool.false_and]; exact stop
theorem rest_world (l : List Pg) (d : Nat) : ∀ (i : Nat), i + d = l.length → fresh (l.take i).reverse = true → restOk l d i = (decide (l.length ≤ 12) && (l.drop i).all pgOk && fresh l.reverse) := by
 induction d with
 | zero =>
  intro i hi hf
  obtain rfl : i = l.length := by omega
  rw [List.take_length] at hf
  simp [restOk, hf]
 | succ d ih =>
  intro i hi hf
  have hlt : i < l.length := by omega
  have ht : (l.take (i + 1)).reverse = l[i] :: (l.take i).reverse := by
   rw [List.take_succ_eq_append_getElem hlt, List.reverse_append]
   rfl
  rw [List.drop_eq_getElem_cons hlt, List.all_cons]
  unfold restOk
  rw [rd_pg hlt]
  cases ha : ((l.take i).any fun q => decide (q.f0 = l[i].f0)) with
  | false =>
   rw [ih (i + 1) (by omega) (by rw [ht]; unfold fresh; rw [List.any_reverse, ha, hf]; rfl)]
   cases pgOk l[i] <;> simp
  | true =>
   have hn : fresh l.reverse = false := by
    have e : l.reverse = (l.drop (i + 1)).reverse ++ (l.take (i + 1)).reverse := by rw [← List.reverse_append, List.take_append_drop]
    rw [e, ht]
    generalize (l.drop (i + 1)).reverse = x
    induction x with
    | nil => simp only [List.nil_append]; unfold fresh; rw [List.any_reverse, ha]; rfl
    | cons y x ih2 => simp only [List.cons_append]; unfold fresh; rw [ih2, Bool.and_false]
   simp [hn]
theorem worldOk_s (l : List Pg) (hl : l.length ≤ 1048576) (hs : ∀ p ∈ l, p.f0.size ≤ 140737488351232 ∧ p.f2.size ≤ 140737488351232) : Ev (fun k => spec_WorldOk.f k l) (worldOk l) := by
 unfold spec_WorldOk.f
 have h := outer_s l hl hs l.length 0 (by omega)
 rw [rest_world l l.length 0 (by omega) (by simp [fresh])] at h
 rw [List.drop_zero] at h
 exact h
end Go.Proofs.YtpomhjkbgbociaaGreatDoor.Wd
end
section
namespace Go.Proofs.YtpomhjkbgbociaaGreatDoor.Wd
open Go.RowKit Go.Proofs.YtpomhjkbgbociaaGreatDoor.P Go.Proofs.YtpomhjkbgbociaaGreatDoorW.PrintWords Go.Proofs.YtpomhjkbgbociaaGreatDoorW.PrintLast Go.Proofs.YtpomhjkbgbociaaGreatDoorW.PrintMore Go.Proofs.YtpomhjkbgbociaaGreatDoor.B Go.Proofs.YtpomhjkbgbociaaGreatDoor.Ad
set_option linter.unusedVariables false
set_option linter.unusedSimpArgs false
theorem at_find (a : ByteArray) : ∀ (r : List Pg), pageAtR a r = r.find? fun q => decide (q.f0 = a)
 | [] => rfl
 | p :: r => by
  unfold pageAtR
  by_cases h : p.f0 = a
  ·simp [h]
  ·simp [h, at_find a r]
theorem fresh_one : ∀ {r : List Pg}, fresh r = true → ∀ p ∈ r, ∀ q ∈ r, p.f0 = q.f0 → p = q
 | x :: r, h, p, hp, q, hq, e => by
  unfold fresh at h
  simp only [Bool.and_eq_true, Bool.not_eq_true', List.any_eq_false, decide_eq_true_eq] at h
  rcases List.mem_cons.1 hp with e1 | hp'
  ·rcases List.mem_cons.1 hq with e2 | hq'
   ·rw [e1, e2]
   ·exact absurd (by rw [← e, e1]) (h.1 q hq')
  ·rcases List.mem_cons.1 hq with e2 | hq'
   ·exact absurd (by rw [e, e2]) (h.1 p hp')
   ·exact fresh_one h.2 p hp' q hq' e
theorem at_first {l : List Pg} (h : fresh l.reverse = true) (a : ByteArray) : pageAtR a l.reverse = l.find? fun q => decide (q.f0 = a) := by
 rw [at_find]
 cases h1 : l.reverse.find? fun q => decide (q.f0 = a) with
 | none =>
  symm
  rw [List.find?_eq_none] at h1 ⊢
  exact fun x hx => h1 x (List.mem_reverse.2 hx)
 | some p =>
  have hp := List.mem_of_find?_eq_some h1
  have ep : p.f0 = a := by simpa using List.find?_some h1
  cases h2 : l.find? fun q => decide (q.f0 = a) with
  | none =>
   rw [List.find?_eq_none] at h2
   exact absurd (decide_eq_true ep) (h2 p (List.mem_reverse.1 hp))
  | some q =>
   have hq := List.mem_of_find?_eq_some h2
   have eq : q.f0 = a := by simpa using List.find?_some h2
   rw [fresh_one h p hp q (List.mem_reverse.2 hq) (ep.trans eq.symm)]
def atO (l : List Pg) (a : ByteArray) : ByteArray × ByteArray × ByteArray × Int × Bool :=
 match l.find? fun q => decide (q.f0 = a) with
 | some p => (p.f0, p.f1, p.f2, p.f3, true)
 | none => ((⟨#[]⟩ : ByteArray), (⟨#[]⟩ : ByteArray), (⟨#[]⟩ : ByteArray), 0, false)
theorem at_l (l : List Pg) (hl : l.length ≤ 1048576) (a : ByteArray) (d : Nat) : ∀ (i : Nat), i + d = l.length → Ev (fun k => spec_l11At.l0 k l a (i : Int)) (atO (l.drop i) a) := by
 induction d with
 | zero =>
  intro i hi
  refine Ev_succ ?_
  simp only [spec_l11At.l0, show ¬ ((i : Int) < (l.length : Int)) from by omega, if_false]
  rw [List.drop_of_length_le (by omega)]
  exact Ev.now _
 | succ d ih =>
  intro i hi
  have hlt : i < l.length := by omega
  have w1 : wrap64 ((i : Int) + 1) = ((i + 1 : Nat) : Int) := by rw [w64 (by omega) (by omega)]; rfl
  have next := ih (i + 1) (by omega)
  refine Ev_succ ?_
  simp only [spec_l11At.l0, show (i : Int) < (l.length : Int) from by omega, ci_nn i, if_true]
  rw [w1, rd_pg hlt, List.drop_eq_getElem_cons hlt]
  generalize l[i] = p at *
  by_cases he : p.f0.toList = a.toList
  ·simp only [he, if_true, atO, List.find?_cons, decide_eq_true (toList_inj.1 he)]
   exact Ev.now _
  ·simp only [he, if_false, atO, List.find?_cons, decide_eq_false (fun e => he (toList_inj.2 e))]
   exact next
end Go.Proofs.YtpomhjkbgbociaaGreatDoor.Wd
end
section
namespace Go.Proofs.YtpomhjkbgbociaaGreatDoor.Draw
open Go.RowKit Go.Proofs.YtpomhjkbgbociaaGreatDoor.P Go.Proofs.YtpomhjkbgbociaaGreatDoorW.PrintWords Go.Proofs.YtpomhjkbgbociaaGreatDoorW.PrintLast Go.Proofs.YtpomhjkbgbociaaGreatDoorW.PrintMore Go.Proofs.YtpomhjkbgbociaaGreatDoor.B Go.Proofs.YtpomhjkbgbociaaGreatDoor.Ad Go.Proofs.YtpomhjkbgbociaaGreatDoor.Wd
set_option linter.unusedVariables false
set_option linter.unusedSimpArgs false
def Pgd (p : Pg) : Prop := p.f0.size ≤ 60 ∧ p.f1.size ≤ 300 ∧ p.f2.size ≤ 60
theorem pgd_app {x : List Pg} {g : Pg} (h : ∀ q ∈ x, Pgd q) (hg : Pgd g) : ∀ q ∈ x ++ [g], Pgd q := by
 intro q hq
 rcases List.mem_append.1 hq with hq | hq
 ·exact h q hq
 ·rw [List.mem_singleton.1 hq]; exact hg
theorem at_some {x : List Pg} {a : ByteArray} (h : (atO x a).2.2.2.2 = true) : x ≠ [] := by
 rintro rfl
 simp [atO] at h
theorem small_of {n : List SGd} (hl : n.length ≤ 4) (h : ∀ g ∈ n, Gd g) : Nt.Sm n :=
 ⟨by omega, fun g hg => by obtain ⟨h1, h2, _⟩ := h g hg; exact ⟨by omega, fun s hs => by have := h2 s hs; omega⟩, fun g hg => by obtain ⟨_, _, h3, _⟩ := h g hg; omega⟩
theorem world_l1 {b : List Int} (hc : Code b) (d : Nat) : ∀ (p : Int) (x : List Pg), 0 ≤ p → p + 400 * d ≤ 90000000 → x.length + d ≤ 100 → (∀ q ∈ x, Pgd q) → (x ≠ [] ∨ 1 ≤ d) →
  ∃ y p', Ev (fun k => spec_l71World.l1 k x (d : Int) b p) (y, p') ∧ y ≠ [] ∧ y.length ≤ x.length + d ∧ (∀ q ∈ y, Pgd q) ∧ p ≤ p' ∧ p' ≤ p + 400 * d := by
 induction d with
 | zero =>
  intro p x h0 h1 hl hx hn
  refine ⟨x, p, Ev_succ ?_, by rcases hn with h | h; exact h; omega, by omega, hx, by omega, by omega⟩
  have n0 : ¬ (((0 : Nat) : Int) > 0) := by omega
  simp only [spec_l71World.l1, n0, if_false]
  exact Ev.now _
 | succ d ih =>
  intro p x h0 h1 hl hx hn
  have n1 : (((d + 1 : Nat) : Int) > 0) := by omega
  have e1 : wrap64 (((d + 1 : Nat) : Int) - 1) = (d : Int) := by rw [w64 (by omega) (by omega)]; omega
  obtain ⟨s, p1, hs, sz, a1, b1⟩ := addr_ev hc p h0 (by omega)
  obtain ⟨t, p2, ht, tz, a2, b2⟩ := page_ev hc p1 (by omega) (by omega)
  obtain ⟨v, hv, v0, v1⟩ := pick_ev hc p2 7 (by omega) (by omega)
  have v2 := v1 (by omega)
  obtain ⟨u, hu, u0, u1⟩ := pick_ev hc (p2 + 1) 8 (by omega) (by omega)
  have hA := at_l x (by omega) s x.length 0 (by omega)
  rw [List.drop_zero] at hA
  have hA' : Ev (fun k => spec_l11At.f k x s) (atO x s) := hA
  have tail : ∀ (q : Int) (pg : Pg) (B : Prop) [Decidable B], B → Pgd pg → 0 ≤ q → q ≤ p + 330 →
    ∃ y p', Ev (fun k => (spec_l11At.f k x s).bind fun bt => if bt.2.2.2.2 = true then (spec_l71World.l1 k x (wrap64 (((d + 1 : Nat) : Int) - 1)) b q) else (if B then (if x.length < 2513169434916 then (spec_l71World.l1 k (x ++ [pg]) (wrap64 (((d + 1 : Nat) : Int) - 1)) b q) else none) else (spec_l71World.l1 k x (wrap64 (((d + 1 : Nat) : Int) - 1)) b q))) (y, p') ∧ y ≠ [] ∧ y.length ≤ x.length + (d + 1) ∧ (∀ q ∈ y, Pgd q) ∧ q ≤ p' ∧ p' ≤ q + 400 * d := by
   intro q pg B _ hB hpg q0 q1
   rw [e1]
   by_cases hf : (atO x s).2.2.2.2 = true
   ·obtain ⟨y, p', g1, g2, g3, g4, g5, g6⟩ := ih q x q0 (by omega) (by omega) hx (.inl (at_some hf))
    refine ⟨y, p', Ev.bind hA' ?_, g2, by omega, g4, g5, g6⟩
    simp only [hf, if_true]
    exact g1
   ·obtain ⟨y, p', g1, g2, g3, g4, g5, g6⟩ := ih q (x ++ [pg]) q0 (by omega) (by simp; omega) (pgd_app hx hpg) (.inl (by simp))
    rw [List.length_append, List.length_singleton] at g3
    refine ⟨y, p', Ev.bind hA' ?_, g2, by omega, g4, g5, g6⟩
    simp only [hf, Bool.false_eq_true, if_false, if_pos hB, show x.length < 2513169434916 from by omega, if_true]
    exact g1
  have h7 : v < (([0, 0, 0, 0, 1, 2, 4] : List Int).length : Int) := by simp; omega
  by_cases c : u = 0
  ·obtain ⟨s2, p3, hs2, sz2, a3, b3⟩ := addr_ev hc (p2 + 1 + 1) (by omega) (by omega)
   obtain ⟨y, p', g1, g2, g3, g4, g5, g6⟩ := tail p3 ⟨s, ⟨#[]⟩, s2, rd [0, 0, 0, 0, 1, 2, 4] v⟩ ((0 : Int) ≤ 300) (by decide) ⟨by simp only; omega, Nat.zero_le _, by simp only; omega⟩ (by omega) (by omega)
   refine ⟨y, p', Ev_succ ?_, g2, g3, g4, by omega, by omega⟩
   simp only [spec_l71World.l1, n1, if_true]
   refine Ev.bind hs (Ev.bind ht ?_)
   simp only [Option.bind_some]
   refine Ev.bind hv ?_
   simp only [v0, h7, if_true]
   refine Ev.bind hu ?_
   simp only [c, if_true]
   exact Ev.bind hs2 g1
  ·obtain ⟨y, p', g1, g2, g3, g4, g5, g6⟩ := tail (p2 + 1 + 1) ⟨s, t, ⟨#[]⟩, rd [0, 0, 0, 0, 1, 2, 4] v⟩ ((t.size : Int) ≤ 300) (by omega) ⟨by simp only; omega, by simp only; omega, Nat.zero_le _⟩ (by omega) (by omega)
   refine ⟨y, p', Ev_succ ?_, g2, g3, g4, by omega, by omega⟩
   simp only [spec_l71World.l1, n1, if_true]
   refine Ev.bind hs (Ev.bind ht ?_)
   simp only [Option.bind_some]
   refine Ev.bind hv ?_
   simp only [v0, h7, if_true]
   refine Ev.bind hu ?_
   simp only [c, if_false]
   exact g1
abbrev T4 : List ByteArray := [(⟨#[97, 98]⟩ : ByteArray), (⟨#[99, 100]⟩ : ByteArray), (⟨#[101]⟩ : ByteArray), (⟨#[102, 111, 120]⟩ : ByteArray)]
theorem t4_size (i : Nat) (h : i < 4) : (rdOf ByteArray.empty T4 (i : Int)).size ≤ 3 := by
 obtain rfl | rfl | rfl | rfl : i = 0 ∨ i = 1 ∨ i = 2 ∨ i = 3 := by omega
 all_goals decide
theorem world_l0 {b : List Int} (hc : Code b) (d : Nat) : ∀ (i : Nat) (p : Int) (x : List Pg), i + d = 4 → 0 ≤ p → p + 500 * d + 4000 ≤ 9000000 → x.length ≤ i → (∀ q ∈ x, Pgd q) →
  ∃ y p', Ev (fun k => spec_l71World.l0 k x T4 (i : Int) b p) (y, p') ∧ y ≠ [] ∧ y.length ≤ 12 ∧ (∀ q ∈ y, Pgd q) ∧ p ≤ p' ∧ p' ≤ p + 500 * d + 4000 := by
 induction d with
 | zero =>
  intro i p x hi h0 h1 hl hx
  obtain ⟨v, hv, v0, v1⟩ := pick_ev hc p 7 h0 (by omega)
  have v2 := v1 (by omega)
  obtain ⟨m, rfl⟩ := Int.eq_ofNat_of_zero_le v0
  obtain ⟨y, p', g1, g2, g3, g4, g5, g6⟩ := world_l1 hc (2 + m) (p + 1) x (by omega) (by omega) (by omega) hx (.inr (by omega))
  refine ⟨y, p', Ev_succ ?_, g2, by omega, g4, by omega, by omega⟩
  simp only [spec_l71World.l0, show ¬ ((i : Int) < 4) from by omega, if_false]
  refine Ev.bind hv ?_
  simp only
  rw [show wrap64 (2 + (m : Int)) = ((2 + m : Nat) : Int) from by rw [w64 (by omega) (by omega)]; omega]
  exact g1
 | succ d ih =>
  intro i p x hi h0 h1 hl hx
  have e4 : wrap64 ((i : Int) + 1) = ((i + 1 : Nat) : Int) := by rw [w64 (by omega) (by omega)]; rfl
  have i4 : (i : Int) < 4 := by omega
  have i4' : (i : Int) < (T4.length : Int) := by simp [T4]; omega
  have hz := t4_size i (by omega)
  obtain ⟨v, hv, v0, v1⟩ := pick_ev hc p 2 h0 (by omega)
  by_cases c : v = 0
  ·obtain ⟨n, p1, hn, nl, ng, a1, b1⟩ := groups_ev hc (p + 1) (by omega) (by omega)
   have hT := Nt.noticeT_ev n (small_of nl ng)
   obtain ⟨u, hu, u0, u1⟩ := pick_ev hc p1 6 (by omega) (by omega)
   have u2 := u1 (by omega)
   obtain ⟨r, hr, _, _⟩ := pick_ev hc (p1 + 1) 12 (by omega) (by omega)
   have h6 : u < (([0, 0, 0, 1, 2, 5] : List Int).length : Int) := by simp; omega
   have s2 : (⟨#[47, 47]⟩ : ByteArray).size = 2 := rfl
   have s7 : (⟨#[47, 110, 111, 116, 105, 99, 101]⟩ : ByteArray).size = 7 := rfl
   have hza : (((⟨#[47, 47]⟩ : ByteArray) ++ (rdOf ByteArray.empty T4 (i : Int))) ++ (⟨#[47, 110, 111, 116, 105, 99, 101]⟩ : ByteArray)).size ≤ 60 := by
    simp only [ByteArray.size_append]; omega
   have tail : ∀ (q : Int) (pg : Pg) (B : Prop) [Decidable B], (B → Pgd pg) → 0 ≤ q → q ≤ p + 450 →
     ∃ y p', Ev (fun k => if B then (if x.length < 2513169434916 then (spec_l71World.l0 k (x ++ [pg]) T4 (wrap64 ((i : Int) + 1)) b q) else none) else (spec_l71World.l0 k x T4 (wrap64 ((i : Int) + 1)) b q)) (y, p') ∧ y ≠ [] ∧ y.length ≤ 12 ∧ (∀ q ∈ y, Pgd q) ∧ q ≤ p' ∧ p' ≤ q + 500 * d + 4000 := by
    intro q pg B _ hpg q0 q1
    rw [e4]
    by_cases hB : B
    ·obtain ⟨y, p', g1, g2, g3, g4, g5, g6⟩ := ih (i + 1) q (x ++ [pg]) (by omega) q0 (by omega) (by simp; omega) (pgd_app hx (hpg hB))
     refine ⟨y, p', ?_, g2, g3, g4, g5, g6⟩
     simp only [if_pos hB, show x.length < 2513169434916 from by omega, if_true]
     exact g1
    ·obtain ⟨y, p', g1, g2, g3, g4, g5, g6⟩ := ih (i + 1) q x (by omega) q0 (by omega) (by omega) hx
     refine ⟨y, p', ?_, g2, g3, g4, g5, g6⟩
     simp only [if_neg hB]
     exact g1
   have ci : (0 : Int) ≤ (i : Int) := by omega
   by_cases c2 : r = 0
   ·obtain ⟨s2', p3, hs2, sz2, a3, b3⟩ := addr_ev hc (p1 + 1 + 1) (by omega) (by omega)
    obtain ⟨y, p', g1, g2, g3, g4, g5, g6⟩ := tail p3 ⟨((⟨#[47, 47]⟩ : ByteArray) ++ (rdOf ByteArray.empty T4 (i : Int))) ++ (⟨#[47, 110, 111, 116, 105, 99, 101]⟩ : ByteArray), ⟨#[]⟩, s2', rd [0, 0, 0, 1, 2, 5] u⟩ ((0 : Int) ≤ 300) (fun _ => ⟨hza, Nat.zero_le _, by simp only; omega⟩) (by omega) (by omega)
    refine ⟨y, p', Ev_succ ?_, g2, g3, g4, by omega, by omega⟩
    simp only [spec_l71World.l0, i4, if_true]
    refine Ev.bind hv ?_
    simp only [c, if_true, ci, i4', show 2 + (rdOf ByteArray.empty T4 (i : Int)).size ≤ 9223372036854775807 from by omega, show 2 + (rdOf ByteArray.empty T4 (i : Int)).size + 7 ≤ 9223372036854775807 from by omega]
    refine Ev.bind hn (Ev.bind hT ?_)
    simp only [Option.bind_some]
    refine Ev.bind hu ?_
    simp only [u0, h6, if_true]
    refine Ev.bind hr ?_
    simp only [c2, if_true]
    exact Ev.bind hs2 g1
   ·obtain ⟨y, p', g1, g2, g3, g4, g5, g6⟩ := tail (p1 + 1 + 1) ⟨((⟨#[47, 47]⟩ : ByteArray) ++ (rdOf ByteArray.empty T4 (i : Int))) ++ (⟨#[47, 110, 111, 116, 105, 99, 101]⟩ : ByteArray), Nt.noticeT n, ⟨#[]⟩, rd [0, 0, 0, 1, 2, 5] u⟩ (((Nt.noticeT n).size : Int) ≤ 300) (fun h => ⟨hza, by simp only; omega, Nat.zero_le _⟩) (by omega) (by omega)
    refine ⟨y, p', Ev_succ ?_, g2, g3, g4, by omega, by omega⟩
    simp only [spec_l71World.l0, i4, if_true]
    refine Ev.bind hv ?_
    simp only [c, if_true, ci, i4', show 2 + (rdOf ByteArray.empty T4 (i : Int)).size ≤ 9223372036854775807 from by omega, show 2 + (rdOf ByteArray.empty T4 (i : Int)).size + 7 ≤ 9223372036854775807 from by omega]
    refine Ev.bind hn (Ev.bind hT ?_)
    simp only [Option.bind_some]
    refine Ev.bind hu ?_
    simp only [u0, h6, if_true]
    refine Ev.bind hr ?_
    simp only [c2, if_false]
    exact g1
  ·obtain ⟨y, p', g1, g2, g3, g4, g5, g6⟩ := ih (i + 1) (p + 1) x (by omega) (by omega) (by omega) (by omega) hx
   refine ⟨y, p', Ev_succ ?_, g2, g3, g4, by omega, by omega⟩
   simp only [spec_l71World.l0, i4, if_true]
   refine Ev.bind hv ?_
   simp only [c, if_false]
   rw [e4]
   exact g1
theorem world_ev {b : List Int} (hc : Code b) (p : Int) (h0 : 0 ≤ p) (h1 : p ≤ 1000000) : ∃ y p', Ev (fun k => spec_l71World.f k b p) (y, p') ∧ y ≠ [] ∧ y.length ≤ 12 ∧ (∀ q ∈ y, Pgd q) ∧ p ≤ p' ∧ p' ≤ p + 6000 := by
 obtain ⟨y, p', g1, g2, g3, g4, g5, g6⟩ := world_l0 hc 4 0 p [] rfl h0 (by omega) (by simp) (by simp)
 refine ⟨y, p', ?_, g2, g3, g4, g5, by omega⟩
 unfold spec_l71World.f spec_l71Houses.f
 exact g1
theorem off_l {b : List Int} (d : Nat) : ∀ (i : Nat) (x : List Pg) (p : Int), i + d = 12 → x.length ≤ 12 + i → (∀ q ∈ x, Pgd q) →
  ∃ y, Ev (fun k => spec_l71Off.l0 k x (i : Int) b p) (y, p) ∧ y.length ≤ 24 ∧ (∀ q ∈ y, Pgd q) ∧ (x ≠ [] → y ≠ []) := by
 induction d with
 | zero =>
  intro i x p hi hl hx
  refine ⟨x, Ev_succ ?_, by omega, hx, id⟩
  simp only [spec_l71Off.l0, show ¬ ((i : Int) < 12) from by omega, if_false]
  exact Ev.now _
 | succ d ih =>
  intro i x p hi hl hx
  have hd := Nt.dec_ev i (by omega)
  have hds := Nt.dec_size i
  have s6 : (⟨#[47, 47, 97, 98, 47, 122]⟩ : ByteArray).size = 6 := rfl
  have e4 : wrap64 ((i : Int) + 1) = ((i + 1 : Nat) : Int) := by rw [w64 (by omega) (by omega)]; rfl
  obtain ⟨y, g1, g2, g3, g4⟩ := ih (i + 1) (x ++ [⟨(⟨#[47, 47, 97, 98, 47, 122]⟩ : ByteArray) ++ Nt.decB i, ⟨#[]⟩, ⟨#[]⟩, 0⟩]) p (by omega) (by simp; omega) (pgd_app hx ⟨by simp only [ByteArray.size_append]; omega, Nat.zero_le _, Nat.zero_le _⟩)
  refine ⟨y, Ev_succ ?_, g2, g3, fun _ => g4 (by simp)⟩
  simp only [spec_l71Off.l0, show (i : Int) < 12 from by omega, if_true]
  refine Ev.bind hd ?_
  simp only [show 6 + (Nt.decB i).size ≤ 9223372036854775807 from by omega, show x.length < 2513169434916 from by omega, if_true]
  rw [e4]
  exact g1
theorem off_ev {b : List Int} (hc : Code b) (p : Int) (h0 : 0 ≤ p) (h1 : p ≤ 1000000) : ∃ y p', Ev (fun k => spec_l71Off.f k b p) (y, p') ∧ y ≠ [] ∧ y.length ≤ 24 ∧ (∀ q ∈ y, Pgd q) ∧ p ≤ p' ∧ p' ≤ p + 7000 := by
 obtain ⟨w, p1, hw, wn, wl, wg, a1, b1⟩ := world_ev hc p h0 h1
 obtain ⟨v, hv, _, _⟩ := pick_ev hc p1 16 (by omega) (by omega)
 have hpos : 0 < w.length := List.length_pos_iff.2 wn
 have l0 : (0 : Int) < (w.length : Int) := by omega
 have llt : w.length < 2513169434916 := by omega
 have hg0 : Pgd (rd_T30 w 0) := by
  have := rd_pg (l := w) (i := 0) hpos
  rw [show ((0 : Nat) : Int) = 0 from rfl] at this
  rw [this]
  exact wg _ (List.getElem_mem hpos)
 obtain ⟨z1, z2, z3⟩ := hg0
 have hset : ∀ (g : Pg), Pgd g → ∀ q ∈ w.set (0 : Int).toNat g, Pgd q := fun g hg q hq => by
  rcases List.mem_or_eq_of_mem_set hq with h | h
  ·exact wg q h
  ·rw [h]; exact hg
 have hne : ∀ g : Pg, w.set (0 : Int).toNat g ≠ [] := fun g e => by
  have := congrArg List.length e
  simp at this
  exact wn this
 unfold spec_l71Off.f
 by_cases c : v > 0
 ·refine ⟨w, p1 + 1, Ev.bind hw (Ev.bind hv ?_), wn, by omega, wg, by omega, by omega⟩
  simp only [c, if_true]
  exact Ev.now _
 obtain ⟨u, hu, _, _⟩ := pick_ev hc (p1 + 1) 5 (by omega) (by omega)
 by_cases c0 : u = 0
 ·refine ⟨w ++ [rd_T30 w 0], p1 + 1 + 1, Ev.bind hw (Ev.bind hv ?_), by simp, by simp; omega, pgd_app wg ⟨z1, z2, z3⟩, by omega, by omega⟩
  simp only [c, if_false]
  refine Ev.bind hu ?_
  simp only [c0, l0, llt, if_true]
  exact Ev.now _
 by_cases c1 : u = 1
 ·refine ⟨w.set (0 : Int).toNat ⟨(rd_T30 w 0).f0, (rd_T30 w 0).f1, (rd_T30 w 0).f2, 10⟩, p1 + 1 + 1, Ev.bind hw (Ev.bind hv ?_), hne _, by simp; omega, hset _ ⟨z1, z2, z3⟩, by omega, by omega⟩
  simp only [c, if_false]
  refine Ev.bind hu ?_
  simp only [c0, c1, l0, if_true, if_false]
  exact Ev.now _
 by_cases c2 : u = 2
 ·obtain ⟨s, hs, sz⟩ := of_sz hc (p1 + 1 + 1) ([(⟨#[47, 47, 65, 66, 47, 97]⟩ : ByteArray), (⟨#[]⟩ : ByteArray), (⟨#[47, 47, 97, 98]⟩ : ByteArray)] : List ByteArray) 6 (by omega) (by omega) (by decide) (by decide)
  refine ⟨w.set (0 : Int).toNat ⟨s, (rd_T30 w 0).f1, (rd_T30 w 0).f2, (rd_T30 w 0).f3⟩, p1 + 1 + 1 + 1, Ev.bind hw (Ev.bind hv ?_), hne _, by simp; omega, hset _ ⟨by simp only; omega, z2, z3⟩, by omega, by omega⟩
  simp only [c, if_false]
  refine Ev.bind hu ?_
  simp only [c0, c1, c2, if_true, if_false]
  refine Ev.bind hs ?_
  simp only [l0, if_true]
  exact Ev.now _
 by_cases c3 : u = 3
 ·refine ⟨w.set (0 : Int).toNat ⟨(rd_T30 w 0).f0, (rd_T30 w 0).f1, (⟨#[120]⟩ : ByteArray), (rd_T30 w 0).f3⟩, p1 + 1 + 1, Ev.bind hw (Ev.bind hv ?_), hne _, by simp; omega, hset _ ⟨z1, z2, by show (⟨#[120]⟩ : ByteArray).size ≤ 60; decide⟩, by omega, by omega⟩
  simp only [c, if_false]
  refine Ev.bind hu ?_
  simp only [c0, c1, c2, c3, l0, if_true, if_false]
  exact Ev.now _
 ·obtain ⟨y, g1, g2, g3, g4⟩ := off_l (b := b) 12 0 w (p1 + 1 + 1) rfl (by omega) wg
  refine ⟨y, p1 + 1 + 1, Ev.bind hw (Ev.bind hv ?_), g4 wn, g2, g3, by omega, by omega⟩
  simp only [c, if_false]
  refine Ev.bind hu ?_
  simp only [c0, c1, c2, c3, if_false]
  exact g1
end Go.Proofs.YtpomhjkbgbociaaGreatDoor.Draw
end
section
namespace Go.Proofs.YtpomhjkbgbociaaGreatDoor.Draw
open Go.RowKit Go.Proofs.YtpomhjkbgbociaaGreatDoor.P Go.Proofs.YtpomhjkbgbociaaGreatDoorW.PrintWords Go.Proofs.YtpomhjkbgbociaaGreatDoorW.PrintLast Go.Proofs.YtpomhjkbgbociaaGreatDoorW.PrintMore Go.Proofs.YtpomhjkbgbociaaGreatDoor.B Go.Proofs.YtpomhjkbgbociaaGreatDoor.Ad Go.Proofs.YtpomhjkbgbociaaGreatDoor.Wd
set_option linter.unusedVariables false
set_option linter.unusedSimpArgs false
theorem where_ev {b : List Int} (hc : Code b) (p : Int) (h0 : 0 ≤ p) (h1 : p ≤ 1000000) (w : List Pg) (wl : w.length ≤ 24) (hw : ∀ q ∈ w, Pgd q) :
  ∃ s p', Ev (fun k => spec_l71Where.f k b p w) (s, p') ∧ s.size ≤ 60 ∧ p ≤ p' ∧ p' ≤ p + 20 := by
 have hF : ∀ q : Int, 0 ≤ q → q ≤ 1000010 → ∃ s p', Ev (fun k => spec_l71Where.j0 k w false b q) (s, p') ∧ s.size ≤ 60 ∧ q ≤ p' ∧ p' ≤ q + 10 := by
  intro q q0 q1
  obtain ⟨s, p', g1, g2, g3, g4⟩ := addr_ev hc q q0 (by omega)
  refine ⟨s, p', Ev_succ ?_, by omega, g3, g4⟩
  simp only [spec_l71Where.j0, Bool.false_eq_true, if_false]
  exact Ev.bind g1 (Ev.now _)
 unfold spec_l71Where.f
 by_cases c : (w.length : Int) > 0
 ·obtain ⟨v, hv, v0, v1⟩ := pick_ev hc p 3 h0 (by omega)
  by_cases c2 : v > 0
  ·obtain ⟨u, hu, u0, u1⟩ := pick_ev hc (p + 1) (w.length : Int) (by omega) (by omega)
   have u2 := u1 (by omega)
   obtain ⟨m, rfl⟩ := Int.eq_ofNat_of_zero_le u0
   have hlt : m < w.length := by omega
   have hz := (hw _ (List.getElem_mem hlt)).1
   refine ⟨w[m].f0, p + 1 + 1, ?_, hz, by omega, by omega⟩
   simp only [c, if_true]
   refine Ev.bind hv (Ev_succ ?_)
   simp only [c2, decide_true, spec_l71Where.j0, if_true]
   refine Ev.bind hu ?_
   simp only [u0, u2, if_true]
   rw [rd_pg hlt]
   exact Ev.now _
  ·obtain ⟨s, p', g1, g2, g3, g4⟩ := hF (p + 1) (by omega) (by omega)
   refine ⟨s, p', ?_, g2, by omega, by omega⟩
   simp only [c, if_true]
   refine Ev.bind hv ?_
   simp only [c2, decide_false]
   exact g1
 ·obtain ⟨s, p', g1, g2, g3, g4⟩ := hF p h0 (by omega)
  refine ⟨s, p', ?_, g2, by omega, by omega⟩
  simp only [c, if_false]
  exact g1
theorem big_of {w : List Pg} (h : ∀ q ∈ w, Pgd q) : (∀ p ∈ w, p.f0.size ≤ 140737488351232 ∧ p.f2.size ≤ 140737488351232) ∧ (∀ p ∈ w, p.f0.size ≤ 9223372036854775807) ∧ (∀ p ∈ w, p.f0.size ≤ 1048576 ∧ p.f1.size ≤ 1048576 ∧ p.f2.size ≤ 1048576) := by
 refine ⟨fun p hp => ?_, fun p hp => ?_, fun p hp => ?_⟩ <;> (obtain ⟨h1, h2, h3⟩ := h p hp; omega)
end Go.Proofs.YtpomhjkbgbociaaGreatDoor.Draw
end
section
namespace Go.Proofs.YtpomhjkbgbociaaGreatDoor.Draw
open Go.RowKit Go.Proofs.YtpomhjkbgbociaaGreatDoor.P Go.Proofs.YtpomhjkbgbociaaGreatDoorW.PrintWords Go.Proofs.YtpomhjkbgbociaaGreatDoorW.PrintLast Go.Proofs.YtpomhjkbgbociaaGreatDoorW.PrintMore Go.Proofs.YtpomhjkbgbociaaGreatDoor.B Go.Proofs.YtpomhjkbgbociaaGreatDoor.Ad Go.Proofs.YtpomhjkbgbociaaGreatDoor.Wd
set_option linter.unusedVariables false
set_option linter.unusedSimpArgs false
theorem drawGet_ev (l0 : List Int) (hw : ∀ x ∈ l0, (Lit.int .u8 x).wf = true) : ∃ w a t, Ev (fun k => spec_DrawWorldGet.f k l0) (w, a, t) ∧ w.length ≤ 24 ∧ (∀ q ∈ w, Pgd q) ∧ a.size ≤ 60 ∧ -1 ≤ t ∧ t ≤ 4 := by
 obtain ⟨b, hb, hc⟩ := open_some l0 hw
 obtain ⟨w, p1, h1, _, wl, wg, a1, b1⟩ := off_ev hc 0 (by omega) (by omega)
 obtain ⟨a, p2, h2, az, a2, b2⟩ := where_ev hc p1 (by omega) (by omega) w wl wg
 obtain ⟨v, hv, v0, v1⟩ := pick_ev hc p2 5 (by omega) (by omega)
 have v2 := v1 (by omega)
 obtain ⟨u, hu, u0, u1⟩ := pick_ev hc (p2 + 1) 12 (by omega) (by omega)
 have u2 := u1 (by omega)
 have hd : 0 ≤ Int.tdiv u 11 ∧ Int.tdiv u 11 ≤ 1 := by
  rw [Int.tdiv_eq_ediv_of_nonneg u0]; omega
 have e1 : wrap64 (Int.tdiv u 11) = Int.tdiv u 11 := w64 (by omega) (by omega)
 have e2 : wrap64 (v - Int.tdiv u 11) = v - Int.tdiv u 11 := w64 (by omega) (by omega)
 refine ⟨w, a, v - Int.tdiv u 11, ?_, wl, wg, az, by omega, by omega⟩
 unfold spec_DrawWorldGet.f
 rw [hb]
 simp only [Option.bind_some]
 refine Ev.bind h1 (Ev.bind h2 (Ev.bind hv (Ev.bind hu ?_)))
 rw [e1, e2]
 exact Ev.now _
end Go.Proofs.YtpomhjkbgbociaaGreatDoor.Draw
end
section
namespace Go.Proofs.YtpomhjkbgbociaaGreatDoor.Wd
open Go.RowKit Go.Proofs.YtpomhjkbgbociaaGreatDoor.P Go.Proofs.YtpomhjkbgbociaaGreatDoorW.PrintWords Go.Proofs.YtpomhjkbgbociaaGreatDoorW.PrintLast Go.Proofs.YtpomhjkbgbociaaGreatDoorW.PrintMore Go.Proofs.YtpomhjkbgbociaaGreatDoor.B Go.Proofs.YtpomhjkbgbociaaGreatDoor.Ad
set_option linter.unusedVariables false
set_option linter.unusedSimpArgs false
end Go.Proofs.YtpomhjkbgbociaaGreatDoor.Wd
end
section
namespace Go.Proofs.YtpomhjkbgbociaaGreatDoor.Wd
open Go.RowKit Go.Proofs.YtpomhjkbgbociaaGreatDoor.P Go.Proofs.YtpomhjkbgbociaaGreatDoorW.PrintWords Go.Proofs.YtpomhjkbgbociaaGreatDoorW.PrintLast Go.Proofs.YtpomhjkbgbociaaGreatDoorW.PrintMore Go.Proofs.YtpomhjkbgbociaaGreatDoor.B Go.Proofs.YtpomhjkbgbociaaGreatDoor.Ad
set_option linter.unusedVariables false
set_option linter.unusedSimpArgs false
def getO (l : List Pg) (a : ByteArray) (t : Int) : Int × ByteArray := if worldOk l = true then getF l a t else (0, ⟨#[]⟩)
theorem worldGet_s (l : List Pg) (hl : l.length ≤ 1048576) (hs : ∀ p ∈ l, p.f0.size ≤ 140737488351232 ∧ p.f2.size ≤ 140737488351232) (a : ByteArray) (t : Int) : Ev (fun k => spec_WorldGet.f k l a t) (getO l a t) := by
 unfold spec_WorldGet.f getO
 refine Ev.bind (worldOk_s l hl hs) ?_
 by_cases hw : worldOk l = true
 ·have hf : fresh l.reverse = true := by
   unfold worldOk at hw
   simp only [Bool.and_eq_true] at hw
   exact hw.2
  simp only [hw, if_true]
  unfold getF
  rw [at_first hf]
  have hA := at_l l hl a l.length 0 (by omega)
  rw [List.drop_zero] at hA
  by_cases h0 : t < 0
  ·simp only [h0, if_true]
   cases l.find? fun q => decide (q.f0 = a) <;> exact Ev.now _
  ·simp only [h0, if_false]
   unfold spec_l11Get.f spec_l11At.f
   unfold atO at hA
   cases hq : l.find? fun q => decide (q.f0 = a) with
   | none =>
    rw [hq] at hA
    refine Ev.bind (a := ((0 : Int), (⟨#[]⟩ : ByteArray))) (Ev.bind hA ?_) (Ev.now _)
    simp only [Bool.false_eq_true, if_false]
    exact Ev.now _
   | some p =>
    rw [hq] at hA
    simp only
    by_cases h3 : t < p.f3
    ·refine Ev.bind (a := ((3 : Int), (⟨#[]⟩ : ByteArray))) (Ev.bind hA ?_) ?_
     ·simp only [if_true, h3]; exact Ev.now _
     ·simp only [h3, if_true]; exact Ev.now _
    ·by_cases h2 : p.f2.toList = ([] : List UInt8)
     ·refine Ev.bind (a := ((1 : Int), p.f1)) (Ev.bind hA ?_) ?_
      ·simp only [if_true, h3, if_false, h2]; exact Ev.now _
      ·simp only [h3, if_false, h2, if_true]; exact Ev.now _
     ·refine Ev.bind (a := ((2 : Int), p.f2)) (Ev.bind hA ?_) ?_
      ·simp only [if_true, h3, if_false, h2]; exact Ev.now _
      ·simp only [h3, if_false, h2]; exact Ev.now _
 ·simp only [hw, if_false, Bool.false_eq_true]
  exact Ev.now _
theorem worldGet_i (l : List Pg) (h : ∀ p ∈ l, p.f0.size ≤ 9223372036854775807) (a : ByteArray) (ha : a.size ≤ 9223372036854775807) (t : Int) : Ev (fun k => impl_WorldGet.f k l a t) (getO l a t) := by
 unfold impl_WorldGet.f getO
 simp only [ha, if_true]
 obtain ⟨b, hb, n1, n2⟩ := made2 l h
 refine Ev.bind hb ?_
 cases b with
 | false =>
  rw [n1 rfl]
  simp only [Bool.false_eq_true, if_false]
  exact Ev.now _
 | true =>
  rw [n2 rfl]
  simp only [if_true]
  cases worldOk l with
  | true => simp only [if_true]; exact Ev.now _
  | false => simp only [Bool.false_eq_true, if_false]; exact Ev.now _
end Go.Proofs.YtpomhjkbgbociaaGreatDoor.Wd
end
section
namespace Go.Proofs.YtpomhjkbgbociaaGreatDoor.Pure
open Go.RowKit Go.Proofs.YtpomhjkbgbociaaGreatDoor.P Go.Proofs.YtpomhjkbgbociaaGreatDoorW.PrintWords Go.Proofs.YtpomhjkbgbociaaGreatDoorW.PrintLast Go.Proofs.YtpomhjkbgbociaaGreatDoorW.PrintMore Go.Proofs.YtpomhjkbgbociaaGreatDoor.Draw Go.Proofs.YtpomhjkbgbociaaGreatDoor.B Go.Proofs.YtpomhjkbgbociaaGreatDoor.Ad Go.Proofs.YtpomhjkbgbociaaGreatDoor.Wd
set_option linter.unusedSimpArgs false
set_option linter.unusedVariables false
theorem get_on {w : List Pg} (hk : worldOk w = true) (a : ByteArray) {t u : Int} (ht : ¬ t < 0) (hu : t ≤ u) (h3 : ¬ (getO w a t).1 = 3) : getO w a u = getO w a t := by
 unfold getO getF at *
 simp only [if_pos hk] at h3 ⊢
 cases hq : pageAtR a w.reverse with
 | none => rfl
 | some p =>
  rw [hq] at h3
  simp only [ht, if_false] at h3
  have hu0 : ¬ u < 0 := by omega
  by_cases c : t < p.f3
  ·simp [c] at h3
  ·have c2 : ¬ u < p.f3 := by omega
   simp only [ht, hu0, c, c2, if_false]
theorem FnWorldGetOn : laws_FnWorldGetOn.Pure := by
 intro l0 l1 hm hz hw hm1 hz1 hw1
 refine Ev.rounds ?_
 unfold laws_FnWorldGetOn.f
 have yes : Ev (fun k => laws_FnWorldGetOn.j0 k l0 l1 true) true := Ev_succ (by simp only [laws_FnWorldGetOn.j0, if_true]; exact Ev.now _)
 by_cases h : (l0.length : Int) > 1048576
 ·simp only [h, if_true]; exact yes
 simp only [h, if_false]
 by_cases h1 : (l1.length : Int) > 1048576
 ·simp only [h1, decide_true]; exact yes
 simp only [h1, decide_false]
 obtain ⟨w, a, t, hd, wl, wg, az, t0, t1⟩ := drawGet_ev l0 hw
 obtain ⟨b1, b2, _⟩ := big_of wg
 have hs := worldGet_s w (by omega) b1 a t
 have hi := worldGet_i w b2 a (by omega) t
 have hok := worldOk_s w (by omega) b1
 have ew : wrap64 (t + (l1.length : Int) % 9) = t + (l1.length : Int) % 9 := w64 (by omega) (by omega)
 have hi2 := worldGet_i w b2 a (by omega) (t + (l1.length : Int) % 9)
 have hon := get_on (w := w) (a := a) (t := t) (u := t + (l1.length : Int) % 9)
 generalize getO w a t = g at hs hi hon
 refine Ev_succ ?_
 simp only [laws_FnWorldGetOn.j0, Bool.false_eq_true, if_false]
 refine Ev.bind hd (Ev.bind hs (Ev.bind hi ?_))
 simp only [if_true, beq_self_eq_true]
 refine Ev.bind hok ?_
 by_cases hk : worldOk w = true
 ·simp only [hk, if_true]
  by_cases ht : t < 0
  ·simp only [ht, if_true]; exact Ev.now _
  ·simp only [ht, if_false]
   by_cases h3 : g.1 = 3
   ·simp only [h3, if_true]; exact Ev.now _
   ·simp only [h3, if_false]
    rw [ew]
    rw [hon hk ht (by omega) h3] at hi2
    refine Ev.bind hi2 ?_
    simp only [if_true, beq_self_eq_true]
    exact Ev.now _
 ·have hk' : worldOk w = false := by simpa using hk
  simp only [hk', Bool.false_eq_true, if_false]
  exact Ev.now _
end Go.Proofs.YtpomhjkbgbociaaGreatDoor.Pure
end
section
namespace Go.Proofs.YtpomhjkbgbociaaGreatDoorW.PrintWords
open Go.ChangeShapes Go.WideShapes
theorem sized_ints {H : Type} {enc : TypeId × Value → H} {P : Program} {W : World} {base : Nat} {spare : Nat → Bool} {held : Bool} {t e : TypeId} {k : IntKind} {a : Option Addr} {len cap : Nat} {d : DataW H} {ps : List MemPlace} {ts : List TypeId} {ds : List (DataW H)} {j : Nat}
  (hsz : (DataW.weightsEach P ts ds).all (· ≤ reachBytes) = true) (ht : ts[j]? = some t) (hd : ds[j]? = some d) (hu : P.underlying t = some (.slice e)) (he : P.underlying e = some (.int k)) (hc : P.cellsOf e = 1) {B : Nat} (hB : P.bytesOf e = B)
  (h : DataW.Trod enc P W base spare held t (.slice a len cap) d ps) : len * B ≤ 140737488351232 := by
 obtain ⟨fuel, hf⟩ := h
 rcases open_ints hu he hc hf with ⟨hcs, _⟩ | ⟨x, l, c, zs, hcs, _, hl, _, hz, hx, _, _⟩
 ·simp [Value.cells] at hcs
  obtain ⟨rfl, rfl, rfl⟩ := hcs
  simp
 ·simp [Value.cells] at hcs
  obtain ⟨rfl, rfl, rfl⟩ := hcs
  obtain ⟨hx, _⟩ := Prod.mk.inj hx
  subst hx
  have z := sized_slice hsz ht hd hu
  rw [hB] at z
  have hl2 : len ≤ zs.length := by
   rw [hz]
   split
   ·exact hl
   ·exact Nat.le_refl _
  have h1 : (lits (H := H) k (zs.take len)).length + (lits (H := H) k (zs.drop len)).length = zs.length := by
   simp [lits]
   omega
  rw [h1] at z
  exact Nat.le_trans (Nat.mul_le_mul_right _ hl2) z
end Go.Proofs.YtpomhjkbgbociaaGreatDoorW.PrintWords
end
section
namespace Go.Proofs.YtpomhjkbgbociaaGreatDoor.fnWorldGetOn
open Go.ChangeShapes Go.WideShapes Go.ChangeAt Go.RowKit
open Go.ChangeMaps (open_string shut_string)
set_option linter.unusedVariables false
theorem own : ownKnob Tryz.prog.godebug = none := by kernel_rfl
theorem laidOut : laidOutB Tryz.prog = true := by kernel_rfl
def IsRow (k : IntKind) (w : World) (a : Option Addr) (len cap : Nat) (zs : List Int) : Prop :=
 (a = none ∧ len = 0 ∧ cap = 0 ∧ zs = []) ∨
 ∃ x, a = some x ∧ len ≤ cap ∧ cap ≤ maxLen ∧ zs.length = cap ∧ (∀ i, i < zs.length → w.cell? (x.add i) = some (.int k (zs.getD i 0))) ∧ ∀ n ∈ zs, (Lit.int k n).wf = true
set_option maxRecDepth 100000 in
theorem lifted (os : Os) (started : os.Started) (H : Type) (enc : TypeId × Value → H) :
  ReturnsInHanded {} Tryz.checked os 4 .any (fun w args => (Rows.fnWorldGetOnSpec.pre enc Tryz.prog Tryz.f4 Rows.fnWorldGetOnRow.domain false w args ∧ laidMetH Tryz.prog Rows.fnWorldGetOnRow.laid w) ∧ sizedMet enc Tryz.prog Tryz.f4 (OpenSpec.ofChange Rows.fnWorldGetOnSpec) false w args)
   (Rows.fnWorldGetOnSpec.post enc Tryz.prog Tryz.f4 false true false false) := by
 refine returnsInHanded_of_change_and (C := Tryz.checked) (X := fun w _ => laidMetH Tryz.prog Rows.fnWorldGetOnRow.laid w) (fun _ _ _ hh h => h.of_heap hh) own started (by kernel_rfl) Tryz.func4
  (ChangeSpec.witness_shaped (enc := enc) (C := Tryz.checked) (os := os) (X := fun w _ => laidMetH Tryz.prog Rows.fnWorldGetOnRow.laid w) false (World.laidAll Tryz.prog os Rows.fnWorldGetOnRow.laid) #[.slice none 0 0, .slice none 0 0] 8 (World.laidAll_os _ _ _)
   (World.shaped_of_ZipB (by kernel_rfl) (by kernel_rfl)) (by kernel_rfl) (by kernel_rfl) (by kernel_rfl)
   (by rw [MakeChecks.laidMetH_plain _ _ _ (by kernel_rfl)]; exact laidMet_laidAll _ (by kernel_rfl) (by kernel_rfl))) ?_
 intro W base args ds gs before hval0 hW hcnd hsz0 hL _
 have hsz : (DataW.weightsEach Tryz.prog (Tryz.f4.params.toList ++ Rows.fnWorldGetOnSpec.plain.varTypes Tryz.prog) (ds ++ gs)).all (· ≤ reachBytes) = true := hsz0
 have hval : ∀ (j : Nat) t v, Tryz.f4.params[j]? = some t → args[j]? = some v → Value.okWide Tryz.prog W .any base t v := hval0
 have hW' := hW
 obtain ⟨p, q, hA0, hV, rfl, hfz, hnd⟩ := hW
 have hA : DataW.TrodAll enc Tryz.prog W 0 (fun _ => true) true Tryz.f4.params.toList args.toList ds p := hA0
 rw [Tryz.params4] at hA hval hsz
 obtain ⟨v0, vs0, d0, ds0, p0, q0, hargs, rfl, rfl, h0, r0⟩ := trodAll_cons hA
 obtain ⟨v1, vs1, d1, ds1, p1, q1, rfl, rfl, rfl, h1, r1⟩ := trodAll_cons r0
 obtain ⟨rfl, rfl, rfl⟩ := trodAll_nil r1
 obtain rfl : args = #[v0, v1] := by cases args; simp_all
 obtain ⟨rfl, rfl⟩ := trodVars_none hV
 obtain ⟨a0, len0, cap0, rfl⟩ := okWide_slice Tryz.underlying22 (hval 0 22 v0 rfl rfl)
 have k0 := h0
 have lt0 : ∀ x ∈ p0, x.block < W.heap.size := by obtain ⟨m, hm⟩ := k0; exact DataW.trod_lt m _ _ _ hm
 obtain ⟨z0, w0⟩ : ∃ zs, IsRow .u8 W a0 len0 cap0 zs := by
  obtain ⟨fuel, hf⟩ := h0
  rcases open_ints Tryz.underlying22 Tryz.underlying5 (by kernel_rfl) hf with ⟨hcs, _⟩ | ⟨x, l, c, zs, hcs, _, hl, hm, hz, _, hcell, hwz⟩
  ·simp [Value.cells] at hcs
   obtain ⟨rfl, rfl, rfl⟩ := hcs
   exact ⟨[], .inl ⟨rfl, rfl, rfl, rfl⟩⟩
  ·simp [Value.cells] at hcs
   obtain ⟨rfl, rfl, rfl⟩ := hcs
   exact ⟨zs, .inr ⟨_, rfl, hl, hm, by simpa using hz, hcell, hwz⟩⟩
 have y0 : len0 * 1 ≤ 140737488351232 := YtpomhjkbgbociaaGreatDoorW.PrintWords.sized_ints hsz (j := 0) (t := 22) rfl rfl Tryz.underlying22 Tryz.underlying5 (by kernel_rfl) (by kernel_rfl) h0
 obtain ⟨a1, len1, cap1, rfl⟩ := okWide_slice Tryz.underlying22 (hval 1 22 v1 rfl rfl)
 have k1 := h1
 have lt1 : ∀ x ∈ p1, x.block < W.heap.size := by obtain ⟨m, hm⟩ := k1; exact DataW.trod_lt m _ _ _ hm
 obtain ⟨z1, w1⟩ : ∃ zs, IsRow .u8 W a1 len1 cap1 zs := by
  obtain ⟨fuel, hf⟩ := h1
  rcases open_ints Tryz.underlying22 Tryz.underlying5 (by kernel_rfl) hf with ⟨hcs, _⟩ | ⟨x, l, c, zs, hcs, _, hl, hm, hz, _, hcell, hwz⟩
  ·simp [Value.cells] at hcs
   obtain ⟨rfl, rfl, rfl⟩ := hcs
   exact ⟨[], .inl ⟨rfl, rfl, rfl, rfl⟩⟩
  ·simp [Value.cells] at hcs
   obtain ⟨rfl, rfl, rfl⟩ := hcs
   exact ⟨zs, .inr ⟨_, rfl, hl, hm, by simpa using hz, hcell, hwz⟩⟩
 have y1 : len1 * 1 ≤ 140737488351232 := YtpomhjkbgbociaaGreatDoorW.PrintWords.sized_ints hsz (j := 1) (t := 22) rfl rfl Tryz.underlying22 Tryz.underlying5 (by kernel_rfl) (by kernel_rfl) h1
 clear hA0 hval0 hsz0 hsz
 refine (P.laws_FnWorldGetOn.walk Pure.FnWorldGetOn a0 len0 cap0 z0 a1 len1 cap1 z1 W w0 y0 w1 y1).mono fun e W' ⟨he, bel⟩ => ?_
 subst he
 exact ⟨_, rfl, _, _, _, [], _, [], hW', trodAll_mk1 (shut_bool Tryz.underlying4 _), (trodAll_cons_mk (Below.trod laidOut (by kernel_rfl) (of_decide_eq_true (by kernel_rfl)) k0 bel lt0) (trodAll_cons_mk (Below.trod laidOut (by kernel_rfl) (of_decide_eq_true (by kernel_rfl)) k1 bel lt1) trodAll_mk0)), rfl, bel.frame _, fun h => by cases h⟩
set_option maxHeartbeats 4000000 in
theorem over : Rows.fnWorldGetOnRow.holds Tryz.pinned (OpenSpec.ofChange Rows.fnWorldGetOnSpec) :=
 OpenClaim.holds_of_wide 4 Tryz.f4 rfl rfl rfl rfl rfl rfl rfl ⟨rfl, rfl, rfl, rfl, rfl⟩ rfl rfl rfl rfl rfl (by as_aux_lemma => kernel_rfl) Tryz.func4 (by as_aux_lemma => kernel_rfl)
  (of_decide_eq_true (by as_aux_lemma => kernel_rfl)) (by unfold Func.isWrapper; first | (rw [if_pos (by decide +kernel)]; kernel_rfl) | (rw [if_neg (by decide +kernel)]; exact ⟨rfl, rfl⟩))
  (fun os started H enc _ => lifted os started H enc)
theorem card_holds : Rows.FnWorldGetOnCardSaid :=
 Claim7.holds_tied_plain_at .later [] [.data, .pinned] true (true, "8ccead1d440ea5be438632557c9df39bd7b6c3a8cb993065304fadd78b4977b4") false over (fun _ h => by cases h) (by as_aux_lemma => kernel_rfl) (fun _ h => by cases h) fnWorldGetOn_row_tie rfl ⟨rfl, rfl⟩ (by as_aux_lemma => kernel_rfl) rfl
  (fun f fn hf hfn => by
   obtain rfl : f = 4 := Option.some.inj ((show Tryz.prog.funcNamed "loop.example/pedlar/laws.FnWorldGetOn" = some 4 by as_aux_lemma => kernel_rfl).symm.trans hf) |>.symm
   obtain rfl : fn = Tryz.f4 := (Option.some.inj (Tryz.func4.symm.trans hfn)).symm
   exact ⟨by as_aux_lemma => kernel_rfl, fun j t ht => by
    rw [Tryz.params4] at ht
    have hm : t ∈ [22, 22] := by simpa using Array.mem_of_getElem? ht
    have hall : ([22, 22].all fun u => !Tryz.prog.wantsStandIn u) = true := by as_aux_lemma => kernel_rfl
    exact (show Tryz.prog.wantsStandIn t = false by simpa using List.all_eq_true.1 hall t hm)⟩)
  (by as_aux_lemma => kernel_rfl)
#print axioms card_holds
end Go.Proofs.YtpomhjkbgbociaaGreatDoor.fnWorldGetOn
namespace Go.Proofs.YtpomhjkbgbociaaGreatDoor
theorem fnWorldGetOn_holds : Rows.FnWorldGetOnCardSaid := fnWorldGetOn.card_holds
end Go.Proofs.YtpomhjkbgbociaaGreatDoor
end
