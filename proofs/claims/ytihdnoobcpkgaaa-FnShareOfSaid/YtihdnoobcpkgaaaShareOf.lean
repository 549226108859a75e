/- The program's ShareOf answers what the reference's answers, at every text of at most 1048576 bytes and every number; and what it answers lies from -1 to below the number. -/
import Derived.Test.YtihdnoobcpkgaaaBase
import Derived.Test.YtihdnoobcpkgaaaPf11
import Derived.Test.YtihdnoobcpkgaaaPf12
namespace Go.Proofs.Ytihdnoobcpkgaaa.Sh
open Go.RowKit Go.Proofs.Ytihdnoobcpkgaaa.P Go.Proofs.YtihdnoobcpkgaaaW.PrintWords Go.Proofs.YtihdnoobcpkgaaaW.PrintLast Go.Proofs.YtihdnoobcpkgaaaW.PrintMore Go.Proofs.Ytihdnoobcpkgaaa.B
set_option linter.unusedVariables false
set_option linter.unusedSimpArgs false

/-- Are all bytes from place i on small letters? d: how many there are. -/
def smallFrom (s : ByteArray) : Nat → Nat → Bool
  | 0, _ => true
  | d + 1, i => if bt s i < 97 then false else if bt s i > 122 then false else smallFrom s d (i + 1)
def isSmall (s : ByteArray) : Bool := smallFrom s s.size 0
def isHouse (s : ByteArray) : Bool := decide (1 ≤ s.size) && decide (s.size ≤ 5) && isSmall s
def sumFrom (s : ByteArray) : Nat → Nat → Int → Int
  | 0, _, t => t
  | d + 1, i, t => sumFrom s d (i + 1) (t + bt s i)
theorem sumFrom_bd (s : ByteArray) (d : Nat) : ∀ (i : Nat) (t : Int), 0 ≤ t → t ≤ sumFrom s d i t ∧ sumFrom s d i t ≤ t + 255 * d := by
  induction d with
  | zero => intro i t _; simp [sumFrom]
  | succ d ih =>
    intro i t ht
    have hb := bt_range s i
    have := ih (i + 1) (t + bt s i) (by omega)
    simp only [sumFrom]
    omega

theorem spec_house_l (s : ByteArray) (hs : s.size ≤ 140737488351232) (d : Nat) : ∀ (k : Nat) (i : Nat), i + d = s.size → d < k →
    spec_l1House.l0 k s (i : Int) = some (smallFrom s d i && (decide (1 ≤ s.size) && decide (s.size ≤ 5))) := by
  induction d with
  | zero =>
    intro k i h hk
    obtain ⟨k, rfl⟩ : ∃ m, k = m + 1 := ⟨k - 1, by omega⟩
    simp only [spec_l1House.l0, smallFrom, spec_l6In.f]
    rw [if_neg (by omega)]
    by_cases h1 : 1 ≤ s.size
    · rw [if_pos (by omega)]; simp [h1]; omega
    · rw [if_neg (by omega)]; simp [h1]
  | succ d ih =>
    intro k i h hk
    obtain ⟨k, rfl⟩ : ∃ m, k = m + 1 := ⟨k - 1, by omega⟩
    simp only [spec_l1House.l0, smallFrom]
    rw [if_pos (by omega), if_pos (by omega)]
    by_cases h1 : bt s i < 97
    · rw [if_pos h1, if_pos h1]; rfl
    · rw [if_neg h1, if_neg h1]
      by_cases h2 : bt s i > 122
      · rw [if_pos h2, if_pos h2]; rfl
      · rw [if_neg h2, if_neg h2, w64 (by omega) (by omega)]
        exact ih k (i + 1) (by omega) (by omega)

theorem impl_small_l (s : ByteArray) (hs : s.size ≤ 140737488351232) (d : Nat) : ∀ (k : Nat) (i : Nat), i + d = s.size → d < k →
    impl_allSmallLetters.l0 k s (i : Int) = some (smallFrom s d i) := by
  induction d with
  | zero =>
    intro k i h hk
    obtain ⟨k, rfl⟩ : ∃ m, k = m + 1 := ⟨k - 1, by omega⟩
    simp only [impl_allSmallLetters.l0, smallFrom]
    rw [if_neg (by omega)]
  | succ d ih =>
    intro k i h hk
    obtain ⟨k, rfl⟩ : ∃ m, k = m + 1 := ⟨k - 1, by omega⟩
    simp only [impl_allSmallLetters.l0, smallFrom]
    rw [if_pos (by omega), if_pos (by omega)]
    by_cases h1 : bt s i < 97
    · rw [if_pos h1, if_pos h1]
    · rw [if_neg h1, if_neg h1]
      by_cases h2 : bt s i > 122
      · rw [if_pos h2, if_pos h2]
      · rw [if_neg h2, if_neg h2, w64 (by omega) (by omega)]
        exact ih k (i + 1) (by omega) (by omega)

theorem spec_house_ev (s : ByteArray) (hs : s.size ≤ 140737488351232) : Ev (fun k => spec_l1House.f k s) (isHouse s) := by
  refine Ev.of (fun k => spec_l1House.mono _ k) (k := s.size + 1) ?_
  unfold spec_l1House.f
  have := spec_house_l s hs s.size (s.size + 1) 0 (by omega) (by omega)
  rw [show ((0 : Nat) : Int) = 0 from rfl] at this
  rw [this]
  unfold isHouse isSmall
  cases smallFrom s s.size 0 <;> simp

theorem impl_small_ev (s : ByteArray) (hs : s.size ≤ 140737488351232) : Ev (fun k => impl_allSmallLetters.f k s) (isSmall s) := by
  refine Ev.of (fun k => impl_allSmallLetters.mono _ k) (k := s.size + 1) ?_
  unfold impl_allSmallLetters.f
  exact impl_small_l s hs s.size (s.size + 1) 0 (by omega) (by omega)

theorem impl_house_ev (s : ByteArray) (hs : s.size ≤ 140737488351232) : Ev (fun k => impl_isHouse.f k s) (isHouse s) := by
  unfold impl_isHouse.f isHouse
  by_cases h1 : 1 ≤ s.size
  · by_cases h2 : s.size ≤ 5
    · have e1 : (s.size : Int) ≥ 1 := by omega
      have e2 : (s.size : Int) ≤ 5 := by omega
      simp only [e1, e2, if_true, h1, h2, decide_true, Bool.true_and]
      exact Ev.bind (impl_small_ev s hs) (Ev.now _)
    · have e1 : (s.size : Int) ≥ 1 := by omega
      have e2 : ¬ (s.size : Int) ≤ 5 := by omega
      simp only [e1, e2, if_true, if_false, h1, h2, decide_true, decide_false, Bool.true_and, Bool.false_and]
      exact Ev.now _
  · have e1 : ¬ (s.size : Int) ≥ 1 := by omega
    simp only [e1, if_false, h1, decide_false, Bool.false_and]
    exact Ev.now _

def shareOf (s : ByteArray) (n : Int) : Int := if isHouse s = true then (if 1 ≤ n ∧ n ≤ 3 then Int.tmod (sumFrom s s.size 0 0) n else -1) else -1

theorem spec_of_l (s : ByteArray) (n : Int) (hn : n ≠ 0) (hs : s.size ≤ 1048576) (d : Nat) : ∀ (k : Nat) (i : Nat) (t : Int), i + d = s.size → d < k → 0 ≤ t → t ≤ 255 * i →
    spec_l21Of.l0 k s n t (i : Int) = some (Int.tmod (sumFrom s d i t) n) := by
  induction d with
  | zero =>
    intro k i t h hk _ _
    obtain ⟨k, rfl⟩ : ∃ m, k = m + 1 := ⟨k - 1, by omega⟩
    simp only [spec_l21Of.l0, sumFrom]
    rw [if_neg (by omega), if_neg hn]
  | succ d ih =>
    intro k i t h hk h0 h1
    obtain ⟨k, rfl⟩ : ∃ m, k = m + 1 := ⟨k - 1, by omega⟩
    have hb := bt_range s i
    simp only [spec_l21Of.l0, sumFrom]
    rw [if_pos (by omega), if_pos (by omega), w64 (n := bt s i) (by omega) (by omega), w64 (n := t + bt s i) (by omega) (by omega), w64 (n := (i : Int) + 1) (by omega) (by omega)]
    exact ih k (i + 1) _ (by omega) (by omega) (by omega) (by omega)

theorem impl_of_l (s : ByteArray) (n : Int) (hn : n ≠ 0) (hs : s.size ≤ 1048576) (d : Nat) : ∀ (k : Nat) (i : Nat) (t : Int), i + d = s.size → d < k → 0 ≤ t → t ≤ 255 * i →
    impl_ShareOf.l0 k s n t (i : Int) = some (Int.tmod (sumFrom s d i t) n) := by
  induction d with
  | zero =>
    intro k i t h hk _ _
    obtain ⟨k, rfl⟩ : ∃ m, k = m + 1 := ⟨k - 1, by omega⟩
    simp only [impl_ShareOf.l0, sumFrom]
    rw [if_neg (by omega), if_neg hn]
  | succ d ih =>
    intro k i t h hk h0 h1
    obtain ⟨k, rfl⟩ : ∃ m, k = m + 1 := ⟨k - 1, by omega⟩
    have hb := bt_range s i
    simp only [impl_ShareOf.l0, sumFrom]
    rw [if_pos (by omega), if_pos (by omega), w64 (n := bt s i) (by omega) (by omega), w64 (n := t + bt s i) (by omega) (by omega), w64 (n := (i : Int) + 1) (by omega) (by omega)]
    exact ih k (i + 1) _ (by omega) (by omega) (by omega) (by omega)

theorem in_f (a lo hi : Int) : spec_l6In.f a lo hi = some (decide (lo ≤ a ∧ a ≤ hi)) := by
  unfold spec_l6In.f
  by_cases h : a ≥ lo
  · rw [if_pos h]; have : lo ≤ a := h; simp [this]
  · rw [if_neg h]; have : ¬ lo ≤ a := h; simp [this]
theorem between_f (a lo hi : Int) : impl_between.f lo a hi = some (decide (lo ≤ a ∧ a ≤ hi)) := by
  unfold impl_between.f
  by_cases h : lo ≤ a
  · rw [if_pos h]; simp [h]
  · rw [if_neg h]; simp [h]

theorem spec_ev (s : ByteArray) (n : Int) (hs : s.size ≤ 1048576) : Ev (fun k => spec_ShareOf.f k s n) (shareOf s n) := by
  unfold spec_ShareOf.f
  refine Ev.bind (spec_house_ev s (by omega)) ?_
  unfold shareOf
  by_cases h1 : isHouse s = true
  · simp only [h1, if_true, in_f, Option.bind_some]
    by_cases h2 : 1 ≤ n ∧ n ≤ 3
    · simp only [h2, and_self, decide_true, if_true]
      refine Ev.bind (a := Int.tmod (sumFrom s s.size 0 0) n) ?_ (Ev.now _)
      refine Ev.of (fun k => spec_l21Of.mono _ _ k) (k := s.size + 1) ?_
      unfold spec_l21Of.f
      exact spec_of_l s n (by omega) hs s.size (s.size + 1) 0 0 (by omega) (by omega) (by omega) (by omega)
    · simp only [h2, decide_false, Bool.false_eq_true, if_false]
      exact Ev.now _
  · simp only [h1, if_false]
    exact Ev.now _

theorem impl_ev (s : ByteArray) (n : Int) (hs : s.size ≤ 1048576) : Ev (fun k => impl_ShareOf.f k s n) (shareOf s n) := by
  unfold impl_ShareOf.f
  refine Ev.bind (impl_house_ev s (by omega)) ?_
  unfold shareOf
  by_cases h1 : isHouse s = true
  · simp only [h1, if_true, between_f, Option.bind_some]
    by_cases h2 : 1 ≤ n ∧ n ≤ 3
    · simp only [h2, and_self, decide_true, if_true, Bool.not_true]
      refine Ev.of (fun k => impl_ShareOf.mono_l k |>.1 _ _ _) (k := s.size + 2) ?_
      simp only [impl_ShareOf.j0, Bool.false_eq_true, if_false]
      exact impl_of_l s n (by omega) hs s.size (s.size + 1) 0 0 (by omega) (by omega) (by omega) (by omega)
    · simp only [h2, decide_false, Bool.false_eq_true, if_false, Bool.not_false]
      refine Ev.of (fun k => impl_ShareOf.mono_l k |>.1 _ _ _) (k := 1) ?_
      simp [impl_ShareOf.j0]
  · simp only [h1, if_false]
    refine Ev.of (fun k => impl_ShareOf.mono_l k |>.1 _ _ _) (k := 1) ?_
    simp [impl_ShareOf.j0]

theorem shareOf_yes {s : ByteArray} {n : Int} (h1 : isHouse s = true) (h2 : 1 ≤ n ∧ n ≤ 3) : shareOf s n = Int.tmod (sumFrom s s.size 0 0) n ∧ 0 ≤ shareOf s n ∧ shareOf s n < n := by
  have e : shareOf s n = Int.tmod (sumFrom s s.size 0 0) n := by unfold shareOf; rw [if_pos h1, if_pos h2]
  have hb := sumFrom_bd s s.size 0 0 (by omega)
  have q := tmod_nn (a := sumFrom s s.size 0 0) (b := n) hb.1 (by omega)
  rw [e]
  exact ⟨rfl, q.1, q.2⟩
theorem shareOf_no {s : ByteArray} {n : Int} (h : ¬ (isHouse s = true ∧ 1 ≤ n ∧ n ≤ 3)) : shareOf s n = -1 := by
  unfold shareOf
  by_cases h1 : isHouse s = true
  · rw [if_pos h1, if_neg (fun h2 => h ⟨h1, h2⟩)]
  · rw [if_neg h1]
theorem shareOf_bd (s : ByteArray) (n : Int) : -1 ≤ shareOf s n ∧ shareOf s n < mx n 1 ∧ (0 ≤ shareOf s n → shareOf s 1 = 0) := by
  by_cases h : isHouse s = true ∧ 1 ≤ n ∧ n ≤ 3
  · have a := (shareOf_yes h.1 h.2).2
    have b := (shareOf_yes (n := 1) h.1 (by omega)).2
    exact ⟨by omega, by unfold mx; split <;> omega, fun _ => by omega⟩
  · rw [shareOf_no h]
    exact ⟨by omega, by unfold mx; split <;> omega, fun h => by omega⟩

end Go.Proofs.Ytihdnoobcpkgaaa.Sh
