/- Part 3 of the proof of FnExactPageAddrs: the plain functions of what it reaches, that Go comes to just their answers, what they answer, and the words that the walks use; conditions: each theorem's own. -/
import Derived.Test.YtgjfegfopjfdpaaGreatDoorZFnExactPageAddrsb
import Derived.Lib.ConvBytes
import Derived.Shelf.Strings.Builder1
import Derived.Shelf.Strings.Builder2
import Derived.Shelf.Strings.OnBuilder
import Derived.Shelf.Small.Utf8
import Derived.Shelf.Small.Strs
import Derived.Shelf.Small.Wraps
import Derived.Shelf.Strings.BuilderF
import Derived.Shelf.Strings.BuilderK
import Derived.Shelf.Strings.Builder2Cap
import Derived.Shelf.Strings.Search1
import Derived.Shelf.Strings.Search2
import Derived.Shelf.Strings.Search3
import Derived.Shelf.Strings.Cut
import Derived.Shelf.Strings.Count
import Derived.Shelf.LaysM
import Derived.Shelf.Strings.Shaped
import Derived.Shelf.Strings.Prefix
import Derived.Shelf.Strings.Runes
import Derived.Shelf.Strings.IndexAny
import Derived.Shelf.Strings.AsciiSet
import Derived.Shelf.Strings.IndexAnyAll
import Derived.Shelf.Unicode.DecodeSlow
import Derived.Shelf.Strings.BuilderCap
import Derived.Shelf.Slices.Turned
import Derived.Ground.Names2Prog
import Derived.Shelf.Slices.Clone
import Derived.Test.YtgjfegfopjfdpaaGreatDoorProg
import Derived.Laws.RangeAny
import Derived.LoopTactic

section
namespace Go.Proofs.YtgjfegfopjfdpaaGreatDoor.Ad
open Go.RowKit Go.Proofs.YtgjfegfopjfdpaaGreatDoorW.PrintWords Go.Proofs.YtgjfegfopjfdpaaGreatDoor.B
set_option linter.unusedVariables false
set_option linter.unusedSimpArgs false
abbrev ofL (l : List UInt8) : ByteArray := ⟨l.toArray⟩
theorem L_of (l : List UInt8) : L (ofL l) = l := by simp [L]
theorem of_L (s : ByteArray) : ofL (L s) = s := by apply L_inj; simp [L]
theorem ofL_app (a b : List UInt8) : ofL (a ++ b) = ofL a ++ ofL b := by apply L_inj; rw [L_of, L_app, L_of, L_of]
theorem ofL_size (l : List UInt8) : (ofL l).size = l.length := by rw [← L_size, L_of]
def plainB (c : UInt8) : Bool := (decide (97 ≤ c.toNat) && decide (c.toNat ≤ 122)) || (decide (48 ≤ c.toNat) && decide (c.toNat ≤ 57)) || c.toNat == 46 || c.toNat == 45
def hexN (c : UInt8) : Option Nat :=
 if 48 ≤ c.toNat ∧ c.toNat ≤ 57 then some (c.toNat - 48) else if 97 ≤ c.toNat ∧ c.toNat ≤ 102 then some (c.toNat - 87) else if 65 ≤ c.toNat ∧ c.toNat ≤ 70 then some (c.toNat - 55) else none
theorem hexN_lt {c : UInt8} {x : Nat} (h : hexN c = some x) : x < 16 := by
 unfold hexN at h
 split at h
 ·injection h; omega
 ·split at h
  ·injection h; omega
  ·split at h
   ·injection h; omega
   ·cases h
def fig (n : Nat) : UInt8 := if n < 10 then UInt8.ofNat (48 + n) else UInt8.ofNat (55 + n)
def encN (n : Nat) : List UInt8 := if plainB (UInt8.ofNat n) then [UInt8.ofNat n] else [37, fig (n / 16), fig (n % 16)]
theorem encN_len (n : Nat) : (encN n).length ≤ 3 := by unfold encN; split <;> simp
def esc : List UInt8 → Option (List UInt8)
 | [] => some []
 | c :: r => if c = 37 then (match r with
   | a :: b :: q => (match hexN a, hexN b with
    | some x, some y => (esc q).map (encN (x * 16 + y) ++ ·)
    | _, _ => none)
   | _ => none) else (esc r).map (encN c.toNat ++ ·)
theorem esc_short {r : List UInt8} (h : r.length ≤ 1) : esc (37 :: r) = none := by
 match r, h with
 | [], _ => simp [esc]
 | [_], _ => simp [esc]
 | _ :: _ :: _, h => simp at h
theorem esc_bad1 {a : UInt8} (b : UInt8) (q : List UInt8) (h : hexN a = none) : esc (37 :: a :: b :: q) = none := by simp [esc, h]
theorem esc_bad2 (a : UInt8) {b : UInt8} (q : List UInt8) (h : hexN b = none) : esc (37 :: a :: b :: q) = none := by
 cases ha : hexN a <;> simp [esc, h, ha]
theorem esc_sign {a b : UInt8} {x y : Nat} (q : List UInt8) (ha : hexN a = some x) (hb : hexN b = some y) : esc (37 :: a :: b :: q) = (esc q).map (encN (x * 16 + y) ++ ·) := by simp [esc, ha, hb]
theorem esc_plain {c : UInt8} (r : List UInt8) (h : c ≠ 37) : esc (c :: r) = (esc r).map (encN c.toNat ++ ·) := by rw [esc.eq_def]; exact if_neg h
def escO (o : Option (List UInt8)) : ByteArray × Bool := match o with
 | some r => (ofL r, true)
 | none => (⟨#[]⟩, false)
def escNorm (s : ByteArray) : ByteArray × Bool := if s.size > 60 then (⟨#[]⟩, false) else escO (esc (L s))
def isNorm (s : ByteArray) : Bool := (escNorm s).2 && ((escNorm s).1.toList == s.toList)
theorem esc_len (n : Nat) : ∀ (l r : List UInt8), l.length ≤ n → esc l = some r → r.length ≤ 3 * l.length := by
 induction n with
 | zero =>
  intro l r hl h
  obtain rfl : l = [] := List.length_eq_zero_iff.1 (by omega)
  simp [esc] at h
  subst h
  simp
 | succ n ih =>
  intro l r hl h
  match l, hl, h with
  | [], _, h => simp [esc] at h; subst h; simp
  | c :: q, hl, h =>
   unfold esc at h
   split at h
   ·match q, hl, h with
    | a :: b :: q', hl, h =>
     simp only at h
     split at h
     ·obtain ⟨t, ht, rfl⟩ := Option.map_eq_some_iff.1 h
      have := ih q' t (by simp at hl; omega) ht
      exact Nat.le_trans (by rw [List.length_append]; exact Nat.add_le_add (encN_len _) this) (by simp only [List.length_cons]; omega)
     ·cases h
    | [], _, h => simp at h
    | [_], _, h => simp at h
   ·obtain ⟨t, ht, rfl⟩ := Option.map_eq_some_iff.1 h
    have := ih q t (by simp at hl; omega) ht
    exact Nat.le_trans (by rw [List.length_append]; exact Nat.add_le_add (encN_len _) this) (by simp only [List.length_cons]; omega)
theorem escNorm_size (s : ByteArray) : (escNorm s).1.size ≤ 180 := by
 unfold escNorm
 split
 ·exact Nat.zero_le _
 ·unfold escO
  split
  ·rename_i h1 _ r h
   have := esc_len _ _ _ (Nat.le_refl _) h
   rw [ofL_size]
   rw [L_size] at this
   omega
  ·exact Nat.zero_le _
def body : List ByteArray → ByteArray
 | [] => ⟨#[47]⟩
 | p :: r => r.foldl (fun a q => (a ++ ⟨#[47]⟩) ++ q) ((⟨#[47]⟩ : ByteArray) ++ p)
def pathB (parts : List ByteArray) (asks : Bool) (ask : ByteArray) : ByteArray := if asks = true then (body parts ++ ⟨#[63]⟩) ++ ask else body parts
def textB (house : ByteArray) (parts : List ByteArray) (asks : Bool) (ask : ByteArray) : ByteArray := ((⟨#[47, 47]⟩ : ByteArray) ++ house) ++ pathB parts asks ask
def partOk (p : ByteArray) : Bool := isNorm p && !(p.toList == []) && !(p.toList == [46]) && !(p.toList == [46, 46])
def smallFrom (s : ByteArray) : Nat → Nat → Bool
 | 0, _ => true
 | d + 1, i => if bt s i < 97 then false else if bt s i > 122 then false else smallFrom s d (i + 1)
def isSmall (s : ByteArray) : Bool := smallFrom s s.size 0
def isHouse (s : ByteArray) : Bool := decide (1 ≤ s.size) && decide (s.size ≤ 5) && isSmall s
def addrOk (house : ByteArray) (parts : List ByteArray) (asks : Bool) (ask : ByteArray) : Bool :=
 isHouse house && decide (parts.length ≤ 5) && isNorm ask && (asks || ask.toList == []) && parts.all partOk && decide ((textB house parts asks ask).size ≤ 60)
def addrText (house : ByteArray) (parts : List ByteArray) (asks : Bool) (ask : ByteArray) : ByteArray := if addrOk house parts asks ask = true then textB house parts asks ask else ⟨#[]⟩
theorem isNorm_size {s : ByteArray} (h : isNorm s = true) : s.size ≤ 60 := by
 unfold isNorm escNorm at h
 split at h
 ·simp at h
 ·omega
def sm (b : UInt8) : UInt8 := if 65 ≤ b.toNat ∧ b.toNat ≤ 90 then b + 32 else b
def smallB (s : ByteArray) : ByteArray := ofL ((L s).map sm)
end Go.Proofs.YtgjfegfopjfdpaaGreatDoor.Ad
end
section
namespace Go.Proofs.YtgjfegfopjfdpaaGreatDoor.P
open Go.RowKit Go.Proofs.YtgjfegfopjfdpaaGreatDoorW.PrintWords Go.Proofs.YtgjfegfopjfdpaaGreatDoorW.PrintLast Go.Proofs.YtgjfegfopjfdpaaGreatDoorW.PrintMore Go.Proofs.YtgjfegfopjfdpaaGreatDoor.B Go.Proofs.YtgjfegfopjfdpaaGreatDoor.Ad
set_option linter.unusedVariables false
set_option linter.unusedSimpArgs false
def SmRow (b : Nat) (s : ByteArray) (i : Nat) (w : World) : Prop :=
 b < w.heap.size ∧ ∀ j, j < s.size → w.cell? ⟨b, j, none⟩ = some (.int .u8 ((if j < i then sm ((L s).getD j 0) else (L s).getD j 0).toNat : Nat)) ∧ w.frozen? ⟨b, j, none⟩ = false
theorem sm_start (w : World) (e : TypeId) (s : ByteArray) : SmRow w.heap.size s 0 (Lib.bytesWorld w e s) := by
 refine ⟨by rw [Lib.bytesWorld_size]; omega, fun j hj => ⟨?_, ?_⟩⟩
 ·rw [Lib.bytesWorld_cell w e s j hj]; simp [L]
 ·have hk : s.size ≤ (Lib.bytesCells w e s).size := by rw [Lib.bytesCells]; simp
  simp only [World.frozen?, Lib.bytesWorld_at_new]
  simp
  omega
theorem sm_below (w : World) (e : TypeId) (s : ByteArray) : Below w.heap.size w (Lib.bytesWorld w e s) := by
 refine ⟨rfl, rfl, rfl, by rw [Lib.bytesWorld_size]; omega, fun j hj => Lib.bytesWorld_at_old w e s j hj⟩
theorem sm_set {b : Nat} {s : ByteArray} {i : Nat} {w : World} (h : SmRow b s i w) (hi : i < s.size) : SmRow b s (i + 1) (w.setCell ⟨b, i, none⟩ (.int .u8 ((sm ((L s).getD i 0)).toNat : Nat))) := by
 refine ⟨by rw [size_set]; exact h.1, fun j hj => ⟨?_, by rw [World.frozen?_setCell]; exact (h.2 j hj).2⟩⟩
 rcases Nat.lt_trichotomy j i with h1 | h1 | h1
 ·rw [World.cell?_setCell_other _ _ _ _ (by intro e; injection e with _ e; omega), (h.2 j hj).1, if_pos h1, if_pos (by omega)]
 ·subst h1; rw [World.cell?_setCell_same _ _ _ (h.2 j hj).1, if_pos (by omega)]
 ·rw [World.cell?_setCell_other _ _ _ _ (by intro e; injection e with _ e; omega), (h.2 j hj).1, if_neg (by omega), if_neg (by omega)]
theorem sm_skip {b : Nat} {s : ByteArray} {i : Nat} {w : World} (h : SmRow b s i w) (hi : i < s.size) (he : sm ((L s).getD i 0) = (L s).getD i 0) : SmRow b s (i + 1) w := by
 refine ⟨h.1, fun j hj => ⟨?_, (h.2 j hj).2⟩⟩
 rw [(h.2 j hj).1]
 rcases Nat.lt_trichotomy j i with h1 | h1 | h1
 ·rw [if_pos h1, if_pos (by omega)]
 ·subst h1; rw [if_neg (by omega), if_pos (by omega), he]
 ·rw [if_neg (by omega), if_neg (by omega)]
end Go.Proofs.YtgjfegfopjfdpaaGreatDoor.P
end
section
namespace Go.Proofs.YtgjfegfopjfdpaaGreatDoor.P
open Go.RowKit Go.Proofs.YtgjfegfopjfdpaaGreatDoorW.PrintWords Go.Proofs.YtgjfegfopjfdpaaGreatDoorW.PrintLast Go.Proofs.YtgjfegfopjfdpaaGreatDoorW.PrintMore Go.Proofs.YtgjfegfopjfdpaaGreatDoor.B Go.Proofs.YtgjfegfopjfdpaaGreatDoor.Ad
set_option linter.unusedVariables false
set_option linter.unusedSimpArgs false
def spec_l1Small.f (a0 : ByteArray) : Option (ByteArray) := if a0.size ≤ 140737488351232 then some (smallB a0) else none
set_option maxHeartbeats 400000 in
set_option maxRecDepth 100000 in
theorem spec_l1Small.calls (a0 r : ByteArray) (w : World) (h : spec_l1Small.f a0 = some r) :
  Calls Tryz.prog 81 #[.string a0] w fun e w' => e = .returned (.string r) ∧ Below w.heap.size w w' := by
 unfold spec_l1Small.f at h
 by_cases hs : a0.size ≤ 140737488351232
 ·rw [if_pos hs] at h
  obtain rfl := Option.some.inj h
  clear h
  have hcv := Lib.run_convert_string_bytes (P := Tryz.prog) w 9 34 5 a0 Tryz.underlying9 Tryz.underlying34 Tryz.underlying5
  go_enter Tryz.func81, Tryz.ntmps81
  go_wp2_with fail
  clear hcv
  go_loopw [4] (fun i wr => ∃ k : Nat, k ≤ a0.size ∧ i = .int .i64 k ∧ Aside0 (SmRow w.heap.size a0 k wr) ∧ Aside0 (Below w.heap.size w wr))
   (fun i _ => a0.size - (intOf i).toNat)
  case atStart =>
   refine ⟨0, Nat.zero_le _, rfl, ⟨sm_start w 5 a0⟩, ⟨?_⟩⟩
   exact sm_below w 5 a0
  case round =>
   obtain ⟨k, hk, rfl, hI, hB⟩ := hrel
   by_cases hlt : k < a0.size
   ·have hc := (hI.out.2 k hlt).1
    have hf := (hI.out.2 k hlt).2
    rw [if_neg (by omega)] at hc
    have hset := Aside0.mk (sm_set hI.out hlt)
    have hskip := Aside0.mk (sm_skip hI.out hlt)
    clear hI
    generalize (L a0).getD k 0 = b at hc hset hskip
    have hb := b.toNat_lt
    by_cases h1 : 65 ≤ b.toNat
    ·by_cases h2 : b.toNat ≤ 90
     ·have e1 : (sm b).toNat = b.toNat + 32 := by
       unfold sm
       rw [if_pos ⟨h1, h2⟩, UInt8.toNat_add]
       have : (32 : UInt8).toNat = 32 := rfl
       omega
      rw [e1, show ((b.toNat + 32 : Nat) : Int) = (b.toNat : Int) + 32 from by omega] at hset
      clear hskip e1
      go_wp2
      exact ⟨⟨k + 1, by omega, by go_num, hset, ⟨hB.out.setCell (Nat.le_refl _) _⟩⟩, by simp [intOf]; omega⟩
     ·have e1 : sm b = b := by unfold sm; rw [if_neg (by omega)]
      have hS : Aside0 (SmRow w.heap.size a0 (k + 1) wr) := ⟨hskip.out e1⟩
      clear e1 hset hskip
      go_wp2
      exact ⟨⟨k + 1, by omega, by go_num, hS, hB⟩, by simp [intOf]; omega⟩
    ·have e1 : sm b = b := by unfold sm; rw [if_neg (by omega)]
     have hS : Aside0 (SmRow w.heap.size a0 (k + 1) wr) := ⟨hskip.out e1⟩
     clear e1 hset hskip
     go_wp2
     exact ⟨⟨k + 1, by omega, by go_num, hS, hB⟩, by simp [intOf]; omega⟩
   ·have ek : k = a0.size := by omega
    have hcells : ∀ j (hj : j < (L (smallB a0)).length), wr.cell? ((⟨w.heap.size, 0, none⟩ : Addr).add j) = some (.int .u8 ((L (smallB a0))[j].toNat : Int)) := by
     intro j hj
     have hj' : j < a0.size := by rw [L_size, smallB, ofL_size, List.length_map, L_size] at hj; exact hj
     rw [add_plain, (hI.out.2 j hj').1, if_pos (by omega)]
     simp [smallB, L_of, List.getD_eq_getElem?_getD, List.getElem?_eq_getElem (show j < (L a0).length by rw [L_size]; exact hj')]
    have hcv := run_convert_bytes_back (P := Tryz.prog) wr 34 9 5 ⟨w.heap.size, 0, none⟩ (grownCap w a0.size 0 5) (L (smallB a0)) Tryz.underlying34 Tryz.underlying5 Tryz.underlying9 hcells
    have hl : (L (smallB a0)).length = a0.size := by rw [L_size, smallB, ofL_size, List.length_map, L_size]
    rw [hl, show (⟨(L (smallB a0)).toArray⟩ : ByteArray) = smallB a0 from of_L _] at hcv
    have Hk := Aside0.mk ek
    clear ek hcells hl
    go_wp2
    go_ret
    exact ⟨rfl, hB.out⟩
 ·rw [if_neg hs] at h; cases h
end Go.Proofs.YtgjfegfopjfdpaaGreatDoor.P
end
section
namespace Go.Proofs.YtgjfegfopjfdpaaGreatDoor.P
open Go.RowKit Go.Proofs.YtgjfegfopjfdpaaGreatDoorW.PrintWords Go.Proofs.YtgjfegfopjfdpaaGreatDoorW.PrintLast Go.Proofs.YtgjfegfopjfdpaaGreatDoorW.PrintMore
attribute [local go_sem] max2_int min2_int max_two min_two max_three min_three max_four min_four
set_option linter.unusedVariables false
set_option linter.unusedSimpArgs false
def spec_l1Whole.l0 : Nat → ByteArray → ByteArray → ByteArray → Int → Option (ByteArray × List ByteArray × Bool × ByteArray × Bool)
 | 0, _, _, _, _ => none
 | k + 1, x0, x4, x5, x6 => if x6 < (x0.size : Int) then (if 0 ≤ x6 then (if (bt x0 x6) = 47 then (if x6 ≤ (x0.size : Int) then ((spec_l1Small.f (x0.extract 0 (x6 : Int).toNat)).bind fun t192 => ((spec_l1Way.f k t192 ([] : List ByteArray) false (⟨#[]⟩ : ByteArray) (x0.extract (x6 : Int).toNat x0.size)).bind fun bt193 => (some (bt193.1, bt193.2.1, bt193.2.2.1, bt193.2.2.2.1, bt193.2.2.2.2)))) else (none)) else (if (bt x0 x6) = 63 then (if x6 ≤ (x0.size : Int) then ((spec_l1Small.f (x0.extract 0 (x6 : Int).toNat)).bind fun t200 => ((spec_l1Way.f k t200 ([] : List ByteArray) false (⟨#[]⟩ : ByteArray) (x0.extract (x6 : Int).toNat x0.size)).bind fun bt201 => (some (bt201.1, bt201.2.1, bt201.2.2.1, bt201.2.2.2.1, bt201.2.2.2.2)))) else (none)) else (spec_l1Whole.l0 k x0 x4 x5 (wrap64 (x6 + 1))))) else (none)) else ((spec_l1Small.f x4).bind fun t208 => ((spec_l1Way.f k t208 ([] : List ByteArray) false (⟨#[]⟩ : ByteArray) x5).bind fun bt209 => (some (bt209.1, bt209.2.1, bt209.2.2.1, bt209.2.2.2.1, bt209.2.2.2.2))))
def spec_l1Whole.f (k : Nat) (a0 : ByteArray) : Option (ByteArray × List ByteArray × Bool × ByteArray × Bool) := spec_l1Whole.l0 k a0 a0 (⟨#[]⟩ : ByteArray) 0
set_option maxHeartbeats 8000000 in
set_option maxRecDepth 100000 in
theorem spec_l1Whole.calls (k : Nat) (a0 : ByteArray) (r1 : ByteArray) (r2 : List ByteArray) (r3 : Bool) (r4 : ByteArray) (r5 : Bool) (w : World) (h : spec_l1Whole.f k a0 = some (r1, r2, r3, r4, r5)) :
  Calls Tryz.prog 55 #[.string a0] w fun e w' => ∃ v1_ : Value, e = .returned (.tuple #[.agg #[.string r1, v1_, .bool r3, .string r4], .bool r5]) ∧ Kd.R Kd.string 9 w' w.heap.size (fun _ => True) v1_ r2 ∧ Below w.heap.size w w' := by
 have hu27 := Tryz.underlying27;have HB := Aside0.mk (Below.refl w.heap.size w);have H : (spec_l1Whole.l0 k a0 a0 (⟨#[]⟩ : ByteArray) 0) = some (r1, r2, r3, r4, r5) := h;clear h;have H' := Aside0.mk H;clear H;go_enter Tryz.func55, Tryz.ntmps55;go_wp2_with (first | ((with_reducible refine gate_dst (N := 2) rfl ?_); refine boxE 2 #[.string (⟨#[]⟩ : ByteArray), .slice none 0 0, .bool false, .string (⟨#[]⟩ : ByteArray)] 27 ?_; intro gb191 hg w2 hbox hb; have n0_ := Aside0.mk (below_step (zz4 HB) hb); have n1_ := Aside0.mk (hbox); have n2_ := Aside0.mk ((by rw [hg]; exact (below_size (zz4 HB)) : w.heap.size ≤ gb191)); have n3_ := Aside0.mk ((by rw [hg]; exact (below_size (zz4 HB)) : w.heap.size ≤ gb191)); clear HB; have HB := n0_; have BK191 := n1_; have GW191 := n2_; have GE191 := n3_; clear n0_ n1_ n2_ n3_; clear hb hbox hg))
 go_loopg [4, 5, 6] k (fun kq v4 v5 v6 w' => ∃ (x4_1 : ByteArray) (x5_1 : ByteArray) (x6_1 : Int), v4 = .string x4_1 ∧ v5 = .string x5_1 ∧ v6 = .int .i64 x6_1 ∧ Aside0 (spec_l1Whole.l0 kq a0 x4_1 x5_1 x6_1 = some (r1, r2, r3, r4, r5)) ∧ Aside0 (kq ≤ k) ∧ Aside0 (w'.heap[gb191]? = some (.cells #[.string (⟨#[]⟩ : ByteArray), (.slice none 0 0), .bool false, .string (⟨#[]⟩ : ByteArray)] 27 (0, 0))) ∧ Aside0 (Below w.heap.size w w'))
 case atStart => exact ⟨(a0), ((⟨#[]⟩ : ByteArray)), (0), zz0, zz0, zz0, H', ⟨Nat.le_refl _⟩, ⟨(zz27 BK191)⟩, ⟨(zz6 HB GE191)⟩⟩
 case round =>
  clear H';obtain ⟨x4_1, x5_1, x6_1, rfl, rfl, rfl, HA, HK1, BK191, HB⟩ := hrel;cases gk with
  | zero => exact absurd HA.out (by simp [spec_l1Whole.l0])
  | succ k1 =>
   have H := HA.out;clear HA;simp only [spec_l1Whole.l0] at H
   by_cases c3 : x6_1 < (a0.size : Int)
   ·rw [if_pos c3] at H
    have c3b0 : decide (x6_1 < (a0.size : Int)) = true := decide_eq_true c3;clear c3;by_cases c4 : 0 ≤ x6_1
    ·rw [if_pos c4] at H
     have c4b0 : decide (0 ≤ x6_1) = true := decide_eq_true c4;clear c4;by_cases c6 : (bt a0 x6_1) = 47
     ·rw [if_pos c6] at H
      have c6b0 : ((bt a0 x6_1) == 47) = true := beq_iff_eq.mpr c6;have c6b1 : ((bt a0 x6_1) != 47) = false := bne_eq_false_iff_eq.mpr c6;clear c6;have c7b0 := eq_true (ofD : 0 ≤ x6_1);by_cases c8 : x6_1 ≤ (a0.size : Int)
      ·rw [if_pos c8] at H
       have c8b0 := eq_true c8;have c8b1 : decide (x6_1 ≤ (a0.size : Int)) = true := decide_eq_true c8;clear c8;have c9b0 := eq_true (ofD : 0 ≤ x6_1);have c10b0 := eq_true (ofD : x6_1 ≤ (a0.size : Int));replace H := bindA H;obtain ⟨t192, A11, H⟩ := H;replace H := bindA H;obtain ⟨⟨t193, t194, t197, t198, t199⟩, A12, H⟩ := H;try dsimp -simprocs only at H
       simp only [Option.some.injEq, Prod.mk.injEq] at H
       obtain ⟨rfl, rfl, rfl, rfl, rfl⟩ := H;have p5 : 0 ≤ (x6_1 : Int) := ofD;have q5 : x6_1 < (a0.size : Int) := ofD;have hx5 := bt_at a0 x6_1;replace p5 := eq_true p5;replace q5 := eq_true q5;go_wp2_with (first | ((with_reducible refine gate_callee (f := 81) rfl ?_); refine gsL (some 31) Tryz.func81 #[.string (a0.extract 0 (x6_1 : Int).toNat)] ?_; (with_reducible refine (spec_l1Small.calls (a0.extract 0 (x6_1 : Int).toNat) t192 _ A11.out).mono ?_); rintro e w13 ⟨rfl, hb⟩; refine ⟨_, rfl, ?_⟩; have n0_ := Aside0.mk (blk_below (zz27 BK191) hb); have n1_ := Aside0.mk (below_step (zz6 HB GE191) hb); clear BK191; clear HB; have BK191 := n0_; have HB := n1_; clear n0_ n1_; (try clear hb)) | ((with_reducible refine gate_callee (f := 56) rfl ?_); refine gsL (some 34) Tryz.func56 #[.agg #[.string t192, .slice none 0 0, .bool false, .string (⟨#[]⟩ : ByteArray)], .string (a0.extract (x6_1 : Int).toNat a0.size)] ?_; (refine (spec_l1Way.calls k1 t192 _ _ ([] : List ByteArray) false (⟨#[]⟩ : ByteArray) (a0.extract (x6_1 : Int).toNat a0.size) t193 t194 t197 t198 t199 _ ?side1 ?side2 A12.out).mono ?_); (case side1 => exact Kd.C_nil _ _); (case side2 => exact Nat.le_refl _); rintro e w14 ⟨v195, rfl, ho0, hb⟩; refine ⟨_, rfl, ?_⟩; have n0_ := Aside0.mk (Kd.R_lower ho0 (below_size (zz6 HB GE191))); have n1_ := Aside0.mk (blk_below (zz27 BK191) hb); have n2_ := Aside0.mk (below_step (zz6 HB GE191) hb); clear BK191; clear HB; have HO196 := n0_; have BK191 := n1_; have HB := n2_; clear n0_ n1_ n2_; (try clear hb ho0); obtain ⟨_, _, _, _, _, _, _, _⟩ := cf4 BK191; obtain ⟨Ao16, co16, eo16⟩ := Kd.R_slice HO196.out; subst eo16))
       refine bodyPost_ret (results_ct rfl _ _ gb191 27 #[.string t193, .slice Ao16 t194.length co16, .bool t197, .string t198] (0, 0) _ rfl (zz42 BK191) Tryz.underlying27 rfl (by kernel_rfl)) rfl ?_;exact ⟨_, zz5, (zz51 (rt HO196 BK191)), (zz6 HB GE191)⟩
      ·rw [if_neg c8] at H
       exact absurd H (by simp)
     ·rw [if_neg c6] at H
      have c6b0 : ((bt a0 x6_1) == 47) = false := beq_eq_false_iff_ne.mpr c6;have c6b1 : ((bt a0 x6_1) != 47) = true := bne_iff_ne.mpr c6;by_cases c18 : (bt a0 x6_1) = 63
      ·rw [if_pos c18] at H
       have c18b0 : ((bt a0 x6_1) == 63) = true := beq_iff_eq.mpr c18;have c18b1 : ((bt a0 x6_1) != 63) = false := bne_eq_false_iff_eq.mpr c18;clear c18;have c19b0 := eq_true (ofD : 0 ≤ x6_1);by_cases c20 : x6_1 ≤ (a0.size : Int)
       ·rw [if_pos c20] at H
        have c20b0 := eq_true c20;have c20b1 : decide (x6_1 ≤ (a0.size : Int)) = true := decide_eq_true c20;clear c20;have c21b0 := eq_true (ofD : 0 ≤ x6_1);have c22b0 := eq_true (ofD : x6_1 ≤ (a0.size : Int));replace H := bindA H;obtain ⟨t200, A23, H⟩ := H;replace H := bindA H;obtain ⟨⟨t201, t202, t205, t206, t207⟩, A24, H⟩ := H;try dsimp -simprocs only at H
        simp only [Option.some.injEq, Prod.mk.injEq] at H
        obtain ⟨rfl, rfl, rfl, rfl, rfl⟩ := H;have p5 : 0 ≤ (x6_1 : Int) := ofD;have q5 : x6_1 < (a0.size : Int) := ofD;have hx5 := bt_at a0 x6_1;replace p5 := eq_true p5;replace q5 := eq_true q5;have p17 : 0 ≤ (x6_1 : Int) := ofD;have q17 : x6_1 < (a0.size : Int) := ofD;have hx17 := bt_at a0 x6_1;replace p17 := eq_true p17;replace q17 := eq_true q17;go_wp2_with (first | ((with_reducible refine gate_callee (f := 81) rfl ?_); refine gsL (some 31) Tryz.func81 #[.string (a0.extract 0 (x6_1 : Int).toNat)] ?_; (with_reducible refine (spec_l1Small.calls (a0.extract 0 (x6_1 : Int).toNat) t200 _ A23.out).mono ?_); rintro e w25 ⟨rfl, hb⟩; refine ⟨_, rfl, ?_⟩; have n0_ := Aside0.mk (blk_below (zz27 BK191) hb); have n1_ := Aside0.mk (below_step (zz6 HB GE191) hb); clear BK191; clear HB; have BK191 := n0_; have HB := n1_; clear n0_ n1_; (try clear hb)) | ((with_reducible refine gate_callee (f := 56) rfl ?_); refine gsL (some 34) Tryz.func56 #[.agg #[.string t200, .slice none 0 0, .bool false, .string (⟨#[]⟩ : ByteArray)], .string (a0.extract (x6_1 : Int).toNat a0.size)] ?_; (refine (spec_l1Way.calls k1 t200 _ _ ([] : List ByteArray) false (⟨#[]⟩ : ByteArray) (a0.extract (x6_1 : Int).toNat a0.size) t201 t202 t205 t206 t207 _ ?side1 ?side2 A24.out).mono ?_); (case side1 => exact Kd.C_nil _ _); (case side2 => exact Nat.le_refl _); rintro e w26 ⟨v203, rfl, ho0, hb⟩; refine ⟨_, rfl, ?_⟩; have n0_ := Aside0.mk (Kd.R_lower ho0 (below_size (zz6 HB GE191))); have n1_ := Aside0.mk (blk_below (zz27 BK191) hb); have n2_ := Aside0.mk (below_step (zz6 HB GE191) hb); clear BK191; clear HB; have HO204 := n0_; have BK191 := n1_; have HB := n2_; clear n0_ n1_ n2_; (try clear hb ho0); obtain ⟨_, _, _, _, _, _, _, _⟩ := cf4 BK191; obtain ⟨Ao28, co28, eo28⟩ := Kd.R_slice HO204.out; subst eo28))
        refine bodyPost_ret (results_ct rfl _ _ gb191 27 #[.string t201, .slice Ao28 t202.length co28, .bool t205, .string t206] (0, 0) _ rfl (zz42 BK191) Tryz.underlying27 rfl (by kernel_rfl)) rfl ?_;exact ⟨_, zz5, (zz51 (rt HO204 BK191)), (zz6 HB GE191)⟩
       ·rw [if_neg c20] at H
        exact absurd H (by simp)
      ·rw [if_neg c18] at H
       have c18b0 : ((bt a0 x6_1) == 63) = false := beq_eq_false_iff_ne.mpr c18;have c18b1 : ((bt a0 x6_1) != 63) = true := bne_iff_ne.mpr c18;have H' := Aside0.mk H;clear H;have p5 : 0 ≤ (x6_1 : Int) := ofD;have q5 : x6_1 < (a0.size : Int) := ofD;have hx5 := bt_at a0 x6_1;replace p5 := eq_true p5;replace q5 := eq_true q5;have p17 : 0 ≤ (x6_1 : Int) := ofD;have q17 : x6_1 < (a0.size : Int) := ofD;have hx17 := bt_at a0 x6_1;replace p17 := eq_true p17;replace q17 := eq_true q17;go_wp2
       go_roundg k1
       case measure => have := HK1.out; omega
       case rel => exact ⟨(x4_1), (x5_1), (wrap64 (x6_1 + 1)), zz0, zz0, zz0, H', ⟨(zz3 HK1)⟩, ⟨(zz27 BK191)⟩, ⟨(zz6 HB GE191)⟩⟩
    ·rw [if_neg c4] at H
     exact absurd H (by simp)
   ·rw [if_neg c3] at H
    have c3b0 : decide (x6_1 < (a0.size : Int)) = false := decide_eq_false c3;clear c3;replace H := bindA H;obtain ⟨t208, A29, H⟩ := H;replace H := bindA H;obtain ⟨⟨t209, t210, t213, t214, t215⟩, A30, H⟩ := H;try dsimp -simprocs only at H
    simp only [Option.some.injEq, Prod.mk.injEq] at H
    obtain ⟨rfl, rfl, rfl, rfl, rfl⟩ := H;go_wp2_with (first | ((with_reducible refine gate_callee (f := 81) rfl ?_); refine gsL (some 31) Tryz.func81 #[.string x4_1] ?_; (with_reducible refine (spec_l1Small.calls x4_1 t208 _ A29.out).mono ?_); rintro e w31 ⟨rfl, hb⟩; refine ⟨_, rfl, ?_⟩; have n0_ := Aside0.mk (blk_below (zz27 BK191) hb); have n1_ := Aside0.mk (below_step (zz6 HB GE191) hb); clear BK191; clear HB; have BK191 := n0_; have HB := n1_; clear n0_ n1_; (try clear hb)) | ((with_reducible refine gate_callee (f := 56) rfl ?_); refine gsL (some 34) Tryz.func56 #[.agg #[.string t208, .slice none 0 0, .bool false, .string (⟨#[]⟩ : ByteArray)], .string x5_1] ?_; (refine (spec_l1Way.calls k1 t208 _ _ ([] : List ByteArray) false (⟨#[]⟩ : ByteArray) x5_1 t209 t210 t213 t214 t215 _ ?side1 ?side2 A30.out).mono ?_); (case side1 => exact Kd.C_nil _ _); (case side2 => exact Nat.le_refl _); rintro e w32 ⟨v211, rfl, ho0, hb⟩; refine ⟨_, rfl, ?_⟩; have n0_ := Aside0.mk (Kd.R_lower ho0 (below_size (zz6 HB GE191))); have n1_ := Aside0.mk (blk_below (zz27 BK191) hb); have n2_ := Aside0.mk (below_step (zz6 HB GE191) hb); clear BK191; clear HB; have HO212 := n0_; have BK191 := n1_; have HB := n2_; clear n0_ n1_ n2_; (try clear hb ho0); obtain ⟨_, _, _, _, _, _, _, _⟩ := cf4 BK191; obtain ⟨Ao34, co34, eo34⟩ := Kd.R_slice HO212.out; subst eo34))
    refine bodyPost_ret (results_ct rfl _ _ gb191 27 #[.string t209, .slice Ao34 t210.length co34, .bool t213, .string t214] (0, 0) _ rfl (zz42 BK191) Tryz.underlying27 rfl (by kernel_rfl)) rfl ?_;exact ⟨_, zz5, (zz51 (rt HO212 BK191)), (zz6 HB GE191)⟩
def spec_l1Up.f (a0_0 : ByteArray) (l0_1 : List ByteArray) (a0_2 : Bool) (a0_3 : ByteArray) : Option (ByteArray × List ByteArray × Bool × ByteArray) := (some (([] : List ByteArray) : List ByteArray)).bind fun y218 => (if 0 ≤ (mx (wrap64 ((l0_1.length : Int) - 1)) 0) then (if (mx (wrap64 ((l0_1.length : Int) - 1)) 0) ≤ (l0_1.length : Int) then (if y218.length + (l0_1.take ((mx (wrap64 ((l0_1.length : Int) - 1)) 0) : Int).toNat).length < 8796093022208 then (some (a0_0, (y218 ++ (l0_1.take ((mx (wrap64 ((l0_1.length : Int) - 1)) 0) : Int).toNat)), false, (⟨#[]⟩ : ByteArray))) else (none)) else (none)) else (none))
def spec_l1Up.T1 : Bool × List (List Nat × List Nat) := (true, [([], []), ([0], [0]), ([], []), ([], []), ([3], [3]), ([], []), ([5], [5]), ([6], [6]), ([7], [7]), ([8], [8]), ([4, 9], [4, 9]), ([2, 10], [2, 10]), ([1, 11], [1, 11]), ([12, 11, 0, 1, 2, 3, 4, 5, 6, 7, 8, 9, 10, 11, 12], [12])])
def spec_l1Up.B1 : List Nat := [0, 1, 0, 0, 8, 0, 32, 96, 224, 480, 1016, 2044, 4095, 8191]
theorem spec_l1Up.tab1 : rtab .any (opsOf Tryz.f57 1) = spec_l1Up.T1 := by kernel_rfl
theorem spec_l1Up.bits1 : waitsOk spec_l1Up.T1.2 spec_l1Up.B1 = true := by kernel_rfl
set_option maxHeartbeats 8000000 in
set_option maxRecDepth 100000 in
theorem spec_l1Up.calls (a0_0 : ByteArray) (A0_1 : Option Addr) (c0_1 : Nat) (l0_1 : List ByteArray) (a0_2 : Bool) (a0_3 : ByteArray) (r1 : ByteArray) (r2 : List ByteArray) (r3 : Bool) (r4 : ByteArray) (w : World) (hr0_1 : Kd.C Kd.string w A0_1 l0_1.length l0_1) (hc0_1 : l0_1.length ≤ c0_1) (h : spec_l1Up.f a0_0 l0_1 a0_2 a0_3 = some (r1, r2, r3, r4)) :
  Calls Tryz.prog 57 #[.agg #[.string a0_0, .slice A0_1 l0_1.length c0_1, .bool a0_2, .string a0_3]] w fun e w' => ∃ v1_ : Value, e = .returned (.agg #[.string r1, v1_, .bool r3, .string r4]) ∧ Kd.R Kd.string 9 w' w.heap.size (fun _ => True) v1_ r2 ∧ Below w.heap.size w w' := by
 have hu27 := Tryz.underlying27;have HR0_1 := Aside0.mk hr0_1;have HC0_1 := Aside0.mk hc0_1;clear hr0_1 hc0_1;have HB := Aside0.mk (Below.refl w.heap.size w);have H : ((some (([] : List ByteArray) : List ByteArray)).bind fun y218 => (if 0 ≤ (mx (wrap64 ((l0_1.length : Int) - 1)) 0) then (if (mx (wrap64 ((l0_1.length : Int) - 1)) 0) ≤ (l0_1.length : Int) then (if y218.length + (l0_1.take ((mx (wrap64 ((l0_1.length : Int) - 1)) 0) : Int).toNat).length < 8796093022208 then (some (a0_0, (y218 ++ (l0_1.take ((mx (wrap64 ((l0_1.length : Int) - 1)) 0) : Int).toNat)), false, (⟨#[]⟩ : ByteArray))) else (none)) else (none)) else (none))) = some (r1, r2, r3, r4) := h;clear h;obtain ⟨y218, Ny218⟩ := toY (([] : List ByteArray));(first | with_reducible replace H := bindZ Ny218 H | rw [← Ny218.out] at H | skip)
 obtain ⟨ji2, hji2⟩ : ∃ j_ : Int, (mx (wrap64 ((l0_1.length : Int) - 1)) 0) = j_ := ⟨_, rfl⟩;replace H : (if 0 ≤ (ji2) then (if (ji2) ≤ (l0_1.length : Int) then (if y218.length + (l0_1.take ((ji2) : Int).toNat).length < 8796093022208 then (some (a0_0, (y218 ++ (l0_1.take ((ji2) : Int).toNat)), false, (⟨#[]⟩ : ByteArray))) else (none)) else (none)) else (none)) = some (r1, r2, r3, r4) := by first | (rw [hji2] at H; exact H) | (simp only [hji2] at H ⊢; exact H)
 (try (have hji2l : 0 ≤ ji2 := by (rw [← hji2]; unfold mx; (repeat' split) <;> omega)))
 (try (have hji2m : 0 ≤ ji2 := by omega))
 have hji2_ : (if (wrap64 ((l0_1.length : Int) - 1)) < 0 then 0 else (wrap64 ((l0_1.length : Int) - 1))) = ji2 := hji2;by_cases c3 : 0 ≤ (ji2)
 ·rw [if_pos c3] at H
  have c3b0 := eq_true c3;have c3b1 : decide (0 ≤ (ji2)) = true := decide_eq_true c3;clear c3;by_cases c4 : (ji2) ≤ (l0_1.length : Int)
  ·rw [if_pos c4] at H
   have c4b0 := eq_true c4;have c4b1 : decide ((ji2) ≤ (l0_1.length : Int)) = true := decide_eq_true c4;clear c4;by_cases c5 : y218.length + (l0_1.take ((ji2) : Int).toNat).length < 8796093022208
   ·rw [if_pos c5] at H
    have LMc5 := Aside0.mk c5;clear c5;obtain ⟨y222, Ny222⟩ := toY (y218 ++ (l0_1.take ((ji2) : Int).toNat));(first | with_reducible replace H := bindZ Ny222 H | rw [← Ny222.out] at H | skip)
    simp only [Option.some.injEq, Prod.mk.injEq] at H
    obtain ⟨rfl, rfl, rfl, rfl⟩ := H;go_enter Tryz.func57, Tryz.ntmps57;try go_wp2_with (first | ((with_reducible refine gate_dst (N := 1) rfl ?_); refine boxE 1 #[.string a0_0, .slice A0_1 l0_1.length c0_1, .bool a0_2, .string a0_3] 27 ?_; intro gb216 hg w6 hbox hb; have n0_ := Aside0.mk (below_step (zz4 HB) hb); have n1_ := Aside0.mk (hbox); have n2_ := Aside0.mk ((by rw [hg]; exact (below_size (zz4 HB)) : w.heap.size ≤ gb216)); have n3_ := Aside0.mk ((by rw [hg]; exact (below_size (zz4 HB)) : w.heap.size ≤ gb216)); clear HB; have HB := n0_; have BK216 := n1_; have GW216 := n2_; have GE216 := n3_; clear n0_ n1_ n2_ n3_; clear hb hbox hg) | ((with_reducible refine gate_dst (N := 2) rfl ?_); refine boxE 2 #[.string (⟨#[]⟩ : ByteArray), .slice none 0 0, .bool false, .string (⟨#[]⟩ : ByteArray)] 27 ?_; intro gb217 hg w7 hbox hb; have n0_ := Aside0.mk (blk_below (zz27 BK216) hb); have n1_ := Aside0.mk (below_step (zz6 HB GE216) hb); have n2_ := Aside0.mk (hbox); have n3_ := Aside0.mk ((by rw [hg]; exact (below_size (zz6 HB GE216)) : w.heap.size ≤ gb217)); have n4_ := Aside0.mk ((by rw [hg]; exact (below_size (zz6 HB GE216)) : w.heap.size ≤ gb217)); have n5_ := Aside0.mk ((by rw [hg]; exact Nat.ne_of_lt (blk_lt (zz27 BK216)) : gb216 ≠ gb217)); have n6_ := Aside0.mk ((by rw [hg]; exact Nat.ne_of_gt (blk_lt (zz27 BK216)) : gb217 ≠ gb216)); clear BK216; clear HB; have BK216 := n0_; have HB := n1_; have BK217 := n2_; have GW217 := n3_; have GE217 := n4_; have NB216_217 := n5_; have NB217_216 := n6_; clear n0_ n1_ n2_ n3_ n4_ n5_ n6_; clear hb hbox hg))
    have n0_ := Aside0.mk (blk_drew BK216.out);have n1_ := Aside0.mk (blk_drew BK217.out);have n2_ := Aside0.mk (below_drew1 HB.out);clear BK216;clear BK217;clear HB;have BK216 := n0_;have BK217 := n1_;have HB := n2_;clear n0_ n1_ n2_;obtain ⟨i09, hi09, _, hsz9, _⟩ := info_parts info9;obtain ⟨hcut9, hA9, hC9⟩ := print_take_of (P := Tryz.prog) Value.string (⟨#[]⟩ : ByteArray) 22 9 .i64 Tryz.underlying22 hi09 hsz9 A0_1 c0_1 l0_1 (ji2) ofD ofD HC0_1.out;have HR221 := Aside0.mk (Kd.C_of_reads (h1 := fun _ => rfl) (hA9 _ (Kd.reads_of_C HR0_1.out)));have HC221 := Aside0.mk hC9;clear hA9 hC9 hi09 hsz9;refine start_ (n := 14) (S := fun w' => w'.cell? ⟨gb216, 0, none⟩ = some (.string a0_0) ∧ w'.cell? ⟨gb216, 1, none⟩ = some (.slice A0_1 l0_1.length c0_1) ∧ w'.cell? ⟨gb216, 2, none⟩ = some (.bool a0_2) ∧ w'.cell? ⟨gb216, 3, none⟩ = some (.string a0_3)) (ds := []) #[false, false, false, false, false, false, false, false, false, false, false, false, false, false] (by kernel_rfl) rfl rfl ⟨(blk_cell BK216.out 0).trans rfl, (blk_cell BK216.out 1).trans rfl, (blk_cell BK216.out 2).trans rfl, (blk_cell BK216.out 3).trans rfl⟩ (fun hHeld => ?_); refine with_tabW spec_l1Up.tab1 spec_l1Up.bits1 (fun HT_ HW_ => ?_);generalize w7.drew = w8 at BK216 BK217 HB HR221 hHeld ⊢;refine pureZ 0 (some 3) #[true, false, false, false, false, false, false, false, false, false, false, false, false, false] ?_;refine pureZ 3 (some 6) #[true, false, false, true, false, false, false, false, false, false, false, false, false, false] ?_;refine pureZ 5 (some 8) #[true, false, false, true, false, true, false, false, false, false, false, false, false, false] ?_;refine take_ (i := 1) (N := some 4) (v := ?_) (a' := ?_) #[true, true, false, true, false, true, false, false, false, false, false, false, false, false] rfl rfl (take_ofW HT_.out HW_.out (by kernel_rfl)) (fun _ _ _ h => h) (Or.inl ⟨by rfl, ?_⟩) hHeld ?_ ?_;rotate_left
    ·rintro w' ⟨s0, s1, s2, s3⟩
     go_simp
     with_reducible rfl
    rotate_left
    ·simp only [Act.put, List.setIfInBounds_toArray, List.set_cons_zero, List.set_cons_succ, i64_w, i32_w]
     rfl
    refine take_ (i := 4) (N := some 7) (v := ?_) (a' := ?_) #[true, true, false, true, true, true, false, false, false, false, false, false, false, false] rfl rfl (take_ofW HT_.out HW_.out (by kernel_rfl)) (fun _ _ _ h => h) (Or.inl ⟨by rfl, ?_⟩) hHeld ?_ ?_;rotate_left
    ·rintro w' ⟨s0, s1, s2, s3⟩
     go_simp
     with_reducible rfl
    rotate_left
    ·simp only [Act.put, List.setIfInBounds_toArray, List.set_cons_zero, List.set_cons_succ, i64_w, i32_w]
     rfl
    refine take_ (i := 6) (N := some 9) (v := ?_) (a' := ?_) #[true, true, false, true, true, true, true, false, false, false, false, false, false, false] rfl rfl (take_ofW HT_.out HW_.out (by kernel_rfl)) (fun _ _ _ h => h) (Or.inl ⟨by rfl, ?_⟩) hHeld ?_ ?_;rotate_left
    ·rintro w' ⟨s0, s1, s2, s3⟩
     go_simp
     with_reducible rfl
    rotate_left
    ·simp only [Act.put, List.setIfInBounds_toArray, List.set_cons_zero, List.set_cons_succ, i64_w, i32_w]
     rfl
    refine pureZ 7 (some 10) #[true, true, false, true, true, true, true, true, false, false, false, false, false, false] ?_;refine pureZ 8 (some 11) #[true, true, false, true, true, true, true, true, true, false, false, false, false, false] ?_;refine pureZ 9 (some 12) #[true, true, false, true, true, true, true, true, true, true, false, false, false, false] ?_;refine pureZ 10 (some 13) #[true, true, false, true, true, true, true, true, true, true, true, false, false, false] ?_;refine one_ (i := 2) (N := some 5) #[true, true, true, true, true, true, true, true, true, true, true, false, false, false] rfl rfl (one_of HT_.out (by kernel_rfl)) (by decide) (fun K hK => ?_);refine Kd.R_lit_step Kd.string _ 9 ?hg (N := 5) ?hd (xs := ([] : List ByteArray)) (inner := []) (ok := fun _ => True) (okp := fun _ => True) ?hr ?hp (fun _ hk => hk) trivial (Below.refl _ _) (Nat.le_refl _) (by simp) ?_; (case hd => rfl); (case hg => rfl); (case hr => exact zz8); (case hp => exact (Reps.none _ _));intro v219 w10 ho11 hb hg_ hnew_;clear hg_ hnew_;(first | rw [← Ny218.out] at ho11 | (simp only [Int.reduceToNat] at ho11; rw [← Ny218.out] at ho11))
    have n0_ := Aside0.mk (Kd.R_lower ho11 (below_size (zz38 HB GE216 GE217)));have n1_ := Aside0.mk (blk_below (zz27 BK216) hb);have n2_ := Aside0.mk (blk_below (zz27 BK217) hb);have n3_ := Aside0.mk (below_step (zz38 HB GE216 GE217) hb);clear BK216;clear BK217;clear HB;have HO220 := n0_;have BK216 := n1_;have BK217 := n2_;have HB := n3_;clear n0_ n1_ n2_ n3_;clear hb ho11;refine hK.out _ _ ⟨(blk_cell BK216.out 0).trans rfl, (blk_cell BK216.out 1).trans rfl, (blk_cell BK216.out 2).trans rfl, (blk_cell BK216.out 3).trans rfl⟩ (fun hHeld => ?_);clear hK K;refine norm_ (a' := ?_) ?_ ?_;rotate_left
    ·show Act.put _ (some 5) _ = _
     simp only [Act.put, List.setIfInBounds_toArray, List.set_cons_zero, List.set_cons_succ, i64_w, i32_w]
     rfl
    refine one_ (i := 11) (N := some 14) #[true, true, true, true, true, true, true, true, true, true, true, true, false, false] rfl rfl (one_of HT_.out (by kernel_rfl)) (by decide) (fun K hK => ?_);refine Kd.R_append_rows_step Kd.string (w0 := w) w.heap.size (by rfl) (.tmp 5) (.tmp 13) 22 9 (.string ⟨#[]⟩) 16 rfl Tryz.underlying22 info9 rfl (by decide) (by omega) v219 y218 (l0_1.take ((ji2) : Int).toNat) _ _ _ (fun _ => True) (fun _ => False) rfl rfl ?aO ?aR (fun _ _ h => h) (fun _ h => h.elim) ?aF ?aB ?aS ?aL ?_;(case aR => exact (by first | (have hl_ : (l0_1.take ((ji2) : Int).toNat).length = (ji2).toNat := (by rw [List.length_take]; have h_ : ((ji2) : Int) ≤ (l0_1.length : Int) := ofD; omega); have hC_ := (Kd.C_below HR221.out HB.out); rw [hl_] at hC_; exact hC_) | (rw [← show (l0_1.take ((ji2) : Int).toNat).length = (ji2).toNat from (by rw [List.length_take]; have h_ : ((ji2) : Int) ≤ (l0_1.length : Int) := ofD; omega)]; repeat (first | exact (Kd.C_below HR221.out HB.out) | (with_reducible refine Kd.C_alloc ?_ _) | (with_reducible refine Kd.C_drewN ?_ _) | (with_reducible refine Kd.C_drew ?_)); done) | (repeat (first | exact (Kd.C_below HR221.out HB.out) | (with_reducible refine Kd.C_alloc ?_ _) | (with_reducible refine Kd.C_drewN ?_ _) | (with_reducible refine Kd.C_drew ?_)))))
    (case aB => exact (zz38 HB GE216 GE217))
    (case aF => exact (fun _ _ => trivial))
    (case aO => exact (zz9 HO220))
    (case aS => exact (below_size (zz38 HB GE216 GE217)))
    (case aL => exact (by have := LMc5.out; have hlx_ := (show (l0_1.take ((ji2) : Int).toNat).length = (ji2).toNat from (by rw [List.length_take]; have h_ : ((ji2) : Int) ≤ (l0_1.length : Int) := ofD; omega)); omega))
    intro v223 w12 ho hb hg hat;rw [← Ny222.out] at ho;have n0_ := Aside0.mk (blk_grown (zz27 BK216) hg (Kd.R_ne HO220.out BK216.out (by decide)));have n1_ := Aside0.mk (blk_grown (zz27 BK217) hg (Kd.R_ne HO220.out BK217.out (by decide)));have n2_ := Aside0.mk (hb);have n3_ := Aside0.mk (ho);clear BK216;clear BK217;clear HB;clear HO220;have BK216 := n0_;have BK217 := n1_;have HB := n2_;have HO224 := n3_;clear n0_ n1_ n2_ n3_;clear ho hb hg hat;obtain ⟨Ao13, co13, eo13⟩ := Kd.R_slice HO224.out;(first | subst eo13 | (injection eo13 with f1_ f2_ f3_; have f4_ := f1_.symm; have f5_ := f3_.symm; clear f1_ f2_ f3_; subst f4_; subst f5_))
    refine hK.out _ _ ⟨(blk_cell BK216.out 0).trans rfl, (blk_cell BK216.out 1).trans rfl, (blk_cell BK216.out 2).trans rfl, (blk_cell BK216.out 3).trans rfl⟩ (fun hHeld => ?_);clear hK K;refine norm_ (a' := ?_) ?_ ?_;rotate_left
    ·show Act.put _ (some 14) _ = _
     simp only [Act.put, List.setIfInBounds_toArray, List.set_cons_zero, List.set_cons_succ, i64_w, i32_w]
     rfl
    refine pureZ 12 (some 15) #[true, true, true, true, true, true, true, true, true, true, true, true, true, false] ?_;refine one_ (i := 13) (N := none) #[true, true, true, true, true, true, true, true, true, true, true, true, true, true] rfl rfl (one_of HT_.out (by kernel_rfl)) (by decide) (fun K hK => ?_);have hs14 : w12.cell? ⟨gb217, 0, none⟩ = some (.string (⟨#[]⟩ : ByteArray)) := (blk_cell BK217.out 0).trans rfl;have hfs14 := blk_frozen BK217.out 0;have hns14_0 := NB216_217.out;have hms14_0 := NB217_216.out;have hs15 : w12.cell? ⟨gb217, 1, none⟩ = some (.slice none 0 0) := (blk_cell BK217.out 1).trans rfl;have hfs15 := blk_frozen BK217.out 1;have hns15_0 := NB216_217.out;have hms15_0 := NB217_216.out;have hs16 : w12.cell? ⟨gb217, 2, none⟩ = some (.bool false) := (blk_cell BK217.out 2).trans rfl;have hfs16 := blk_frozen BK217.out 2;have hns16_0 := NB216_217.out;have hms16_0 := NB217_216.out;have hs17 : w12.cell? ⟨gb217, 3, none⟩ = some (.string (⟨#[]⟩ : ByteArray)) := (blk_cell BK217.out 3).trans rfl;have hfs17 := blk_frozen BK217.out 3;have hns17_0 := NB216_217.out;have hms17_0 := NB217_216.out;refine skip_ (w1 := ?_) (by rfl) rfl ?_ ?_;rotate_left
    ·go_simp
     rfl
    refine hK.out _ _ ⟨((cell_far (p := ⟨gb217, _, none⟩) NB216_217.out _).trans (((cell_far (p := ⟨gb217, _, none⟩) NB216_217.out _).trans (((cell_far (p := ⟨gb217, _, none⟩) NB216_217.out _).trans (((cell_far (p := ⟨gb217, _, none⟩) NB216_217.out _).trans (hHeld.1)))))))), ((cell_far (p := ⟨gb217, _, none⟩) NB216_217.out _).trans (((cell_far (p := ⟨gb217, _, none⟩) NB216_217.out _).trans (((cell_far (p := ⟨gb217, _, none⟩) NB216_217.out _).trans (((cell_far (p := ⟨gb217, _, none⟩) NB216_217.out _).trans (hHeld.2.1)))))))), ((cell_far (p := ⟨gb217, _, none⟩) NB216_217.out _).trans (((cell_far (p := ⟨gb217, _, none⟩) NB216_217.out _).trans (((cell_far (p := ⟨gb217, _, none⟩) NB216_217.out _).trans (((cell_far (p := ⟨gb217, _, none⟩) NB216_217.out _).trans (hHeld.2.2.1)))))))), ((cell_far (p := ⟨gb217, _, none⟩) NB216_217.out _).trans (((cell_far (p := ⟨gb217, _, none⟩) NB216_217.out _).trans (((cell_far (p := ⟨gb217, _, none⟩) NB216_217.out _).trans (((cell_far (p := ⟨gb217, _, none⟩) NB216_217.out _).trans (hHeld.2.2.2))))))))⟩ (fun hHeld => ?_);clear hK K;refine done_ (done_of HT_.out (by kernel_rfl)) ?_;try go_wp2
    refine bodyPost_ret (results_cell_row rfl _ _ gb217 27 #[.string a0_0, .slice Ao13 y222.length co13, .bool false, .string (⟨#[]⟩ : ByteArray)] (0, 0) _ rfl (zz42 BK217) Tryz.underlying27 rfl (by kernel_rfl)) rfl ?_;exact ⟨_, (by first | rfl | (simp [errW_none, errW_some] <;> rfl) | (simp only [← hji2]; first | rfl | (simp [errW_none, errW_some] <;> rfl)) | (simp [*, errW_none, errW_some] <;> rfl)), (zz51 (rt HO224 BK217)), (zz38 HB GE216 GE217)⟩
   ·rw [if_neg c5] at H
    exact absurd H (by simp)
  ·rw [if_neg c4] at H
   exact absurd H (by simp)
 ·rw [if_neg c3] at H
  exact absurd H (by simp)
mutual
def spec_AddrJoin.j0 : Nat → ByteArray → Bool → ByteArray → List ByteArray → Bool → ByteArray → Option (ByteArray × List ByteArray × Bool × ByteArray × Bool)
 | 0, _, _, _, _, _, _ => none
 | k + 1, x6, x15, x226000, x226001, x226002, x226003 => if x15 = true then (some ((⟨#[]⟩ : ByteArray), ([] : List ByteArray), false, (⟨#[]⟩ : ByteArray), false)) else (if (x6.size : Int) ≥ 2 then (if 0 ≤ 2 then (if 2 ≤ (x6.size : Int) then (spec_AddrJoin.j1 k x6 ((x6.extract 0 2).toList == ([47, 47] : List UInt8)) x226000 x226001 x226002 x226003) else (none)) else (none)) else (spec_AddrJoin.j1 k x6 false x226000 x226001 x226002 x226003))
def spec_AddrJoin.j1 : Nat → ByteArray → Bool → ByteArray → List ByteArray → Bool → ByteArray → Option (ByteArray × List ByteArray × Bool × ByteArray × Bool)
 | 0, _, _, _, _, _, _ => none
 | k + 1, x6, x25, x226000, x226001, x226002, x226003 => if x25 = true then (if 2 ≤ (x6.size : Int) then ((spec_l1Whole.f k (x6.extract 2 x6.size)).bind fun bt231 => (some (bt231.1, bt231.2.1, bt231.2.2.1, bt231.2.2.2.1, bt231.2.2.2.2))) else (none)) else (if x6.toList = ([] : List UInt8) then ((some (([] : List ByteArray) : List ByteArray)).bind fun y238 => (if y238.length + x226001.length < 8796093022208 then (some (x226000, (y238 ++ x226001), x226002, x226003, true)) else (none))) else (if 0 < (x6.size : Int) then (if (bt x6 0) = 47 then ((spec_l1Way.f k x226000 ([] : List ByteArray) false (⟨#[]⟩ : ByteArray) x6).bind fun bt244 => (some (bt244.1, bt244.2.1, bt244.2.2.1, bt244.2.2.2.1, bt244.2.2.2.2))) else (if (bt x6 0) = 63 then ((spec_l1Way.f k x226000 x226001 false (⟨#[]⟩ : ByteArray) x6).bind fun bt251 => (some (bt251.1, bt251.2.1, bt251.2.2.1, bt251.2.2.2.1, bt251.2.2.2.2))) else ((spec_l1Up.f x226000 x226001 x226002 x226003).bind fun bt258 => ((spec_l1Way.f k bt258.1 bt258.2.1 bt258.2.2.1 bt258.2.2.2 x6).bind fun bt264 => (some (bt264.1, bt264.2.1, bt264.2.2.1, bt264.2.2.2.1, bt264.2.2.2.2)))))) else (none)))
end
def spec_AddrJoin.f (k : Nat) (a0_0 : ByteArray) (l0_1 : List ByteArray) (a0_2 : Bool) (a0_3 : ByteArray) (a1 : ByteArray) : Option (ByteArray × List ByteArray × Bool × ByteArray × Bool) := (spec_l1Cut.f k a1 35).bind fun bt227 => ((spec_AddrOk.f k a0_0 l0_1 a0_2 a0_3).bind fun t230 => (if t230 = true then (spec_AddrJoin.j0 k bt227.1 (decide ((a1.size : Int) > 60)) a0_0 l0_1 a0_2 a0_3) else (spec_AddrJoin.j0 k bt227.1 true a0_0 l0_1 a0_2 a0_3)))
set_option maxHeartbeats 8000000 in
set_option maxRecDepth 100000 in
theorem spec_AddrJoin.calls (k : Nat) (a0_0 : ByteArray) (A0_1 : Option Addr) (c0_1 : Nat) (l0_1 : List ByteArray) (a0_2 : Bool) (a0_3 : ByteArray) (a1 : ByteArray) (r1 : ByteArray) (r2 : List ByteArray) (r3 : Bool) (r4 : ByteArray) (r5 : Bool) (w : World) (hr0_1 : Kd.C Kd.string w A0_1 l0_1.length l0_1) (hc0_1 : l0_1.length ≤ c0_1) (h : spec_AddrJoin.f k a0_0 l0_1 a0_2 a0_3 a1 = some (r1, r2, r3, r4, r5)) :
  Calls Tryz.prog 29 #[.agg #[.string a0_0, .slice A0_1 l0_1.length c0_1, .bool a0_2, .string a0_3], .string a1] w fun e w' => ∃ v1_ : Value, e = .returned (.tuple #[.agg #[.string r1, v1_, .bool r3, .string r4], .bool r5]) ∧ Kd.R Kd.string 9 w' w.heap.size (fun _ => True) v1_ r2 ∧ Below w.heap.size w w' := by
 have hu27 := Tryz.underlying27;have HR0_1 := Aside0.mk hr0_1;have HC0_1 := Aside0.mk hc0_1;clear hr0_1 hc0_1;have HB := Aside0.mk (Below.refl w.heap.size w);have H : ((spec_l1Cut.f k a1 35).bind fun bt227 => ((spec_AddrOk.f k a0_0 l0_1 a0_2 a0_3).bind fun t230 => (if t230 = true then (spec_AddrJoin.j0 k bt227.1 (decide ((a1.size : Int) > 60)) a0_0 l0_1 a0_2 a0_3) else (spec_AddrJoin.j0 k bt227.1 true a0_0 l0_1 a0_2 a0_3)))) = some (r1, r2, r3, r4, r5) := h;clear h;replace H := bindA H;obtain ⟨⟨t227, t228, t229⟩, A3, H⟩ := H;try dsimp -simprocs only at H
 have HC4 := Aside0.mk H;clear H;go_enter Tryz.func29, Tryz.ntmps29;go_upto_region 2 with (first | ((with_reducible refine gate_dst (N := 2) rfl ?_); (try (refine gate_guard (by rfl) ?_; dsimp only)); refine boxE 2 #[.string a0_0, .slice A0_1 l0_1.length c0_1, .bool a0_2, .string a0_3] 27 ?_; intro gb225 hg w5 hbox hb; have n0_ := Aside0.mk (below_step (zz4 HB) hb); have n1_ := Aside0.mk (hbox); have n2_ := Aside0.mk ((by rw [hg]; exact (below_size (zz4 HB)) : w.heap.size ≤ gb225)); have n3_ := Aside0.mk ((by rw [hg]; exact (below_size (zz4 HB)) : w.heap.size ≤ gb225)); clear HB; have HB := n0_; have BK225 := n1_; have GW225 := n2_; have GE225 := n3_; clear n0_ n1_ n2_ n3_; clear hb hbox hg) | ((with_reducible refine gate_dst (N := 4) rfl ?_); (try (refine gate_guard (by rfl) ?_; dsimp only)); refine boxE 4 #[.string (⟨#[]⟩ : ByteArray), .slice none 0 0, .bool false, .string (⟨#[]⟩ : ByteArray)] 27 ?_; intro gb226 hg w6 hbox hb; have n0_ := Aside0.mk (blk_below (zz27 BK225) hb); have n1_ := Aside0.mk (below_step (zz6 HB GE225) hb); have n2_ := Aside0.mk (hbox); have n3_ := Aside0.mk ((by rw [hg]; exact (below_size (zz6 HB GE225)) : w.heap.size ≤ gb226)); have n4_ := Aside0.mk ((by rw [hg]; exact (below_size (zz6 HB GE225)) : w.heap.size ≤ gb226)); have n5_ := Aside0.mk ((by rw [hg]; exact Nat.ne_of_lt (blk_lt (zz27 BK225)) : gb225 ≠ gb226)); have n6_ := Aside0.mk ((by rw [hg]; exact Nat.ne_of_gt (blk_lt (zz27 BK225)) : gb226 ≠ gb225)); clear BK225; clear HB; have BK225 := n0_; have HB := n1_; have BK226 := n2_; have GW226 := n3_; have GE226 := n4_; have NB225_226 := n5_; have NB226_225 := n6_; clear n0_ n1_ n2_ n3_ n4_ n5_ n6_; clear hb hbox hg) | ((with_reducible refine gate_callee (f := 54) rfl ?_); refine gsL (some 11) Tryz.func54 #[.string a1, .int .u8 35] ?_; (with_reducible refine (spec_l1Cut.calls k a1 35 t227 t228 t229 _ A3.out).mono ?_); rintro e w' ⟨rfl, ⟨nd, rfl⟩⟩; refine ⟨_, rfl, ?_⟩))
 (try simp only [Act.put, List.setIfInBounds_toArray, List.set_cons_zero, List.set_cons_succ])
 go_cut [15] (fun v15 wc => ∃ (kq : Nat) (x15_3 : Bool), v15 = .bool x15_3 ∧ Aside0 (spec_AddrJoin.j0 kq t227 x15_3 a0_0 l0_1 a0_2 a0_3 = some (r1, r2, r3, r4, r5)) ∧ Aside0 (kq ≤ k) ∧ Aside0 (wc.heap[gb225]? = some (.cells #[.string a0_0, (.slice A0_1 l0_1.length c0_1), .bool a0_2, .string a0_3] 27 (0, 0))) ∧ Aside0 (wc.heap[gb226]? = some (.cells #[.string (⟨#[]⟩ : ByteArray), (.slice none 0 0), .bool false, .string (⟨#[]⟩ : ByteArray)] 27 (0, 0))) ∧ Aside0 (Below w.heap.size w wc))
 case first =>
  have H := HC4.out;clear HC4;replace H := bindA H;obtain ⟨t230, A7, H⟩ := H;by_cases c8 : t230 = true
  ·subst c8
   rw [if_pos rfl] at H;have H' := Aside0.mk H;clear H;have hnb9 := NB225_226.out;have hnc9 := NB226_225.out;obtain ⟨_, _, _, _, _, _, _, _⟩ := cf4 BK225;go_wp2_with (first | ((with_reducible refine gate_callee (f := 20) rfl ?_); refine gsL (some 17) Tryz.func20 #[.agg #[.string a0_0, .slice A0_1 l0_1.length c0_1, .bool a0_2, .string a0_3]] ?_; (with_reducible refine (spec_AddrOk.calls k a0_0 _ _ l0_1 a0_2 a0_3 true _ ?side1 ?side2 A7.out).mono ?_); (case side1 => exact (zz7 HR0_1 HB)); (case side2 => exact HC0_1.out); rintro e w11 ⟨rfl, hb⟩; refine ⟨_, rfl, ?_⟩; have n0_ := Aside0.mk (blk_below (zz27 BK225) hb); have n1_ := Aside0.mk (blk_below (zz27 BK226) hb); have n2_ := Aside0.mk (below_step (zz38 HB GE225 GE226) hb); clear BK225; clear BK226; clear HB; have BK225 := n0_; have BK226 := n1_; have HB := n2_; clear n0_ n1_ n2_; (try clear hb)))
   go_meet
   case rel => exact ⟨_, (decide ((a1.size : Int) > 60)), zz0, H', ⟨zz18⟩, ⟨(zz27 BK225)⟩, ⟨(zz27 BK226)⟩, ⟨(zz38 HB GE225 GE226)⟩⟩
  ·replace c8 := Bool.eq_false_iff.mpr c8
   subst c8;rw [if_neg (show ¬ (false = true) by decide)] at H;have H' := Aside0.mk H;clear H;have hnb12 := NB225_226.out;have hnc12 := NB226_225.out;obtain ⟨_, _, _, _, _, _, _, _⟩ := cf4 BK225;go_wp2_with (first | ((with_reducible refine gate_callee (f := 20) rfl ?_); refine gsL (some 17) Tryz.func20 #[.agg #[.string a0_0, .slice A0_1 l0_1.length c0_1, .bool a0_2, .string a0_3]] ?_; (with_reducible refine (spec_AddrOk.calls k a0_0 _ _ l0_1 a0_2 a0_3 false _ ?side1 ?side2 A7.out).mono ?_); (case side1 => exact (zz7 HR0_1 HB)); (case side2 => exact HC0_1.out); rintro e w14 ⟨rfl, hb⟩; refine ⟨_, rfl, ?_⟩; have n0_ := Aside0.mk (blk_below (zz27 BK225) hb); have n1_ := Aside0.mk (blk_below (zz27 BK226) hb); have n2_ := Aside0.mk (below_step (zz38 HB GE225 GE226) hb); clear BK225; clear BK226; clear HB; have BK225 := n0_; have BK226 := n1_; have HB := n2_; clear n0_ n1_ n2_; (try clear hb)))
   go_meet
   case rel => exact ⟨_, (true), zz0, H', ⟨zz18⟩, ⟨(zz27 BK225)⟩, ⟨(zz27 BK226)⟩, ⟨(zz38 HB GE225 GE226)⟩⟩
 case rest =>
  clear HC4;obtain ⟨kq, x15_3, rfl, HA, HJ3, BK225, BK226, HB⟩ := hcut;cases kq with
  | zero => exact absurd HA.out (by simp [spec_AddrJoin.j0])
  | succ kj3 =>
   have H := HA.out;clear HA;simp only [spec_AddrJoin.j0] at H
   by_cases c15 : x15_3 = true
   ·subst c15
    rw [if_pos rfl] at H;simp only [Option.some.injEq, Prod.mk.injEq] at H
    obtain ⟨rfl, rfl, rfl, rfl, rfl⟩ := H;have hnb16 := NB226_225.out;have hnc16 := NB225_226.out;obtain ⟨_, _, _, _, _, _, _, _⟩ := cf4 BK226;go_wp2
    refine bodyPost_ret (results_ct rfl _ _ gb226 27 #[.string (⟨#[]⟩ : ByteArray), .slice none 0 0, .bool false, .string (⟨#[]⟩ : ByteArray)] (0, 0) _ rfl (zz42 BK226) Tryz.underlying27 rfl (by kernel_rfl)) rfl ?_;exact ⟨_, zz5, zz43, (zz38 HB GE225 GE226)⟩
   ·replace c15 := Bool.eq_false_iff.mpr c15
    subst c15;rw [if_neg (show ¬ (false = true) by decide)] at H;have HC18 := Aside0.mk H;clear H;go_upto_region 4 with (fail)
    go_cut [25] (fun v25 wc => ∃ (kq : Nat) (x25_17 : Bool), v25 = .bool x25_17 ∧ Aside0 (spec_AddrJoin.j1 kq t227 x25_17 a0_0 l0_1 a0_2 a0_3 = some (r1, r2, r3, r4, r5)) ∧ Aside0 (kq ≤ kj3) ∧ Aside0 (wc.heap[gb225]? = some (.cells #[.string a0_0, (.slice A0_1 l0_1.length c0_1), .bool a0_2, .string a0_3] 27 (0, 0))) ∧ Aside0 (wc.heap[gb226]? = some (.cells #[.string (⟨#[]⟩ : ByteArray), (.slice none 0 0), .bool false, .string (⟨#[]⟩ : ByteArray)] 27 (0, 0))) ∧ Aside0 (Below w.heap.size w wc))
    case first =>
     have H := HC18.out;clear HC18;by_cases c19 : (t227.size : Int) ≥ 2
     ·rw [if_pos c19] at H
      have c19b0 : decide (2 ≤ (t227.size : Int)) = true := decide_eq_true c19;have c19b1 : decide (2 ≤ t227.size) = true := decide_eq_true (by omega);clear c19;(first | rw [c19b0] | (simp only [i64_w, i32_w]; rw [c19b0]) | skip)
      by_cases c20 : 0 ≤ 2
      ·rw [if_pos c20] at H
       have c20b0 := eq_true c20;have c20b1 : decide (0 ≤ 2) = true := decide_eq_true c20;clear c20;by_cases c21 : 2 ≤ (t227.size : Int)
       ·rw [if_pos c21] at H
        have c21b0 := eq_true c21;have c21b1 : decide (2 ≤ (t227.size : Int)) = true := decide_eq_true c21;clear c21;have H' := Aside0.mk H;clear H;go_wp2
        go_meet
        case rel => exact ⟨_, (((t227.extract 0 2).toList == ([47, 47] : List UInt8))), zz0, H', ⟨(zz11 HJ3)⟩, ⟨(zz27 BK225)⟩, ⟨(zz27 BK226)⟩, ⟨(zz38 HB GE225 GE226)⟩⟩
       ·rw [if_neg c21] at H
        exact absurd H (by simp)
      ·rw [if_neg c20] at H
       exact absurd H (by simp)
     ·rw [if_neg c19] at H
      have c19b0 : decide (2 ≤ (t227.size : Int)) = false := decide_eq_false c19;have c19b1 : decide (2 ≤ t227.size) = false := decide_eq_false (by omega);clear c19;(first | rw [c19b0] | (simp only [i64_w, i32_w]; rw [c19b0]) | skip)
      have H' := Aside0.mk H;clear H;go_wp2
      go_meet
      case rel => exact ⟨_, (false), zz0, H', ⟨(zz11 HJ3)⟩, ⟨(zz27 BK225)⟩, ⟨(zz27 BK226)⟩, ⟨(zz38 HB GE225 GE226)⟩⟩
    case rest =>
     clear HC18;obtain ⟨kq, x25_17, rfl, HA, HJ17, BK225, BK226, HB⟩ := hcut;cases kq with
     | zero => exact absurd HA.out (by simp [spec_AddrJoin.j1])
     | succ kj17 =>
      have H := HA.out;clear HA;simp only [spec_AddrJoin.j1] at H
      by_cases c22 : x25_17 = true
      ·subst c22
       rw [if_pos rfl] at H;by_cases c23 : 2 ≤ (t227.size : Int)
       ·rw [if_pos c23] at H
        have c23b0 := eq_true c23;have c23b1 : decide (2 ≤ (t227.size : Int)) = true := decide_eq_true c23;clear c23;replace H := bindA H;obtain ⟨⟨t231, t232, t235, t236, t237⟩, A24, H⟩ := H;try dsimp -simprocs only at H
        simp only [Option.some.injEq, Prod.mk.injEq] at H
        obtain ⟨rfl, rfl, rfl, rfl, rfl⟩ := H;go_wp2_with (first | ((with_reducible refine gate_callee (f := 55) rfl ?_); refine gsL (some 36) Tryz.func55 #[.string (t227.extract 2 t227.size)] ?_; (with_reducible refine (spec_l1Whole.calls kj17 (t227.extract 2 t227.size) t231 t232 t235 t236 t237 _ A24.out).mono ?_); rintro e w25 ⟨v233, rfl, ho0, hb⟩; refine ⟨_, rfl, ?_⟩; have n0_ := Aside0.mk (Kd.R_lower ho0 (below_size (zz38 HB GE225 GE226))); have n1_ := Aside0.mk (blk_below (zz27 BK225) hb); have n2_ := Aside0.mk (blk_below (zz27 BK226) hb); have n3_ := Aside0.mk (below_step (zz38 HB GE225 GE226) hb); clear BK225; clear BK226; clear HB; have HO234 := n0_; have BK225 := n1_; have BK226 := n2_; have HB := n3_; clear n0_ n1_ n2_ n3_; (try clear hb ho0); have hnb26 := NB226_225.out; have hnc26 := NB225_226.out; obtain ⟨_, _, _, _, _, _, _, _⟩ := cf4 BK226; obtain ⟨Ao28, co28, eo28⟩ := Kd.R_slice HO234.out; subst eo28))
        refine bodyPost_ret (results_ct rfl _ _ gb226 27 #[.string t231, .slice Ao28 t232.length co28, .bool t235, .string t236] (0, 0) _ rfl (zz42 BK226) Tryz.underlying27 rfl (by kernel_rfl)) rfl ?_;exact ⟨_, zz5, (zz51 (rt HO234 BK226)), (zz38 HB GE225 GE226)⟩
       ·rw [if_neg c23] at H
        exact absurd H (by simp)
      ·replace c22 := Bool.eq_false_iff.mpr c22
       subst c22;rw [if_neg (show ¬ (false = true) by decide)] at H;by_cases c29 : t227.toList = ([] : List UInt8)
       ·rw [if_pos c29] at H
        have c29b0 : (t227.toList == ([] : List UInt8)) = true := beq_iff_eq.mpr c29;have c29b1 : (t227.toList != ([] : List UInt8)) = false := bne_eq_false_iff_eq.mpr c29;clear c29;obtain ⟨y238, Ny238⟩ := toY (([] : List ByteArray));(first | with_reducible replace H := bindZ Ny238 H | rw [← Ny238.out] at H | skip)
        by_cases c30 : y238.length + l0_1.length < 8796093022208
        ·rw [if_pos c30] at H
         have LMc30 := Aside0.mk c30;clear c30;obtain ⟨y241, Ny241⟩ := toY (y238 ++ l0_1);(first | with_reducible replace H := bindZ Ny241 H | rw [← Ny241.out] at H | skip)
         simp only [Option.some.injEq, Prod.mk.injEq] at H
         obtain ⟨rfl, rfl, rfl, rfl, rfl⟩ := H;go_wp2_with (first | ((with_reducible refine gate_dst (N := 42) rfl ?_); (try (refine gate_guard (by rfl) ?_; dsimp only)); refine Kd.R_lit Kd.string _ 9 ?hg (N := 42) ?hd (xs := ([] : List ByteArray)) (inner := []) (ok := fun _ => True) (okp := fun _ => True) ?hr ?hp (fun _ hk => hk) trivial (Below.refl _ _) (Nat.le_refl _) (by simp) ?_; (case hd => rfl); (case hg => rfl); (case hr => exact zz8); (case hp => exact (Reps.none _ _)); intro v239 w31 ho32 hb hg_ hnew_; clear hg_ hnew_; (first | rw [← Ny238.out] at ho32 | (simp only [Int.reduceToNat] at ho32; rw [← Ny238.out] at ho32)); have n0_ := Aside0.mk (Kd.R_lower ho32 (below_size (zz38 HB GE225 GE226))); have n1_ := Aside0.mk (blk_below (zz27 BK225) hb); have n2_ := Aside0.mk (blk_below (zz27 BK226) hb); have n3_ := Aside0.mk (below_step (zz38 HB GE225 GE226) hb); clear BK225; clear BK226; clear HB; have HO240 := n0_; have BK225 := n1_; have BK226 := n2_; have HB := n3_; clear n0_ n1_ n2_ n3_; clear hb ho32; have hnb33 := NB225_226.out; have hnc33 := NB226_225.out; obtain ⟨_, _, _, _, _, _, _, _⟩ := cf4 BK225) | ((with_reducible refine gate_builtin (b := .append) (xs := #[.tmp 42, .tmp 44]) rfl ?_); (try (refine gate_guard (by rfl) ?_; dsimp only)); at_builtin; refine Kd.R_append_rows Kd.string (w0 := w) w.heap.size rfl (.tmp 42) (.tmp 44) 22 9 (.string ⟨#[]⟩) 16 rfl Tryz.underlying22 info9 rfl (by decide) (by omega) v239 y238 l0_1 _ _ _ (fun _ => True) (fun _ => False) rfl rfl ?aO ?aR (fun _ _ h => h) (fun _ h => h.elim) ?aF ?aB ?aS ?aL ?_; (case aR => exact (zz7 HR0_1 HB)); (case aB => exact (zz38 HB GE225 GE226)); (case aF => exact (fun _ _ => trivial)); (case aO => exact (zz9 HO240)); (case aS => exact (below_size (zz38 HB GE225 GE226))); (case aL => exact (zz3 LMc30)); intro v242 w35 ho hb hg hat; rw [← Ny241.out] at ho; have n0_ := Aside0.mk (blk_grown (zz27 BK225) hg (Kd.R_ne HO240.out BK225.out (by decide))); have n1_ := Aside0.mk (blk_grown (zz27 BK226) hg (Kd.R_ne HO240.out BK226.out (by decide))); have n2_ := Aside0.mk (hb); have n3_ := Aside0.mk (ho); clear BK225; clear BK226; clear HB; clear HO240; have BK225 := n0_; have BK226 := n1_; have HB := n2_; have HO243 := n3_; clear n0_ n1_ n2_ n3_; clear ho hb hg hat; obtain ⟨Ao36, co36, eo36⟩ := Kd.R_slice HO243.out; subst eo36; obtain ⟨_, _, _, _, _, _, _, _⟩ := cf4 BK225; obtain ⟨_, _, _, _, _, _, _, _⟩ := cf4 BK226))
         refine bodyPost_ret (results_ct rfl _ _ gb226 27 #[.string a0_0, .slice Ao36 y241.length co36, .bool a0_2, .string a0_3] (0, 0) _ rfl (zz50 BK226 NB226_225) Tryz.underlying27 rfl (by kernel_rfl)) rfl ?_;exact ⟨_, zz5, (zz51 (rt (rt HO243 BK225) BK226)), (zz38 HB GE225 GE226)⟩
        ·rw [if_neg c30] at H
         exact absurd H (by simp)
       ·rw [if_neg c29] at H
        have c29b0 : (t227.toList == ([] : List UInt8)) = false := beq_eq_false_iff_ne.mpr c29;have c29b1 : (t227.toList != ([] : List UInt8)) = true := bne_iff_ne.mpr c29;by_cases c39 : 0 < (t227.size : Int)
        ·rw [if_pos c39] at H
         have c39b0 : decide (0 < (t227.size : Int)) = true := decide_eq_true c39;have c39b1 : decide (0 < t227.size) = true := decide_eq_true (by omega);clear c39;by_cases c41 : (bt t227 0) = 47
         ·rw [if_pos c41] at H
          have c41b0 : ((bt t227 0) == 47) = true := beq_iff_eq.mpr c41;have c41b1 : ((bt t227 0) != 47) = false := bne_eq_false_iff_eq.mpr c41;clear c41;replace H := bindA H;obtain ⟨⟨t244, t245, t248, t249, t250⟩, A42, H⟩ := H;try dsimp -simprocs only at H
          simp only [Option.some.injEq, Prod.mk.injEq] at H
          obtain ⟨rfl, rfl, rfl, rfl, rfl⟩ := H;have p40 : 0 ≤ (0 : Int) := (by omega);have q40 : 0 < t227.size := (by have : (0 : Int) < (t227.size : Int) := ofD; omega);have hx40 : ∀ h : 0 < t227.size, ((t227[0]'h).toNat : Int) = bt t227 0 := bt_at t227 0;clear p40;have qi40 : (0 < (t227.size : Int)) = True := eq_true ofD;replace q40 := eq_true q40;have hnb43 := NB225_226.out;have hnc43 := NB226_225.out;obtain ⟨_, _, _, _, _, _, _, _⟩ := cf4 BK225;go_wp2_with (first | ((with_reducible refine gate_callee (f := 56) rfl ?_); refine gsL (some 56) Tryz.func56 #[.agg #[.string a0_0, .slice none 0 0, .bool false, .string (⟨#[]⟩ : ByteArray)], .string t227] ?_; (refine (spec_l1Way.calls kj17 a0_0 _ _ ([] : List ByteArray) false (⟨#[]⟩ : ByteArray) t227 t244 t245 t248 t249 t250 _ ?side1 ?side2 A42.out).mono ?_); (case side1 => exact Kd.C_nil _ _); (case side2 => exact Nat.le_refl _); rintro e w45 ⟨v246, rfl, ho0, hb⟩; refine ⟨_, rfl, ?_⟩; have n0_ := Aside0.mk (Kd.R_lower ho0 (below_size (zz38 HB GE225 GE226))); have n1_ := Aside0.mk (blk_below (zz27 BK225) hb); have n2_ := Aside0.mk (blk_below (zz27 BK226) hb); have n3_ := Aside0.mk (below_step (zz38 HB GE225 GE226) hb); clear BK225; clear BK226; clear HB; have HO247 := n0_; have BK225 := n1_; have BK226 := n2_; have HB := n3_; clear n0_ n1_ n2_ n3_; (try clear hb ho0); obtain ⟨_, _, _, _, _, _, _, _⟩ := cf4 BK226; obtain ⟨Ao47, co47, eo47⟩ := Kd.R_slice HO247.out; subst eo47))
          refine bodyPost_ret (results_ct rfl _ _ gb226 27 #[.string t244, .slice Ao47 t245.length co47, .bool t248, .string t249] (0, 0) _ rfl (zz42 BK226) Tryz.underlying27 rfl (by kernel_rfl)) rfl ?_;exact ⟨_, zz5, (zz51 (rt HO247 BK226)), (zz38 HB GE225 GE226)⟩
         ·rw [if_neg c41] at H
          have c41b0 : ((bt t227 0) == 47) = false := beq_eq_false_iff_ne.mpr c41;have c41b1 : ((bt t227 0) != 47) = true := bne_iff_ne.mpr c41;by_cases c49 : (bt t227 0) = 63
          ·rw [if_pos c49] at H
           have c49b0 : ((bt t227 0) == 63) = true := beq_iff_eq.mpr c49;have c49b1 : ((bt t227 0) != 63) = false := bne_eq_false_iff_eq.mpr c49;clear c49;replace H := bindA H;obtain ⟨⟨t251, t252, t255, t256, t257⟩, A50, H⟩ := H;try dsimp -simprocs only at H
           simp only [Option.some.injEq, Prod.mk.injEq] at H
           obtain ⟨rfl, rfl, rfl, rfl, rfl⟩ := H;have p40 : 0 ≤ (0 : Int) := (by omega);have q40 : 0 < t227.size := (by have : (0 : Int) < (t227.size : Int) := ofD; omega);have hx40 : ∀ h : 0 < t227.size, ((t227[0]'h).toNat : Int) = bt t227 0 := bt_at t227 0;clear p40;have qi40 : (0 < (t227.size : Int)) = True := eq_true ofD;replace q40 := eq_true q40;have p48 : 0 ≤ (0 : Int) := (by omega);have q48 : 0 < t227.size := (by have : (0 : Int) < (t227.size : Int) := ofD; omega);have hx48 : ∀ h : 0 < t227.size, ((t227[0]'h).toNat : Int) = bt t227 0 := bt_at t227 0;clear p48;have qi48 : (0 < (t227.size : Int)) = True := eq_true ofD;replace q48 := eq_true q48;have hnb51 := NB225_226.out;have hnc51 := NB226_225.out;obtain ⟨_, _, _, _, _, _, _, _⟩ := cf4 BK225;go_wp2_with (first | ((with_reducible refine gate_callee (f := 56) rfl ?_); refine gsL (some 69) Tryz.func56 #[.agg #[.string a0_0, .slice A0_1 l0_1.length c0_1, .bool false, .string (⟨#[]⟩ : ByteArray)], .string t227] ?_; (with_reducible refine (spec_l1Way.calls kj17 a0_0 _ _ l0_1 false (⟨#[]⟩ : ByteArray) t227 t251 t252 t255 t256 t257 _ ?side1 ?side2 A50.out).mono ?_); (case side1 => exact (zz7 HR0_1 HB)); (case side2 => exact HC0_1.out); rintro e w53 ⟨v253, rfl, ho0, hb⟩; refine ⟨_, rfl, ?_⟩; have n0_ := Aside0.mk (Kd.R_lower ho0 (below_size (zz38 HB GE225 GE226))); have n1_ := Aside0.mk (blk_below (zz27 BK225) hb); have n2_ := Aside0.mk (blk_below (zz27 BK226) hb); have n3_ := Aside0.mk (below_step (zz38 HB GE225 GE226) hb); clear BK225; clear BK226; clear HB; have HO254 := n0_; have BK225 := n1_; have BK226 := n2_; have HB := n3_; clear n0_ n1_ n2_ n3_; (try clear hb ho0); obtain ⟨_, _, _, _, _, _, _, _⟩ := cf4 BK226; obtain ⟨Ao55, co55, eo55⟩ := Kd.R_slice HO254.out; subst eo55))
           refine bodyPost_ret (results_ct rfl _ _ gb226 27 #[.string t251, .slice Ao55 t252.length co55, .bool t255, .string t256] (0, 0) _ rfl (zz42 BK226) Tryz.underlying27 rfl (by kernel_rfl)) rfl ?_;exact ⟨_, zz5, (zz51 (rt HO254 BK226)), (zz38 HB GE225 GE226)⟩
          ·rw [if_neg c49] at H
           have c49b0 : ((bt t227 0) == 63) = false := beq_eq_false_iff_ne.mpr c49;have c49b1 : ((bt t227 0) != 63) = true := bne_iff_ne.mpr c49;replace H := bindA H;obtain ⟨⟨t258, t259, t262, t263⟩, A56, H⟩ := H;try dsimp -simprocs only at H
           replace H := bindA H;obtain ⟨⟨t264, t265, t268, t269, t270⟩, A57, H⟩ := H;try dsimp -simprocs only at H
           simp only [Option.some.injEq, Prod.mk.injEq] at H
           obtain ⟨rfl, rfl, rfl, rfl, rfl⟩ := H;have p40 : 0 ≤ (0 : Int) := (by omega);have q40 : 0 < t227.size := (by have : (0 : Int) < (t227.size : Int) := ofD; omega);have hx40 : ∀ h : 0 < t227.size, ((t227[0]'h).toNat : Int) = bt t227 0 := bt_at t227 0;clear p40;have qi40 : (0 < (t227.size : Int)) = True := eq_true ofD;replace q40 := eq_true q40;have p48 : 0 ≤ (0 : Int) := (by omega);have q48 : 0 < t227.size := (by have : (0 : Int) < (t227.size : Int) := ofD; omega);have hx48 : ∀ h : 0 < t227.size, ((t227[0]'h).toNat : Int) = bt t227 0 := bt_at t227 0;clear p48;have qi48 : (0 < (t227.size : Int)) = True := eq_true ofD;replace q48 := eq_true q48;have hnb58 := NB225_226.out;have hnc58 := NB226_225.out;obtain ⟨_, _, _, _, _, _, _, _⟩ := cf4 BK225;go_wp2_with (first | ((with_reducible refine gate_callee (f := 57) rfl ?_); refine gsL (some 73) Tryz.func57 #[.agg #[.string a0_0, .slice A0_1 l0_1.length c0_1, .bool a0_2, .string a0_3]] ?_; (with_reducible refine (spec_l1Up.calls a0_0 _ _ l0_1 a0_2 a0_3 t258 t259 t262 t263 _ ?side1 ?side2 A56.out).mono ?_); (case side1 => exact (zz7 HR0_1 HB)); (case side2 => exact HC0_1.out); rintro e w60 ⟨v260, rfl, ho0, hb⟩; refine ⟨_, rfl, ?_⟩; have n0_ := Aside0.mk (Kd.R_lower ho0 (below_size (zz38 HB GE225 GE226))); have n1_ := Aside0.mk (blk_below (zz27 BK225) hb); have n2_ := Aside0.mk (blk_below (zz27 BK226) hb); have n3_ := Aside0.mk (below_step (zz38 HB GE225 GE226) hb); clear BK225; clear BK226; clear HB; have HO261 := n0_; have BK225 := n1_; have BK226 := n2_; have HB := n3_; clear n0_ n1_ n2_ n3_; (try clear hb ho0); obtain ⟨Ao61, co61, eo61⟩ := Kd.R_slice HO261.out; subst eo61) | ((with_reducible refine gate_callee (f := 56) rfl ?_); refine gsL (some 75) Tryz.func56 #[.agg #[.string t258, .slice Ao61 t259.length co61, .bool t262, .string t263], .string t227] ?_; (with_reducible refine (spec_l1Way.calls kj17 t258 _ _ t259 t262 t263 t227 t264 t265 t268 t269 t270 _ ?side1 ?side2 A57.out).mono ?_); (case side1 => exact (zz44 HO261)); (case side2 => exact (Kd.R_reads' HO261.out).2.1); rintro e w62 ⟨v266, rfl, ho0, hb⟩; refine ⟨_, rfl, ?_⟩; have n0_ := Aside0.mk (Kd.R_elder' (zz9 HO261) (Kd.R_base ho0) hb); have n1_ := Aside0.mk (Kd.R_lower (Kd.R_new' ho0 (Kd.R_lt (zz9 HO261))) (below_size (zz38 HB GE225 GE226))); have n2_ := Aside0.mk (blk_below (zz27 BK225) hb); have n3_ := Aside0.mk (blk_below (zz27 BK226) hb); have n4_ := Aside0.mk (below_step (zz38 HB GE225 GE226) hb); clear HO261; clear BK225; clear BK226; clear HB; have HO261 := n0_; have HO267 := n1_; have BK225 := n2_; have BK226 := n3_; have HB := n4_; clear n0_ n1_ n2_ n3_ n4_; (try clear hb ho0); obtain ⟨_, _, _, _, _, _, _, _⟩ := cf4 BK226; obtain ⟨Ao64, co64, eo64⟩ := Kd.R_slice HO267.out; subst eo64))
           refine bodyPost_ret (results_ct rfl _ _ gb226 27 #[.string t264, .slice Ao64 t265.length co64, .bool t268, .string t269] (0, 0) _ rfl (zz42 BK226) Tryz.underlying27 rfl (by kernel_rfl)) rfl ?_;exact ⟨_, zz5, (zz51 (rt HO267 BK226)), (zz38 HB GE225 GE226)⟩
        ·rw [if_neg c39] at H
         exact absurd H (by simp)
def spec_PageLinks.l0 : Nat → List ByteArray → List ByteArray → Int → Option (List ByteArray)
 | 0, _, _, _ => none
 | k + 1, x3, x4, x5 => if x5 < (x3.length : Int) then (if 0 ≤ x5 then ((spec_l3Head.f (rdOf ByteArray.empty x3 x5)).bind fun t278 => (if t278 = 33 then (spec_PageLinks.l0 k x3 x4 (wrap64 (x5 + 1))) else ((spec_l3Head.f (rdOf ByteArray.empty x3 x5)).bind fun t280 => (if t280 = 64 then (spec_PageLinks.l0 k x3 x4 (wrap64 (x5 + 1))) else (if x4.length < 8796093022208 then (spec_PageLinks.l0 k x3 (x4 ++ [rdOf ByteArray.empty x3 x5]) (wrap64 (x5 + 1))) else (none)))))) else (none)) else (some x4)
def spec_PageLinks.f (k : Nat) (a0 : ByteArray) : Option (List ByteArray) := (spec_l3Marks.f k a0).bind fun t271 => (spec_PageLinks.l0 k t271 (([] : List ByteArray)) 0)
theorem spec_PageLinks.mono_l : ∀ k, (∀ y0 y1 y2, LeO (spec_PageLinks.l0 k y0 y1 y2) (spec_PageLinks.l0 (k + 1) y0 y1 y2))
 | 0 => fun _ _ _ r h => by simp [spec_PageLinks.l0] at h
 | k + 1 => by
  have ih0 := spec_PageLinks.mono_l k
  ·intro y0 y1 y2
   unfold spec_PageLinks.l0
   repeat' first | (with_reducible first | exact ih0 _ _ _ | exact spec_l3Marks.mono _ _ | exact LeO.refl _ | exact LeO.none _ | refine LeO.ite ?_ ?_ | refine LeO.bind ?_ (fun _ => ?_)) | exact LeO.none _ | refine LeO.ite ?_ ?_ | refine LeO.bind ?_ (fun _ => ?_)
set_option maxHeartbeats 8000000 in
set_option maxRecDepth 100000 in
theorem spec_PageLinks.calls (k : Nat) (a0 : ByteArray) (r : List ByteArray) (w : World) (h : spec_PageLinks.f k a0 = some r) :
  Calls Tryz.prog 30 #[.string a0] w fun e w' => ∃ v0_ : Value, e = .returned (v0_) ∧ Kd.R Kd.string 9 w' w.heap.size (fun _ => True) v0_ r ∧ Below w.heap.size w w' := by
 have HB := Aside0.mk (Below.refl w.heap.size w);have H : ((spec_l3Marks.f k a0).bind fun t271 => (spec_PageLinks.l0 k t271 (([] : List ByteArray)) 0)) = some r := h;clear h;replace H := bindA H;obtain ⟨t271, A2, H⟩ := H;obtain ⟨y274, Ny274⟩ := toY (([] : List ByteArray));(first | with_reducible replace H := bindZ Ny274 H | rw [← Ny274.out] at H | skip)
 have H' := Aside0.mk H;clear H;go_enter Tryz.func30, Tryz.ntmps30;go_wp2_with (first | ((with_reducible refine gate_callee (f := 40) rfl ?_); refine gsL (some 7) Tryz.func40 #[.string a0] ?_; (with_reducible refine (spec_l3Marks.calls k a0 t271 _ A2.out).mono ?_); rintro e w3 ⟨v272, rfl, ho0, hb⟩; refine ⟨_, rfl, ?_⟩; have n0_ := Aside0.mk (Kd.R_lower ho0 (below_size (zz4 HB))); have n1_ := Aside0.mk (below_step (zz4 HB) hb); clear HB; have HO273 := n0_; have HB := n1_; clear n0_ n1_; (try clear hb ho0)) | ((with_reducible refine gate_dst (N := 8) rfl ?_); refine Kd.R_lit Kd.string _ 9 ?hg (N := 8) ?hd (xs := ([] : List ByteArray)) (inner := []) (ok := fun _ => True) (okp := fun _ => True) ?hr ?hp (fun _ hk => hk) trivial (Below.refl _ _) (Nat.le_refl _) (by simp) ?_; (case hd => rfl); (case hg => rfl); (case hr => exact zz8); (case hp => exact (Reps.none _ _)); intro v275 w4 ho5 hb hg_ hnew_; clear hg_ hnew_; (first | rw [← Ny274.out] at ho5 | (simp only [Int.reduceToNat] at ho5; rw [← Ny274.out] at ho5)); have n0_ := Aside0.mk (Kd.R_elder' (zz9 HO273) (Kd.R_base ho5) hb); have n1_ := Aside0.mk (Kd.R_lower (Kd.R_new' ho5 (Kd.R_lt (zz9 HO273))) (below_size (zz4 HB))); have n2_ := Aside0.mk (below_step (zz4 HB) hb); clear HO273; clear HB; have HO273 := n0_; have HO276 := n1_; have HB := n2_; clear n0_ n1_ n2_; clear hb ho5))
 go_loopg [4, 5] k (fun kq v4 v5 w' => ∃ (x4_1 : List ByteArray) (x5_1 : Int), v5 = .int .i64 x5_1 ∧ Aside0 (spec_PageLinks.l0 kq t271 x4_1 x5_1 = some r) ∧ Aside0 (kq ≤ k) ∧ Aside0 (Kd.R Kd.string 9 w' w.heap.size (fun k_ => some k_ ≠ (v4 : Value).ownBlock) v272 t271) ∧ Aside0 (Kd.R Kd.string 9 w' w.heap.size (fun k_ => some k_ ≠ (v272 : Value).ownBlock) v4 x4_1) ∧ Aside0 (Below w.heap.size w w'))
 case atStart => exact ⟨(y274), (0), zz0, H', ⟨Nat.le_refl _⟩, ⟨(zz39 HO273)⟩, ⟨(zz39 HO276)⟩, ⟨(zz4 HB)⟩⟩
 case round =>
  clear H';obtain ⟨x4_1, x5_1, rfl, HA, HK1, HO_3, HO_4, HB⟩ := hrel;cases gk with
  | zero => exact absurd HA.out (by simp [spec_PageLinks.l0])
  | succ k1 =>
   have H := HA.out;clear HA;simp only [spec_PageLinks.l0] at H
   by_cases c6 : x5_1 < (t271.length : Int)
   ·rw [if_pos c6] at H
    have c6b0 : decide (x5_1 < (t271.length : Int)) = true := decide_eq_true c6;clear c6;by_cases c7 : 0 ≤ x5_1
    ·rw [if_pos c7] at H
     have c7b0 : decide (0 ≤ x5_1) = true := decide_eq_true c7;clear c7;replace H := bindA H;obtain ⟨t278, A8, H⟩ := H;by_cases c9 : t278 = 33
     ·rw [if_pos c9] at H
      have c9b0 : (t278 == 33) = true := beq_iff_eq.mpr c9;have c9b1 : (t278 != 33) = false := bne_eq_false_iff_eq.mpr c9;clear c9;have H' := Aside0.mk H;clear H;obtain ⟨Ao10, co10, eo10⟩ := Kd.R_slice HO_3.out;subst eo10;have p277 : 0 ≤ (x5_1 : Int) := ofD;have q277 : x5_1 < (t271.length : Int) := ofD;obtain ⟨ad277, e277, hx277_0⟩ := Kd.at_string (Kd.R_reads' HO_3.out).2.2 x5_1 p277 q277;cases e277
      replace p277 := eq_true p277;replace q277 := eq_true q277;go_wp2_with (first | ((with_reducible refine gate_callee (f := 41) rfl ?_); refine gsL (some 19) Tryz.func41 #[.string (rdOf ByteArray.empty t271 x5_1)] ?_; (with_reducible refine (spec_l3Head.calls (rdOf ByteArray.empty t271 x5_1) t278 _ A8.out).mono ?_); rintro e w' ⟨rfl, ⟨nd, rfl⟩⟩; refine ⟨_, rfl, ?_⟩))
      go_roundg k1
      case measure => have := HK1.out; omega
      case rel => exact ⟨(x4_1), (wrap64 (x5_1 + 1)), zz0, H', ⟨(zz3 HK1)⟩, ⟨(zz9 HO_3)⟩, ⟨(zz9 HO_4)⟩, ⟨(zz4 HB)⟩⟩
     ·rw [if_neg c9] at H
      have c9b0 : (t278 == 33) = false := beq_eq_false_iff_ne.mpr c9;have c9b1 : (t278 != 33) = true := bne_iff_ne.mpr c9;replace H := bindA H;obtain ⟨t280, A11, H⟩ := H;by_cases c12 : t280 = 64
      ·rw [if_pos c12] at H
       have c12b0 : (t280 == 64) = true := beq_iff_eq.mpr c12;have c12b1 : (t280 != 64) = false := bne_eq_false_iff_eq.mpr c12;clear c12;have H' := Aside0.mk H;clear H;obtain ⟨Ao13, co13, eo13⟩ := Kd.R_slice HO_3.out;subst eo13;have p277 : 0 ≤ (x5_1 : Int) := ofD;have q277 : x5_1 < (t271.length : Int) := ofD;obtain ⟨ad277, e277, hx277_0⟩ := Kd.at_string (Kd.R_reads' HO_3.out).2.2 x5_1 p277 q277;cases e277
       replace p277 := eq_true p277;replace q277 := eq_true q277;go_wp2_with (first | ((with_reducible refine gate_callee (f := 41) rfl ?_); refine gsL (some 19) Tryz.func41 #[.string (rdOf ByteArray.empty t271 x5_1)] ?_; (with_reducible refine (spec_l3Head.calls (rdOf ByteArray.empty t271 x5_1) t278 _ A8.out).mono ?_); rintro e w' ⟨rfl, ⟨nd, rfl⟩⟩; refine ⟨_, rfl, ?_⟩; have p279 : 0 ≤ (x5_1 : Int) := ofD; have q279 : x5_1 < (t271.length : Int) := ofD; obtain ⟨ad279, e279, hx279_0⟩ := Kd.at_string (Kd.R_reads' HO_3.out).2.2 x5_1 p279 q279; obtain rfl : ad277 = ad279 := (by injection e279); replace p279 := eq_true p279; replace q279 := eq_true q279) | (go_at_call 41; (with_reducible refine (spec_l3Head.calls (rdOf ByteArray.empty t271 x5_1) t280 _ A11.out).mono ?_); rintro e w' ⟨rfl, ⟨nd, rfl⟩⟩))
       go_roundg k1
       case measure => have := HK1.out; omega
       case rel => exact ⟨(x4_1), (wrap64 (x5_1 + 1)), zz0, H', ⟨(zz3 HK1)⟩, ⟨(zz9 HO_3)⟩, ⟨(zz9 HO_4)⟩, ⟨(zz4 HB)⟩⟩
      ·rw [if_neg c12] at H
       have c12b0 : (t280 == 64) = false := beq_eq_false_iff_ne.mpr c12;have c12b1 : (t280 != 64) = true := bne_iff_ne.mpr c12;by_cases c14 : x4_1.length < 8796093022208
       ·rw [if_pos c14] at H
        have LMc14 := Aside0.mk c14;clear c14;obtain ⟨y282, Ny282⟩ := toY (x4_1 ++ [rdOf ByteArray.empty t271 x5_1]);(first | with_reducible replace H := bindZ Ny282 H | rw [← Ny282.out] at H | skip)
        have H' := Aside0.mk H;clear H;obtain ⟨Ao15, co15, eo15⟩ := Kd.R_slice HO_3.out;subst eo15;have p277 : 0 ≤ (x5_1 : Int) := ofD;have q277 : x5_1 < (t271.length : Int) := ofD;obtain ⟨ad277, e277, hx277_0⟩ := Kd.at_string (Kd.R_reads' HO_3.out).2.2 x5_1 p277 q277;cases e277
        replace p277 := eq_true p277;replace q277 := eq_true q277;go_wp2_with (first | ((with_reducible refine gate_callee (f := 41) rfl ?_); refine gsL (some 19) Tryz.func41 #[.string (rdOf ByteArray.empty t271 x5_1)] ?_; (with_reducible refine (spec_l3Head.calls (rdOf ByteArray.empty t271 x5_1) t278 _ A8.out).mono ?_); rintro e w' ⟨rfl, ⟨nd, rfl⟩⟩; refine ⟨_, rfl, ?_⟩; have p279 : 0 ≤ (x5_1 : Int) := ofD; have q279 : x5_1 < (t271.length : Int) := ofD; obtain ⟨ad279, e279, hx279_0⟩ := Kd.at_string (Kd.R_reads' HO_3.out).2.2 x5_1 p279 q279; obtain rfl : ad277 = ad279 := (by injection e279); replace p279 := eq_true p279; replace q279 := eq_true q279) | (go_at_call 41; (with_reducible refine (spec_l3Head.calls (rdOf ByteArray.empty t271 x5_1) t280 _ A11.out).mono ?_); rintro e w' ⟨rfl, ⟨nd, rfl⟩⟩; have p281 : 0 ≤ (x5_1 : Int) := ofD; have q281 : x5_1 < (t271.length : Int) := ofD; obtain ⟨ad281, e281, hx281_0⟩ := Kd.at_string (Kd.R_reads' HO_3.out).2.2 x5_1 p281 q281; obtain rfl : ad277 = ad281 := (by injection e281); replace p281 := eq_true p281; replace q281 := eq_true q281) | ((with_reducible refine gate_builtin (b := .append) (xs := #[.tmp 29, .tmp 34]) rfl ?_); at_builtin; refine Kd.R_append Kd.string (w0 := w) w.heap.size rfl (.tmp 29) (.tmp 34) 22 9 (.string ⟨#[]⟩) 16 rfl Tryz.underlying22 info9 rfl (by decide) (by omega) u4 x4_1 (rdOf ByteArray.empty t271 x5_1) [.string (rdOf ByteArray.empty t271 x5_1)] (fun k_ => some k_ ≠ (.slice (some ad277) t271.length co15 : Value).ownBlock) (fun _ => False) rfl rfl ?aP (fun _ hk => hk.elim) ?aF ?aO ?aB ?aS ?aL ?_; (case aP => exact rfl); (case aB => exact (zz4 HB)); (case aF => exact (fun k_ hk => Kd.fresh' (Kd.R_lt (zz9 HO_3)) k_ hk)); (case aO => exact (zz9 HO_4)); (case aS => exact (below_size (zz4 HB))); (case aL => exact (zz3 LMc14)); intro v283 w16 ho hb hg hat; rw [← Ny282.out] at ho; have n0_ := Aside0.mk (Kd.R_after (ok := (fun _ => True)) (zz41 HO_3) hg hat); have n1_ := Aside0.mk (hb); have n2_ := Aside0.mk (ho); clear HO_3; clear HB; clear HO_4; have HO_3 := n0_; have HB := n1_; have HO284 := n2_; clear n0_ n1_ n2_; clear ho hb hg hat))
        go_roundg k1
        case measure => have := HK1.out; omega
        case rel => exact ⟨(y282), (wrap64 (x5_1 + 1)), zz0, H', ⟨(zz3 HK1)⟩, ⟨(zz39 HO_3)⟩, ⟨(zz9 HO284)⟩, ⟨(zz4 HB)⟩⟩
       ·rw [if_neg c14] at H
        exact absurd H (by simp)
    ·rw [if_neg c7] at H
     exact absurd H (by simp)
   ·rw [if_neg c6] at H
    have c6b0 : decide (x5_1 < (t271.length : Int)) = false := decide_eq_false c6;clear c6;obtain rfl := Option.some.inj H;obtain ⟨Ao17, co17, eo17⟩ := Kd.R_slice HO_3.out;subst eo17;go_wp2
    go_ret
    exact ⟨_, zz5, (zz61 HO_4), (zz4 HB)⟩
def spec_l3Put.l0 : Nat → List ByteArray → ByteArray → Int → Option (List ByteArray)
 | 0, _, _, _ => none
 | k + 1, x0, x1, x5 => if x5 < (x0.length : Int) then (if 0 ≤ x5 then (if (rdOf ByteArray.empty x0 x5).toList = x1.toList then (some x0) else (spec_l3Put.l0 k x0 x1 (wrap64 (x5 + 1)))) else (none)) else (if x0.length < 8796093022208 then (some (x0 ++ [x1])) else (none))
def spec_l3Put.f (k : Nat) (l0 : List ByteArray) (a1 : ByteArray) : Option (List ByteArray) := spec_l3Put.l0 k l0 a1 0
set_option maxHeartbeats 8000000 in
set_option maxRecDepth 100000 in
theorem spec_l3Put.calls (k : Nat) (P0_ : Nat → Prop) (u9000_ : Value) (l0 : List ByteArray) (a1 : ByteArray) (r : List ByteArray) (w0 w : World) (hB : Below w0.heap.size w0 w) (ho0 : Kd.R Kd.string 9 w w0.heap.size P0_ u9000_ l0) (h : spec_l3Put.f k l0 a1 = some r) :
  Calls Tryz.prog 31 #[u9000_, .string a1] w fun e w' => ∃ v0_ : Value, e = .returned (v0_) ∧ Kd.R Kd.string 9 w' w0.heap.size (fun k_ => (P0_ k_ ∨ w.heap.size ≤ k_)) v0_ r ∧ Below w0.heap.size w0 w' ∧ Kept w w' (fun k_ => P0_ k_) := by
 have HO0 := Aside0.mk (show Kd.R Kd.string 9 w w0.heap.size (fun k_ => (P0_ k_ ∨ w.heap.size ≤ k_)) u9000_ l0 from Kd.R_mono ho0 (fun k_ hk => (.inl hk)));have HK := Aside0.mk (Kept.refl w (fun k_ => P0_ k_));have HW0 := Aside0.mk hB.size;have HB := Aside0.mk hB;clear hB;have H : (spec_l3Put.l0 k l0 a1 0) = some r := h;clear h;have H' := Aside0.mk H;clear H;go_enter Tryz.func31, Tryz.ntmps31;go_wp2
 go_loopg [5] k (fun kq v5 w' => ∃ (x5_1 : Int), v5 = .int .i64 x5_1 ∧ Aside0 (spec_l3Put.l0 kq l0 a1 x5_1 = some r) ∧ Aside0 (kq ≤ k) ∧ Aside0 (Kd.R Kd.string 9 w' w0.heap.size (fun k_ => (P0_ k_ ∨ w.heap.size ≤ k_)) u9000_ l0) ∧ Aside0 (Kept w w' (fun k_ => P0_ k_)) ∧ Aside0 (Below w0.heap.size w0 w'))
 case atStart => exact ⟨(0), zz0, H', ⟨Nat.le_refl _⟩, ⟨(zz9 HO0)⟩, ⟨(zz62 HK)⟩, ⟨(zz4 HB)⟩⟩
 case round =>
  clear H';obtain ⟨x5_1, rfl, HA, HK1, HO_0, HK, HB⟩ := hrel;cases gk with
  | zero => exact absurd HA.out (by simp [spec_l3Put.l0])
  | succ k1 =>
   have H := HA.out;clear HA;simp only [spec_l3Put.l0] at H
   by_cases c3 : x5_1 < (l0.length : Int)
   ·rw [if_pos c3] at H
    have c3b0 : decide (x5_1 < (l0.length : Int)) = true := decide_eq_true c3;clear c3;by_cases c4 : 0 ≤ x5_1
    ·rw [if_pos c4] at H
     have c4b0 : decide (0 ≤ x5_1) = true := decide_eq_true c4;clear c4;by_cases c5 : (rdOf ByteArray.empty l0 x5_1).toList = a1.toList
     ·rw [if_pos c5] at H
      have c5b0 : ((rdOf ByteArray.empty l0 x5_1).toList == a1.toList) = true := beq_iff_eq.mpr c5;have c5b1 : ((rdOf ByteArray.empty l0 x5_1).toList != a1.toList) = false := bne_eq_false_iff_eq.mpr c5;clear c5;obtain rfl := Option.some.inj H;obtain ⟨Ao6, co6, eo6⟩ := Kd.R_slice HO_0.out;subst eo6;have p285 : 0 ≤ (x5_1 : Int) := ofD;have q285 : x5_1 < (l0.length : Int) := ofD;obtain ⟨ad285, e285, hx285_0⟩ := Kd.at_string (Kd.R_reads' HO_0.out).2.2 x5_1 p285 q285;cases e285
      replace p285 := eq_true p285;replace q285 := eq_true q285;go_wp2
      go_ret
      exact ⟨_, zz5, (zz9 HO_0), (zz4 HB), (zz62 HK)⟩
     ·rw [if_neg c5] at H
      have c5b0 : ((rdOf ByteArray.empty l0 x5_1).toList == a1.toList) = false := beq_eq_false_iff_ne.mpr c5;have c5b1 : ((rdOf ByteArray.empty l0 x5_1).toList != a1.toList) = true := bne_iff_ne.mpr c5;have H' := Aside0.mk H;clear H;obtain ⟨Ao7, co7, eo7⟩ := Kd.R_slice HO_0.out;subst eo7;have p285 : 0 ≤ (x5_1 : Int) := ofD;have q285 : x5_1 < (l0.length : Int) := ofD;obtain ⟨ad285, e285, hx285_0⟩ := Kd.at_string (Kd.R_reads' HO_0.out).2.2 x5_1 p285 q285;cases e285
      replace p285 := eq_true p285;replace q285 := eq_true q285;go_wp2
      go_roundg k1
      case measure => have := HK1.out; omega
      case rel => exact ⟨(wrap64 (x5_1 + 1)), zz0, H', ⟨(zz3 HK1)⟩, ⟨(zz9 HO_0)⟩, ⟨(zz62 HK)⟩, ⟨(zz4 HB)⟩⟩
    ·rw [if_neg c4] at H
     exact absurd H (by simp)
   ·rw [if_neg c3] at H
    have c3b0 : decide (x5_1 < (l0.length : Int)) = false := decide_eq_false c3;clear c3;by_cases c8 : l0.length < 8796093022208
    ·rw [if_pos c8] at H
     have LMc8 := Aside0.mk c8;clear c8;obtain ⟨y286, Ny286⟩ := toY (l0 ++ [a1]);(first | with_reducible replace H := bindZ Ny286 H | rw [← Ny286.out] at H | skip)
     obtain rfl := Option.some.inj H;obtain ⟨Ao9, co9, eo9⟩ := Kd.R_slice HO_0.out;subst eo9;go_wp2_with (first | ((with_reducible refine gate_builtin (b := .append) (xs := #[.tmp 19, .tmp 21]) rfl ?_); at_builtin; refine Kd.R_append Kd.string (w0 := w0) w0.heap.size rfl (.tmp 19) (.tmp 21) 22 9 (.string ⟨#[]⟩) 16 rfl Tryz.underlying22 info9 rfl (by decide) (by omega) (.slice Ao9 l0.length co9) l0 a1 [.string a1] (fun k_ => (P0_ k_ ∨ w.heap.size ≤ k_)) (fun _ => False) rfl rfl ?aP (fun _ hk => hk.elim) ?aF ?aO ?aB ?aS ?aL ?_; (case aP => exact rfl); (case aB => exact (zz4 HB)); (case aF => exact (fun k_ hk => (.inr (Nat.le_trans (by first | exact HK.out.1 | exact (show Kept w _ (fun k_ => P0_ k_) from by repeat (first | (with_reducible first | exact HK.out | apply Kept.alloc | apply Kept.drewN | apply Kept.drew) | exact HK.out)).1) hk)))); (case aO => exact (zz9 HO_0)); (case aS => exact (below_size (zz4 HB))); (case aL => exact (zz3 LMc8)); intro v287 w10 ho hb hg hat; rw [← Ny286.out] at ho; have n0_ := Aside0.mk (hb); have n1_ := Aside0.mk (Kept.of_grown (S := (fun k_ => P0_ k_)) hg (zz62 HK) (fun k_ e_ => (HO_0.out.1 k_ e_))); have n2_ := Aside0.mk (ho); clear HB; clear HK; clear HO_0; have HB := n0_; have HK := n1_; have HO288 := n2_; clear n0_ n1_ n2_; clear ho hb hg hat))
     go_ret
     exact ⟨_, zz5, (zz9 HO288), (zz4 HB), (zz62 HK)⟩
    ·rw [if_neg c8] at H
     exact absurd H (by simp)
def spec_AddrText.f (k : Nat) (a0_0 : ByteArray) (l0_1 : List ByteArray) (a0_2 : Bool) (a0_3 : ByteArray) : Option (ByteArray) := (spec_AddrOk.f k a0_0 l0_1 a0_2 a0_3).bind fun t290 => (if t290 = true then ((spec_l1Text.f k a0_0 l0_1 a0_2 a0_3).bind fun t291 => (some t291)) else (some (⟨#[]⟩ : ByteArray)))
set_option maxHeartbeats 8000000 in
set_option maxRecDepth 100000 in
theorem spec_AddrText.calls (k : Nat) (a0_0 : ByteArray) (A0_1 : Option Addr) (c0_1 : Nat) (l0_1 : List ByteArray) (a0_2 : Bool) (a0_3 : ByteArray) (r : ByteArray) (w : World) (hr0_1 : Kd.C Kd.string w A0_1 l0_1.length l0_1) (hc0_1 : l0_1.length ≤ c0_1) (h : spec_AddrText.f k a0_0 l0_1 a0_2 a0_3 = some r) :
  Calls Tryz.prog 32 #[.agg #[.string a0_0, .slice A0_1 l0_1.length c0_1, .bool a0_2, .string a0_3]] w fun e w' => e = .returned (.string r) ∧ Below w.heap.size w w' := by
 have hu27 := Tryz.underlying27;have HR0_1 := Aside0.mk hr0_1;have HC0_1 := Aside0.mk hc0_1;clear hr0_1 hc0_1;have HB := Aside0.mk (Below.refl w.heap.size w);have H : ((spec_AddrOk.f k a0_0 l0_1 a0_2 a0_3).bind fun t290 => (if t290 = true then ((spec_l1Text.f k a0_0 l0_1 a0_2 a0_3).bind fun t291 => (some t291)) else (some (⟨#[]⟩ : ByteArray)))) = some r := h;clear h;replace H := bindA H;obtain ⟨t290, A2, H⟩ := H;by_cases c3 : t290 = true
 ·subst c3
  rw [if_pos rfl] at H;replace H := bindA H;obtain ⟨t291, A4, H⟩ := H;obtain rfl := Option.some.inj H;go_enter Tryz.func32, Tryz.ntmps32;go_wp2_with (first | ((with_reducible refine gate_dst (N := 1) rfl ?_); refine boxE 1 #[.string a0_0, .slice A0_1 l0_1.length c0_1, .bool a0_2, .string a0_3] 27 ?_; intro gb289 hg w5 hbox hb; have n0_ := Aside0.mk (below_step (zz4 HB) hb); have n1_ := Aside0.mk (hbox); have n2_ := Aside0.mk ((by rw [hg]; exact (below_size (zz4 HB)) : w.heap.size ≤ gb289)); have n3_ := Aside0.mk ((by rw [hg]; exact (below_size (zz4 HB)) : w.heap.size ≤ gb289)); clear HB; have HB := n0_; have BK289 := n1_; have GW289 := n2_; have GE289 := n3_; clear n0_ n1_ n2_ n3_; clear hb hbox hg; obtain ⟨_, _, _, _, _, _, _, _⟩ := cf4 BK289) | ((with_reducible refine gate_callee (f := 20) rfl ?_); refine gsL (some 4) Tryz.func20 #[.agg #[.string a0_0, .slice A0_1 l0_1.length c0_1, .bool a0_2, .string a0_3]] ?_; (with_reducible refine (spec_AddrOk.calls k a0_0 _ _ l0_1 a0_2 a0_3 true _ ?side1 ?side2 A2.out).mono ?_); (case side1 => exact (zz7 HR0_1 HB)); (case side2 => exact HC0_1.out); rintro e w7 ⟨rfl, hb⟩; refine ⟨_, rfl, ?_⟩; have n0_ := Aside0.mk (blk_below (zz27 BK289) hb); have n1_ := Aside0.mk (below_step (zz6 HB GE289) hb); clear BK289; clear HB; have BK289 := n0_; have HB := n1_; clear n0_ n1_; (try clear hb); obtain ⟨_, _, _, _, _, _, _, _⟩ := cf4 BK289) | ((with_reducible refine gate_callee (f := 44) rfl ?_); refine gsL (some 7) Tryz.func44 #[.agg #[.string a0_0, .slice A0_1 l0_1.length c0_1, .bool a0_2, .string a0_3]] ?_; (with_reducible refine (spec_l1Text.calls k a0_0 _ _ l0_1 a0_2 a0_3 t291 _ ?side1 ?side2 A4.out).mono ?_); (case side1 => exact (zz7 HR0_1 HB)); (case side2 => exact HC0_1.out); rintro e w9 ⟨rfl, hb⟩; refine ⟨_, rfl, ?_⟩; have n0_ := Aside0.mk (blk_below (zz27 BK289) hb); have n1_ := Aside0.mk (below_step (zz6 HB GE289) hb); clear BK289; clear HB; have BK289 := n0_; have HB := n1_; clear n0_ n1_; (try clear hb)))
  go_ret
  exact ⟨zz5, (zz6 HB GE289)⟩
 ·replace c3 := Bool.eq_false_iff.mpr c3
  subst c3;rw [if_neg (show ¬ (false = true) by decide)] at H;obtain rfl := Option.some.inj H;go_enter Tryz.func32, Tryz.ntmps32;go_wp2_with (first | ((with_reducible refine gate_dst (N := 1) rfl ?_); refine boxE 1 #[.string a0_0, .slice A0_1 l0_1.length c0_1, .bool a0_2, .string a0_3] 27 ?_; intro gb289 hg w10 hbox hb; have n0_ := Aside0.mk (below_step (zz4 HB) hb); have n1_ := Aside0.mk (hbox); have n2_ := Aside0.mk ((by rw [hg]; exact (below_size (zz4 HB)) : w.heap.size ≤ gb289)); have n3_ := Aside0.mk ((by rw [hg]; exact (below_size (zz4 HB)) : w.heap.size ≤ gb289)); clear HB; have HB := n0_; have BK289 := n1_; have GW289 := n2_; have GE289 := n3_; clear n0_ n1_ n2_ n3_; clear hb hbox hg; obtain ⟨_, _, _, _, _, _, _, _⟩ := cf4 BK289) | ((with_reducible refine gate_callee (f := 20) rfl ?_); refine gsL (some 4) Tryz.func20 #[.agg #[.string a0_0, .slice A0_1 l0_1.length c0_1, .bool a0_2, .string a0_3]] ?_; (with_reducible refine (spec_AddrOk.calls k a0_0 _ _ l0_1 a0_2 a0_3 false _ ?side1 ?side2 A2.out).mono ?_); (case side1 => exact (zz7 HR0_1 HB)); (case side2 => exact HC0_1.out); rintro e w12 ⟨rfl, hb⟩; refine ⟨_, rfl, ?_⟩; have n0_ := Aside0.mk (blk_below (zz27 BK289) hb); have n1_ := Aside0.mk (below_step (zz6 HB GE289) hb); clear BK289; clear HB; have BK289 := n0_; have HB := n1_; clear n0_ n1_; (try clear hb)))
  go_ret
  exact ⟨zz5, (zz6 HB GE289)⟩
mutual
def spec_PageAddrs.j0 : Nat → ByteArray → List ByteArray → ByteArray → List ByteArray → Bool → ByteArray → Option (List ByteArray)
 | 0, _, _, _, _, _, _ => none
 | k + 1, x1, x5, x293000, x293001, x293002, x293003 => (spec_PageLinks.f k x1).bind fun t307 => (spec_PageAddrs.l0 k x5 t307 0 x293000 x293001 x293002 x293003)
def spec_PageAddrs.l0 : Nat → List ByteArray → List ByteArray → Int → ByteArray → List ByteArray → Bool → ByteArray → Option (List ByteArray)
 | 0, _, _, _, _, _, _, _ => none
 | k + 1, x5, x10, x11, x293000, x293001, x293002, x293003 => if x11 < (x10.length : Int) then (if 0 ≤ x11 then ((spec_AddrJoin.f k x293000 x293001 x293002 x293003 (rdOf ByteArray.empty x10 x11)).bind fun bt311 => (if bt311.2.2.2.2 = true then ((spec_AddrText.f k bt311.1 bt311.2.1 bt311.2.2.1 bt311.2.2.2.1).bind fun t319 => ((spec_l3Put.f k x5 t319).bind fun t320 => (spec_PageAddrs.l0 k t320 x10 (wrap64 (x11 + 1)) x293000 x293001 x293002 x293003))) else (spec_PageAddrs.l0 k x5 x10 (wrap64 (x11 + 1)) x293000 x293001 x293002 x293003))) else (none)) else (some x5)
end
def spec_PageAddrs.f (k : Nat) (a0_0 : ByteArray) (l0_1 : List ByteArray) (a0_2 : Bool) (a0_3 : ByteArray) (a1 : ByteArray) : Option (List ByteArray) := (some (([] : List ByteArray) : List ByteArray)).bind fun y293 => ((spec_AddrOk.f k a0_0 l0_1 a0_2 a0_3).bind fun t296 => (if t296 = true then ((spec_PageBase.f k a1).bind fun bt297 => (if bt297.2 = true then ((spec_AddrJoin.f k a0_0 l0_1 a0_2 a0_3 bt297.1).bind fun bt299 => (if bt299.2.2.2.2 = true then (spec_PageAddrs.j0 k a1 y293 bt299.1 bt299.2.1 bt299.2.2.1 bt299.2.2.2.1) else (spec_PageAddrs.j0 k a1 y293 a0_0 l0_1 a0_2 a0_3))) else (spec_PageAddrs.j0 k a1 y293 a0_0 l0_1 a0_2 a0_3))) else (some y293)))
def spec_PageAddrs.T13 : Bool × List (List Nat × List Nat) := (true, [([], []), ([], []), ([], []), ([1, 2], [1, 2]), ([3], [3]), ([0, 4], [0, 4]), ([5], [5]), ([6], [6]), ([6], [6]), ([], []), ([9, 7, 5, 0, 1, 2, 3, 4, 5, 6, 7, 9], [7, 9]), ([8, 10, 0, 1, 2, 3, 4, 5, 6, 7, 8, 9, 10], [8])])
def spec_PageAddrs.B13 : List Nat := [0, 0, 0, 6, 14, 31, 63, 127, 127, 0, 767, 2047]
theorem spec_PageAddrs.tab13 : rtab .any (opsOf Tryz.f8 13) = spec_PageAddrs.T13 := by kernel_rfl
theorem spec_PageAddrs.bits13 : waitsOk spec_PageAddrs.T13.2 spec_PageAddrs.B13 = true := by kernel_rfl
set_option maxHeartbeats 8000000 in
set_option maxRecDepth 100000 in
theorem spec_PageAddrs.calls (k : Nat) (a0_0 : ByteArray) (P0_1_ : Nat → Prop) (A0_1 : Option Addr) (c0_1 : Nat) (l0_1 : List ByteArray) (a0_2 : Bool) (a0_3 : ByteArray) (a1 : ByteArray) (r : List ByteArray) (w : World) (hs0_1 : Kd.V Kd.string 9 w w.heap.size (fun k_ => P0_1_ k_) (.slice A0_1 l0_1.length c0_1) l0_1) (h : spec_PageAddrs.f k a0_0 l0_1 a0_2 a0_3 a1 = some r) :
  Calls Tryz.prog 8 #[.agg #[.string a0_0, .slice A0_1 l0_1.length c0_1, .bool a0_2, .string a0_3], .string a1] w fun e w' => ∃ v0_ : Value, e = .returned (v0_) ∧ Kd.R Kd.string 9 w' w.heap.size (fun k_ => (w.heap.size ≤ k_)) v0_ r ∧ Below w.heap.size w w' := by
 have hu27 := Tryz.underlying27;have HO0_1 := Aside0.mk (show Kd.V Kd.string 9 w w.heap.size (fun k_ => (P0_1_ k_ ∨ w.heap.size ≤ k_)) (.slice A0_1 l0_1.length c0_1) l0_1 from Kd.V_mono hs0_1 (fun k_ hk => .inl hk));have HB := Aside0.mk (Below.refl w.heap.size w);have H : ((some (([] : List ByteArray) : List ByteArray)).bind fun y293 => ((spec_AddrOk.f k a0_0 l0_1 a0_2 a0_3).bind fun t296 => (if t296 = true then ((spec_PageBase.f k a1).bind fun bt297 => (if bt297.2 = true then ((spec_AddrJoin.f k a0_0 l0_1 a0_2 a0_3 bt297.1).bind fun bt299 => (if bt299.2.2.2.2 = true then (spec_PageAddrs.j0 k a1 y293 bt299.1 bt299.2.1 bt299.2.2.1 bt299.2.2.2.1) else (spec_PageAddrs.j0 k a1 y293 a0_0 l0_1 a0_2 a0_3))) else (spec_PageAddrs.j0 k a1 y293 a0_0 l0_1 a0_2 a0_3))) else (some y293)))) = some r := h;clear h;obtain ⟨y293, Ny293⟩ := toY (([] : List ByteArray));(first | with_reducible replace H := bindZ Ny293 H | rw [← Ny293.out] at H | skip)
 replace H := bindA H;obtain ⟨t296, A3, H⟩ := H;by_cases c4 : t296 = true
 ·subst c4
  rw [if_pos rfl] at H;replace H := bindA H;obtain ⟨⟨t297, t298⟩, A5, H⟩ := H;try dsimp -simprocs only at H
  have HC6 := Aside0.mk H;clear H;go_enter Tryz.func8, Tryz.ntmps8;go_upto_if 24 with (first | ((with_reducible refine gate_dst (N := 2) rfl ?_); refine boxE 2 #[.string a0_0, .slice A0_1 l0_1.length c0_1, .bool a0_2, .string a0_3] 27 ?_; intro gb292 hg w7 hbox hb; have n0_ := Aside0.mk (Kd.V_below (Kd.V_elderB (zz65 HO0_1) gb292 (Nat.le_of_eq hg.symm)) hb); have n1_ := Aside0.mk (below_step (zz4 HB) hb); have n2_ := Aside0.mk (hbox); have n3_ := Aside0.mk ((by rw [hg]; exact (below_size (zz4 HB)) : w.heap.size ≤ gb292)); have n4_ := Aside0.mk ((by rw [hg]; exact (below_size (zz4 HB)) : w.heap.size ≤ gb292)); clear HO0_1; clear HB; have HO0_1 := n0_; have HB := n1_; have BK292 := n2_; have GW292 := n3_; have GE292 := n4_; clear n0_ n1_ n2_ n3_ n4_; clear hb hbox hg) | ((with_reducible refine gate_dst (N := 14) rfl ?_); refine Kd.R_lit Kd.string _ 9 ?hg (N := 14) ?hd (xs := ([] : List ByteArray)) (inner := []) (ok := fun _ => True) (okp := fun _ => True) ?hr ?hp (fun _ hk => hk) trivial (Below.refl _ _) (Nat.le_refl _) (by simp) ?_; (case hd => rfl); (case hg => rfl); (case hr => exact zz8); (case hp => exact (Reps.none _ _)); intro v294 w8 ho9 hb hg_ hnew_; clear hg_ hnew_; (first | rw [← Ny293.out] at ho9 | (simp only [Int.reduceToNat] at ho9; rw [← Ny293.out] at ho9)); have n0_ := Aside0.mk (Kd.V_elder' (zz65 HO0_1) (Kd.R_base ho9) hb); have n1_ := Aside0.mk (Kd.R_lower (Kd.R_newM (M := fun k_ => (w.heap.size ≤ k_)) ho9 (below_size (zz6 HB GE292)) (fun k_ h_ => h_)) (below_size (zz6 HB GE292))); have n2_ := Aside0.mk (blk_below (zz27 BK292) hb); have n3_ := Aside0.mk (below_step (zz6 HB GE292) hb); clear HO0_1; clear BK292; clear HB; have HO0_1 := n0_; have HO295 := n1_; have BK292 := n2_; have HB := n3_; clear n0_ n1_ n2_ n3_; clear hb ho9; obtain ⟨_, _, _, _, _, _, _, _⟩ := cf4 BK292) | ((with_reducible refine gate_callee (f := 20) rfl ?_); refine gsL (some 16) Tryz.func20 #[.agg #[.string a0_0, .slice A0_1 l0_1.length c0_1, .bool a0_2, .string a0_3]] ?_; (with_reducible refine (spec_AddrOk.calls k a0_0 _ _ l0_1 a0_2 a0_3 true _ ?side1 ?side2 A3.out).mono ?_); (case side1 => exact (zz66 HO0_1)); (case side2 => exact (Kd.V_reads' HO0_1.out).2.1); rintro e w11 ⟨rfl, hb⟩; refine ⟨_, rfl, ?_⟩; have n0_ := Aside0.mk (Kd.V_below (zz65 HO0_1) hb); have n1_ := Aside0.mk (Kd.R_below (zz9 HO295) hb); have n2_ := Aside0.mk (blk_below (zz27 BK292) hb); have n3_ := Aside0.mk (below_step (zz6 HB GE292) hb); clear HO0_1; clear HO295; clear BK292; clear HB; have HO0_1 := n0_; have HO295 := n1_; have BK292 := n2_; have HB := n3_; clear n0_ n1_ n2_ n3_; (try clear hb)) | ((with_reducible refine gate_callee (f := 18) rfl ?_); refine gsL (some 21) Tryz.func18 #[.string a1] ?_; (with_reducible refine (spec_PageBase.calls k a1 t297 t298 _ A5.out).mono ?_); rintro e w12 ⟨rfl, hb⟩; refine ⟨_, rfl, ?_⟩; have n0_ := Aside0.mk (Kd.V_below (zz65 HO0_1) hb); have n1_ := Aside0.mk (Kd.R_below (zz9 HO295) hb); have n2_ := Aside0.mk (blk_below (zz27 BK292) hb); have n3_ := Aside0.mk (below_step (zz6 HB GE292) hb); clear HO0_1; clear HO295; clear BK292; clear HB; have HO0_1 := n0_; have HO295 := n1_; have BK292 := n2_; have HB := n3_; clear n0_ n1_ n2_ n3_; (try clear hb)))
  (try simp only [Act.put, List.setIfInBounds_toArray, List.set_cons_zero, List.set_cons_succ])
  go_cut [] (fun wc => ∃ (kq : Nat) (x293000_5 : ByteArray) (x293001_5 : List ByteArray) (x293002_5 : Bool) (x293003_5 : ByteArray) (u293001 : Value), Aside0 (spec_PageAddrs.j0 kq a1 y293 x293000_5 x293001_5 x293002_5 x293003_5 = some r) ∧ Aside0 (kq ≤ k) ∧ Aside0 (Kd.R Kd.string 9 wc w.heap.size (fun k_ => (w.heap.size ≤ k_)) v294 y293) ∧ Aside0 (Kd.V Kd.string 9 wc w.heap.size (fun k_ => (P0_1_ k_ ∨ w.heap.size ≤ k_) ∧ some k_ ≠ (v294 : Value).ownBlock ∧ k_ ≠ gb292) u293001 x293001_5) ∧ Aside0 (wc.heap[gb292]? = some (.cells #[.string x293000_5, u293001, .bool x293002_5, .string x293003_5] 27 (0, 0))) ∧ Aside0 (Below w.heap.size w wc))
  case first =>
   have H := HC6.out;clear HC6;by_cases c13 : t298 = true
   ·subst c13
    rw [if_pos rfl] at H;replace H := bindA H;obtain ⟨⟨t299, t300, t303, t304, t305⟩, A14, H⟩ := H;try dsimp -simprocs only at H
    by_cases c15 : t305 = true
    ·subst c15
     rw [if_pos rfl] at H;have H' := Aside0.mk H;clear H;obtain ⟨_, _, _, _, _, _, _, _⟩ := cf4 BK292;go_wp2_with (first | ((with_reducible refine gate_callee (f := 29) rfl ?_); refine gsL (some 28) Tryz.func29 #[.agg #[.string a0_0, .slice A0_1 l0_1.length c0_1, .bool a0_2, .string a0_3], .string t297] ?_; (with_reducible refine (spec_AddrJoin.calls k a0_0 _ _ l0_1 a0_2 a0_3 t297 t299 t300 t303 t304 true _ ?side1 ?side2 A14.out).mono ?_); (case side1 => exact (zz66 HO0_1)); (case side2 => exact (Kd.V_reads' HO0_1.out).2.1); rintro e w17 ⟨v301, rfl, ho0, hb⟩; refine ⟨_, rfl, ?_⟩; have n0_ := Aside0.mk (Kd.V_elder' (zz65 HO0_1) (Kd.R_base ho0) hb); have n1_ := Aside0.mk (Kd.R_elder' (zz9 HO295) (Kd.R_base ho0) hb); have n2_ := Aside0.mk (Kd.R_lower (Kd.R_new' (Kd.R_newM (M := fun k_ => (w.heap.size ≤ k_)) ho0 (below_size (zz6 HB GE292)) (fun k_ h_ => h_)) (Kd.R_lt (zz9 HO295))) (below_size (zz6 HB GE292))); have n3_ := Aside0.mk (blk_below (zz27 BK292) hb); have n4_ := Aside0.mk (below_step (zz6 HB GE292) hb); clear HO0_1; clear HO295; clear BK292; clear HB; have HO0_1 := n0_; have HO295 := n1_; have HO302 := n2_; have BK292 := n3_; have HB := n4_; clear n0_ n1_ n2_ n3_ n4_; (try clear hb ho0)) | ((with_reducible refine gate_dst (N := 8) rfl ?_); refine boxE 8 #[.string (⟨#[]⟩ : ByteArray), .slice none 0 0, .bool false, .string (⟨#[]⟩ : ByteArray)] 27 ?_; intro gb306 hg w18 hbox hb; have n0_ := Aside0.mk (Kd.V_below (Kd.V_elderB (zz65 HO0_1) gb306 (Nat.le_of_eq hg.symm)) hb); have n1_ := Aside0.mk (Kd.R_below (zz9 HO295) hb); have n2_ := Aside0.mk (Kd.R_below (zz9 HO302) hb); have n3_ := Aside0.mk (blk_below (zz27 BK292) hb); have n4_ := Aside0.mk (below_step (zz6 HB GE292) hb); have n5_ := Aside0.mk (hbox); have n6_ := Aside0.mk ((by rw [hg]; exact (below_size (zz6 HB GE292)) : w.heap.size ≤ gb306)); have n7_ := Aside0.mk ((by rw [hg]; exact (below_size (zz6 HB GE292)) : w.heap.size ≤ gb306)); have n8_ := Aside0.mk ((by rw [hg]; exact Nat.ne_of_lt (blk_lt (zz27 BK292)) : gb292 ≠ gb306)); have n9_ := Aside0.mk ((by rw [hg]; exact Nat.ne_of_gt (blk_lt (zz27 BK292)) : gb306 ≠ gb292)); clear HO0_1; clear HO295; clear HO302; clear BK292; clear HB; have HO0_1 := n0_; have HO295 := n1_; have HO302 := n2_; have BK292 := n3_; have HB := n4_; have BK306 := n5_; have GW306 := n6_; have GE306 := n7_; have NB292_306 := n8_; have NB306_292 := n9_; clear n0_ n1_ n2_ n3_ n4_ n5_ n6_ n7_ n8_ n9_; clear hb hbox hg; have hnb19 := NB306_292.out; have hnc19 := NB292_306.out; obtain ⟨_, _, _, _, _, _, _, _⟩ := cf4 BK306; obtain ⟨Ao21, co21, eo21⟩ := Kd.R_slice HO302.out; subst eo21; obtain ⟨_, _, _, _, _, _, _, _⟩ := cf4 BK292))
     go_meet
     case rel => exact ⟨_, (t299), (t300), (t303), (t304), (.slice Ao21 t300.length co21), H', ⟨zz18⟩, ⟨(zz51 (rt (rt HO295 BK306) BK292))⟩, ⟨Kd.V_mono (Kd.R_V (by (with_reducible repeat (first | apply Kd.R_alloc | apply Kd.R_drewN | apply Kd.R_drew)); exact Kd.R_mono (ok' := fun k_ => (w.heap.size ≤ k_) ∧ some k_ ≠ (v294 : Value).ownBlock ∧ k_ ≠ gb292) (Kd.R_far (p := ⟨gb292, 3, none⟩) (Kd.R_far (p := ⟨gb292, 2, none⟩) (Kd.R_far (p := ⟨gb292, 1, none⟩) (Kd.R_far (p := ⟨gb292, 0, none⟩) (Kd.R_far (p := ⟨gb306, 3, none⟩) (Kd.R_far (p := ⟨gb306, 2, none⟩) (Kd.R_far (p := ⟨gb306, 1, none⟩) (Kd.R_far (p := ⟨gb306, 0, none⟩) (Kd.R_types (Kd.R_types (Kd.R_types HO302.out BK292.out (by decide)) BK306.out (by decide)) BK292.out (by decide)) (fun _ hk => hk.1.2) (.string t299)) (fun _ hk => hk.1.2) (.slice Ao21 t300.length co21)) (fun _ hk => hk.1.2) (.bool t303)) (fun _ hk => hk.1.2) (.string t304)) (fun _ hk => hk.2) (.string t299)) (fun _ hk => hk.2) (.slice Ao21 t300.length co21)) (fun _ hk => hk.2) (.bool t303)) (fun _ hk => hk.2) (.string t304)) (fun _ hk => ⟨hk.1.1.1.1.1, ⟨hk.1.1.1.2, hk.1.1.2⟩⟩))) (fun k_ hk => by first | exact ⟨(.inr (hk.1)), hk.2⟩ | exact (.inr (hk)))⟩, ⟨(zz50 BK292 NB292_306)⟩, ⟨(zz38 HB GE292 GE306)⟩⟩
    ·replace c15 := Bool.eq_false_iff.mpr c15
     subst c15;rw [if_neg (show ¬ (false = true) by decide)] at H;have H' := Aside0.mk H;clear H;obtain ⟨_, _, _, _, _, _, _, _⟩ := cf4 BK292;go_wp2_with (first | ((with_reducible refine gate_callee (f := 29) rfl ?_); refine gsL (some 28) Tryz.func29 #[.agg #[.string a0_0, .slice A0_1 l0_1.length c0_1, .bool a0_2, .string a0_3], .string t297] ?_; (with_reducible refine (spec_AddrJoin.calls k a0_0 _ _ l0_1 a0_2 a0_3 t297 t299 t300 t303 t304 false _ ?side1 ?side2 A14.out).mono ?_); (case side1 => exact (zz66 HO0_1)); (case side2 => exact (Kd.V_reads' HO0_1.out).2.1); rintro e w24 ⟨v301, rfl, ho0, hb⟩; refine ⟨_, rfl, ?_⟩; have n0_ := Aside0.mk (Kd.V_elder' (zz65 HO0_1) (Kd.R_base ho0) hb); have n1_ := Aside0.mk (Kd.R_elder' (zz9 HO295) (Kd.R_base ho0) hb); have n2_ := Aside0.mk (Kd.R_lower (Kd.R_new' (Kd.R_newM (M := fun k_ => (w.heap.size ≤ k_)) ho0 (below_size (zz6 HB GE292)) (fun k_ h_ => h_)) (Kd.R_lt (zz9 HO295))) (below_size (zz6 HB GE292))); have n3_ := Aside0.mk (blk_below (zz27 BK292) hb); have n4_ := Aside0.mk (below_step (zz6 HB GE292) hb); clear HO0_1; clear HO295; clear BK292; clear HB; have HO0_1 := n0_; have HO295 := n1_; have HO302 := n2_; have BK292 := n3_; have HB := n4_; clear n0_ n1_ n2_ n3_ n4_; (try clear hb ho0)) | ((with_reducible refine gate_dst (N := 8) rfl ?_); refine boxE 8 #[.string (⟨#[]⟩ : ByteArray), .slice none 0 0, .bool false, .string (⟨#[]⟩ : ByteArray)] 27 ?_; intro gb306 hg w25 hbox hb; have n0_ := Aside0.mk (Kd.V_below (Kd.V_elderB (zz65 HO0_1) gb306 (Nat.le_of_eq hg.symm)) hb); have n1_ := Aside0.mk (Kd.R_below (zz9 HO295) hb); have n2_ := Aside0.mk (Kd.R_below (zz9 HO302) hb); have n3_ := Aside0.mk (blk_below (zz27 BK292) hb); have n4_ := Aside0.mk (below_step (zz6 HB GE292) hb); have n5_ := Aside0.mk (hbox); have n6_ := Aside0.mk ((by rw [hg]; exact (below_size (zz6 HB GE292)) : w.heap.size ≤ gb306)); have n7_ := Aside0.mk ((by rw [hg]; exact (below_size (zz6 HB GE292)) : w.heap.size ≤ gb306)); have n8_ := Aside0.mk ((by rw [hg]; exact Nat.ne_of_lt (blk_lt (zz27 BK292)) : gb292 ≠ gb306)); have n9_ := Aside0.mk ((by rw [hg]; exact Nat.ne_of_gt (blk_lt (zz27 BK292)) : gb306 ≠ gb292)); clear HO0_1; clear HO295; clear HO302; clear BK292; clear HB; have HO0_1 := n0_; have HO295 := n1_; have HO302 := n2_; have BK292 := n3_; have HB := n4_; have BK306 := n5_; have GW306 := n6_; have GE306 := n7_; have NB292_306 := n8_; have NB306_292 := n9_; clear n0_ n1_ n2_ n3_ n4_ n5_ n6_ n7_ n8_ n9_; clear hb hbox hg; have hnb26 := NB306_292.out; have hnc26 := NB292_306.out; obtain ⟨_, _, _, _, _, _, _, _⟩ := cf4 BK306; obtain ⟨Ao28, co28, eo28⟩ := Kd.R_slice HO302.out; subst eo28))
     go_meet
     case rel => exact ⟨_, (a0_0), (l0_1), (a0_2), (a0_3), (.slice A0_1 l0_1.length c0_1), H', ⟨zz18⟩, ⟨(zz51 (rt HO295 BK306))⟩, ⟨(by (with_reducible repeat (first | apply Kd.V_alloc | apply Kd.V_drewN | apply Kd.V_drew)); exact Kd.V_mono (Kd.V_far (p := ⟨gb306, 3, none⟩) (Kd.V_far (p := ⟨gb306, 2, none⟩) (Kd.V_far (p := ⟨gb306, 1, none⟩) (Kd.V_far (p := ⟨gb306, 0, none⟩) (Kd.V_mono HO0_1.out (fun k_ hk => (⟨hk, hk.2⟩ : _ ∧ k_ ≠ gb306))) (fun _ hk => hk.2) (.string t299)) (fun _ hk => hk.2) (.slice Ao28 t300.length co28)) (fun _ hk => hk.2) (.bool t303)) (fun _ hk => hk.2) (.string t304)) (fun _ hk => ⟨hk.1.1.1.1.1, ⟨hk.1.1.1.2, hk.1.1.1.1.2⟩⟩))⟩, ⟨(zz50 BK292 NB292_306)⟩, ⟨(zz38 HB GE292 GE306)⟩⟩
   ·replace c13 := Bool.eq_false_iff.mpr c13
    subst c13;rw [if_neg (show ¬ (false = true) by decide)] at H;have H' := Aside0.mk H;clear H;go_wp2
    go_meet
    case rel => exact ⟨_, (a0_0), (l0_1), (a0_2), (a0_3), (.slice A0_1 l0_1.length c0_1), H', ⟨zz18⟩, ⟨(zz69 HO295)⟩, ⟨(by (with_reducible repeat (first | apply Kd.V_alloc | apply Kd.V_drewN | apply Kd.V_drew)); exact Kd.V_mono HO0_1.out (fun _ hk => ⟨hk.1.1, ⟨hk.2, hk.1.2⟩⟩))⟩, ⟨(zz27 BK292)⟩, ⟨(zz6 HB GE292)⟩⟩
  case rest =>
   clear HC6;obtain ⟨kq, x293000_5, x293001_5, x293002_5, x293003_5, u293001, HA, HJ5, HO_5, HO_293001, BK292, HB⟩ := hcut;cases kq with
   | zero => exact absurd HA.out (by simp [spec_PageAddrs.j0])
   | succ kj5 =>
    have H := HA.out;clear HA;simp only [spec_PageAddrs.j0] at H
    replace H := bindA H;obtain ⟨t307, A29, H⟩ := H;have H' := Aside0.mk H;clear H;go_wp2_with (first | ((with_reducible refine gate_callee (f := 30) rfl ?_); refine gsL (some 34) Tryz.func30 #[.string a1] ?_; (with_reducible refine (spec_PageLinks.calls kj5 a1 t307 _ A29.out).mono ?_); rintro e w30 ⟨v308, rfl, ho0, hb⟩; refine ⟨_, rfl, ?_⟩; have n0_ := Aside0.mk (Kd.R_elder' (zz9 HO_5) (Kd.R_base ho0) hb); have n1_ := Aside0.mk (Kd.V_elder' (zz65 HO_293001) (Kd.R_base ho0) hb); have n2_ := Aside0.mk (Kd.R_lower (Kd.R_new' (Kd.R_newM (M := fun k_ => (w.heap.size ≤ k_)) ho0 (below_size (zz6 HB GE292)) (fun k_ h_ => h_)) (Kd.R_lt (zz9 HO_5))) (below_size (zz6 HB GE292))); have n3_ := Aside0.mk (blk_below (zz27 BK292) hb); have n4_ := Aside0.mk (below_step (zz6 HB GE292) hb); clear HO_5; clear HO_293001; clear BK292; clear HB; have HO_5 := n0_; have HO_293001 := n1_; have HO309 := n2_; have BK292 := n3_; have HB := n4_; clear n0_ n1_ n2_ n3_ n4_; (try clear hb ho0)))
    go_loopg [5, 11] kj5 (fun kq v5 v11 w' => ∃ (x5_2 : List ByteArray) (x11_2 : Int), v11 = .int .i64 x11_2 ∧ Aside0 (spec_PageAddrs.l0 kq x5_2 t307 x11_2 x293000_5 x293001_5 x293002_5 x293003_5 = some r) ∧ Aside0 (kq ≤ kj5) ∧ Aside0 (Kd.R Kd.string 9 w' w.heap.size (fun k_ => (w.heap.size ≤ k_) ∧ some k_ ≠ (v308 : Value).ownBlock) v5 x5_2) ∧ Aside0 (Kd.R Kd.string 9 w' w.heap.size (fun k_ => (w.heap.size ≤ k_) ∧ some k_ ≠ (v5 : Value).ownBlock) v308 t307) ∧ Aside0 (Kd.V Kd.string 9 w' w.heap.size (fun k_ => (P0_1_ k_ ∨ w.heap.size ≤ k_) ∧ some k_ ≠ (v5 : Value).ownBlock ∧ some k_ ≠ (v308 : Value).ownBlock ∧ k_ ≠ gb292) u293001 x293001_5) ∧ Aside0 (w'.heap[gb292]? = some (.cells #[.string x293000_5, u293001, .bool x293002_5, .string x293003_5] 27 (0, 0))) ∧ Aside0 (Below w.heap.size w w'))
    case atStart => exact ⟨(y293), (0), zz0, H', ⟨Nat.le_refl _⟩, ⟨(zz9 HO_5)⟩, ⟨(zz72 HO309)⟩, ⟨(by (with_reducible repeat (first | apply Kd.V_alloc | apply Kd.V_drewN | apply Kd.V_drew)); exact Kd.V_mono HO_293001.out (fun _ hk => ⟨hk.1.1, ⟨hk.1.2.1, ⟨hk.2, hk.1.2.2⟩⟩⟩))⟩, ⟨(zz27 BK292)⟩, ⟨(zz6 HB GE292)⟩⟩
    case round =>
     clear H';obtain ⟨x5_2, x11_2, rfl, HA, HK2, HO_5, HO_10, HO_293001, BK292, HB⟩ := hrel;cases gk with
     | zero => exact absurd HA.out (by simp [spec_PageAddrs.l0])
     | succ k2 =>
      have H := HA.out;clear HA;simp only [spec_PageAddrs.l0] at H
      by_cases c31 : x11_2 < (t307.length : Int)
      ·rw [if_pos c31] at H
       have c31b0 : decide (x11_2 < (t307.length : Int)) = true := decide_eq_true c31;clear c31;by_cases c32 : 0 ≤ x11_2
       ·rw [if_pos c32] at H
        have c32b0 : decide (0 ≤ x11_2) = true := decide_eq_true c32;clear c32;replace H := bindA H;obtain ⟨⟨t311, t312, t315, t316, t317⟩, A33, H⟩ := H;try dsimp -simprocs only at H
        by_cases c34 : t317 = true
        ·subst c34
         rw [if_pos rfl] at H;replace H := bindA H;obtain ⟨t319, A35, H⟩ := H;replace H := bindA H;obtain ⟨t320, A36, H⟩ := H;have H' := Aside0.mk H;clear H;obtain ⟨Ao37, co37, eo37⟩ := Kd.R_slice HO_10.out;subst eo37;obtain ⟨Ao38, co38, eo38⟩ := Kd.V_slice HO_293001.out;subst eo38;try go_wp2
         have n0_ := Aside0.mk (Kd.R_drew HO_5.out);have n1_ := Aside0.mk (Kd.R_drew HO_10.out);have n2_ := Aside0.mk (Kd.V_drew HO_293001.out);have n3_ := Aside0.mk (blk_drew BK292.out);have n4_ := Aside0.mk (below_drew1 HB.out);clear HO_5;clear HO_10;clear HO_293001;clear BK292;clear HB;have HO_5 := n0_;have HO_10 := n1_;have HO_293001 := n2_;have BK292 := n3_;have HB := n4_;clear n0_ n1_ n2_ n3_ n4_;have p310 : 0 ≤ (x11_2 : Int) := ofD;have q310 : x11_2 < (t307.length : Int) := ofD;obtain ⟨ad310, e310, hx310_0⟩ := Kd.at_string (Kd.R_reads' HO_10.out).2.2 x11_2 p310 q310;cases e310
         replace p310 := eq_true p310;replace q310 := eq_true q310;refine start_ (n := 12) (S := fun w' => w'.cell? ⟨gb292, 0, none⟩ = some (.string x293000_5) ∧ w'.cell? ⟨gb292, 1, none⟩ = some (.slice Ao38 x293001_5.length co38) ∧ w'.cell? ⟨gb292, 2, none⟩ = some (.bool x293002_5) ∧ w'.cell? ⟨gb292, 3, none⟩ = some (.string x293003_5) ∧ w'.cell? (ad310.add (x11_2).toNat) = some (.string (rdOf ByteArray.empty t307 x11_2))) (ds := []) #[false, false, false, false, false, false, false, false, false, false, false, false] (by kernel_rfl) rfl rfl ⟨(blk_cell BK292.out 0).trans rfl, (blk_cell BK292.out 1).trans rfl, (blk_cell BK292.out 2).trans rfl, (blk_cell BK292.out 3).trans rfl, hx310_0⟩ (fun hHeld => ?_); refine with_tabW spec_PageAddrs.tab13 spec_PageAddrs.bits13 (fun HT_ HW_ => ?_);generalize wr.drew = w39 at HO_5 HO_10 HO_293001 BK292 HB hx310_0 hHeld ⊢;refine pureZ 1 (some 43) #[false, true, false, false, false, false, false, false, false, false, false, false] ?_;refine pureZ 2 (some 44) #[false, true, true, false, false, false, false, false, false, false, false, false] ?_;refine pureZ 3 (some 45) #[false, true, true, true, false, false, false, false, false, false, false, false] ?_;refine take_ (i := 0) (N := some 42) (v := ?_) (a' := ?_) #[true, true, true, true, false, false, false, false, false, false, false, false] rfl rfl (take_ofW HT_.out HW_.out (by kernel_rfl)) (fun _ _ _ h => h) (Or.inl ⟨by rfl, ?_⟩) hHeld ?_ ?_;rotate_left
         ·rintro w' ⟨s0, s1, s2, s3, s4⟩
          go_simp
          with_reducible rfl
         rotate_left
         ·simp only [Act.put, List.setIfInBounds_toArray, List.set_cons_zero, List.set_cons_succ, i64_w, i32_w]
          rfl
         refine take_ (i := 4) (N := some 46) (v := ?_) (a' := ?_) #[true, true, true, true, true, false, false, false, false, false, false, false] rfl rfl (take_ofW HT_.out HW_.out (by kernel_rfl)) (fun _ _ _ h => h) (Or.inl ⟨by rfl, ?_⟩) hHeld ?_ ?_;rotate_left
         ·rintro w' ⟨s0, s1, s2, s3, s4⟩
          go_simp
          with_reducible rfl
         rotate_left
         ·simp only [Act.put, List.setIfInBounds_toArray, List.set_cons_zero, List.set_cons_succ, i64_w, i32_w]
          rfl
         refine join_ (σ := Value × Nat) 2 #[true, true, true, true, true, true, true, true, true, true, false, false] (fun s_ => [(47, .tuple #[.agg #[.string t311, s_.1, .bool t315, .string t316], .bool true]), (12, .pointer (some ⟨s_.2, 0, none⟩)), (41, .tuple #[.agg #[.string t311, s_.1, .bool t315, .string t316], .bool true]), (48, .agg #[.string t311, s_.1, .bool t315, .string t316]), (49, .bool true)]) (fun s_ w' => (w'.cell? ⟨gb292, 0, none⟩ = some (.string x293000_5) ∧ w'.cell? ⟨gb292, 1, none⟩ = some (.slice Ao38 x293001_5.length co38) ∧ w'.cell? ⟨gb292, 2, none⟩ = some (.bool x293002_5) ∧ w'.cell? ⟨gb292, 3, none⟩ = some (.string x293003_5) ∧ w'.cell? (ad310.add (x11_2).toNat) = some (.string (rdOf ByteArray.empty t307 x11_2))) ∧ (Kd.R Kd.string 9 w' w.heap.size (fun k_ => (w.heap.size ≤ k_) ∧ some k_ ≠ (.slice (some ad310) t307.length co37 : Value).ownBlock ∧ some k_ ≠ (u5 : Value).ownBlock) s_.1 t312) ∧ (Kd.R Kd.string 9 w' w.heap.size (fun k_ => (w.heap.size ≤ k_) ∧ some k_ ≠ (s_.1 : Value).ownBlock ∧ some k_ ≠ (u5 : Value).ownBlock) (.slice (some ad310) t307.length co37) t307) ∧ (Kd.V Kd.string 9 w' w.heap.size (fun k_ => (P0_1_ k_ ∨ w.heap.size ≤ k_) ∧ some k_ ≠ (s_.1 : Value).ownBlock ∧ some k_ ≠ (.slice (some ad310) t307.length co37 : Value).ownBlock ∧ some k_ ≠ (u5 : Value).ownBlock ∧ k_ ≠ gb292 ∧ k_ ≠ s_.2) (.slice Ao38 x293001_5.length co38) x293001_5) ∧ (Kd.R Kd.string 9 w' w.heap.size (fun k_ => (w.heap.size ≤ k_) ∧ some k_ ≠ (s_.1 : Value).ownBlock ∧ some k_ ≠ (.slice (some ad310) t307.length co37 : Value).ownBlock) u5 x5_2) ∧ (w'.heap[gb292]? = some (.cells #[.string x293000_5, .slice Ao38 x293001_5.length co38, .bool x293002_5, .string x293003_5] 27 (0, 0))) ∧ (w'.heap[s_.2]? = some (.cells #[.string (⟨#[]⟩ : ByteArray), .slice none 0 0, .bool false, .string (⟨#[]⟩ : ByteArray)] 27 (0, 0))) ∧ (w.heap.size ≤ s_.2) ∧ (w.heap.size ≤ s_.2) ∧ (gb292 ≠ s_.2) ∧ (s_.2 ≠ gb292) ∧ (Below w.heap.size w w')) ?_ ?_;rotate_left
         ·intro hCont
          refine two_ (i := 5) (j := 9) (Ni := some 47) (Nj := some 12) #[true, true, true, true, true, true, false, false, false, false, false, false] #[true, true, true, true, true, false, false, false, false, true, false, false] rfl rfl rfl rfl (two_of HT_.out (by kernel_rfl)) (by decide) (by decide) (fun K hK => ?_) (fun K hK => ?_)
          ·skip
           refine goes_ Tryz.func29 (by kernel_rfl) rfl #[.agg #[.string x293000_5, .slice Ao38 x293001_5.length co38, .bool x293002_5, .string x293003_5], .string (rdOf ByteArray.empty t307 x11_2)] (by rfl) rfl rfl zz29 ?_;with_reducible refine (spec_AddrJoin.calls k2 x293000_5 _ _ x293001_5 x293002_5 x293003_5 (rdOf ByteArray.empty t307 x11_2) t311 t312 t315 t316 true _ ?side1 ?side2 A33.out).mono ?_
           (case side1 => exact (zz66 HO_293001))
           (case side2 => exact (Kd.V_reads' HO_293001.out).2.1)
           rintro e w40 ⟨v313, rfl, ho0, hb⟩;have HS4_ := (hb.cell (World.block_lt_of_cell? _ _ (hHeld.2.2.2.2))).trans (hHeld.2.2.2.2);refine ⟨_, rfl, ?_⟩;have n0_ := Aside0.mk (Kd.R_elder' (zz9 HO_5) (Kd.R_base ho0) hb);have n1_ := Aside0.mk (Kd.R_elder' (zz9 HO_10) (Kd.R_base ho0) hb);have n2_ := Aside0.mk (Kd.V_elder' (zz65 HO_293001) (Kd.R_base ho0) hb);have n3_ := Aside0.mk (Kd.R_lower (Kd.R_new' (Kd.R_new' (Kd.R_newM (M := fun k_ => (w.heap.size ≤ k_)) ho0 (below_size (zz6 HB GE292)) (fun k_ h_ => h_)) (Kd.R_lt (zz9 HO_5))) (Kd.R_lt (zz9 HO_10))) (below_size (zz6 HB GE292)));have n4_ := Aside0.mk (blk_below (zz27 BK292) hb);have n5_ := Aside0.mk (below_step (zz6 HB GE292) hb);clear HO_5;clear HO_10;clear HO_293001;clear BK292;clear HB;have HO_5 := n0_;have HO_10 := n1_;have HO_293001 := n2_;have HO314 := n3_;have BK292 := n4_;have HB := n5_;clear n0_ n1_ n2_ n3_ n4_ n5_;(try clear hb)
           (try clear hb2)
           (try clear hk)
           (try clear hi)
           (try clear ho0)
           refine hK.out _ _ ⟨(blk_cell BK292.out 0).trans rfl, (blk_cell BK292.out 1).trans rfl, (blk_cell BK292.out 2).trans rfl, (blk_cell BK292.out 3).trans rfl, HS4_⟩ (fun hHeld => ?_);clear hK K;refine norm_ (a' := ?_) ?_ ?_;rotate_left
           ·show Act.put _ (some 47) _ = _
            simp only [Act.put, List.setIfInBounds_toArray, List.set_cons_zero, List.set_cons_succ, i64_w, i32_w]
            rfl
           refine pureZ 6 (some 41) #[true, true, true, true, true, true, true, false, false, false, false, false] ?_;refine pureZ 7 (some 48) #[true, true, true, true, true, true, true, true, false, false, false, false] ?_;refine pureZ 8 (some 49) #[true, true, true, true, true, true, true, true, true, false, false, false] ?_;refine one_ (i := 9) (N := some 12) #[true, true, true, true, true, true, true, true, true, true, false, false] rfl rfl (one_of HT_.out (by kernel_rfl)) (by decide) (fun K hK => ?_);refine box_step ?hg (N := 12) ?hd (cs := #[.string (⟨#[]⟩ : ByteArray), .slice none 0 0, .bool false, .string (⟨#[]⟩ : ByteArray)]) (t := 27) ?hr ?_; (case hd => rfl); (case hg => rfl); (case hr => exact zz8);intro gb318 hg w41 hbox hb;have HS4_ := (hb.cell (World.block_lt_of_cell? _ _ (hHeld.2.2.2.2))).trans (hHeld.2.2.2.2);have n0_ := Aside0.mk (Kd.R_below (zz9 HO_5) hb);have n1_ := Aside0.mk (Kd.R_below (zz9 HO_10) hb);have n2_ := Aside0.mk (Kd.V_below (Kd.V_elderB (zz65 HO_293001) gb318 (Nat.le_of_eq hg.symm)) hb);have n3_ := Aside0.mk (Kd.R_below (zz9 HO314) hb);have n4_ := Aside0.mk (blk_below (zz27 BK292) hb);have n5_ := Aside0.mk (below_step (zz6 HB GE292) hb);have n6_ := Aside0.mk (hbox);have n7_ := Aside0.mk ((by rw [hg]; exact (below_size (zz6 HB GE292)) : w.heap.size ≤ gb318));have n8_ := Aside0.mk ((by rw [hg]; exact (below_size (zz6 HB GE292)) : w.heap.size ≤ gb318));have n9_ := Aside0.mk ((by rw [hg]; exact Nat.ne_of_lt (blk_lt (zz27 BK292)) : gb292 ≠ gb318));have n10_ := Aside0.mk ((by rw [hg]; exact Nat.ne_of_gt (blk_lt (zz27 BK292)) : gb318 ≠ gb292));clear HO_5;clear HO_10;clear HO_293001;clear HO314;clear BK292;clear HB;have HO_5 := n0_;have HO_10 := n1_;have HO_293001 := n2_;have HO314 := n3_;have BK292 := n4_;have HB := n5_;have BK318 := n6_;have GW318 := n7_;have GE318 := n8_;have NB292_318 := n9_;have NB318_292 := n10_;clear n0_ n1_ n2_ n3_ n4_ n5_ n6_ n7_ n8_ n9_ n10_;clear hb hbox hg;refine hK.out _ _ ⟨(blk_cell BK292.out 0).trans rfl, (blk_cell BK292.out 1).trans rfl, (blk_cell BK292.out 2).trans rfl, (blk_cell BK292.out 3).trans rfl, HS4_⟩ (fun hHeld => ?_);clear hK K;refine norm_ (a' := ?_) ?_ ?_;rotate_left
           ·show Act.put _ (some 12) _ = _
            simp only [Act.put, List.setIfInBounds_toArray, List.set_cons_zero, List.set_cons_succ, i64_w, i32_w]
            rfl
           exact norm_ viaP (hCont (v313, gb318) _ ⟨hHeld, (zz75 HO314), (zz76 HO_10), (zz77 HO_293001), (zz76 HO_5), (zz27 BK292), (zz27 BK318), GW318.out, GE318.out, NB292_318.out, NB318_292.out, (zz38 HB GE292 GE318)⟩)
          ·skip
           refine box_step ?hg (N := 12) ?hd (cs := #[.string (⟨#[]⟩ : ByteArray), .slice none 0 0, .bool false, .string (⟨#[]⟩ : ByteArray)]) (t := 27) ?hr ?_; (case hd => rfl); (case hg => rfl); (case hr => exact zz8);intro gb318 hg w40 hbox hb;have HS4_ := (hb.cell (World.block_lt_of_cell? _ _ (hHeld.2.2.2.2))).trans (hHeld.2.2.2.2);have n0_ := Aside0.mk (Kd.R_below (zz9 HO_5) hb);have n1_ := Aside0.mk (Kd.R_below (zz9 HO_10) hb);have n2_ := Aside0.mk (Kd.V_below (Kd.V_elderB (zz65 HO_293001) gb318 (Nat.le_of_eq hg.symm)) hb);have n3_ := Aside0.mk (blk_below (zz27 BK292) hb);have n4_ := Aside0.mk (below_step (zz6 HB GE292) hb);have n5_ := Aside0.mk (hbox);have n6_ := Aside0.mk ((by rw [hg]; exact (below_size (zz6 HB GE292)) : w.heap.size ≤ gb318));have n7_ := Aside0.mk ((by rw [hg]; exact (below_size (zz6 HB GE292)) : w.heap.size ≤ gb318));have n8_ := Aside0.mk ((by rw [hg]; exact Nat.ne_of_lt (blk_lt (zz27 BK292)) : gb292 ≠ gb318));have n9_ := Aside0.mk ((by rw [hg]; exact Nat.ne_of_gt (blk_lt (zz27 BK292)) : gb318 ≠ gb292));clear HO_5;clear HO_10;clear HO_293001;clear BK292;clear HB;have HO_5 := n0_;have HO_10 := n1_;have HO_293001 := n2_;have BK292 := n3_;have HB := n4_;have BK318 := n5_;have GW318 := n6_;have GE318 := n7_;have NB292_318 := n8_;have NB318_292 := n9_;clear n0_ n1_ n2_ n3_ n4_ n5_ n6_ n7_ n8_ n9_;clear hb hbox hg;refine hK.out _ _ ⟨(blk_cell BK292.out 0).trans rfl, (blk_cell BK292.out 1).trans rfl, (blk_cell BK292.out 2).trans rfl, (blk_cell BK292.out 3).trans rfl, HS4_⟩ (fun hHeld => ?_);clear hK K;refine norm_ (a' := ?_) ?_ ?_;rotate_left
           ·show Act.put _ (some 12) _ = _
            simp only [Act.put, List.setIfInBounds_toArray, List.set_cons_zero, List.set_cons_succ, i64_w, i32_w]
            rfl
           refine one_ (i := 5) (N := some 47) #[true, true, true, true, true, true, false, false, false, true, false, false] rfl rfl (one_of HT_.out (by kernel_rfl)) (by decide) (fun K hK => ?_);refine goes_ Tryz.func29 (by kernel_rfl) rfl #[.agg #[.string x293000_5, .slice Ao38 x293001_5.length co38, .bool x293002_5, .string x293003_5], .string (rdOf ByteArray.empty t307 x11_2)] (by rfl) rfl rfl zz29 ?_;with_reducible refine (spec_AddrJoin.calls k2 x293000_5 _ _ x293001_5 x293002_5 x293003_5 (rdOf ByteArray.empty t307 x11_2) t311 t312 t315 t316 true _ ?side1 ?side2 A33.out).mono ?_
           (case side1 => exact (zz66 HO_293001))
           (case side2 => exact (Kd.V_reads' HO_293001.out).2.1)
           rintro e w41 ⟨v313, rfl, ho0, hb⟩;have HS4_ := (hb.cell (World.block_lt_of_cell? _ _ (hHeld.2.2.2.2))).trans (hHeld.2.2.2.2);refine ⟨_, rfl, ?_⟩;have n0_ := Aside0.mk (Kd.R_elder' (zz9 HO_5) (Kd.R_base ho0) hb);have n1_ := Aside0.mk (Kd.R_elder' (zz9 HO_10) (Kd.R_base ho0) hb);have n2_ := Aside0.mk (Kd.V_elder' (zz65 HO_293001) (Kd.R_base ho0) hb);have n3_ := Aside0.mk (Kd.R_lower (Kd.R_new' (Kd.R_new' (Kd.R_newM (M := fun k_ => (w.heap.size ≤ k_)) ho0 (below_size (zz38 HB GE292 GE318)) (fun k_ h_ => h_)) (Kd.R_lt (zz9 HO_5))) (Kd.R_lt (zz9 HO_10))) (below_size (zz38 HB GE292 GE318)));have n4_ := Aside0.mk (blk_below (zz27 BK292) hb);have n5_ := Aside0.mk (blk_below (zz27 BK318) hb);have n6_ := Aside0.mk (below_step (zz38 HB GE292 GE318) hb);clear HO_5;clear HO_10;clear HO_293001;clear BK292;clear BK318;clear HB;have HO_5 := n0_;have HO_10 := n1_;have HO_293001 := n2_;have HO314 := n3_;have BK292 := n4_;have BK318 := n5_;have HB := n6_;clear n0_ n1_ n2_ n3_ n4_ n5_ n6_;(try clear hb)
           (try clear hb2)
           (try clear hk)
           (try clear hi)
           (try clear ho0)
           refine hK.out _ _ ⟨(blk_cell BK292.out 0).trans rfl, (blk_cell BK292.out 1).trans rfl, (blk_cell BK292.out 2).trans rfl, (blk_cell BK292.out 3).trans rfl, HS4_⟩ (fun hHeld => ?_);clear hK K;refine norm_ (a' := ?_) ?_ ?_;rotate_left
           ·show Act.put _ (some 47) _ = _
            simp only [Act.put, List.setIfInBounds_toArray, List.set_cons_zero, List.set_cons_succ, i64_w, i32_w]
            rfl
           refine pureZ 6 (some 41) #[true, true, true, true, true, true, true, false, false, true, false, false] ?_;refine pureZ 7 (some 48) #[true, true, true, true, true, true, true, true, false, true, false, false] ?_;refine pureZ 8 (some 49) #[true, true, true, true, true, true, true, true, true, true, false, false] ?_;exact norm_ viaP (hCont (v313, gb318) _ ⟨hHeld, (zz75 HO314), (zz76 HO_10), (zz78 HO_293001), (zz76 HO_5), (zz27 BK292), (zz27 BK318), GW318.out, GE318.out, NB292_318.out, NB318_292.out, (zz38 HB GE292 GE318)⟩)
         rintro ⟨v313, gb318⟩ w42 ⟨hS_, h0_, h1_, h2_, h3_, h4_, h5_, h6_, h7_, h8_, h9_, h10_⟩;have n0_ : Aside0 (Kd.R Kd.string 9 w42 w.heap.size (fun k_ => (w.heap.size ≤ k_) ∧ some k_ ≠ (.slice (some ad310) t307.length co37 : Value).ownBlock ∧ some k_ ≠ (u5 : Value).ownBlock) v313 t312) := ⟨h0_⟩;have n1_ : Aside0 (Kd.R Kd.string 9 w42 w.heap.size (fun k_ => (w.heap.size ≤ k_) ∧ some k_ ≠ (v313 : Value).ownBlock ∧ some k_ ≠ (u5 : Value).ownBlock) (.slice (some ad310) t307.length co37) t307) := ⟨h1_⟩;have n2_ : Aside0 (Kd.V Kd.string 9 w42 w.heap.size (fun k_ => (P0_1_ k_ ∨ w.heap.size ≤ k_) ∧ some k_ ≠ (v313 : Value).ownBlock ∧ some k_ ≠ (.slice (some ad310) t307.length co37 : Value).ownBlock ∧ some k_ ≠ (u5 : Value).ownBlock ∧ k_ ≠ gb292 ∧ k_ ≠ gb318) (.slice Ao38 x293001_5.length co38) x293001_5) := ⟨h2_⟩;have n3_ : Aside0 (Kd.R Kd.string 9 w42 w.heap.size (fun k_ => (w.heap.size ≤ k_) ∧ some k_ ≠ (v313 : Value).ownBlock ∧ some k_ ≠ (.slice (some ad310) t307.length co37 : Value).ownBlock) u5 x5_2) := ⟨h3_⟩;have n4_ : Aside0 (w42.heap[gb292]? = some (.cells #[.string x293000_5, .slice Ao38 x293001_5.length co38, .bool x293002_5, .string x293003_5] 27 (0, 0))) := ⟨h4_⟩;have n5_ : Aside0 (w42.heap[gb318]? = some (.cells #[.string (⟨#[]⟩ : ByteArray), .slice none 0 0, .bool false, .string (⟨#[]⟩ : ByteArray)] 27 (0, 0))) := ⟨h5_⟩;have n6_ : Aside0 (w.heap.size ≤ gb318) := ⟨h6_⟩;have n7_ : Aside0 (w.heap.size ≤ gb318) := ⟨h7_⟩;have n8_ : Aside0 (gb292 ≠ gb318) := ⟨h8_⟩;have n9_ : Aside0 (gb318 ≠ gb292) := ⟨h9_⟩;have n10_ : Aside0 (Below w.heap.size w w42) := ⟨h10_⟩;clear HO_5;clear HO_10;clear HO_293001;clear BK292;clear HB;clear h0_ h1_ h2_ h3_ h4_ h5_ h6_ h7_ h8_ h9_ h10_;have HO314 := n0_;have HO_10 := n1_;have HO_293001 := n2_;have HO_5 := n3_;have BK292 := n4_;have BK318 := n5_;have GW318 := n6_;have GE318 := n7_;have NB292_318 := n8_;have NB318_292 := n9_;have HB := n10_;clear n0_ n1_ n2_ n3_ n4_ n5_ n6_ n7_ n8_ n9_ n10_;have hHeld : w42.cell? ⟨gb292, 0, none⟩ = some (.string x293000_5) ∧ w42.cell? ⟨gb292, 1, none⟩ = some (.slice Ao38 x293001_5.length co38) ∧ w42.cell? ⟨gb292, 2, none⟩ = some (.bool x293002_5) ∧ w42.cell? ⟨gb292, 3, none⟩ = some (.string x293003_5) ∧ w42.cell? (ad310.add (x11_2).toNat) = some (.string (rdOf ByteArray.empty t307 x11_2)) := hS_;obtain ⟨Ao44, co44, eo44⟩ := Kd.R_slice HO314.out;(first | subst eo44 | (injection eo44 with f1_ f2_ f3_; have f4_ := f1_.symm; have f5_ := f3_.symm; clear f1_ f2_ f3_; subst f4_; subst f5_))
         refine norm_ (a' := ?_) ?_ ?_;rotate_left
         ·simp only [putAll, Act.put, List.setIfInBounds_toArray, List.set_cons_zero, List.set_cons_succ]
          rfl
         refine one_ (i := 10) (N := none) #[true, true, true, true, true, true, true, true, true, true, true, false] rfl rfl (one_of HT_.out (by kernel_rfl)) (by decide) (fun K hK => ?_);have hs43 : w42.cell? ⟨gb318, 0, none⟩ = some (.string (⟨#[]⟩ : ByteArray)) := (blk_cell BK318.out 0).trans rfl;have hfs43 := blk_frozen BK318.out 0;have hns43_0 := NB292_318.out;have hms43_0 := NB318_292.out;have hs45 : w42.cell? ⟨gb318, 1, none⟩ = some (.slice none 0 0) := (blk_cell BK318.out 1).trans rfl;have hfs45 := blk_frozen BK318.out 1;have hns45_0 := NB292_318.out;have hms45_0 := NB318_292.out;have hs46 : w42.cell? ⟨gb318, 2, none⟩ = some (.bool false) := (blk_cell BK318.out 2).trans rfl;have hfs46 := blk_frozen BK318.out 2;have hns46_0 := NB292_318.out;have hms46_0 := NB318_292.out;have hs47 : w42.cell? ⟨gb318, 3, none⟩ = some (.string (⟨#[]⟩ : ByteArray)) := (blk_cell BK318.out 3).trans rfl;have hfs47 := blk_frozen BK318.out 3;have hns47_0 := NB292_318.out;have hms47_0 := NB318_292.out;refine skip_ (w1 := ?_) (by rfl) rfl ?_ ?_;rotate_left
         ·go_simp
          rfl
         refine hK.out _ _ ⟨((cell_far (p := ⟨gb318, _, none⟩) NB292_318.out _).trans (((cell_far (p := ⟨gb318, _, none⟩) NB292_318.out _).trans (((cell_far (p := ⟨gb318, _, none⟩) NB292_318.out _).trans (((cell_far (p := ⟨gb318, _, none⟩) NB292_318.out _).trans (hHeld.1)))))))), ((cell_far (p := ⟨gb318, _, none⟩) NB292_318.out _).trans (((cell_far (p := ⟨gb318, _, none⟩) NB292_318.out _).trans (((cell_far (p := ⟨gb318, _, none⟩) NB292_318.out _).trans (((cell_far (p := ⟨gb318, _, none⟩) NB292_318.out _).trans (hHeld.2.1)))))))), ((cell_far (p := ⟨gb318, _, none⟩) NB292_318.out _).trans (((cell_far (p := ⟨gb318, _, none⟩) NB292_318.out _).trans (((cell_far (p := ⟨gb318, _, none⟩) NB292_318.out _).trans (((cell_far (p := ⟨gb318, _, none⟩) NB292_318.out _).trans (hHeld.2.2.1)))))))), ((cell_far (p := ⟨gb318, _, none⟩) NB292_318.out _).trans (((cell_far (p := ⟨gb318, _, none⟩) NB292_318.out _).trans (((cell_far (p := ⟨gb318, _, none⟩) NB292_318.out _).trans (((cell_far (p := ⟨gb318, _, none⟩) NB292_318.out _).trans (hHeld.2.2.2.1)))))))), ((cell_far (p := ⟨gb318, _, none⟩) (zz79 HO_10 BK318) _).trans (((cell_far (p := ⟨gb318, _, none⟩) (zz79 HO_10 BK318) _).trans (((cell_far (p := ⟨gb318, _, none⟩) (zz79 HO_10 BK318) _).trans (((cell_far (p := ⟨gb318, _, none⟩) (zz79 HO_10 BK318) _).trans (hHeld.2.2.2.2))))))))⟩ (fun hHeld => ?_);clear hK K;refine pureZ 11 (some 13) #[true, true, true, true, true, true, true, true, true, true, true, true] ?_;refine done_ (done_of HT_.out (by kernel_rfl)) ?_;have hnb48 := NB318_292.out;have hnc48 := NB292_318.out;obtain ⟨_, _, _, _, _, _, _, _⟩ := cf4 BK318;try go_wp2_with (first | ((with_reducible refine gate_callee (f := 32) rfl ?_); refine gsL (some 53) Tryz.func32 #[.agg #[.string t311, .slice Ao44 t312.length co44, .bool t315, .string t316]] ?_; (with_reducible refine (spec_AddrText.calls k2 t311 _ _ t312 t315 t316 t319 _ ?side1 ?side2 A35.out).mono ?_); (case side1 => exact (by refine (Kd.R_reads' (e := 9) (base := w.heap.size) (ok := fun k_ => ((w.heap.size ≤ k_) ∧ (some k_ ≠ (.slice (some ad310) t307.length co37 : Value).ownBlock ∧ some k_ ≠ (u5 : Value).ownBlock))) (n := t312.length) (c := co44) ?_).2.2; exact (zz80 HO314 BK318))); (case side2 => exact (Kd.R_reads' HO314.out).2.1); rintro e w50 ⟨rfl, hb⟩; refine ⟨_, rfl, ?_⟩; have n0_ := Aside0.mk (Kd.R_below (zz80 HO_5 BK318) hb); have n1_ := Aside0.mk (Kd.R_below (zz80 HO_10 BK318) hb); have n2_ := Aside0.mk (Kd.V_below (by (with_reducible repeat (first | apply Kd.V_alloc | apply Kd.V_drewN | apply Kd.V_drew)); exact (Kd.V_mono (Kd.V_far (p := ⟨gb318, 3, none⟩) (Kd.V_far (p := ⟨gb318, 2, none⟩) (Kd.V_far (p := ⟨gb318, 1, none⟩) (Kd.V_far (p := ⟨gb318, 0, none⟩) (Kd.V_mono HO_293001.out (fun k_ hk => (⟨hk, hk.2.2.2.2.2⟩ : _ ∧ k_ ≠ gb318))) (fun _ hk => hk.2) (.string t311)) (fun _ hk => hk.2) (.slice Ao44 t312.length co44)) (fun _ hk => hk.2) (.bool t315)) (fun _ hk => hk.2) (.string t316)) (fun _ h_ => h_.1))) hb); have n3_ := Aside0.mk (Kd.R_below (zz80 HO314 BK318) hb); have n4_ := Aside0.mk (blk_below (g := gb292) (o := .cells #[.string x293000_5, .slice Ao38 x293001_5.length co38, .bool x293002_5, .string x293003_5] 27 (0, 0)) (zz50 BK292 NB292_318) hb); have n5_ := Aside0.mk (blk_below (g := gb318) (o := .cells #[.string t311, .slice Ao44 t312.length co44, .bool t315, .string t316] 27 (0, 0)) (zz42 BK318) hb); have n6_ := Aside0.mk (below_step (zz38 HB GE292 GE318) hb); clear HO_5; clear HO_10; clear HO_293001; clear HO314; clear BK292; clear BK318; clear HB; have HO_5 := n0_; have HO_10 := n1_; have HO_293001 := n2_; have HO314 := n3_; have BK292 := n4_; have BK318 := n5_; have HB := n6_; clear n0_ n1_ n2_ n3_ n4_ n5_ n6_; (try clear hb); obtain ⟨Ao51, co51, eo51⟩ := Kd.R_slice HO_5.out; subst eo51) | ((with_reducible refine gate_callee (f := 31) rfl ?_); refine gsL (some 54) Tryz.func31 #[.slice Ao51 x5_2.length co51, .string t319] ?_; (with_reducible refine (spec_l3Put.calls k2 (fun k_ => some k_ = (.slice Ao51 x5_2.length co51 : Value).ownBlock) (.slice Ao51 x5_2.length co51) x5_2 t319 t320 w _ ?side1 ?side2 A36.out).mono ?_); (case side1 => exact (zz38 HB GE292 GE318)); (case side2 => exact Kd.R_tight rfl HO_5.out); rintro e w52 ⟨v321, rfl, ho0, hb, hkp⟩; refine ⟨_, rfl, ?_⟩; have n0_ := Aside0.mk (Kd.R_mono (ok' := fun k_ => (w.heap.size ≤ k_) ∧ some k_ ≠ (.slice Ao44 t312.length co44 : Value).ownBlock ∧ some k_ ≠ (v321 : Value).ownBlock) (Kd.R_keptB (HO_10.out) hkp (fun k_ hk_ hs_ => (hk_.2.2) hs_)) (fun k_ hk_ => ⟨hk_.1.1, hk_.1.2.1, fun e_ => Or.elim (ho0.1 k_ e_.symm) (fun hs_ => hk_.2.1 hs_) (fun hn_ => Nat.not_le.2 hk_.2.2 hn_)⟩)); have n1_ := Aside0.mk (Kd.V_mono (ok' := fun k_ => (P0_1_ k_ ∨ w.heap.size ≤ k_) ∧ some k_ ≠ (.slice (some ad310) t307.length co37 : Value).ownBlock ∧ some k_ ≠ (.slice Ao44 t312.length co44 : Value).ownBlock ∧ k_ ≠ gb292 ∧ k_ ≠ gb318 ∧ some k_ ≠ (v321 : Value).ownBlock) (Kd.V_keptB (HO_293001.out) hkp (fun k_ hk_ hs_ => (hk_.2.2.2.1) hs_)) (fun k_ hk_ => ⟨hk_.1.1, hk_.1.2.2.1, hk_.1.2.1, hk_.1.2.2.2.2.1, hk_.1.2.2.2.2.2, fun e_ => Or.elim (ho0.1 k_ e_.symm) (fun hs_ => hk_.2.1 hs_) (fun hn_ => Nat.not_le.2 hk_.2.2 hn_)⟩)); have n2_ := Aside0.mk (blk_kept (zz27 BK292) hkp (fun hs_ => (fun e_ => (Kd.R_ne HO_5.out BK292.out (by decide)) e_) hs_)); have n3_ := Aside0.mk (Kd.R_mono (ok' := fun k_ => (w.heap.size ≤ k_) ∧ some k_ ≠ (.slice (some ad310) t307.length co37 : Value).ownBlock ∧ some k_ ≠ (v321 : Value).ownBlock) (Kd.R_keptB (HO314.out) hkp (fun k_ hk_ hs_ => (hk_.2.2) hs_)) (fun k_ hk_ => ⟨hk_.1.1, hk_.1.2.1, fun e_ => Or.elim (ho0.1 k_ e_.symm) (fun hs_ => hk_.2.1 hs_) (fun hn_ => Nat.not_le.2 hk_.2.2 hn_)⟩)); have n4_ := Aside0.mk (blk_kept (zz27 BK318) hkp (fun hs_ => (fun e_ => (Kd.R_ne HO_5.out BK318.out (by decide)) e_) hs_)); have n5_ := Aside0.mk (Kd.R_mono (ok' := fun k_ => (w.heap.size ≤ k_) ∧ some k_ ≠ (.slice (some ad310) t307.length co37 : Value).ownBlock ∧ some k_ ≠ (.slice Ao44 t312.length co44 : Value).ownBlock) ho0 (fun k_ hk_ => ⟨Or.elim hk_ (fun hs_ => (HO_5.out.1 k_ (hs_).symm).1) (fun hn_ => (Nat.le_trans (below_size (zz38 HB GE292 GE318)) hn_)), Or.elim hk_ (fun hs_ => fun e_ => (((HO_10.out).1 k_ e_.symm).2.2) hs_) (fun hn_ => (Kd.fresh' (Kd.R_lt (zz9 HO_10)) k_ hn_)), Or.elim hk_ (fun hs_ => fun e_ => (((HO314.out).1 k_ e_.symm).2.2) hs_) (fun hn_ => (Kd.fresh' (Kd.R_lt (zz9 HO314)) k_ hn_))⟩)); have n6_ := Aside0.mk (hb); clear HO_10; clear HO_293001; clear BK292; clear HO314; clear BK318; clear HB; clear HO_5; have HO_10 := n0_; have HO_293001 := n1_; have BK292 := n2_; have HO314 := n3_; have BK318 := n4_; have HO322 := n5_; have HB := n6_; clear n0_ n1_ n2_ n3_ n4_ n5_ n6_; (try clear hb ho0)))
         go_roundg k2
         case measure => have := HJ5.out; have := HK2.out; omega
         case rel => exact ⟨(t320), (wrap64 (x11_2 + 1)), zz0, H', ⟨(zz26 HJ5 HK2)⟩, ⟨(zz83 HO322)⟩, ⟨(by (with_reducible repeat (first | apply Kd.R_alloc | apply Kd.R_drewN | apply Kd.R_drew)); exact Kd.R_mono HO_10.out (fun _ hk => ⟨hk.1, hk.2.2⟩))⟩, ⟨(by (with_reducible repeat (first | apply Kd.V_alloc | apply Kd.V_drewN | apply Kd.V_drew)); exact Kd.V_mono HO_293001.out (fun _ hk => ⟨hk.1, ⟨hk.2.2.2.2.2, ⟨hk.2.1, hk.2.2.2.1⟩⟩⟩))⟩, ⟨(zz27 BK292)⟩, ⟨(zz38 HB GE292 GE318)⟩⟩
        ·replace c34 := Bool.eq_false_iff.mpr c34
         subst c34;rw [if_neg (show ¬ (false = true) by decide)] at H;have H' := Aside0.mk H;clear H;obtain ⟨Ao53, co53, eo53⟩ := Kd.R_slice HO_10.out;subst eo53;obtain ⟨Ao54, co54, eo54⟩ := Kd.V_slice HO_293001.out;subst eo54;try go_wp2
         have n0_ := Aside0.mk (Kd.R_drew HO_5.out);have n1_ := Aside0.mk (Kd.R_drew HO_10.out);have n2_ := Aside0.mk (Kd.V_drew HO_293001.out);have n3_ := Aside0.mk (blk_drew BK292.out);have n4_ := Aside0.mk (below_drew1 HB.out);clear HO_5;clear HO_10;clear HO_293001;clear BK292;clear HB;have HO_5 := n0_;have HO_10 := n1_;have HO_293001 := n2_;have BK292 := n3_;have HB := n4_;clear n0_ n1_ n2_ n3_ n4_;have p310 : 0 ≤ (x11_2 : Int) := ofD;have q310 : x11_2 < (t307.length : Int) := ofD;obtain ⟨ad310, e310, hx310_0⟩ := Kd.at_string (Kd.R_reads' HO_10.out).2.2 x11_2 p310 q310;cases e310
         replace p310 := eq_true p310;replace q310 := eq_true q310;refine start_ (n := 12) (S := fun w' => w'.cell? ⟨gb292, 0, none⟩ = some (.string x293000_5) ∧ w'.cell? ⟨gb292, 1, none⟩ = some (.slice Ao54 x293001_5.length co54) ∧ w'.cell? ⟨gb292, 2, none⟩ = some (.bool x293002_5) ∧ w'.cell? ⟨gb292, 3, none⟩ = some (.string x293003_5) ∧ w'.cell? (ad310.add (x11_2).toNat) = some (.string (rdOf ByteArray.empty t307 x11_2))) (ds := []) #[false, false, false, false, false, false, false, false, false, false, false, false] (by kernel_rfl) rfl rfl ⟨(blk_cell BK292.out 0).trans rfl, (blk_cell BK292.out 1).trans rfl, (blk_cell BK292.out 2).trans rfl, (blk_cell BK292.out 3).trans rfl, hx310_0⟩ (fun hHeld => ?_); refine with_tabW spec_PageAddrs.tab13 spec_PageAddrs.bits13 (fun HT_ HW_ => ?_);generalize wr.drew = w55 at HO_5 HO_10 HO_293001 BK292 HB hx310_0 hHeld ⊢;refine pureZ 1 (some 43) #[false, true, false, false, false, false, false, false, false, false, false, false] ?_;refine pureZ 2 (some 44) #[false, true, true, false, false, false, false, false, false, false, false, false] ?_;refine pureZ 3 (some 45) #[false, true, true, true, false, false, false, false, false, false, false, false] ?_;refine take_ (i := 0) (N := some 42) (v := ?_) (a' := ?_) #[true, true, true, true, false, false, false, false, false, false, false, false] rfl rfl (take_ofW HT_.out HW_.out (by kernel_rfl)) (fun _ _ _ h => h) (Or.inl ⟨by rfl, ?_⟩) hHeld ?_ ?_;rotate_left
         ·rintro w' ⟨s0, s1, s2, s3, s4⟩
          go_simp
          with_reducible rfl
         rotate_left
         ·simp only [Act.put, List.setIfInBounds_toArray, List.set_cons_zero, List.set_cons_succ, i64_w, i32_w]
          rfl
         refine take_ (i := 4) (N := some 46) (v := ?_) (a' := ?_) #[true, true, true, true, true, false, false, false, false, false, false, false] rfl rfl (take_ofW HT_.out HW_.out (by kernel_rfl)) (fun _ _ _ h => h) (Or.inl ⟨by rfl, ?_⟩) hHeld ?_ ?_;rotate_left
         ·rintro w' ⟨s0, s1, s2, s3, s4⟩
          go_simp
          with_reducible rfl
         rotate_left
         ·simp only [Act.put, List.setIfInBounds_toArray, List.set_cons_zero, List.set_cons_succ, i64_w, i32_w]
          rfl
         refine join_ (σ := Value × Nat) 2 #[true, true, true, true, true, true, true, true, true, true, false, false] (fun s_ => [(47, .tuple #[.agg #[.string t311, s_.1, .bool t315, .string t316], .bool false]), (12, .pointer (some ⟨s_.2, 0, none⟩)), (41, .tuple #[.agg #[.string t311, s_.1, .bool t315, .string t316], .bool false]), (48, .agg #[.string t311, s_.1, .bool t315, .string t316]), (49, .bool false)]) (fun s_ w' => (w'.cell? ⟨gb292, 0, none⟩ = some (.string x293000_5) ∧ w'.cell? ⟨gb292, 1, none⟩ = some (.slice Ao54 x293001_5.length co54) ∧ w'.cell? ⟨gb292, 2, none⟩ = some (.bool x293002_5) ∧ w'.cell? ⟨gb292, 3, none⟩ = some (.string x293003_5) ∧ w'.cell? (ad310.add (x11_2).toNat) = some (.string (rdOf ByteArray.empty t307 x11_2))) ∧ (Kd.R Kd.string 9 w' w.heap.size (fun k_ => (w.heap.size ≤ k_) ∧ some k_ ≠ (.slice (some ad310) t307.length co53 : Value).ownBlock ∧ some k_ ≠ (u5 : Value).ownBlock) s_.1 t312) ∧ (Kd.R Kd.string 9 w' w.heap.size (fun k_ => (w.heap.size ≤ k_) ∧ some k_ ≠ (s_.1 : Value).ownBlock ∧ some k_ ≠ (u5 : Value).ownBlock) (.slice (some ad310) t307.length co53) t307) ∧ (Kd.V Kd.string 9 w' w.heap.size (fun k_ => (P0_1_ k_ ∨ w.heap.size ≤ k_) ∧ some k_ ≠ (s_.1 : Value).ownBlock ∧ some k_ ≠ (.slice (some ad310) t307.length co53 : Value).ownBlock ∧ some k_ ≠ (u5 : Value).ownBlock ∧ k_ ≠ gb292 ∧ k_ ≠ s_.2) (.slice Ao54 x293001_5.length co54) x293001_5) ∧ (Kd.R Kd.string 9 w' w.heap.size (fun k_ => (w.heap.size ≤ k_) ∧ some k_ ≠ (s_.1 : Value).ownBlock ∧ some k_ ≠ (.slice (some ad310) t307.length co53 : Value).ownBlock) u5 x5_2) ∧ (w'.heap[gb292]? = some (.cells #[.string x293000_5, .slice Ao54 x293001_5.length co54, .bool x293002_5, .string x293003_5] 27 (0, 0))) ∧ (w'.heap[s_.2]? = some (.cells #[.string (⟨#[]⟩ : ByteArray), .slice none 0 0, .bool false, .string (⟨#[]⟩ : ByteArray)] 27 (0, 0))) ∧ (w.heap.size ≤ s_.2) ∧ (w.heap.size ≤ s_.2) ∧ (gb292 ≠ s_.2) ∧ (s_.2 ≠ gb292) ∧ (Below w.heap.size w w')) ?_ ?_;rotate_left
         ·intro hCont
          refine two_ (i := 5) (j := 9) (Ni := some 47) (Nj := some 12) #[true, true, true, true, true, true, false, false, false, false, false, false] #[true, true, true, true, true, false, false, false, false, true, false, false] rfl rfl rfl rfl (two_of HT_.out (by kernel_rfl)) (by decide) (by decide) (fun K hK => ?_) (fun K hK => ?_)
          ·skip
           refine goes_ Tryz.func29 (by kernel_rfl) rfl #[.agg #[.string x293000_5, .slice Ao54 x293001_5.length co54, .bool x293002_5, .string x293003_5], .string (rdOf ByteArray.empty t307 x11_2)] (by rfl) rfl rfl zz29 ?_;with_reducible refine (spec_AddrJoin.calls k2 x293000_5 _ _ x293001_5 x293002_5 x293003_5 (rdOf ByteArray.empty t307 x11_2) t311 t312 t315 t316 false _ ?side1 ?side2 A33.out).mono ?_
           (case side1 => exact (zz66 HO_293001))
           (case side2 => exact (Kd.V_reads' HO_293001.out).2.1)
           rintro e w56 ⟨v313, rfl, ho0, hb⟩;have HS4_ := (hb.cell (World.block_lt_of_cell? _ _ (hHeld.2.2.2.2))).trans (hHeld.2.2.2.2);refine ⟨_, rfl, ?_⟩;have n0_ := Aside0.mk (Kd.R_elder' (zz9 HO_5) (Kd.R_base ho0) hb);have n1_ := Aside0.mk (Kd.R_elder' (zz9 HO_10) (Kd.R_base ho0) hb);have n2_ := Aside0.mk (Kd.V_elder' (zz65 HO_293001) (Kd.R_base ho0) hb);have n3_ := Aside0.mk (Kd.R_lower (Kd.R_new' (Kd.R_new' (Kd.R_newM (M := fun k_ => (w.heap.size ≤ k_)) ho0 (below_size (zz6 HB GE292)) (fun k_ h_ => h_)) (Kd.R_lt (zz9 HO_5))) (Kd.R_lt (zz9 HO_10))) (below_size (zz6 HB GE292)));have n4_ := Aside0.mk (blk_below (zz27 BK292) hb);have n5_ := Aside0.mk (below_step (zz6 HB GE292) hb);clear HO_5;clear HO_10;clear HO_293001;clear BK292;clear HB;have HO_5 := n0_;have HO_10 := n1_;have HO_293001 := n2_;have HO314 := n3_;have BK292 := n4_;have HB := n5_;clear n0_ n1_ n2_ n3_ n4_ n5_;(try clear hb)
           (try clear hb2)
           (try clear hk)
           (try clear hi)
           (try clear ho0)
           refine hK.out _ _ ⟨(blk_cell BK292.out 0).trans rfl, (blk_cell BK292.out 1).trans rfl, (blk_cell BK292.out 2).trans rfl, (blk_cell BK292.out 3).trans rfl, HS4_⟩ (fun hHeld => ?_);clear hK K;refine norm_ (a' := ?_) ?_ ?_;rotate_left
           ·show Act.put _ (some 47) _ = _
            simp only [Act.put, List.setIfInBounds_toArray, List.set_cons_zero, List.set_cons_succ, i64_w, i32_w]
            rfl
           refine pureZ 6 (some 41) #[true, true, true, true, true, true, true, false, false, false, false, false] ?_;refine pureZ 7 (some 48) #[true, true, true, true, true, true, true, true, false, false, false, false] ?_;refine pureZ 8 (some 49) #[true, true, true, true, true, true, true, true, true, false, false, false] ?_;refine one_ (i := 9) (N := some 12) #[true, true, true, true, true, true, true, true, true, true, false, false] rfl rfl (one_of HT_.out (by kernel_rfl)) (by decide) (fun K hK => ?_);refine box_step ?hg (N := 12) ?hd (cs := #[.string (⟨#[]⟩ : ByteArray), .slice none 0 0, .bool false, .string (⟨#[]⟩ : ByteArray)]) (t := 27) ?hr ?_; (case hd => rfl); (case hg => rfl); (case hr => exact zz8);intro gb318 hg w57 hbox hb;have HS4_ := (hb.cell (World.block_lt_of_cell? _ _ (hHeld.2.2.2.2))).trans (hHeld.2.2.2.2);have n0_ := Aside0.mk (Kd.R_below (zz9 HO_5) hb);have n1_ := Aside0.mk (Kd.R_below (zz9 HO_10) hb);have n2_ := Aside0.mk (Kd.V_below (Kd.V_elderB (zz65 HO_293001) gb318 (Nat.le_of_eq hg.symm)) hb);have n3_ := Aside0.mk (Kd.R_below (zz9 HO314) hb);have n4_ := Aside0.mk (blk_below (zz27 BK292) hb);have n5_ := Aside0.mk (below_step (zz6 HB GE292) hb);have n6_ := Aside0.mk (hbox);have n7_ := Aside0.mk ((by rw [hg]; exact (below_size (zz6 HB GE292)) : w.heap.size ≤ gb318));have n8_ := Aside0.mk ((by rw [hg]; exact (below_size (zz6 HB GE292)) : w.heap.size ≤ gb318));have n9_ := Aside0.mk ((by rw [hg]; exact Nat.ne_of_lt (blk_lt (zz27 BK292)) : gb292 ≠ gb318));have n10_ := Aside0.mk ((by rw [hg]; exact Nat.ne_of_gt (blk_lt (zz27 BK292)) : gb318 ≠ gb292));clear HO_5;clear HO_10;clear HO_293001;clear HO314;clear BK292;clear HB;have HO_5 := n0_;have HO_10 := n1_;have HO_293001 := n2_;have HO314 := n3_;have BK292 := n4_;have HB := n5_;have BK318 := n6_;have GW318 := n7_;have GE318 := n8_;have NB292_318 := n9_;have NB318_292 := n10_;clear n0_ n1_ n2_ n3_ n4_ n5_ n6_ n7_ n8_ n9_ n10_;clear hb hbox hg;refine hK.out _ _ ⟨(blk_cell BK292.out 0).trans rfl, (blk_cell BK292.out 1).trans rfl, (blk_cell BK292.out 2).trans rfl, (blk_cell BK292.out 3).trans rfl, HS4_⟩ (fun hHeld => ?_);clear hK K;refine norm_ (a' := ?_) ?_ ?_;rotate_left
           ·show Act.put _ (some 12) _ = _
            simp only [Act.put, List.setIfInBounds_toArray, List.set_cons_zero, List.set_cons_succ, i64_w, i32_w]
            rfl
           exact norm_ viaP (hCont (v313, gb318) _ ⟨hHeld, (zz75 HO314), (zz76 HO_10), (zz77 HO_293001), (zz76 HO_5), (zz27 BK292), (zz27 BK318), GW318.out, GE318.out, NB292_318.out, NB318_292.out, (zz38 HB GE292 GE318)⟩)
          ·skip
           refine box_step ?hg (N := 12) ?hd (cs := #[.string (⟨#[]⟩ : ByteArray), .slice none 0 0, .bool false, .string (⟨#[]⟩ : ByteArray)]) (t := 27) ?hr ?_; (case hd => rfl); (case hg => rfl); (case hr => exact zz8);intro gb318 hg w56 hbox hb;have HS4_ := (hb.cell (World.block_lt_of_cell? _ _ (hHeld.2.2.2.2))).trans (hHeld.2.2.2.2);have n0_ := Aside0.mk (Kd.R_below (zz9 HO_5) hb);have n1_ := Aside0.mk (Kd.R_below (zz9 HO_10) hb);have n2_ := Aside0.mk (Kd.V_below (Kd.V_elderB (zz65 HO_293001) gb318 (Nat.le_of_eq hg.symm)) hb);have n3_ := Aside0.mk (blk_below (zz27 BK292) hb);have n4_ := Aside0.mk (below_step (zz6 HB GE292) hb);have n5_ := Aside0.mk (hbox);have n6_ := Aside0.mk ((by rw [hg]; exact (below_size (zz6 HB GE292)) : w.heap.size ≤ gb318));have n7_ := Aside0.mk ((by rw [hg]; exact (below_size (zz6 HB GE292)) : w.heap.size ≤ gb318));have n8_ := Aside0.mk ((by rw [hg]; exact Nat.ne_of_lt (blk_lt (zz27 BK292)) : gb292 ≠ gb318));have n9_ := Aside0.mk ((by rw [hg]; exact Nat.ne_of_gt (blk_lt (zz27 BK292)) : gb318 ≠ gb292));clear HO_5;clear HO_10;clear HO_293001;clear BK292;clear HB;have HO_5 := n0_;have HO_10 := n1_;have HO_293001 := n2_;have BK292 := n3_;have HB := n4_;have BK318 := n5_;have GW318 := n6_;have GE318 := n7_;have NB292_318 := n8_;have NB318_292 := n9_;clear n0_ n1_ n2_ n3_ n4_ n5_ n6_ n7_ n8_ n9_;clear hb hbox hg;refine hK.out _ _ ⟨(blk_cell BK292.out 0).trans rfl, (blk_cell BK292.out 1).trans rfl, (blk_cell BK292.out 2).trans rfl, (blk_cell BK292.out 3).trans rfl, HS4_⟩ (fun hHeld => ?_);clear hK K;refine norm_ (a' := ?_) ?_ ?_;rotate_left
           ·show Act.put _ (some 12) _ = _
            simp only [Act.put, List.setIfInBounds_toArray, List.set_cons_zero, List.set_cons_succ, i64_w, i32_w]
            rfl
           refine one_ (i := 5) (N := some 47) #[true, true, true, true, true, true, false, false, false, true, false, false] rfl rfl (one_of HT_.out (by kernel_rfl)) (by decide) (fun K hK => ?_);refine goes_ Tryz.func29 (by kernel_rfl) rfl #[.agg #[.string x293000_5, .slice Ao54 x293001_5.length co54, .bool x293002_5, .string x293003_5], .string (rdOf ByteArray.empty t307 x11_2)] (by rfl) rfl rfl zz29 ?_;with_reducible refine (spec_AddrJoin.calls k2 x293000_5 _ _ x293001_5 x293002_5 x293003_5 (rdOf ByteArray.empty t307 x11_2) t311 t312 t315 t316 false _ ?side1 ?side2 A33.out).mono ?_
           (case side1 => exact (zz66 HO_293001))
           (case side2 => exact (Kd.V_reads' HO_293001.out).2.1)
           rintro e w57 ⟨v313, rfl, ho0, hb⟩;have HS4_ := (hb.cell (World.block_lt_of_cell? _ _ (hHeld.2.2.2.2))).trans (hHeld.2.2.2.2);refine ⟨_, rfl, ?_⟩;have n0_ := Aside0.mk (Kd.R_elder' (zz9 HO_5) (Kd.R_base ho0) hb);have n1_ := Aside0.mk (Kd.R_elder' (zz9 HO_10) (Kd.R_base ho0) hb);have n2_ := Aside0.mk (Kd.V_elder' (zz65 HO_293001) (Kd.R_base ho0) hb);have n3_ := Aside0.mk (Kd.R_lower (Kd.R_new' (Kd.R_new' (Kd.R_newM (M := fun k_ => (w.heap.size ≤ k_)) ho0 (below_size (zz38 HB GE292 GE318)) (fun k_ h_ => h_)) (Kd.R_lt (zz9 HO_5))) (Kd.R_lt (zz9 HO_10))) (below_size (zz38 HB GE292 GE318)));have n4_ := Aside0.mk (blk_below (zz27 BK292) hb);have n5_ := Aside0.mk (blk_below (zz27 BK318) hb);have n6_ := Aside0.mk (below_step (zz38 HB GE292 GE318) hb);clear HO_5;clear HO_10;clear HO_293001;clear BK292;clear BK318;clear HB;have HO_5 := n0_;have HO_10 := n1_;have HO_293001 := n2_;have HO314 := n3_;have BK292 := n4_;have BK318 := n5_;have HB := n6_;clear n0_ n1_ n2_ n3_ n4_ n5_ n6_;(try clear hb)
           (try clear hb2)
           (try clear hk)
           (try clear hi)
           (try clear ho0)
           refine hK.out _ _ ⟨(blk_cell BK292.out 0).trans rfl, (blk_cell BK292.out 1).trans rfl, (blk_cell BK292.out 2).trans rfl, (blk_cell BK292.out 3).trans rfl, HS4_⟩ (fun hHeld => ?_);clear hK K;refine norm_ (a' := ?_) ?_ ?_;rotate_left
           ·show Act.put _ (some 47) _ = _
            simp only [Act.put, List.setIfInBounds_toArray, List.set_cons_zero, List.set_cons_succ, i64_w, i32_w]
            rfl
           refine pureZ 6 (some 41) #[true, true, true, true, true, true, true, false, false, true, false, false] ?_;refine pureZ 7 (some 48) #[true, true, true, true, true, true, true, true, false, true, false, false] ?_;refine pureZ 8 (some 49) #[true, true, true, true, true, true, true, true, true, true, false, false] ?_;exact norm_ viaP (hCont (v313, gb318) _ ⟨hHeld, (zz75 HO314), (zz76 HO_10), (zz78 HO_293001), (zz76 HO_5), (zz27 BK292), (zz27 BK318), GW318.out, GE318.out, NB292_318.out, NB318_292.out, (zz38 HB GE292 GE318)⟩)
         rintro ⟨v313, gb318⟩ w58 ⟨hS_, h0_, h1_, h2_, h3_, h4_, h5_, h6_, h7_, h8_, h9_, h10_⟩;have n0_ : Aside0 (Kd.R Kd.string 9 w58 w.heap.size (fun k_ => (w.heap.size ≤ k_) ∧ some k_ ≠ (.slice (some ad310) t307.length co53 : Value).ownBlock ∧ some k_ ≠ (u5 : Value).ownBlock) v313 t312) := ⟨h0_⟩;have n1_ : Aside0 (Kd.R Kd.string 9 w58 w.heap.size (fun k_ => (w.heap.size ≤ k_) ∧ some k_ ≠ (v313 : Value).ownBlock ∧ some k_ ≠ (u5 : Value).ownBlock) (.slice (some ad310) t307.length co53) t307) := ⟨h1_⟩;have n2_ : Aside0 (Kd.V Kd.string 9 w58 w.heap.size (fun k_ => (P0_1_ k_ ∨ w.heap.size ≤ k_) ∧ some k_ ≠ (v313 : Value).ownBlock ∧ some k_ ≠ (.slice (some ad310) t307.length co53 : Value).ownBlock ∧ some k_ ≠ (u5 : Value).ownBlock ∧ k_ ≠ gb292 ∧ k_ ≠ gb318) (.slice Ao54 x293001_5.length co54) x293001_5) := ⟨h2_⟩;have n3_ : Aside0 (Kd.R Kd.string 9 w58 w.heap.size (fun k_ => (w.heap.size ≤ k_) ∧ some k_ ≠ (v313 : Value).ownBlock ∧ some k_ ≠ (.slice (some ad310) t307.length co53 : Value).ownBlock) u5 x5_2) := ⟨h3_⟩;have n4_ : Aside0 (w58.heap[gb292]? = some (.cells #[.string x293000_5, .slice Ao54 x293001_5.length co54, .bool x293002_5, .string x293003_5] 27 (0, 0))) := ⟨h4_⟩;have n5_ : Aside0 (w58.heap[gb318]? = some (.cells #[.string (⟨#[]⟩ : ByteArray), .slice none 0 0, .bool false, .string (⟨#[]⟩ : ByteArray)] 27 (0, 0))) := ⟨h5_⟩;have n6_ : Aside0 (w.heap.size ≤ gb318) := ⟨h6_⟩;have n7_ : Aside0 (w.heap.size ≤ gb318) := ⟨h7_⟩;have n8_ : Aside0 (gb292 ≠ gb318) := ⟨h8_⟩;have n9_ : Aside0 (gb318 ≠ gb292) := ⟨h9_⟩;have n10_ : Aside0 (Below w.heap.size w w58) := ⟨h10_⟩;clear HO_5;clear HO_10;clear HO_293001;clear BK292;clear HB;clear h0_ h1_ h2_ h3_ h4_ h5_ h6_ h7_ h8_ h9_ h10_;have HO314 := n0_;have HO_10 := n1_;have HO_293001 := n2_;have HO_5 := n3_;have BK292 := n4_;have BK318 := n5_;have GW318 := n6_;have GE318 := n7_;have NB292_318 := n8_;have NB318_292 := n9_;have HB := n10_;clear n0_ n1_ n2_ n3_ n4_ n5_ n6_ n7_ n8_ n9_ n10_;have hHeld : w58.cell? ⟨gb292, 0, none⟩ = some (.string x293000_5) ∧ w58.cell? ⟨gb292, 1, none⟩ = some (.slice Ao54 x293001_5.length co54) ∧ w58.cell? ⟨gb292, 2, none⟩ = some (.bool x293002_5) ∧ w58.cell? ⟨gb292, 3, none⟩ = some (.string x293003_5) ∧ w58.cell? (ad310.add (x11_2).toNat) = some (.string (rdOf ByteArray.empty t307 x11_2)) := hS_;obtain ⟨Ao60, co60, eo60⟩ := Kd.R_slice HO314.out;(first | subst eo60 | (injection eo60 with f1_ f2_ f3_; have f4_ := f1_.symm; have f5_ := f3_.symm; clear f1_ f2_ f3_; subst f4_; subst f5_))
         refine norm_ (a' := ?_) ?_ ?_;rotate_left
         ·simp only [putAll, Act.put, List.setIfInBounds_toArray, List.set_cons_zero, List.set_cons_succ]
          rfl
         refine one_ (i := 10) (N := none) #[true, true, true, true, true, true, true, true, true, true, true, false] rfl rfl (one_of HT_.out (by kernel_rfl)) (by decide) (fun K hK => ?_);have hs59 : w58.cell? ⟨gb318, 0, none⟩ = some (.string (⟨#[]⟩ : ByteArray)) := (blk_cell BK318.out 0).trans rfl;have hfs59 := blk_frozen BK318.out 0;have hns59_0 := NB292_318.out;have hms59_0 := NB318_292.out;have hs61 : w58.cell? ⟨gb318, 1, none⟩ = some (.slice none 0 0) := (blk_cell BK318.out 1).trans rfl;have hfs61 := blk_frozen BK318.out 1;have hns61_0 := NB292_318.out;have hms61_0 := NB318_292.out;have hs62 : w58.cell? ⟨gb318, 2, none⟩ = some (.bool false) := (blk_cell BK318.out 2).trans rfl;have hfs62 := blk_frozen BK318.out 2;have hns62_0 := NB292_318.out;have hms62_0 := NB318_292.out;have hs63 : w58.cell? ⟨gb318, 3, none⟩ = some (.string (⟨#[]⟩ : ByteArray)) := (blk_cell BK318.out 3).trans rfl;have hfs63 := blk_frozen BK318.out 3;have hns63_0 := NB292_318.out;have hms63_0 := NB318_292.out;refine skip_ (w1 := ?_) (by rfl) rfl ?_ ?_;rotate_left
         ·go_simp
          rfl
         refine hK.out _ _ ⟨((cell_far (p := ⟨gb318, _, none⟩) NB292_318.out _).trans (((cell_far (p := ⟨gb318, _, none⟩) NB292_318.out _).trans (((cell_far (p := ⟨gb318, _, none⟩) NB292_318.out _).trans (((cell_far (p := ⟨gb318, _, none⟩) NB292_318.out _).trans (hHeld.1)))))))), ((cell_far (p := ⟨gb318, _, none⟩) NB292_318.out _).trans (((cell_far (p := ⟨gb318, _, none⟩) NB292_318.out _).trans (((cell_far (p := ⟨gb318, _, none⟩) NB292_318.out _).trans (((cell_far (p := ⟨gb318, _, none⟩) NB292_318.out _).trans (hHeld.2.1)))))))), ((cell_far (p := ⟨gb318, _, none⟩) NB292_318.out _).trans (((cell_far (p := ⟨gb318, _, none⟩) NB292_318.out _).trans (((cell_far (p := ⟨gb318, _, none⟩) NB292_318.out _).trans (((cell_far (p := ⟨gb318, _, none⟩) NB292_318.out _).trans (hHeld.2.2.1)))))))), ((cell_far (p := ⟨gb318, _, none⟩) NB292_318.out _).trans (((cell_far (p := ⟨gb318, _, none⟩) NB292_318.out _).trans (((cell_far (p := ⟨gb318, _, none⟩) NB292_318.out _).trans (((cell_far (p := ⟨gb318, _, none⟩) NB292_318.out _).trans (hHeld.2.2.2.1)))))))), ((cell_far (p := ⟨gb318, _, none⟩) (zz79 HO_10 BK318) _).trans (((cell_far (p := ⟨gb318, _, none⟩) (zz79 HO_10 BK318) _).trans (((cell_far (p := ⟨gb318, _, none⟩) (zz79 HO_10 BK318) _).trans (((cell_far (p := ⟨gb318, _, none⟩) (zz79 HO_10 BK318) _).trans (hHeld.2.2.2.2))))))))⟩ (fun hHeld => ?_);clear hK K;refine pureZ 11 (some 13) #[true, true, true, true, true, true, true, true, true, true, true, true] ?_;refine done_ (done_of HT_.out (by kernel_rfl)) ?_;try go_wp2
         go_roundg k2
         case measure => have := HJ5.out; have := HK2.out; omega
         case rel => exact ⟨(x5_2), (wrap64 (x11_2 + 1)), zz0, H', ⟨(zz26 HJ5 HK2)⟩, ⟨(zz51 (rt HO_5 BK318))⟩, ⟨(zz51 (rt HO_10 BK318))⟩, ⟨(by (with_reducible repeat (first | apply Kd.V_alloc | apply Kd.V_drewN | apply Kd.V_drew)); exact Kd.V_mono (Kd.V_far (p := ⟨gb318, 3, none⟩) (Kd.V_far (p := ⟨gb318, 2, none⟩) (Kd.V_far (p := ⟨gb318, 1, none⟩) (Kd.V_far (p := ⟨gb318, 0, none⟩) (Kd.V_mono HO_293001.out (fun k_ hk => (⟨hk, hk.2.2.2.2.2⟩ : _ ∧ k_ ≠ gb318))) (fun _ hk => hk.2) (.string t311)) (fun _ hk => hk.2) (.slice Ao60 t312.length co60)) (fun _ hk => hk.2) (.bool t315)) (fun _ hk => hk.2) (.string t316)) (fun _ hk => ⟨hk.1.1, ⟨hk.1.2.2.2.1, ⟨hk.1.2.2.1, hk.1.2.2.2.2.1⟩⟩⟩))⟩, ⟨(zz50 BK292 NB292_318)⟩, ⟨(zz38 HB GE292 GE318)⟩⟩
       ·rw [if_neg c32] at H
        exact absurd H (by simp)
      ·rw [if_neg c31] at H
       have c31b0 : decide (x11_2 < (t307.length : Int)) = false := decide_eq_false c31;clear c31;obtain rfl := Option.some.inj H;obtain ⟨Ao64, co64, eo64⟩ := Kd.R_slice HO_10.out;subst eo64;go_wp2
       go_ret
       exact ⟨_, zz5, (zz69 HO_5), (zz6 HB GE292)⟩
 ·replace c4 := Bool.eq_false_iff.mpr c4
  subst c4;rw [if_neg (show ¬ (false = true) by decide)] at H;obtain rfl := Option.some.inj H;go_enter Tryz.func8, Tryz.ntmps8;go_wp2_with (first | ((with_reducible refine gate_dst (N := 2) rfl ?_); refine boxE 2 #[.string a0_0, .slice A0_1 l0_1.length c0_1, .bool a0_2, .string a0_3] 27 ?_; intro gb292 hg w65 hbox hb; have n0_ := Aside0.mk (Kd.V_below (Kd.V_elderB (zz65 HO0_1) gb292 (Nat.le_of_eq hg.symm)) hb); have n1_ := Aside0.mk (below_step (zz4 HB) hb); have n2_ := Aside0.mk (hbox); have n3_ := Aside0.mk ((by rw [hg]; exact (below_size (zz4 HB)) : w.heap.size ≤ gb292)); have n4_ := Aside0.mk ((by rw [hg]; exact (below_size (zz4 HB)) : w.heap.size ≤ gb292)); clear HO0_1; clear HB; have HO0_1 := n0_; have HB := n1_; have BK292 := n2_; have GW292 := n3_; have GE292 := n4_; clear n0_ n1_ n2_ n3_ n4_; clear hb hbox hg) | ((with_reducible refine gate_dst (N := 14) rfl ?_); refine Kd.R_lit Kd.string _ 9 ?hg (N := 14) ?hd (xs := ([] : List ByteArray)) (inner := []) (ok := fun _ => True) (okp := fun _ => True) ?hr ?hp (fun _ hk => hk) trivial (Below.refl _ _) (Nat.le_refl _) (by simp) ?_; (case hd => rfl); (case hg => rfl); (case hr => exact zz8); (case hp => exact (Reps.none _ _)); intro v294 w66 ho67 hb hg_ hnew_; clear hg_ hnew_; (first | rw [← Ny293.out] at ho67 | (simp only [Int.reduceToNat] at ho67; rw [← Ny293.out] at ho67)); have n0_ := Aside0.mk (Kd.V_elder' (zz65 HO0_1) (Kd.R_base ho67) hb); have n1_ := Aside0.mk (Kd.R_lower (Kd.R_newM (M := fun k_ => (w.heap.size ≤ k_)) ho67 (below_size (zz6 HB GE292)) (fun k_ h_ => h_)) (below_size (zz6 HB GE292))); have n2_ := Aside0.mk (blk_below (zz27 BK292) hb); have n3_ := Aside0.mk (below_step (zz6 HB GE292) hb); clear HO0_1; clear BK292; clear HB; have HO0_1 := n0_; have HO295 := n1_; have BK292 := n2_; have HB := n3_; clear n0_ n1_ n2_ n3_; clear hb ho67; obtain ⟨_, _, _, _, _, _, _, _⟩ := cf4 BK292) | ((with_reducible refine gate_callee (f := 20) rfl ?_); refine gsL (some 16) Tryz.func20 #[.agg #[.string a0_0, .slice A0_1 l0_1.length c0_1, .bool a0_2, .string a0_3]] ?_; (with_reducible refine (spec_AddrOk.calls k a0_0 _ _ l0_1 a0_2 a0_3 false _ ?side1 ?side2 A3.out).mono ?_); (case side1 => exact (zz66 HO0_1)); (case side2 => exact (Kd.V_reads' HO0_1.out).2.1); rintro e w69 ⟨rfl, hb⟩; refine ⟨_, rfl, ?_⟩; have n0_ := Aside0.mk (Kd.V_below (zz65 HO0_1) hb); have n1_ := Aside0.mk (Kd.R_below (zz9 HO295) hb); have n2_ := Aside0.mk (blk_below (zz27 BK292) hb); have n3_ := Aside0.mk (below_step (zz6 HB GE292) hb); clear HO0_1; clear HO295; clear BK292; clear HB; have HO0_1 := n0_; have HO295 := n1_; have BK292 := n2_; have HB := n3_; clear n0_ n1_ n2_ n3_; (try clear hb)))
  go_ret
  exact ⟨_, zz5, (zz69 HO295), (zz6 HB GE292)⟩
def laws_toStringS.l0 : Nat → List ByteArray → List ByteArray → Int → Option (List ByteArray)
 | 0, _, _, _ => none
 | k + 1, x0, x3, x4 => if x4 < (x0.length : Int) then (if 0 ≤ x4 then (if x4 < (x3.length : Int) then (laws_toStringS.l0 k x0 (x3.set (x4 : Int).toNat (rdOf ByteArray.empty x0 x4)) (wrap64 (x4 + 1))) else (none)) else (none)) else (some x3)
def laws_toStringS.f (k : Nat) (l0 : List ByteArray) : Option (List ByteArray) := if 0 ≤ (l0.length : Int) then (if ((l0.length : Int) : Int).toNat ≤ 17592186044416 then (laws_toStringS.l0 k l0 (List.replicate ((l0.length : Int) : Int).toNat (⟨#[]⟩ : ByteArray)) 0) else (none)) else (none)
set_option maxHeartbeats 8000000 in
set_option maxRecDepth 100000 in
theorem laws_toStringS.calls (k : Nat) (A0 : Option Addr) (c0 : Nat) (l0 : List ByteArray) (r : List ByteArray) (w : World) (hr0 : Kd.C Kd.string w A0 l0.length l0) (hc0 : l0.length ≤ c0) (h : laws_toStringS.f k l0 = some r) :
  Calls Tryz.prog 33 #[.slice A0 l0.length c0] w fun e w' => ∃ v0_ : Value, e = .returned (v0_) ∧ Kd.R Kd.string 9 w' w.heap.size (fun _ => True) v0_ r ∧ Below w.heap.size w w' := by
 have HR0 := Aside0.mk hr0;have HC0 := Aside0.mk hc0;clear hr0 hc0;have HB := Aside0.mk (Below.refl w.heap.size w);have H : (if 0 ≤ (l0.length : Int) then (if ((l0.length : Int) : Int).toNat ≤ 17592186044416 then (laws_toStringS.l0 k l0 (List.replicate ((l0.length : Int) : Int).toNat (⟨#[]⟩ : ByteArray)) 0) else (none)) else (none)) = some r := h;clear h;by_cases c2 : 0 ≤ (l0.length : Int)
 ·rw [if_pos c2] at H
  have c2b0 := eq_true c2;have c2b1 : decide (0 ≤ (l0.length : Int)) = true := decide_eq_true c2;clear c2;by_cases c3 : ((l0.length : Int) : Int).toNat ≤ 17592186044416
  ·rw [if_pos c3] at H
   have c3b0 := eq_true c3;have c3b1 : decide (((l0.length : Int) : Int).toNat ≤ 17592186044416) = true := decide_eq_true c3;clear c3;obtain ⟨y323, Ny323⟩ := toY (List.replicate ((l0.length : Int) : Int).toNat (⟨#[]⟩ : ByteArray));(first | with_reducible replace H := bindZ Ny323 H | rw [← Ny323.out] at H | skip)
   have H' := Aside0.mk H;clear H;go_enter Tryz.func33, Tryz.ntmps33;go_wp2_with (first | ((with_reducible refine gate_dst (N := 7) rfl ?_); refine Kd.R_make Kd.string _ 9 rfl (N := 7) rfl 22 _ _ rfl (l0.length : Int) rfl rfl Tryz.underlying22 (.string ⟨#[]⟩) 16 info9 rfl (by decide) (by omega) (⟨#[]⟩ : ByteArray) (ok := fun _ => True) (okp := fun _ => True) rfl (fun _ hk => hk) trivial ofD (Nat.le_trans (Nat.mul_le_mul_right _ (ofD : (l0.length : Int).toNat ≤ 17592186044416)) (by omega)) (Below.refl _ _) (Nat.le_refl _) ?_; intro v324 w4 ho5 hb hg_ hnew_; clear hg_ hnew_; (first | rw [← Ny323.out] at ho5 | (simp only [Int.reduceToNat] at ho5; rw [← Ny323.out] at ho5)); have n0_ := Aside0.mk (Kd.R_lower ho5 (below_size (zz4 HB))); have n1_ := Aside0.mk (below_step (zz4 HB) hb); clear HB; have HO325 := n0_; have HB := n1_; clear n0_ n1_; clear hb ho5))
   go_loopg [4] k (fun kq v4 w' => ∃ (x3_1 : List ByteArray) (x4_1 : Int), v4 = .int .i64 x4_1 ∧ Aside0 (laws_toStringS.l0 kq l0 x3_1 x4_1 = some r) ∧ Aside0 (kq ≤ k) ∧ Aside0 (Kd.R Kd.string 9 w' w.heap.size (fun _ => True) v324 x3_1) ∧ Aside0 (Below w.heap.size w w'))
   case atStart => exact ⟨(y323), (0), zz0, H', ⟨Nat.le_refl _⟩, ⟨(zz9 HO325)⟩, ⟨(zz4 HB)⟩⟩
   case round =>
    clear H';obtain ⟨x3_1, x4_1, rfl, HA, HK1, HO_3, HB⟩ := hrel;cases gk with
    | zero => exact absurd HA.out (by simp [laws_toStringS.l0])
    | succ k1 =>
     have H := HA.out;clear HA;simp only [laws_toStringS.l0] at H
     by_cases c6 : x4_1 < (l0.length : Int)
     ·rw [if_pos c6] at H
      have c6b0 : decide (x4_1 < (l0.length : Int)) = true := decide_eq_true c6;clear c6;by_cases c7 : 0 ≤ x4_1
      ·rw [if_pos c7] at H
       have c7b0 : decide (0 ≤ x4_1) = true := decide_eq_true c7;clear c7;by_cases c8 : x4_1 < (x3_1.length : Int)
       ·rw [if_pos c8] at H
        have c8b0 : decide (x4_1 < (x3_1.length : Int)) = true := decide_eq_true c8;clear c8;obtain ⟨y327, Ny327⟩ := toY (x3_1.set (x4_1 : Int).toNat (rdOf ByteArray.empty l0 x4_1));(first | with_reducible replace H := bindZ Ny327 H | rw [← Ny327.out] at H | skip)
        have H' := Aside0.mk H;clear H;have p326 : 0 ≤ (x4_1 : Int) := ofD;have q326 : x4_1 < (l0.length : Int) := ofD;obtain ⟨ad326, e326, hx326_0⟩ := Kd.at_string HR0.out x4_1 p326 q326;cases e326
        replace hx326_0 := (HB.out.cell (World.block_lt_of_cell? w _ hx326_0)).trans hx326_0;replace p326 := eq_true p326;replace q326 := eq_true q326;have p9 : 0 ≤ (x4_1 : Int) := ofD;have q9 : (x4_1 : Int) < ((x3_1.length : Int) : Int) := ofD;obtain ⟨go9, co9, eo9, gb9, gl9, cl9, HG9⟩ := Kd.R_form HO_3.out (by omega);(first | cases eo9 | (injection eo9 with ea_ en_ ec_; (first | subst ea_ | (injection ea_ with ea_; subst ea_)); subst ec_; clear en_))
        have GB9 := Aside0.mk gb9;have GG9 := Aside0.mk HG9;clear gb9 gl9 HG9;obtain ⟨hx9_0, hf9_0⟩ := Kd.R_celln (⟨#[]⟩ : ByteArray) HO_3.out (x4_1 : Int) p9 q9;replace p9 := eq_true p9;replace q9 := eq_true q9;have HP10 := Kd.R_putg HO_3.out (x4_1 : Int) (rdOf ByteArray.empty l0 x4_1);go_wp2_with (first | ((with_reducible refine gate_store (t := 9) (p := 20) rfl ?_); refine store_event (t := 9) (p := 20) (v := ?vo_w11) (w1 := (wr.setCell ⟨go9, (x4_1 : Int).toNat, none⟩ (.string (rdOf ByteArray.empty l0 x4_1)))) ?hg ?ho ?hn ?hr ?_; (case ho => rfl); (case hg => rfl); (case hn => rfl); (case hr => exact zz8); intro w11 hw; have hg : wr.grownBy w11 (some go9) := (by rw [hw]; exact HP10.2); have hp_ : Kd.R Kd.string 9 w11 w.heap.size (fun _ => True) (.slice (some ⟨go9, 0, none⟩) x3_1.length co9) y327 := (by rw [hw, Ny327.out]; exact HP10.1); clear HP10; have n0_ := Aside0.mk (hp_); have n1_ := Aside0.mk ((by rw [hw]; exact below_set (HB.out) GB9.out : Below w.heap.size w w11)); clear HO_3; clear HB; have HO_3 := n0_; have HB := n1_; clear n0_ n1_; clear hg hw hp_))
        go_roundg k1
        case measure => have := HK1.out; omega
        case rel => exact ⟨(y327), (wrap64 (x4_1 + 1)), zz0, H', ⟨(zz3 HK1)⟩, ⟨(zz9 HO_3)⟩, ⟨(zz4 HB)⟩⟩
       ·rw [if_neg c8] at H
        exact absurd H (by simp)
      ·rw [if_neg c7] at H
       exact absurd H (by simp)
     ·rw [if_neg c6] at H
      have c6b0 : decide (x4_1 < (l0.length : Int)) = false := decide_eq_false c6;clear c6;obtain rfl := Option.some.inj H;go_wp2
      go_ret
      exact ⟨_, zz5, (zz9 HO_3), (zz4 HB)⟩
  ·rw [if_neg c3] at H
   exact absurd H (by simp)
 ·rw [if_neg c2] at H
  exact absurd H (by simp)
def laws_toAddr.f (k : Nat) (a0_0 : ByteArray) (l0_1 : List ByteArray) (a0_2 : Bool) (a0_3 : ByteArray) : Option (ByteArray × List ByteArray × Bool × ByteArray) := (laws_toStringS.f k l0_1).bind fun t331 => (some (a0_0, t331, a0_2, a0_3))
set_option maxHeartbeats 8000000 in
set_option maxRecDepth 100000 in
theorem laws_toAddr.calls (k : Nat) (a0_0 : ByteArray) (A0_1 : Option Addr) (c0_1 : Nat) (l0_1 : List ByteArray) (a0_2 : Bool) (a0_3 : ByteArray) (r1 : ByteArray) (r2 : List ByteArray) (r3 : Bool) (r4 : ByteArray) (w : World) (hr0_1 : Kd.C Kd.string w A0_1 l0_1.length l0_1) (hc0_1 : l0_1.length ≤ c0_1) (h : laws_toAddr.f k a0_0 l0_1 a0_2 a0_3 = some (r1, r2, r3, r4)) :
  Calls Tryz.prog 9 #[.agg #[.string a0_0, .slice A0_1 l0_1.length c0_1, .bool a0_2, .string a0_3]] w fun e w' => ∃ v1_ : Value, e = .returned (.agg #[.string r1, v1_, .bool r3, .string r4]) ∧ Kd.R Kd.string 9 w' w.heap.size (fun _ => True) v1_ r2 ∧ Below w.heap.size w w' := by
 have hu24 := Tryz.underlying24;have hu27 := Tryz.underlying27;have HR0_1 := Aside0.mk hr0_1;have HC0_1 := Aside0.mk hc0_1;clear hr0_1 hc0_1;have HB := Aside0.mk (Below.refl w.heap.size w);have H : ((laws_toStringS.f k l0_1).bind fun t331 => (some (a0_0, t331, a0_2, a0_3))) = some (r1, r2, r3, r4) := h;clear h;replace H := bindA H;obtain ⟨t331, A2, H⟩ := H;simp only [Option.some.injEq, Prod.mk.injEq] at H
 obtain ⟨rfl, rfl, rfl, rfl⟩ := H;go_enter Tryz.func9, Tryz.ntmps9;go_wp2_with (first | ((with_reducible refine gate_dst (N := 1) rfl ?_); refine boxE 1 #[.string a0_0, .slice A0_1 l0_1.length c0_1, .bool a0_2, .string a0_3] 24 ?_; intro gb328 hg w3 hbox hb; have n0_ := Aside0.mk (below_step (zz4 HB) hb); have n1_ := Aside0.mk (hbox); have n2_ := Aside0.mk ((by rw [hg]; exact (below_size (zz4 HB)) : w.heap.size ≤ gb328)); have n3_ := Aside0.mk ((by rw [hg]; exact (below_size (zz4 HB)) : w.heap.size ≤ gb328)); clear HB; have HB := n0_; have BK328 := n1_; have GW328 := n2_; have GE328 := n3_; clear n0_ n1_ n2_ n3_; clear hb hbox hg) | ((with_reducible refine gate_dst (N := 2) rfl ?_); refine boxE 2 #[.string (⟨#[]⟩ : ByteArray), .slice none 0 0, .bool false, .string (⟨#[]⟩ : ByteArray)] 27 ?_; intro gb329 hg w4 hbox hb; have n0_ := Aside0.mk (blk_below (zz27 BK328) hb); have n1_ := Aside0.mk (below_step (zz6 HB GE328) hb); have n2_ := Aside0.mk (hbox); have n3_ := Aside0.mk ((by rw [hg]; exact (below_size (zz6 HB GE328)) : w.heap.size ≤ gb329)); have n4_ := Aside0.mk ((by rw [hg]; exact (below_size (zz6 HB GE328)) : w.heap.size ≤ gb329)); have n5_ := Aside0.mk ((by rw [hg]; exact Nat.ne_of_lt (blk_lt (zz27 BK328)) : gb328 ≠ gb329)); have n6_ := Aside0.mk ((by rw [hg]; exact Nat.ne_of_gt (blk_lt (zz27 BK328)) : gb329 ≠ gb328)); clear BK328; clear HB; have BK328 := n0_; have HB := n1_; have BK329 := n2_; have GW329 := n3_; have GE329 := n4_; have NB328_329 := n5_; have NB329_328 := n6_; clear n0_ n1_ n2_ n3_ n4_ n5_ n6_; clear hb hbox hg) | ((with_reducible refine gate_dst (N := 3) rfl ?_); refine boxE 3 #[.string (⟨#[]⟩ : ByteArray), .slice none 0 0, .bool false, .string (⟨#[]⟩ : ByteArray)] 27 ?_; intro gb330 hg w5 hbox hb; have n0_ := Aside0.mk (blk_below (zz27 BK328) hb); have n1_ := Aside0.mk (blk_below (zz27 BK329) hb); have n2_ := Aside0.mk (below_step (zz38 HB GE328 GE329) hb); have n3_ := Aside0.mk (hbox); have n4_ := Aside0.mk ((by rw [hg]; exact (below_size (zz38 HB GE328 GE329)) : w.heap.size ≤ gb330)); have n5_ := Aside0.mk ((by rw [hg]; exact (below_size (zz38 HB GE328 GE329)) : w.heap.size ≤ gb330)); have n6_ := Aside0.mk ((by rw [hg]; exact Nat.ne_of_lt (blk_lt (zz27 BK328)) : gb328 ≠ gb330)); have n7_ := Aside0.mk ((by rw [hg]; exact Nat.ne_of_gt (blk_lt (zz27 BK328)) : gb330 ≠ gb328)); have n8_ := Aside0.mk ((by rw [hg]; exact Nat.ne_of_lt (blk_lt (zz27 BK329)) : gb329 ≠ gb330)); have n9_ := Aside0.mk ((by rw [hg]; exact Nat.ne_of_gt (blk_lt (zz27 BK329)) : gb330 ≠ gb329)); clear BK328; clear BK329; clear HB; have BK328 := n0_; have BK329 := n1_; have HB := n2_; have BK330 := n3_; have GW330 := n4_; have GE330 := n5_; have NB328_330 := n6_; have NB330_328 := n7_; have NB329_330 := n8_; have NB330_329 := n9_; clear n0_ n1_ n2_ n3_ n4_ n5_ n6_ n7_ n8_ n9_; clear hb hbox hg; have hnb6 := NB328_329.out; have hnc6 := NB329_328.out; have hnb7 := NB328_330.out; have hnc7 := NB330_328.out; obtain ⟨_, _, _, _, _, _, _, _⟩ := cf4 BK328; have hnb9 := NB330_329.out; have hnc9 := NB329_330.out; obtain ⟨_, _, _, _, _, _, _, _⟩ := cf4 BK330) | ((with_reducible refine gate_callee (f := 33) rfl ?_); refine gsL (some 9) Tryz.func33 #[.slice A0_1 l0_1.length c0_1] ?_; (with_reducible refine (laws_toStringS.calls k _ _ l0_1 t331 _ ?side1 ?side2 A2.out).mono ?_); (case side1 => exact Kd.C_below HR0_1.out (zz47 HB GE328 GE329 GE330)); (case side2 => exact HC0_1.out); rintro e w11 ⟨v332, rfl, ho0, hb⟩; refine ⟨_, rfl, ?_⟩; have n0_ := Aside0.mk (Kd.R_lower ho0 (below_size (zz47 HB GE328 GE329 GE330))); have n1_ := Aside0.mk (blk_below (g := gb328) (o := .cells #[.string a0_0, .slice A0_1 l0_1.length c0_1, .bool a0_2, .string a0_3] 24 (0, 0)) (zz50 BK328 NB328_330) hb); have n2_ := Aside0.mk (blk_below (g := gb329) (o := .cells #[.string (⟨#[]⟩ : ByteArray), .slice none 0 0, .bool false, .string (⟨#[]⟩ : ByteArray)] 27 (0, 0)) (zz50 BK329 NB329_330) hb); have n3_ := Aside0.mk (blk_below (g := gb330) (o := .cells #[.string a0_0, .slice none 0 0, .bool false, .string (⟨#[]⟩ : ByteArray)] 27 (0, 0)) (by first | ((repeat (first | (with_reducible first | exact BK330.out | refine blk_drewN ?_ _ | refine blk_drew ?_ | refine blk_alloc ?_ _ | apply blk_put) | exact BK330.out)); all_goals rfl; done) | (apply blk_put (i := 0); exact BK330.out; all_goals rfl)) hb); have n4_ := Aside0.mk (below_step (zz47 HB GE328 GE329 GE330) hb); clear BK328; clear BK329; clear BK330; clear HB; have HO333 := n0_; have BK328 := n1_; have BK329 := n2_; have BK330 := n3_; have HB := n4_; clear n0_ n1_ n2_ n3_ n4_; (try clear hb ho0); obtain ⟨Ao12, co12, eo12⟩ := Kd.R_slice HO333.out; subst eo12; obtain ⟨_, _, _, _, _, _, _, _⟩ := cf4 BK330; obtain ⟨_, _, _, _, _, _, _, _⟩ := cf4 BK328; obtain ⟨_, _, _, _, _, _, _, _⟩ := cf4 BK329))
 refine bodyPost_ret (results_cell_row rfl _ _ gb329 27 #[.string a0_0, .slice Ao12 t331.length co12, .bool a0_2, .string a0_3] (0, 0) _ rfl (zz50 BK329 NB329_330) Tryz.underlying27 rfl (by kernel_rfl)) rfl ?_;exact ⟨_, zz5, (zz51 (rt (rt HO333 BK330) BK329)), (zz47 HB GE328 GE329 GE330)⟩
end Go.Proofs.YtgjfegfopjfdpaaGreatDoor.P
end
section
namespace Go.Proofs
open Go.Shelf
def Tryz.lays156_ren : Go.Shelf.Ren := ⟨fun | 156 => 89 | 165 => 99 | 166 => 100 | 169 => 101 | 240 => 112 | 241 => 113 | 276 => 119 | 277 => 120 | n => n, fun | 31 => 22 | 9 => 9 | 3 => 3 | 4 => 4 | 0 => 0 | 20 => 20 | 72 => 95 | 76 => 99 | 70 => 93 | 37 => 34 | 75 => 98 | 127 => 108 | 164 => 115 | 5 => 5 | 80 => 101 | n => n, fun | n => n⟩
theorem Tryz.lays156 : Go.Proofs.Lays.n156 Tryz.prog Tryz.lays156_ren := {
 mixed := by kernel_rfl
 f156 := Tryz.func89.trans (congrArg some (by kernel_rfl))
 f165 := Tryz.func99.trans (congrArg some (by kernel_rfl))
 f166 := Tryz.func100.trans (congrArg some (by kernel_rfl))
 f169 := Tryz.func101.trans (congrArg some (by kernel_rfl))
 f240 := Tryz.func112.trans (congrArg some (by kernel_rfl))
 f241 := Tryz.func113.trans (congrArg some (by kernel_rfl))
 f276 := Tryz.func119.trans (congrArg some (by kernel_rfl))
 f277 := Tryz.func120.trans (congrArg some (by kernel_rfl))
 t0 := Tryz.underlying0
 a0 := Tryz.isAgg0
 z0 := Tryz.sizeOf0
 v0 := Tryz.zeroValue0
 t3 := Tryz.underlying3
 a3 := Tryz.isAgg3
 z3 := Tryz.sizeOf3
 v3 := Tryz.zeroValue3
 t4 := Tryz.underlying4
 a4 := Tryz.isAgg4
 z4 := Tryz.sizeOf4
 v4 := Tryz.zeroValue4
 t9 := Tryz.underlying9
 a9 := Tryz.isAgg9
 z9 := Tryz.sizeOf9
 v9 := Tryz.zeroValue9
 t20 := Tryz.underlying20
 a20 := Tryz.isAgg20
 z20 := Tryz.sizeOf20
 v20 := Tryz.zeroValue20
 t31 := Tryz.underlying22
 a31 := Tryz.isAgg22
 z31 := Tryz.sizeOf22
 v31 := Tryz.zeroValue22
 t37 := Tryz.underlying34
 a37 := Tryz.isAgg34
 z37 := Tryz.sizeOf34
 v37 := Tryz.zeroValue34
 t70 := Tryz.underlying93
 a70 := Tryz.isAgg93
 z70 := Tryz.sizeOf93
 v70 := Tryz.zeroValue93
 t72 := Tryz.underlying95
 a72 := Tryz.isAgg95
 z72 := Tryz.sizeOf95
 v72 := Tryz.zeroValue95
 t75 := Tryz.underlying98
 a75 := Tryz.isAgg98
 z75 := Tryz.sizeOf98
 v75 := Tryz.zeroValue98
 t76 := Tryz.underlying99
 a76 := Tryz.isAgg99
 z76 := Tryz.sizeOf99
 v76 := Tryz.zeroValue99
 t127 := Tryz.underlying108
 a127 := Tryz.isAgg108
 z127 := Tryz.sizeOf108
 v127 := Tryz.zeroValue108
 t164 := Tryz.underlying115
 a164 := Tryz.isAgg115
 z164 := Tryz.sizeOf115
 v164 := Tryz.zeroValue115 }
theorem Tryz.Builder_Extra_156 : Builder.Extra Tryz.prog Tryz.lays156_ren := {
 sizeBuilder := by kernel_rfl
 liesBuilder := by kernel_rfl
 t5 := Tryz.underlying5
 a5 := Tryz.isAgg5
 z5 := Tryz.sizeOf5
 v5 := Tryz.zeroValue5
 infoByte := by kernel_rfl
 cellsByte := by kernel_rfl
 sizeByte := by kernel_rfl
 neB5 := by decide }
open Go.RowKit in
theorem Tryz.strings_Join_none (a : Option Addr) (c : Nat) (sep : ByteArray) (w : World) :
  Calls Tryz.prog 89 #[.slice a 0 c, .string sep] w fun e w' => e = .returned (.string ⟨#[]⟩) ∧ w' = w := Any.strings_Join_none Tryz.lays156 Tryz.Builder_Extra_156 a c sep w
open Go.RowKit in
theorem Tryz.strings_Join (bk o c : Nat) (xs : List ByteArray) (sep : ByteArray) (w : World) (hcells : ∀ (j : Nat) x, xs[j]? = some x → w.cell? ⟨bk, o + j, none⟩ = some (.string x)) (hbk : bk < w.heap.size) (hN : xs.length ≤ 140737488355328) (hcap : xs.length ≤ c) (hlen : (Lib.join (xs.map (·.data.toList)) sep.data.toList).length ≤ 140737488355328) :
  Calls Tryz.prog 89 #[.slice (some ⟨bk, o, none⟩) xs.length c, .string sep] w fun e w' => e = .returned (.string ⟨(Lib.join (xs.map (·.data.toList)) sep.data.toList).toArray⟩) ∧ Below w.heap.size w w' := Any.strings_Join Tryz.lays156 Tryz.Builder_Extra_156 bk o c xs sep w hcells hbk hN hcap hlen
def Tryz.lays119_ren : Go.Shelf.Ren := ⟨fun | 119 => 107 | n => n, fun | 21 => 21 | 4 => 4 | n => n, fun | n => n⟩
theorem Tryz.lays119 : Go.Proofs.Lays.n119 Tryz.prog Tryz.lays119_ren := {
 mixed := by kernel_rfl
 f119 := Tryz.func107.trans (congrArg some (by kernel_rfl))
 t4 := Tryz.underlying4
 a4 := Tryz.isAgg4
 z4 := Tryz.sizeOf4
 v4 := Tryz.zeroValue4
 t21 := Tryz.underlying21
 a21 := Tryz.isAgg21
 z21 := Tryz.sizeOf21
 v21 := Tryz.zeroValue21 }
theorem Tryz.utf8_ValidRune (r : Int) (w : World) :
  Calls Tryz.prog 107 #[.int .i32 r] w fun e w' => e = .returned (.bool (Lib.validRune r)) ∧ w' = w := Any.utf8_ValidRune Tryz.lays119 r w
def Tryz.lays137_ren : Go.Shelf.Ren := ⟨fun | 137 => 106 | 217 => 102 | 266 => 114 | n => n, fun | 9 => 9 | 5 => 5 | 3 => 3 | n => n, fun | n => n⟩
theorem Tryz.lays137 : Go.Proofs.Lays.n137 Tryz.prog Tryz.lays137_ren := {
 mixed := by kernel_rfl
 f137 := Tryz.func106.trans (congrArg some (by kernel_rfl))
 f217 := Tryz.func102.trans (congrArg some (by kernel_rfl))
 f266 := Tryz.func114.trans (congrArg some (by kernel_rfl))
 t3 := Tryz.underlying3
 a3 := Tryz.isAgg3
 z3 := Tryz.sizeOf3
 v3 := Tryz.zeroValue3
 t5 := Tryz.underlying5
 a5 := Tryz.isAgg5
 z5 := Tryz.sizeOf5
 v5 := Tryz.zeroValue5
 t9 := Tryz.underlying9
 a9 := Tryz.isAgg9
 z9 := Tryz.sizeOf9
 v9 := Tryz.zeroValue9 }
open Go.RowKit in
theorem Tryz.strings_IndexByte (s : ByteArray) (c : Int) (w : World) :
  Calls Tryz.prog 106 #[.string s, .int .u8 c] w fun e w' => e = .returned (.int .i64 (Lib.indexByte s.data.toList c.toNat.toUInt8)) ∧ w' = w := Any.strings_IndexByte Tryz.lays137 s c w
def Tryz.lays210_ren : Go.Shelf.Ren := ⟨fun | 210 => 91 | 206 => 74 | n => n, fun | 9 => 9 | 4 => 4 | 3 => 3 | n => n, fun | n => n⟩
theorem Tryz.lays210 : Go.Proofs.Lays.n210 Tryz.prog Tryz.lays210_ren := {
 mixed := by kernel_rfl
 f206 := Tryz.func74.trans (congrArg some (by kernel_rfl))
 f210 := Tryz.func91.trans (congrArg some (by kernel_rfl))
 t3 := Tryz.underlying3
 a3 := Tryz.isAgg3
 z3 := Tryz.sizeOf3
 v3 := Tryz.zeroValue3
 t4 := Tryz.underlying4
 a4 := Tryz.isAgg4
 z4 := Tryz.sizeOf4
 v4 := Tryz.zeroValue4
 t9 := Tryz.underlying9
 a9 := Tryz.isAgg9
 z9 := Tryz.sizeOf9
 v9 := Tryz.zeroValue9 }
open Go.RowKit in
theorem Tryz.stringslite_CutPrefix (s p : ByteArray) (w : World) :
  Calls Tryz.prog 91 #[.string s, .string p] w fun e w' => e = .returned (.tuple #[.string ⟨(Lib.trimPrefix s.data.toList p.data.toList).toArray⟩, .bool (Lib.hasPrefix s.data.toList p.data.toList)]) ∧ w' = w := Any.stringslite_CutPrefix Tryz.lays210 s p w
def Tryz.lays103_ren : Go.Shelf.Ren := ⟨fun | 103 => 75 | 210 => 91 | 206 => 74 | n => n, fun | 9 => 9 | 4 => 4 | 24 => 38 | 3 => 3 | n => n, fun | n => n⟩
theorem Tryz.lays103 : Go.Proofs.Lays.n103 Tryz.prog Tryz.lays103_ren := {
 mixed := by kernel_rfl
 f103 := Tryz.func75.trans (congrArg some (by kernel_rfl))
 f206 := Tryz.func74.trans (congrArg some (by kernel_rfl))
 f210 := Tryz.func91.trans (congrArg some (by kernel_rfl))
 t3 := Tryz.underlying3
 a3 := Tryz.isAgg3
 z3 := Tryz.sizeOf3
 v3 := Tryz.zeroValue3
 t4 := Tryz.underlying4
 a4 := Tryz.isAgg4
 z4 := Tryz.sizeOf4
 v4 := Tryz.zeroValue4
 t9 := Tryz.underlying9
 a9 := Tryz.isAgg9
 z9 := Tryz.sizeOf9
 v9 := Tryz.zeroValue9
 t24 := Tryz.underlying38
 a24 := Tryz.isAgg38
 z24 := Tryz.sizeOf38
 v24 := Tryz.zeroValue38 }
open Go.RowKit in
theorem Tryz.strings_CutPrefix (s p : ByteArray) (w : World) :
  Calls Tryz.prog 75 #[.string s, .string p] w fun e w' => e = .returned (.tuple #[.string ⟨(Lib.trimPrefix s.data.toList p.data.toList).toArray⟩, .bool (Lib.hasPrefix s.data.toList p.data.toList)]) ∧ w' = w := Any.strings_CutPrefix Tryz.lays103 s p w
def Tryz.lays219_ren : Go.Shelf.Ren := ⟨fun | 219 => 90 | 217 => 102 | 225 => 103 | 224 => 104 | 267 => 105 | 266 => 114 | 314 => 115 | n => n, fun | 9 => 9 | 3 => 3 | 4 => 4 | 5 => 5 | 46 => 91 | 146 => 110 | 51 => 109 | n => n, fun | 1 => 0 | n => n⟩
theorem Tryz.lays219 : Go.Proofs.Lays.n219 Tryz.prog Tryz.lays219_ren := {
 mixed := by kernel_rfl
 f217 := Tryz.func102.trans (congrArg some (by kernel_rfl))
 f219 := Tryz.func90.trans (congrArg some (by kernel_rfl))
 f224 := Tryz.func104.trans (congrArg some (by kernel_rfl))
 f225 := Tryz.func103.trans (congrArg some (by kernel_rfl))
 f266 := Tryz.func114.trans (congrArg some (by kernel_rfl))
 f267 := Tryz.func105.trans (congrArg some (by kernel_rfl))
 f314 := Tryz.func115.trans (congrArg some (by kernel_rfl))
 t3 := Tryz.underlying3
 a3 := Tryz.isAgg3
 z3 := Tryz.sizeOf3
 v3 := Tryz.zeroValue3
 t4 := Tryz.underlying4
 a4 := Tryz.isAgg4
 z4 := Tryz.sizeOf4
 v4 := Tryz.zeroValue4
 t5 := Tryz.underlying5
 a5 := Tryz.isAgg5
 z5 := Tryz.sizeOf5
 v5 := Tryz.zeroValue5
 t9 := Tryz.underlying9
 a9 := Tryz.isAgg9
 z9 := Tryz.sizeOf9
 v9 := Tryz.zeroValue9
 t46 := Tryz.underlying91
 a46 := Tryz.isAgg91
 z46 := Tryz.sizeOf91
 v46 := Tryz.zeroValue91
 t51 := Tryz.underlying109
 a51 := Tryz.isAgg109
 z51 := Tryz.sizeOf109
 v51 := Tryz.zeroValue109
 t146 := Tryz.underlying110
 a146 := Tryz.isAgg110
 z146 := Tryz.sizeOf110
 v146 := Tryz.zeroValue110
 g1 := by kernel_rfl }
open Go.RowKit Go.Lib in
theorem Tryz.stringslite_Index_one (s : ByteArray) (c : UInt8) (w : World) :
  Calls Tryz.prog 90 #[.string s, .string ⟨#[c]⟩] w fun e w' => e = .returned (.int .i64 (Lib.indexByte s.data.toList c)) ∧ w' = w := Any.stringslite_Index_one Tryz.lays219 s c w
open Go.RowKit Go.Lib in
theorem Tryz.stringslite_Index (s sub : ByteArray) (m : Int) (w : World) (hs : s.size < 4294967281) (hm : w.cell? ⟨0, 0, none⟩ = some (.int .i64 m)) :
  Calls Tryz.prog 90 #[.string s, .string sub] w fun e w' => e = .returned (.int .i64 (Lib.index s.data.toList sub.data.toList)) ∧ w' = w := Any.stringslite_Index Tryz.lays219 s sub m w hs hm
def Tryz.lays143_ren : Go.Shelf.Ren := ⟨fun | 143 => 111 | 219 => 90 | 217 => 102 | 225 => 103 | 224 => 104 | 267 => 105 | 266 => 114 | 314 => 115 | n => n, fun | 9 => 9 | 3 => 3 | 4 => 4 | 5 => 5 | 46 => 91 | 146 => 110 | 51 => 109 | n => n, fun | 1 => 0 | n => n⟩
theorem Tryz.lays143 : Go.Proofs.Lays.n143 Tryz.prog Tryz.lays143_ren := {
 mixed := by kernel_rfl
 f143 := Tryz.func111.trans (congrArg some (by kernel_rfl))
 f217 := Tryz.func102.trans (congrArg some (by kernel_rfl))
 f219 := Tryz.func90.trans (congrArg some (by kernel_rfl))
 f224 := Tryz.func104.trans (congrArg some (by kernel_rfl))
 f225 := Tryz.func103.trans (congrArg some (by kernel_rfl))
 f266 := Tryz.func114.trans (congrArg some (by kernel_rfl))
 f267 := Tryz.func105.trans (congrArg some (by kernel_rfl))
 f314 := Tryz.func115.trans (congrArg some (by kernel_rfl))
 t3 := Tryz.underlying3
 a3 := Tryz.isAgg3
 z3 := Tryz.sizeOf3
 v3 := Tryz.zeroValue3
 t4 := Tryz.underlying4
 a4 := Tryz.isAgg4
 z4 := Tryz.sizeOf4
 v4 := Tryz.zeroValue4
 t5 := Tryz.underlying5
 a5 := Tryz.isAgg5
 z5 := Tryz.sizeOf5
 v5 := Tryz.zeroValue5
 t9 := Tryz.underlying9
 a9 := Tryz.isAgg9
 z9 := Tryz.sizeOf9
 v9 := Tryz.zeroValue9
 t46 := Tryz.underlying91
 a46 := Tryz.isAgg91
 z46 := Tryz.sizeOf91
 v46 := Tryz.zeroValue91
 t51 := Tryz.underlying109
 a51 := Tryz.isAgg109
 z51 := Tryz.sizeOf109
 v51 := Tryz.zeroValue109
 t146 := Tryz.underlying110
 a146 := Tryz.isAgg110
 z146 := Tryz.sizeOf110
 v146 := Tryz.zeroValue110
 g1 := by kernel_rfl }
open Go.RowKit Go.Lib in
theorem Tryz.strings_Index (s sub : ByteArray) (m : Int) (w : World) (hs : s.size < 4294967281) (hm : w.cell? ⟨0, 0, none⟩ = some (.int .i64 m)) :
  Calls Tryz.prog 111 #[.string s, .string sub] w fun e w' => e = .returned (.int .i64 (Lib.index s.data.toList sub.data.toList)) ∧ w' = w := Any.strings_Index Tryz.lays143 s sub m w hs hm
def Tryz.lays220_ren : Go.Shelf.Ren := ⟨fun | 220 => 73 | 219 => 90 | 217 => 102 | 225 => 103 | 224 => 104 | 267 => 105 | 266 => 114 | 314 => 115 | n => n, fun | 9 => 9 | 4 => 4 | 3 => 3 | 5 => 5 | 46 => 91 | 146 => 110 | 51 => 109 | n => n, fun | 1 => 0 | n => n⟩
theorem Tryz.lays220 : Go.Proofs.Lays.n220 Tryz.prog Tryz.lays220_ren := {
 mixed := by kernel_rfl
 f217 := Tryz.func102.trans (congrArg some (by kernel_rfl))
 f219 := Tryz.func90.trans (congrArg some (by kernel_rfl))
 f220 := Tryz.func73.trans (congrArg some (by kernel_rfl))
 f224 := Tryz.func104.trans (congrArg some (by kernel_rfl))
 f225 := Tryz.func103.trans (congrArg some (by kernel_rfl))
 f266 := Tryz.func114.trans (congrArg some (by kernel_rfl))
 f267 := Tryz.func105.trans (congrArg some (by kernel_rfl))
 f314 := Tryz.func115.trans (congrArg some (by kernel_rfl))
 t3 := Tryz.underlying3
 a3 := Tryz.isAgg3
 z3 := Tryz.sizeOf3
 v3 := Tryz.zeroValue3
 t4 := Tryz.underlying4
 a4 := Tryz.isAgg4
 z4 := Tryz.sizeOf4
 v4 := Tryz.zeroValue4
 t5 := Tryz.underlying5
 a5 := Tryz.isAgg5
 z5 := Tryz.sizeOf5
 v5 := Tryz.zeroValue5
 t9 := Tryz.underlying9
 a9 := Tryz.isAgg9
 z9 := Tryz.sizeOf9
 v9 := Tryz.zeroValue9
 t46 := Tryz.underlying91
 a46 := Tryz.isAgg91
 z46 := Tryz.sizeOf91
 v46 := Tryz.zeroValue91
 t51 := Tryz.underlying109
 a51 := Tryz.isAgg109
 z51 := Tryz.sizeOf109
 v51 := Tryz.zeroValue109
 t146 := Tryz.underlying110
 a146 := Tryz.isAgg110
 z146 := Tryz.sizeOf110
 v146 := Tryz.zeroValue110
 g1 := by kernel_rfl }
open Go.RowKit Go.Lib in
theorem Tryz.stringslite_Cut (s sep : ByteArray) (m : Int) (w : World) (hs : s.size < 4294967281) (hm : w.cell? ⟨0, 0, none⟩ = some (.int .i64 m)) :
  Calls Tryz.prog 73 #[.string s, .string sep] w fun e w' => e = .returned (.tuple #[.string ⟨(Lib.cut s.data.toList sep.data.toList).1.toArray⟩, .string ⟨(Lib.cut s.data.toList sep.data.toList).2.1.toArray⟩, .bool (Lib.cut s.data.toList sep.data.toList).2.2]) ∧ ∃ n, w' = w.drewN n := Any.stringslite_Cut Tryz.lays220 s sep m w hs hm
def Tryz.lays145_ren : Go.Shelf.Ren := ⟨fun | 145 => 48 | 220 => 73 | 219 => 90 | 217 => 102 | 225 => 103 | 224 => 104 | 267 => 105 | 266 => 114 | 314 => 115 | n => n, fun | 9 => 9 | 4 => 4 | 59 => 60 | 3 => 3 | 5 => 5 | 46 => 91 | 146 => 110 | 51 => 109 | n => n, fun | 1 => 0 | n => n⟩
theorem Tryz.lays145 : Go.Proofs.Lays.n145 Tryz.prog Tryz.lays145_ren := {
 mixed := by kernel_rfl
 f145 := Tryz.func48.trans (congrArg some (by kernel_rfl))
 f217 := Tryz.func102.trans (congrArg some (by kernel_rfl))
 f219 := Tryz.func90.trans (congrArg some (by kernel_rfl))
 f220 := Tryz.func73.trans (congrArg some (by kernel_rfl))
 f224 := Tryz.func104.trans (congrArg some (by kernel_rfl))
 f225 := Tryz.func103.trans (congrArg some (by kernel_rfl))
 f266 := Tryz.func114.trans (congrArg some (by kernel_rfl))
 f267 := Tryz.func105.trans (congrArg some (by kernel_rfl))
 f314 := Tryz.func115.trans (congrArg some (by kernel_rfl))
 t3 := Tryz.underlying3
 a3 := Tryz.isAgg3
 z3 := Tryz.sizeOf3
 v3 := Tryz.zeroValue3
 t4 := Tryz.underlying4
 a4 := Tryz.isAgg4
 z4 := Tryz.sizeOf4
 v4 := Tryz.zeroValue4
 t5 := Tryz.underlying5
 a5 := Tryz.isAgg5
 z5 := Tryz.sizeOf5
 v5 := Tryz.zeroValue5
 t9 := Tryz.underlying9
 a9 := Tryz.isAgg9
 z9 := Tryz.sizeOf9
 v9 := Tryz.zeroValue9
 t46 := Tryz.underlying91
 a46 := Tryz.isAgg91
 z46 := Tryz.sizeOf91
 v46 := Tryz.zeroValue91
 t51 := Tryz.underlying109
 a51 := Tryz.isAgg109
 z51 := Tryz.sizeOf109
 v51 := Tryz.zeroValue109
 t59 := Tryz.underlying60
 a59 := Tryz.isAgg60
 z59 := Tryz.sizeOf60
 v59 := Tryz.zeroValue60
 t146 := Tryz.underlying110
 a146 := Tryz.isAgg110
 z146 := Tryz.sizeOf110
 v146 := Tryz.zeroValue110
 g1 := by kernel_rfl }
open Go.RowKit Go.Lib in
theorem Tryz.strings_Cut (s sep : ByteArray) (m : Int) (w : World) (hs : s.size < 4294967281) (hm : w.cell? ⟨0, 0, none⟩ = some (.int .i64 m)) :
  Calls Tryz.prog 48 #[.string s, .string sep] w fun e w' => e = .returned (.tuple #[.string ⟨(Lib.cut s.data.toList sep.data.toList).1.toArray⟩, .string ⟨(Lib.cut s.data.toList sep.data.toList).2.1.toArray⟩, .bool (Lib.cut s.data.toList sep.data.toList).2.2]) ∧ ∃ n, w' = w.drewN n := Any.strings_Cut Tryz.lays145 s sep m w hs hm
def Tryz.lays138_ren : Go.Shelf.Ren := ⟨fun | 138 => 110 | 195 => 116 | 218 => 118 | 143 => 111 | 219 => 90 | 217 => 102 | 225 => 103 | 224 => 104 | 267 => 105 | 266 => 114 | 314 => 115 | n => n, fun | 9 => 9 | 3 => 3 | 4 => 4 | 5 => 5 | 0 => 0 | 46 => 91 | 146 => 110 | 51 => 109 | n => n, fun | 1 => 0 | n => n⟩
theorem Tryz.lays138 : Go.Proofs.Lays.n138 Tryz.prog Tryz.lays138_ren := {
 mixed := by kernel_rfl
 f138 := Tryz.func110.trans (congrArg some (by kernel_rfl))
 f143 := Tryz.func111.trans (congrArg some (by kernel_rfl))
 f195 := Tryz.func116.trans (congrArg some (by kernel_rfl))
 f217 := Tryz.func102.trans (congrArg some (by kernel_rfl))
 f218 := Tryz.func118.trans (congrArg some (by kernel_rfl))
 f219 := Tryz.func90.trans (congrArg some (by kernel_rfl))
 f224 := Tryz.func104.trans (congrArg some (by kernel_rfl))
 f225 := Tryz.func103.trans (congrArg some (by kernel_rfl))
 f266 := Tryz.func114.trans (congrArg some (by kernel_rfl))
 f267 := Tryz.func105.trans (congrArg some (by kernel_rfl))
 f314 := Tryz.func115.trans (congrArg some (by kernel_rfl))
 t0 := Tryz.underlying0
 a0 := Tryz.isAgg0
 z0 := Tryz.sizeOf0
 v0 := Tryz.zeroValue0
 t3 := Tryz.underlying3
 a3 := Tryz.isAgg3
 z3 := Tryz.sizeOf3
 v3 := Tryz.zeroValue3
 t4 := Tryz.underlying4
 a4 := Tryz.isAgg4
 z4 := Tryz.sizeOf4
 v4 := Tryz.zeroValue4
 t5 := Tryz.underlying5
 a5 := Tryz.isAgg5
 z5 := Tryz.sizeOf5
 v5 := Tryz.zeroValue5
 t9 := Tryz.underlying9
 a9 := Tryz.isAgg9
 z9 := Tryz.sizeOf9
 v9 := Tryz.zeroValue9
 t46 := Tryz.underlying91
 a46 := Tryz.isAgg91
 z46 := Tryz.sizeOf91
 v46 := Tryz.zeroValue91
 t51 := Tryz.underlying109
 a51 := Tryz.isAgg109
 z51 := Tryz.sizeOf109
 v51 := Tryz.zeroValue109
 t146 := Tryz.underlying110
 a146 := Tryz.isAgg110
 z146 := Tryz.sizeOf110
 v146 := Tryz.zeroValue110
 g1 := by kernel_rfl }
open Go.RowKit Go.Lib in
theorem Tryz.strings_Count_one (s : ByteArray) (c : UInt8) (w : World) :
  Calls Tryz.prog 110 #[.string s, .string ⟨#[c]⟩] w fun e w' => e = .returned (.int .i64 (Lib.countByte s.data.toList c)) ∧ w' = w := Any.strings_Count_one Tryz.lays138 s c w
open Go.RowKit Go.Lib in
theorem Tryz.strings_Count (s sub : ByteArray) (m : Int) (w : World) (hs : s.size < 4294967281) (hm : w.cell? ⟨0, 0, none⟩ = some (.int .i64 m)) (h2 : 2 ≤ sub.size) :
  Calls Tryz.prog 110 #[.string s, .string sub] w fun e w' => e = .returned (.int .i64 (Lib.countB s sub)) ∧ w' = w := Any.strings_Count Tryz.lays138 s sub m w hs hm h2
def Tryz.lays206_ren : Go.Shelf.Ren := ⟨fun | 206 => 74 | n => n, fun | 9 => 9 | 4 => 4 | 3 => 3 | n => n, fun | n => n⟩
theorem Tryz.lays206 : Go.Proofs.Lays.n206 Tryz.prog Tryz.lays206_ren := {
 mixed := by kernel_rfl
 f206 := Tryz.func74.trans (congrArg some (by kernel_rfl))
 t3 := Tryz.underlying3
 a3 := Tryz.isAgg3
 z3 := Tryz.sizeOf3
 v3 := Tryz.zeroValue3
 t4 := Tryz.underlying4
 a4 := Tryz.isAgg4
 z4 := Tryz.sizeOf4
 v4 := Tryz.zeroValue4
 t9 := Tryz.underlying9
 a9 := Tryz.isAgg9
 z9 := Tryz.sizeOf9
 v9 := Tryz.zeroValue9 }
open Go.RowKit Go.Lib in
theorem Tryz.stringslite_HasPrefix (s p : ByteArray) (w : World) :
  Calls Tryz.prog 74 #[.string s, .string p] w fun e w' => e = .returned (.bool (Lib.hasPrefix s.data.toList p.data.toList)) ∧ w' = w := Any.stringslite_HasPrefix Tryz.lays206 s p w
def Tryz.lays99_ren : Go.Shelf.Ren := ⟨fun | 99 => 49 | 206 => 74 | n => n, fun | 9 => 9 | 4 => 4 | 3 => 3 | n => n, fun | n => n⟩
theorem Tryz.lays99 : Go.Proofs.Lays.n99 Tryz.prog Tryz.lays99_ren := {
 mixed := by kernel_rfl
 f99 := Tryz.func49.trans (congrArg some (by kernel_rfl))
 f206 := Tryz.func74.trans (congrArg some (by kernel_rfl))
 t3 := Tryz.underlying3
 a3 := Tryz.isAgg3
 z3 := Tryz.sizeOf3
 v3 := Tryz.zeroValue3
 t4 := Tryz.underlying4
 a4 := Tryz.isAgg4
 z4 := Tryz.sizeOf4
 v4 := Tryz.zeroValue4
 t9 := Tryz.underlying9
 a9 := Tryz.isAgg9
 z9 := Tryz.sizeOf9
 v9 := Tryz.zeroValue9 }
open Go.RowKit Go.Lib in
theorem Tryz.strings_HasPrefix (s p : ByteArray) (w : World) :
  Calls Tryz.prog 49 #[.string s, .string p] w fun e w' => e = .returned (.bool (Lib.hasPrefix s.data.toList p.data.toList)) ∧ w' = w := Any.strings_HasPrefix Tryz.lays99 s p w
def Tryz.lays152_ren : Go.Shelf.Ren := ⟨fun | 152 => 92 | 137 => 106 | 119 => 107 | 224 => 104 | 225 => 103 | 217 => 102 | 266 => 114 | n => n, fun | 9 => 9 | 21 => 21 | 3 => 3 | 4 => 4 | 5 => 5 | 0 => 0 | 46 => 91 | n => n, fun | n => n⟩
theorem Tryz.lays152 : Go.Proofs.Lays.n152 Tryz.prog Tryz.lays152_ren := {
 mixed := by kernel_rfl
 f119 := Tryz.func107.trans (congrArg some (by kernel_rfl))
 f137 := Tryz.func106.trans (congrArg some (by kernel_rfl))
 f152 := Tryz.func92.trans (congrArg some (by kernel_rfl))
 f217 := Tryz.func102.trans (congrArg some (by kernel_rfl))
 f224 := Tryz.func104.trans (congrArg some (by kernel_rfl))
 f225 := Tryz.func103.trans (congrArg some (by kernel_rfl))
 f266 := Tryz.func114.trans (congrArg some (by kernel_rfl))
 t0 := Tryz.underlying0
 a0 := Tryz.isAgg0
 z0 := Tryz.sizeOf0
 v0 := Tryz.zeroValue0
 t3 := Tryz.underlying3
 a3 := Tryz.isAgg3
 z3 := Tryz.sizeOf3
 v3 := Tryz.zeroValue3
 t4 := Tryz.underlying4
 a4 := Tryz.isAgg4
 z4 := Tryz.sizeOf4
 v4 := Tryz.zeroValue4
 t5 := Tryz.underlying5
 a5 := Tryz.isAgg5
 z5 := Tryz.sizeOf5
 v5 := Tryz.zeroValue5
 t9 := Tryz.underlying9
 a9 := Tryz.isAgg9
 z9 := Tryz.sizeOf9
 v9 := Tryz.zeroValue9
 t21 := Tryz.underlying21
 a21 := Tryz.isAgg21
 z21 := Tryz.sizeOf21
 v21 := Tryz.zeroValue21
 t46 := Tryz.underlying91
 a46 := Tryz.isAgg91
 z46 := Tryz.sizeOf91
 v46 := Tryz.zeroValue91 }
open Go.RowKit Go.Lib in
theorem Tryz.strings_IndexRune_ascii (s : ByteArray) (r : Int) (w : World) (h0 : 0 ≤ r) (h1 : r < 128) :
  Calls Tryz.prog 92 #[.string s, .int .i32 r] w fun e w' => e = .returned (.int .i64 (Lib.indexByte s.data.toList r.toNat.toUInt8)) ∧ w' = w := Any.strings_IndexRune_ascii Tryz.lays152 s r w h0 h1
def Tryz.lays226_ren : Go.Shelf.Ren := ⟨fun | 226 => 93 | n => n, fun | 3 => 3 | 4 => 4 | n => n, fun | n => n⟩
theorem Tryz.lays226 : Go.Proofs.Lays.n226 Tryz.prog Tryz.lays226_ren := {
 mixed := by kernel_rfl
 f226 := Tryz.func93.trans (congrArg some (by kernel_rfl))
 t3 := Tryz.underlying3
 a3 := Tryz.isAgg3
 z3 := Tryz.sizeOf3
 v3 := Tryz.zeroValue3
 t4 := Tryz.underlying4
 a4 := Tryz.isAgg4
 z4 := Tryz.sizeOf4
 v4 := Tryz.zeroValue4 }
open Go.RowKit Go.Lib in
theorem Tryz.strings_shouldUseASCIISet (n : Int) (w : World) :
  Calls Tryz.prog 93 #[.int .i64 n] w fun e w' => e = .returned (.bool (decide (8 < n))) ∧ w' = w := Any.strings_shouldUseASCIISet Tryz.lays226 n w
def Tryz.lays153_ren : Go.Shelf.Ren := ⟨fun | 153 => 76 | 152 => 92 | 226 => 93 | 227 => 94 | 228 => 95 | 137 => 106 | 119 => 107 | 224 => 104 | 225 => 103 | 217 => 102 | 266 => 114 | n => n, fun | 9 => 9 | 3 => 3 | 4 => 4 | 5 => 5 | 21 => 21 | 117 => 87 | 116 => 86 | 0 => 0 | 46 => 91 | 124 => 104 | n => n, fun | n => n⟩
theorem Tryz.lays153 : Go.Proofs.Lays.n153 Tryz.prog Tryz.lays153_ren := {
 mixed := by kernel_rfl
 f119 := Tryz.func107.trans (congrArg some (by kernel_rfl))
 f137 := Tryz.func106.trans (congrArg some (by kernel_rfl))
 f152 := Tryz.func92.trans (congrArg some (by kernel_rfl))
 f153 := Tryz.func76.trans (congrArg some (by kernel_rfl))
 f217 := Tryz.func102.trans (congrArg some (by kernel_rfl))
 f224 := Tryz.func104.trans (congrArg some (by kernel_rfl))
 f225 := Tryz.func103.trans (congrArg some (by kernel_rfl))
 f226 := Tryz.func93.trans (congrArg some (by kernel_rfl))
 f227 := Tryz.func94.trans (congrArg some (by kernel_rfl))
 f228 := Tryz.func95.trans (congrArg some (by kernel_rfl))
 f266 := Tryz.func114.trans (congrArg some (by kernel_rfl))
 t0 := Tryz.underlying0
 a0 := Tryz.isAgg0
 z0 := Tryz.sizeOf0
 v0 := Tryz.zeroValue0
 t3 := Tryz.underlying3
 a3 := Tryz.isAgg3
 z3 := Tryz.sizeOf3
 v3 := Tryz.zeroValue3
 t4 := Tryz.underlying4
 a4 := Tryz.isAgg4
 z4 := Tryz.sizeOf4
 v4 := Tryz.zeroValue4
 t5 := Tryz.underlying5
 a5 := Tryz.isAgg5
 z5 := Tryz.sizeOf5
 v5 := Tryz.zeroValue5
 t9 := Tryz.underlying9
 a9 := Tryz.isAgg9
 z9 := Tryz.sizeOf9
 v9 := Tryz.zeroValue9
 t21 := Tryz.underlying21
 a21 := Tryz.isAgg21
 z21 := Tryz.sizeOf21
 v21 := Tryz.zeroValue21
 t46 := Tryz.underlying91
 a46 := Tryz.isAgg91
 z46 := Tryz.sizeOf91
 v46 := Tryz.zeroValue91
 t116 := Tryz.underlying86
 a116 := Tryz.isAgg86
 z116 := Tryz.sizeOf86
 t117 := Tryz.underlying87
 a117 := Tryz.isAgg87
 z117 := Tryz.sizeOf87
 v117 := Tryz.zeroValue87
 t124 := Tryz.underlying104
 a124 := Tryz.isAgg104
 z124 := Tryz.sizeOf104
 v124 := Tryz.zeroValue104 }
open Go.RowKit Go.Lib in
theorem Tryz.strings_IndexAny_long (hv116 : ∀ w, (zeroValue 86).run Tryz.prog w = .ok (.agg (Array.replicate 256 (.bool false))) w) (s chars : ByteArray) (w : World) (h2 : 2 ≤ chars.size) (h8 : 8 < s.size) (hs : s.size < 4294967281) (hcs : chars.size < 4294967281) (hascii : ∀ (j : Nat) b, chars.data.toList[j]? = some b → b.toNat < 128) :
  Calls Tryz.prog 76 #[.string s, .string chars] w fun e w' => e = .returned (.int .i64 (Lib.indexAny s.data.toList chars.data.toList)) ∧ w' = ((w.alloc (.cells (Lib.setCells chars.data.toList) 86)).alloc (.cells (Lib.setCells chars.data.toList) 86)) := Any.strings_IndexAny_long Tryz.lays153 hv116 (by kernel_rfl) s chars w h2 h8 hs hcs hascii
open Go.RowKit Go.Lib in
theorem Tryz.strings_IndexAny (hv116 : ∀ w, (zeroValue 86).run Tryz.prog w = .ok (.agg (Array.replicate 256 (.bool false))) w) (s chars : ByteArray) (w : World) (hs : s.size < 4294967281) (hcs : chars.size < 4294967281) (has : ∀ (j : Nat) b, s.data.toList[j]? = some b → b.toNat < 128) (hac : ∀ (j : Nat) b, chars.data.toList[j]? = some b → b.toNat < 128) :
  Calls Tryz.prog 76 #[.string s, .string chars] w fun e w' => e = .returned (.int .i64 (Lib.indexAny s.data.toList chars.data.toList)) ∧ Below w.heap.size w w' := Any.strings_IndexAny Tryz.lays153 hv116 (by kernel_rfl) s chars w hs hcs has hac
def Tryz.laysNm216_ren : Go.Shelf.Ren := ⟨fun | 16 => 51 | n => n, fun | 24 => 22 | 9 => 9 | 4 => 4 | n => n, fun | n => n⟩
theorem Tryz.laysNm216 : Go.Proofs.Lays2.n16 Tryz.prog Tryz.laysNm216_ren := {
 mixed := by kernel_rfl
 f16 := Tryz.func51.trans (congrArg some (by kernel_rfl))
 t4 := Tryz.underlying4
 a4 := Tryz.isAgg4
 z4 := Tryz.sizeOf4
 v4 := Tryz.zeroValue4
 t9 := Tryz.underlying9
 a9 := Tryz.isAgg9
 z9 := Tryz.sizeOf9
 v9 := Tryz.zeroValue9
 t24 := Tryz.underlying22
 a24 := Tryz.isAgg22
 z24 := Tryz.sizeOf22
 v24 := Tryz.zeroValue22
 i9 := by kernel_rfl }
open Go.RowKit Go.Lib in
theorem Tryz.slices_Clone_string (b off n c : Nat) (zs : List ByteArray) (w : World) (hz : n ≤ zs.length) (hbig : n * 16 ≤ 140737488355328) (hc : ∀ j, j < zs.length → w.cell? ⟨b, off + j, none⟩ = some (.string (zs.getD j ByteArray.empty))) :
  Calls Tryz.prog 51 #[.slice (some ⟨b, off, none⟩) n c] w fun e w' => ∃ v', e = .returned v' ∧ w'.ownsRow w.heap.size 9 1 v' n ((zs.take n).map (Value.string)) ∧ v' ≠ .slice none 0 0 ∧ Below w.heap.size w w' := Any.slices_Clone_string Tryz.laysNm216 b off n c zs w hz hbig hc
open Go.RowKit Go.Lib in
theorem Tryz.slices_Clone_string_nil (n c : Nat) (w : World) :
  Calls Tryz.prog 51 #[.slice none n c] w fun e w' => e = .returned (.slice none 0 0) ∧ w' = w := Any.slices_Clone_string_nil Tryz.laysNm216 n c w
open Go.RowKit Go.Lib in
theorem Tryz.slices_Clone_string_zero (a : Addr) (c : Nat) (w : World) :
  Calls Tryz.prog 51 #[.slice (some a) 0 c] w fun e w' => ∃ v', e = .returned v' ∧ w'.ownsRow w.heap.size 9 1 v' 0 [] ∧ v' ≠ .slice none 0 0 ∧ Below w.heap.size w w' := Any.slices_Clone_string_zero Tryz.laysNm216 a c w
end Go.Proofs
end
section
namespace Go.Proofs.YtgjfegfopjfdpaaGreatDoor.P
open Go.RowKit Go.Proofs.YtgjfegfopjfdpaaGreatDoorW.PrintWords Go.Proofs.YtgjfegfopjfdpaaGreatDoorW.PrintLast Go.Proofs.YtgjfegfopjfdpaaGreatDoorW.PrintMore Go.Proofs.YtgjfegfopjfdpaaGreatDoor.B Go.Proofs.YtgjfegfopjfdpaaGreatDoor.Ad
set_option linter.unusedVariables false
set_option linter.unusedSimpArgs false
theorem row_at {w : World} {A : Option Addr} {xs : List ByteArray} (h : Kd.C Kd.string w A xs.length xs) (hn : 0 < xs.length) :
  ∃ bk o, A = some ⟨bk, o, none⟩ ∧ bk < w.heap.size ∧ ∀ (j : Nat) x, xs[j]? = some x → w.cell? ⟨bk, o + j, none⟩ = some (.string x) := by
 obtain ⟨_, _, h3⟩ := h
 obtain ⟨ad, rfl, hc⟩ := h3 hn
 have cells : ∀ (j : Nat) x, xs[j]? = some x → w.cell? (ad.add j) = some (.string x) := by
  intro j x hx
  obtain ⟨c, hl, hk, hcell⟩ := hc j x hx
  have hk' : c = [Value.string x] := hk
  subst hk'
  have := hcell 0 (.string x) rfl
  rw [show j * Kd.string.sz + 0 = j from by show j * 1 + 0 = j; omega] at this
  exact this
 have h0 := cells 0 xs[0] (List.getElem?_eq_getElem hn)
 obtain ⟨bk, o, sp⟩ := ad
 have h0' : w.cell? ⟨bk, o, sp⟩ = some (.string xs[0]) := h0
 have hsp : sp = none := by
  cases sp with
  | none => rfl
  | some y =>
   unfold World.cell? at h0'
   simp at h0'
   split at h0' <;> simp at h0'
 subst hsp
 refine ⟨bk, o, rfl, ?_, fun j x hx => ?_⟩
 ·rcases Nat.lt_or_ge bk w.heap.size with h | h
  ·exact h
  ·unfold World.cell? at h0'
   simp [Array.getElem?_eq_none h] at h0'
 ·have := cells j x hx
  unfold Addr.add at this
  split at this
  ·rename_i hj; subst hj; exact this
  ·exact this
def strings_Join.f (l0 : List ByteArray) (a1 : ByteArray) : Option (ByteArray) :=
 if l0.length ≤ 140737488355328 ∧ (Lib.join (l0.map L) (L a1)).length ≤ 140737488355328 then some (ofL (Lib.join (l0.map L) (L a1))) else none
theorem strings_Join.calls (A0 : Option Addr) (c0 : Nat) (l0 : List ByteArray) (a1 : ByteArray) (r : ByteArray) (w : World) (hr0 : Kd.C Kd.string w A0 l0.length l0) (hc0 : l0.length ≤ c0) (h : strings_Join.f l0 a1 = some r) :
  Calls Tryz.prog 89 #[.slice A0 l0.length c0, .string a1] w fun e w' => e = .returned (.string r) ∧ Below w.heap.size w w' := by
 unfold strings_Join.f at h
 split at h
 ·rename_i hh
  obtain rfl := Option.some.inj h
  rcases Nat.eq_zero_or_pos l0.length with h0 | h0
  ·obtain rfl : l0 = [] := List.length_eq_zero_iff.1 h0
   exact (Tryz.strings_Join_none A0 c0 a1 w).mono fun e w' ⟨he, hw⟩ => ⟨he, hw ▸ Below.refl _ _⟩
  ·obtain ⟨bk, o, rfl, hb, hcells⟩ := row_at hr0 h0
   exact Tryz.strings_Join bk o c0 l0 a1 w hcells hb hh.1 hc0 hh.2
 ·cases h
end Go.Proofs.YtgjfegfopjfdpaaGreatDoor.P
end
section
namespace Go.Proofs.YtgjfegfopjfdpaaGreatDoor.P
open Go.RowKit Go.Proofs.YtgjfegfopjfdpaaGreatDoorW.PrintWords Go.Proofs.YtgjfegfopjfdpaaGreatDoorW.PrintLast Go.Proofs.YtgjfegfopjfdpaaGreatDoorW.PrintMore
attribute [local go_sem] max2_int min2_int max_two min_two max_three min_three max_four min_four
set_option linter.unusedVariables false
set_option linter.unusedSimpArgs false
def impl_writePath.f (a0_0 : ByteArray) (l0_1 : List ByteArray) (a0_2 : Bool) (a0_3 : ByteArray) : Option (ByteArray) := (strings_Join.f l0_1 (⟨#[47]⟩ : ByteArray)).bind fun t335 => (if 1 + t335.size ≤ 9223372036854775807 then (if a0_2 = true then (if 1 + a0_3.size ≤ 9223372036854775807 then (if 1 + t335.size + 1 + a0_3.size ≤ 9223372036854775807 then (some (((⟨#[47]⟩ : ByteArray) ++ t335) ++ ((⟨#[63]⟩ : ByteArray) ++ a0_3))) else (none)) else (none)) else (some ((⟨#[47]⟩ : ByteArray) ++ t335))) else (none))
set_option maxHeartbeats 8000000 in
set_option maxRecDepth 100000 in
theorem impl_writePath.calls (a0_0 : ByteArray) (A0_1 : Option Addr) (c0_1 : Nat) (l0_1 : List ByteArray) (a0_2 : Bool) (a0_3 : ByteArray) (r : ByteArray) (w : World) (hr0_1 : Kd.C Kd.string w A0_1 l0_1.length l0_1) (hc0_1 : l0_1.length ≤ c0_1) (h : impl_writePath.f a0_0 l0_1 a0_2 a0_3 = some r) :
  Calls Tryz.prog 69 #[.agg #[.string a0_0, .slice A0_1 l0_1.length c0_1, .bool a0_2, .string a0_3]] w fun e w' => e = .returned (.string r) ∧ Below w.heap.size w w' := by
 have hu27 := Tryz.underlying27;have HR0_1 := Aside0.mk hr0_1;have HC0_1 := Aside0.mk hc0_1;clear hr0_1 hc0_1;have HB := Aside0.mk (Below.refl w.heap.size w);have H : ((strings_Join.f l0_1 (⟨#[47]⟩ : ByteArray)).bind fun t335 => (if 1 + t335.size ≤ 9223372036854775807 then (if a0_2 = true then (if 1 + a0_3.size ≤ 9223372036854775807 then (if 1 + t335.size + 1 + a0_3.size ≤ 9223372036854775807 then (some (((⟨#[47]⟩ : ByteArray) ++ t335) ++ ((⟨#[63]⟩ : ByteArray) ++ a0_3))) else (none)) else (none)) else (some ((⟨#[47]⟩ : ByteArray) ++ t335))) else (none))) = some r := h;clear h;replace H := bindA H;obtain ⟨t335, A2, H⟩ := H;by_cases c3 : 1 + t335.size ≤ 9223372036854775807
 ·rw [if_pos c3] at H
  have c3b0 := eq_true c3;have c3b1 : decide (1 + t335.size ≤ 9223372036854775807) = true := decide_eq_true c3;try have c3b2 : (9223372036854775807 < 1 + t335.size) = False := eq_false (Nat.not_lt.2 c3)
  by_cases c4 : a0_2 = true
  ·subst c4
   rw [if_pos rfl] at H;by_cases c5 : 1 + a0_3.size ≤ 9223372036854775807
   ·rw [if_pos c5] at H
    have c5b0 := eq_true c5;have c5b1 : decide (1 + a0_3.size ≤ 9223372036854775807) = true := decide_eq_true c5;try have c5b2 : (9223372036854775807 < 1 + a0_3.size) = False := eq_false (Nat.not_lt.2 c5)
    by_cases c6 : 1 + t335.size + 1 + a0_3.size ≤ 9223372036854775807
    ·rw [if_pos c6] at H
     have c6b0 := eq_true c6;have c6b1 : decide (1 + t335.size + 1 + a0_3.size ≤ 9223372036854775807) = true := decide_eq_true c6;try have c6b2 : (9223372036854775807 < 1 + t335.size + 1 + a0_3.size) = False := eq_false (Nat.not_lt.2 c6)
     obtain rfl := Option.some.inj H;go_enter Tryz.func69, Tryz.ntmps69;go_wp2_with (first | ((with_reducible refine gate_dst (N := 1) rfl ?_); refine boxE 1 #[.string a0_0, .slice A0_1 l0_1.length c0_1, .bool true, .string a0_3] 27 ?_; intro gb334 hg w7 hbox hb; have n0_ := Aside0.mk (below_step (zz4 HB) hb); have n1_ := Aside0.mk (hbox); have n2_ := Aside0.mk ((by rw [hg]; exact (below_size (zz4 HB)) : w.heap.size ≤ gb334)); have n3_ := Aside0.mk ((by rw [hg]; exact (below_size (zz4 HB)) : w.heap.size ≤ gb334)); clear HB; have HB := n0_; have BK334 := n1_; have GW334 := n2_; have GE334 := n3_; clear n0_ n1_ n2_ n3_; clear hb hbox hg; obtain ⟨_, _, _, _, _, _, _, _⟩ := cf4 BK334) | ((with_reducible refine gate_callee (f := 89) rfl ?_); refine gsL (some 6) Tryz.func89 #[.slice A0_1 l0_1.length c0_1, .string (⟨#[47]⟩ : ByteArray)] ?_; (with_reducible refine (strings_Join.calls _ _ l0_1 (⟨#[47]⟩ : ByteArray) t335 _ ?side1 ?side2 A2.out).mono ?_); (case side1 => exact (zz7 HR0_1 HB)); (case side2 => exact HC0_1.out); rintro e w9 ⟨rfl, hb⟩; refine ⟨_, rfl, ?_⟩; have n0_ := Aside0.mk (blk_below (zz27 BK334) hb); have n1_ := Aside0.mk (below_step (zz6 HB GE334) hb); clear BK334; clear HB; have BK334 := n0_; have HB := n1_; clear n0_ n1_; (try clear hb); obtain ⟨_, _, _, _, _, _, _, _⟩ := cf4 BK334))
     go_ret
     exact ⟨zz5, (zz6 HB GE334)⟩
    ·rw [if_neg c6] at H
     exact absurd H (by simp)
   ·rw [if_neg c5] at H
    exact absurd H (by simp)
  ·replace c4 := Bool.eq_false_iff.mpr c4
   subst c4;rw [if_neg (show ¬ (false = true) by decide)] at H;obtain rfl := Option.some.inj H;go_enter Tryz.func69, Tryz.ntmps69;go_wp2_with (first | ((with_reducible refine gate_dst (N := 1) rfl ?_); refine boxE 1 #[.string a0_0, .slice A0_1 l0_1.length c0_1, .bool false, .string a0_3] 27 ?_; intro gb334 hg w11 hbox hb; have n0_ := Aside0.mk (below_step (zz4 HB) hb); have n1_ := Aside0.mk (hbox); have n2_ := Aside0.mk ((by rw [hg]; exact (below_size (zz4 HB)) : w.heap.size ≤ gb334)); have n3_ := Aside0.mk ((by rw [hg]; exact (below_size (zz4 HB)) : w.heap.size ≤ gb334)); clear HB; have HB := n0_; have BK334 := n1_; have GW334 := n2_; have GE334 := n3_; clear n0_ n1_ n2_ n3_; clear hb hbox hg; obtain ⟨_, _, _, _, _, _, _, _⟩ := cf4 BK334) | ((with_reducible refine gate_callee (f := 89) rfl ?_); refine gsL (some 6) Tryz.func89 #[.slice A0_1 l0_1.length c0_1, .string (⟨#[47]⟩ : ByteArray)] ?_; (with_reducible refine (strings_Join.calls _ _ l0_1 (⟨#[47]⟩ : ByteArray) t335 _ ?side1 ?side2 A2.out).mono ?_); (case side1 => exact (zz7 HR0_1 HB)); (case side2 => exact HC0_1.out); rintro e w13 ⟨rfl, hb⟩; refine ⟨_, rfl, ?_⟩; have n0_ := Aside0.mk (blk_below (zz27 BK334) hb); have n1_ := Aside0.mk (below_step (zz6 HB GE334) hb); clear BK334; clear HB; have BK334 := n0_; have HB := n1_; clear n0_ n1_; (try clear hb); obtain ⟨_, _, _, _, _, _, _, _⟩ := cf4 BK334))
   go_ret
   exact ⟨zz5, (zz6 HB GE334)⟩
 ·rw [if_neg c3] at H
  exact absurd H (by simp)
def impl_writeAddr.f (a0_0 : ByteArray) (l0_1 : List ByteArray) (a0_2 : Bool) (a0_3 : ByteArray) : Option (ByteArray) := if 2 + a0_0.size ≤ 9223372036854775807 then ((impl_writePath.f a0_0 l0_1 a0_2 a0_3).bind fun t337 => (if 2 + a0_0.size + t337.size ≤ 9223372036854775807 then (some (((⟨#[47, 47]⟩ : ByteArray) ++ a0_0) ++ t337)) else (none))) else (none)
set_option maxHeartbeats 8000000 in
set_option maxRecDepth 100000 in
theorem impl_writeAddr.calls (a0_0 : ByteArray) (A0_1 : Option Addr) (c0_1 : Nat) (l0_1 : List ByteArray) (a0_2 : Bool) (a0_3 : ByteArray) (r : ByteArray) (w : World) (hr0_1 : Kd.C Kd.string w A0_1 l0_1.length l0_1) (hc0_1 : l0_1.length ≤ c0_1) (h : impl_writeAddr.f a0_0 l0_1 a0_2 a0_3 = some r) :
  Calls Tryz.prog 45 #[.agg #[.string a0_0, .slice A0_1 l0_1.length c0_1, .bool a0_2, .string a0_3]] w fun e w' => e = .returned (.string r) ∧ Below w.heap.size w w' := by
 have hu27 := Tryz.underlying27;have HR0_1 := Aside0.mk hr0_1;have HC0_1 := Aside0.mk hc0_1;clear hr0_1 hc0_1;have HB := Aside0.mk (Below.refl w.heap.size w);have H : (if 2 + a0_0.size ≤ 9223372036854775807 then ((impl_writePath.f a0_0 l0_1 a0_2 a0_3).bind fun t337 => (if 2 + a0_0.size + t337.size ≤ 9223372036854775807 then (some (((⟨#[47, 47]⟩ : ByteArray) ++ a0_0) ++ t337)) else (none))) else (none)) = some r := h;clear h;by_cases c2 : 2 + a0_0.size ≤ 9223372036854775807
 ·rw [if_pos c2] at H
  have c2b0 := eq_true c2;have c2b1 : decide (2 + a0_0.size ≤ 9223372036854775807) = true := decide_eq_true c2;try have c2b2 : (9223372036854775807 < 2 + a0_0.size) = False := eq_false (Nat.not_lt.2 c2)
  replace H := bindA H;obtain ⟨t337, A3, H⟩ := H;by_cases c4 : 2 + a0_0.size + t337.size ≤ 9223372036854775807
  ·rw [if_pos c4] at H
   have c4b0 := eq_true c4;have c4b1 : decide (2 + a0_0.size + t337.size ≤ 9223372036854775807) = true := decide_eq_true c4;try have c4b2 : (9223372036854775807 < 2 + a0_0.size + t337.size) = False := eq_false (Nat.not_lt.2 c4)
   obtain rfl := Option.some.inj H;go_enter Tryz.func45, Tryz.ntmps45;try go_wp2_with (first | ((with_reducible refine gate_dst (N := 1) rfl ?_); refine boxE 1 #[.string a0_0, .slice A0_1 l0_1.length c0_1, .bool a0_2, .string a0_3] 27 ?_; intro gb336 hg w5 hbox hb; have n0_ := Aside0.mk (below_step (zz4 HB) hb); have n1_ := Aside0.mk (hbox); have n2_ := Aside0.mk ((by rw [hg]; exact (below_size (zz4 HB)) : w.heap.size ≤ gb336)); have n3_ := Aside0.mk ((by rw [hg]; exact (below_size (zz4 HB)) : w.heap.size ≤ gb336)); clear HB; have HB := n0_; have BK336 := n1_; have GW336 := n2_; have GE336 := n3_; clear n0_ n1_ n2_ n3_; clear hb hbox hg))
   have n0_ := Aside0.mk (blk_drew BK336.out);have n1_ := Aside0.mk (below_drew1 HB.out);clear BK336;clear HB;have BK336 := n0_;have HB := n1_;clear n0_ n1_;refine start_ (n := 7) (S := fun w' => w'.cell? ⟨gb336, 0, none⟩ = some (.string a0_0) ∧ w'.cell? ⟨gb336, 1, none⟩ = some (.slice A0_1 l0_1.length c0_1) ∧ w'.cell? ⟨gb336, 2, none⟩ = some (.bool a0_2) ∧ w'.cell? ⟨gb336, 3, none⟩ = some (.string a0_3)) (ds := []) #[false, false, false, false, false, false, false] (by kernel_rfl) rfl rfl ⟨(blk_cell BK336.out 0).trans rfl, (blk_cell BK336.out 1).trans rfl, (blk_cell BK336.out 2).trans rfl, (blk_cell BK336.out 3).trans rfl⟩ (fun hHeld => ?_);generalize w5.drew = w6 at BK336 HB hHeld ⊢;refine pure_ (i := 0) (N := some 3) (v := ?_) (a' := ?_) #[true, false, false, false, false, false, false] rfl rfl (by kernel_rfl) (fun _ _ _ h => h) (Or.inl ⟨by rfl, ?_⟩) ?_ ?_;rotate_left
   ·intro w'
    go_simp
    with_reducible rfl
   rotate_left
   ·simp only [Act.put, List.setIfInBounds_toArray, List.set_cons_zero, List.set_cons_succ, i64_w, i32_w]
    rfl
   refine take_ (i := 1) (N := some 4) (v := ?_) (a' := ?_) #[true, true, false, false, false, false, false] rfl rfl (by kernel_rfl) (fun _ _ _ h => h) (Or.inl ⟨by rfl, ?_⟩) hHeld ?_ ?_;rotate_left
   ·rintro w' ⟨s0, s1, s2, s3⟩
    go_simp
    with_reducible rfl
   rotate_left
   ·simp only [Act.put, List.setIfInBounds_toArray, List.set_cons_zero, List.set_cons_succ, i64_w, i32_w]
    rfl
   refine pure_ (i := 2) (N := some 5) (v := ?_) (a' := ?_) #[true, true, true, false, false, false, false] rfl rfl (by kernel_rfl) (fun _ _ _ h => h) (Or.inl ⟨by rfl, ?_⟩) ?_ ?_;rotate_left
   ·intro w'
    go_simp
    with_reducible rfl
   rotate_left
   ·simp only [Act.put, List.setIfInBounds_toArray, List.set_cons_zero, List.set_cons_succ, i64_w, i32_w]
    rfl
   refine take_ (i := 3) (N := some 6) (v := ?_) (a' := ?_) #[true, true, true, true, false, false, false] rfl rfl (by kernel_rfl) (fun _ _ _ h => h) (Or.inl ⟨by rfl, ?_⟩) hHeld ?_ ?_;rotate_left
   ·rintro w' ⟨s0, s1, s2, s3⟩
    go_simp
    with_reducible rfl
   rotate_left
   ·simp only [Act.put, List.setIfInBounds_toArray, List.set_cons_zero, List.set_cons_succ, i64_w, i32_w]
    rfl
   refine one_ (i := 4) (N := some 7) #[true, true, true, true, true, false, false] rfl rfl (by kernel_rfl) (by decide) (fun K hK => ?_);refine goes_ Tryz.func69 (by kernel_rfl) rfl #[.agg #[.string a0_0, .slice A0_1 l0_1.length c0_1, .bool a0_2, .string a0_3]] (by rfl) rfl rfl zz29 ?_;with_reducible refine (impl_writePath.calls a0_0 _ _ l0_1 a0_2 a0_3 t337 _ ?side1 ?side2 A3.out).mono ?_
   (case side1 => exact (zz7 HR0_1 HB))
   (case side2 => exact HC0_1.out)
   rintro e w7 ⟨rfl, hb⟩;refine ⟨_, rfl, ?_⟩;have n0_ := Aside0.mk (blk_below (zz27 BK336) hb);have n1_ := Aside0.mk (below_step (zz6 HB GE336) hb);clear BK336;clear HB;have BK336 := n0_;have HB := n1_;clear n0_ n1_;(try clear hb)
   (try clear hb2)
   (try clear hk)
   (try clear hi)
   refine hK.out _ _ ⟨(blk_cell BK336.out 0).trans rfl, (blk_cell BK336.out 1).trans rfl, (blk_cell BK336.out 2).trans rfl, (blk_cell BK336.out 3).trans rfl⟩ (fun hHeld => ?_);clear hK K;refine norm_ (a' := ?_) ?_ ?_;rotate_left
   ·show Act.put _ (some 7) _ = _
    simp only [Act.put, List.setIfInBounds_toArray, List.set_cons_zero, List.set_cons_succ, i64_w, i32_w]
    rfl
   refine pure_ (i := 5) (N := some 8) (v := ?_) (a' := ?_) #[true, true, true, true, true, true, false] rfl rfl (by kernel_rfl) (fun _ _ _ h => h) (Or.inl ⟨by rfl, ?_⟩) ?_ ?_;rotate_left
   ·intro w'
    go_simp
    with_reducible rfl
   rotate_left
   ·simp only [Act.put, List.setIfInBounds_toArray, List.set_cons_zero, List.set_cons_succ, i64_w, i32_w]
    rfl
   refine pure_ (i := 6) (N := some 2) (v := ?_) (a' := ?_) #[true, true, true, true, true, true, true] rfl rfl (by kernel_rfl) (fun _ _ _ h => h) (Or.inl ⟨by rfl, ?_⟩) ?_ ?_;rotate_left
   ·intro w'
    go_simp
    with_reducible rfl
   rotate_left
   ·simp only [Act.put, List.setIfInBounds_toArray, List.set_cons_zero, List.set_cons_succ, i64_w, i32_w]
    rfl
   refine done_ (by kernel_rfl) ?_;try go_wp2
   go_ret
   exact ⟨zz5, (zz6 HB GE336)⟩
  ·rw [if_neg c4] at H
   exact absurd H (by simp)
 ·rw [if_neg c2] at H
  exact absurd H (by simp)
def impl_allSmallLetters.l0 : Nat → ByteArray → Int → Option (Bool)
 | 0, _, _ => none
 | k + 1, x0, x3 => if x3 < (x0.size : Int) then (if 0 ≤ x3 then (if (bt x0 x3) < 97 then (some false) else (if (bt x0 x3) > 122 then (some false) else (impl_allSmallLetters.l0 k x0 (wrap64 (x3 + 1))))) else (none)) else (some true)
def impl_allSmallLetters.f (k : Nat) (a0 : ByteArray) : Option (Bool) := impl_allSmallLetters.l0 k a0 0
theorem impl_allSmallLetters.mono_l : ∀ k, (∀ y0 y1, LeO (impl_allSmallLetters.l0 k y0 y1) (impl_allSmallLetters.l0 (k + 1) y0 y1))
 | 0 => fun _ _ r h => by simp [impl_allSmallLetters.l0] at h
 | k + 1 => by
  have ih0 := impl_allSmallLetters.mono_l k
  ·intro y0 y1
   unfold impl_allSmallLetters.l0
   repeat' first | (with_reducible first | exact ih0 _ _ | exact LeO.refl _ | exact LeO.none _ | refine LeO.ite ?_ ?_ | refine LeO.bind ?_ (fun _ => ?_)) | exact LeO.none _ | refine LeO.ite ?_ ?_ | refine LeO.bind ?_ (fun _ => ?_)
theorem impl_allSmallLetters.mono : ∀ a0 k, LeO (impl_allSmallLetters.f k a0) (impl_allSmallLetters.f (k + 1) a0) := by
 intro a0 k;have ih0 := impl_allSmallLetters.mono_l k;unfold impl_allSmallLetters.f
 repeat' first | (with_reducible first | exact ih0 _ _ | exact LeO.refl _ | exact LeO.none _ | refine LeO.ite ?_ ?_ | refine LeO.bind ?_ (fun _ => ?_)) | exact LeO.none _ | refine LeO.ite ?_ ?_ | refine LeO.bind ?_ (fun _ => ?_)
set_option maxHeartbeats 8000000 in
set_option maxRecDepth 100000 in
theorem impl_allSmallLetters.calls (k : Nat) (a0 : ByteArray) (r : Bool) (w : World) (h : impl_allSmallLetters.f k a0 = some r) :
  Calls Tryz.prog 84 #[.string a0] w fun e w' => e = .returned (.bool r) ∧ Drawn0 w w' := by
 have H : (impl_allSmallLetters.l0 k a0 0) = some r := h;clear h;have H' := Aside0.mk H;clear H;go_enter Tryz.func84, Tryz.ntmps84;go_wp2
 go_loopg [3] k (fun kq v3 w' => ∃ (x3_1 : Int), v3 = .int .i64 x3_1 ∧ Aside0 (impl_allSmallLetters.l0 kq a0 x3_1 = some r) ∧ Aside0 (kq ≤ k) ∧ Drawn0 w w')
 case atStart => exact ⟨(0), zz0, H', ⟨Nat.le_refl _⟩, zz1⟩
 case round =>
  clear H';obtain ⟨x3_1, rfl, HA, HK1, ⟨m1, rfl⟩⟩ := hrel;cases gk with
  | zero => exact absurd HA.out (by simp [impl_allSmallLetters.l0])
  | succ k1 =>
   have H := HA.out;clear HA;simp only [impl_allSmallLetters.l0] at H
   by_cases c2 : x3_1 < (a0.size : Int)
   ·rw [if_pos c2] at H
    have c2b0 : decide (x3_1 < (a0.size : Int)) = true := decide_eq_true c2;clear c2;by_cases c3 : 0 ≤ x3_1
    ·rw [if_pos c3] at H
     have c3b0 : decide (0 ≤ x3_1) = true := decide_eq_true c3;clear c3;by_cases c5 : (bt a0 x3_1) < 97
     ·rw [if_pos c5] at H
      have c5b0 : decide ((bt a0 x3_1) < 97) = true := decide_eq_true c5;clear c5;obtain rfl := Option.some.inj H;have p4 : 0 ≤ (x3_1 : Int) := ofD;have q4 : x3_1 < (a0.size : Int) := ofD;have hx4 := bt_at a0 x3_1;replace p4 := eq_true p4;replace q4 := eq_true q4;go_wp2
      go_ret
      exact ⟨zz0, zz1⟩
     ·rw [if_neg c5] at H
      have c5b0 : decide ((bt a0 x3_1) < 97) = false := decide_eq_false c5;clear c5;by_cases c7 : (bt a0 x3_1) > 122
      ·rw [if_pos c7] at H
       have c7b0 : decide (122 < (bt a0 x3_1)) = true := decide_eq_true c7;clear c7;obtain rfl := Option.some.inj H;have p4 : 0 ≤ (x3_1 : Int) := ofD;have q4 : x3_1 < (a0.size : Int) := ofD;have hx4 := bt_at a0 x3_1;replace p4 := eq_true p4;replace q4 := eq_true q4;have p6 : 0 ≤ (x3_1 : Int) := ofD;have q6 : x3_1 < (a0.size : Int) := ofD;have hx6 := bt_at a0 x3_1;replace p6 := eq_true p6;replace q6 := eq_true q6;go_wp2
       go_ret
       exact ⟨zz0, zz1⟩
      ·rw [if_neg c7] at H
       have c7b0 : decide (122 < (bt a0 x3_1)) = false := decide_eq_false c7;clear c7;have H' := Aside0.mk H;clear H;have p4 : 0 ≤ (x3_1 : Int) := ofD;have q4 : x3_1 < (a0.size : Int) := ofD;have hx4 := bt_at a0 x3_1;replace p4 := eq_true p4;replace q4 := eq_true q4;have p6 : 0 ≤ (x3_1 : Int) := ofD;have q6 : x3_1 < (a0.size : Int) := ofD;have hx6 := bt_at a0 x3_1;replace p6 := eq_true p6;replace q6 := eq_true q6;go_wp2
       go_roundg k1
       case measure => have := HK1.out; omega
       case rel => exact ⟨(wrap64 (x3_1 + 1)), zz0, H', ⟨(zz3 HK1)⟩, zz1⟩
    ·rw [if_neg c3] at H
     exact absurd H (by simp)
   ·rw [if_neg c2] at H
    have c2b0 : decide (x3_1 < (a0.size : Int)) = false := decide_eq_false c2;clear c2;obtain rfl := Option.some.inj H;go_wp2
    go_ret
    exact ⟨zz0, zz1⟩
def impl_isHouse.f (k : Nat) (a0 : ByteArray) : Option (Bool) := if (a0.size : Int) ≥ 1 then (if (a0.size : Int) ≤ 5 then ((impl_allSmallLetters.f k a0).bind fun t338 => (some t338)) else (some false)) else (some false)
set_option maxHeartbeats 8000000 in
set_option maxRecDepth 100000 in
theorem impl_isHouse.calls (k : Nat) (a0 : ByteArray) (r : Bool) (w : World) (h : impl_isHouse.f k a0 = some r) :
  Calls Tryz.prog 58 #[.string a0] w fun e w' => e = .returned (.bool r) ∧ Drawn0 w w' := by
 have H : (if (a0.size : Int) ≥ 1 then (if (a0.size : Int) ≤ 5 then ((impl_allSmallLetters.f k a0).bind fun t338 => (some t338)) else (some false)) else (some false)) = some r := h;clear h;by_cases c2 : (a0.size : Int) ≥ 1
 ·rw [if_pos c2] at H
  have c2b0 : decide (1 ≤ (a0.size : Int)) = true := decide_eq_true c2;have c2b1 : decide (1 ≤ a0.size) = true := decide_eq_true (by omega);clear c2;by_cases c3 : (a0.size : Int) ≤ 5
  ·rw [if_pos c3] at H
   have c3b0 : decide ((a0.size : Int) ≤ 5) = true := decide_eq_true c3;have c3b1 : decide (a0.size ≤ 5) = true := decide_eq_true (by omega);clear c3;replace H := bindA H;obtain ⟨t338, A4, H⟩ := H;obtain rfl := Option.some.inj H;go_enter Tryz.func58, Tryz.ntmps58;go_wp2_with (first | (go_at_call 84; (with_reducible refine (impl_allSmallLetters.calls k a0 t338 _ A4.out).mono ?_); rintro e w' ⟨rfl, ⟨nd, rfl⟩⟩))
   go_ret
   exact ⟨zz0, zz1⟩
  ·rw [if_neg c3] at H
   have c3b0 : decide ((a0.size : Int) ≤ 5) = false := decide_eq_false c3;have c3b1 : decide (a0.size ≤ 5) = false := decide_eq_false (by omega);clear c3;obtain rfl := Option.some.inj H;go_enter Tryz.func58, Tryz.ntmps58;go_wp2
   go_ret
   exact ⟨zz0, zz1⟩
 ·rw [if_neg c2] at H
  have c2b0 : decide (1 ≤ (a0.size : Int)) = false := decide_eq_false c2;have c2b1 : decide (1 ≤ a0.size) = false := decide_eq_false (by omega);clear c2;obtain rfl := Option.some.inj H;go_enter Tryz.func58, Tryz.ntmps58;go_wp2
  go_ret
  exact ⟨zz0, zz1⟩
end Go.Proofs.YtgjfegfopjfdpaaGreatDoor.P
end
section
namespace Go.Proofs.YtgjfegfopjfdpaaGreatDoor.P
open Go.RowKit Go.Proofs.YtgjfegfopjfdpaaGreatDoorW.PrintWords Go.Proofs.YtgjfegfopjfdpaaGreatDoorW.PrintLast Go.Proofs.YtgjfegfopjfdpaaGreatDoorW.PrintMore
set_option linter.unusedVariables false
set_option linter.unusedSimpArgs false
def hexS : ByteArray := ⟨#[48, 49, 50, 51, 52, 53, 54, 55, 56, 57, 65, 66, 67, 68, 69, 70]⟩
def figAt (k : Nat) : Nat := if k < 10 then 48 + k else 55 + k
def figI (b : Int) : Int × Bool := if 48 ≤ b ∧ b ≤ 57 then (b - 48, true) else if 65 ≤ b ∧ b ≤ 70 then (b - 55, true) else (0, false)
def impl_figureValue.f (a0 : Int) : Option (Int × Bool) := if 0 ≤ a0 ∧ a0 < 256 then some (figI (if 97 ≤ a0 ∧ a0 ≤ 102 then a0 - 32 else a0)) else none
theorem hex_at : ∀ k : Nat, k < 16 → hexS.size = 16 ∧ ∃ h : k < hexS.size, (hexS[k]'h).toNat = figAt k := by decide +kernel
theorem fig_hit {k : Nat} {b : Int} (hk : k < 16) (h : (figAt k : Int) = b) : figI b = ((k : Int), true) := by
 unfold figAt at h; unfold figI
 split at h
 ·rw [if_pos (by omega)]; congr 1; omega
 ·rw [if_neg (by omega), if_pos (by omega)]; congr 1; omega
theorem fig_miss {b : Int} (h : ∀ j : Nat, j < 16 → (figAt j : Int) ≠ b) : figI b = (0, false) := by
 unfold figI
 split
 ·rename_i hh
  exact absurd (by unfold figAt; rw [if_pos (by omega)]; omega) (h (b - 48).toNat (by omega))
 ·split
  ·rename_i hh
   exact absurd (by unfold figAt; rw [if_neg (by omega)]; omega) (h (b - 55).toNat (by omega))
  ·rfl
set_option maxHeartbeats 1000000 in
set_option maxRecDepth 1000000 in
theorem impl_figureValue.calls (a0 : Int) (r0 : Int) (r1 : Bool) (w : World) (h : impl_figureValue.f a0 = some (r0, r1)) :
  Calls Tryz.prog 108 #[.int .u8 a0] w fun e w' => e = .returned (.tuple #[.int .i64 r0, .bool r1]) ∧ Below w.heap.size w w' := by
 unfold impl_figureValue.f at h
 split at h
 case isFalse => cases h
 rename_i hh
 have h := Option.some.inj h
 obtain ⟨b, hb⟩ : ∃ b, b = (if 97 ≤ a0 ∧ a0 ≤ 102 then a0 - 32 else a0) := ⟨_, rfl⟩
 rw [← hb] at h
 by_cases h1 : 97 ≤ a0
 ·by_cases h2 : a0 ≤ 102
  ·rw [if_pos ⟨h1, h2⟩] at hb
   go_enter Tryz.func108, Tryz.ntmps108
   go_wp2
   go_loopw [4] (fun n w' => ∃ k : Nat, k ≤ 16 ∧ w' = w.iter hexS k ∧ ∀ j : Nat, j < k → (figAt j : Int) ≠ (a0 - 32)) (fun _ w' => 16 - w'.iterPos w.heap.size)
   case atStart => exact ⟨0, by omega, rfl, fun j hj => absurd hj (by omega)⟩
   case round =>
    obtain ⟨k, hk, rfl, hne⟩ := hrel
    have hbel : ∀ p, Below w.heap.size w (w.iter hexS p) := fun p => (Below.refl _ _).alloc (Nat.le_refl _) _
    by_cases hlt : k < 16
    ·obtain ⟨hsz, hx, hf⟩ := hex_at k hlt
     have hnx : ∀ ty, (Instr.next (.pointer (some ⟨w.heap.size, 0, none⟩)) true ty).run Tryz.prog (w.iter hexS k) = .ok (.tuple #[.bool true, .int .i64 k, .int .i32 (figAt k : Nat)]) (w.iter hexS (k + 1)) := fun ty => by
      have hfl : figAt k < 128 := by unfold figAt; split <;> omega
      rw [← hf]
      exact run_next_ascii w hexS k ty hx (by rw [hf]; exact hfl)
     by_cases he : (figAt k : Int) = (a0 - 32)
     ·have hr := fig_hit hlt he
      rw [← hb, h, Prod.mk.injEq] at hr
      obtain ⟨rfl, rfl⟩ := hr
      go_wp2
      go_ret2
      exact ⟨rfl, hbel _⟩
     ·go_wp2
      refine ⟨⟨k + 1, by omega, rfl, fun j hj => ?_⟩, by simp; omega⟩
      by_cases e : j = k
      ·subst e; exact he
      ·exact hne j (by omega)
    ·obtain rfl : k = 16 := by omega
     have hr := fig_miss hne
     rw [← hb, h, Prod.mk.injEq] at hr
     obtain ⟨rfl, rfl⟩ := hr
     have hnx : ∀ ty, (Instr.next (.pointer (some ⟨w.heap.size, 0, none⟩)) true ty).run Tryz.prog (w.iter hexS 16) = _ := fun ty => run_next_end w hexS 16 ty (by decide)
     go_wp2
     go_ret2
     exact ⟨rfl, hbel _⟩
  ·rw [if_neg (fun e => h2 e.2)] at hb
   go_enter Tryz.func108, Tryz.ntmps108
   go_wp2
   go_loopw [4] (fun n w' => ∃ k : Nat, k ≤ 16 ∧ w' = w.iter hexS k ∧ ∀ j : Nat, j < k → (figAt j : Int) ≠ a0) (fun _ w' => 16 - w'.iterPos w.heap.size)
   case atStart => exact ⟨0, by omega, rfl, fun j hj => absurd hj (by omega)⟩
   case round =>
    obtain ⟨k, hk, rfl, hne⟩ := hrel
    have hbel : ∀ p, Below w.heap.size w (w.iter hexS p) := fun p => (Below.refl _ _).alloc (Nat.le_refl _) _
    by_cases hlt : k < 16
    ·obtain ⟨hsz, hx, hf⟩ := hex_at k hlt
     have hnx : ∀ ty, (Instr.next (.pointer (some ⟨w.heap.size, 0, none⟩)) true ty).run Tryz.prog (w.iter hexS k) = .ok (.tuple #[.bool true, .int .i64 k, .int .i32 (figAt k : Nat)]) (w.iter hexS (k + 1)) := fun ty => by
      have hfl : figAt k < 128 := by unfold figAt; split <;> omega
      rw [← hf]
      exact run_next_ascii w hexS k ty hx (by rw [hf]; exact hfl)
     by_cases he : (figAt k : Int) = a0
     ·have hr := fig_hit hlt he
      rw [← hb, h, Prod.mk.injEq] at hr
      obtain ⟨rfl, rfl⟩ := hr
      go_wp2
      go_ret2
      exact ⟨rfl, hbel _⟩
     ·go_wp2
      refine ⟨⟨k + 1, by omega, rfl, fun j hj => ?_⟩, by simp; omega⟩
      by_cases e : j = k
      ·subst e; exact he
      ·exact hne j (by omega)
    ·obtain rfl : k = 16 := by omega
     have hr := fig_miss hne
     rw [← hb, h, Prod.mk.injEq] at hr
     obtain ⟨rfl, rfl⟩ := hr
     have hnx : ∀ ty, (Instr.next (.pointer (some ⟨w.heap.size, 0, none⟩)) true ty).run Tryz.prog (w.iter hexS 16) = _ := fun ty => run_next_end w hexS 16 ty (by decide)
     go_wp2
     go_ret2
     exact ⟨rfl, hbel _⟩
 ·rw [if_neg (fun e => h1 e.1)] at hb
  go_enter Tryz.func108, Tryz.ntmps108
  go_wp2
  go_loopw [4] (fun n w' => ∃ k : Nat, k ≤ 16 ∧ w' = w.iter hexS k ∧ ∀ j : Nat, j < k → (figAt j : Int) ≠ a0) (fun _ w' => 16 - w'.iterPos w.heap.size)
  case atStart => exact ⟨0, by omega, rfl, fun j hj => absurd hj (by omega)⟩
  case round =>
   obtain ⟨k, hk, rfl, hne⟩ := hrel
   have hbel : ∀ p, Below w.heap.size w (w.iter hexS p) := fun p => (Below.refl _ _).alloc (Nat.le_refl _) _
   by_cases hlt : k < 16
   ·obtain ⟨hsz, hx, hf⟩ := hex_at k hlt
    have hnx : ∀ ty, (Instr.next (.pointer (some ⟨w.heap.size, 0, none⟩)) true ty).run Tryz.prog (w.iter hexS k) = .ok (.tuple #[.bool true, .int .i64 k, .int .i32 (figAt k : Nat)]) (w.iter hexS (k + 1)) := fun ty => by
     have hfl : figAt k < 128 := by unfold figAt; split <;> omega
     rw [← hf]
     exact run_next_ascii w hexS k ty hx (by rw [hf]; exact hfl)
    by_cases he : (figAt k : Int) = a0
    ·have hr := fig_hit hlt he
     rw [← hb, h, Prod.mk.injEq] at hr
     obtain ⟨rfl, rfl⟩ := hr
     go_wp2
     go_ret2
     exact ⟨rfl, hbel _⟩
    ·go_wp2
     refine ⟨⟨k + 1, by omega, rfl, fun j hj => ?_⟩, by simp; omega⟩
     by_cases e : j = k
     ·subst e; exact he
     ·exact hne j (by omega)
   ·obtain rfl : k = 16 := by omega
    have hr := fig_miss hne
    rw [← hb, h, Prod.mk.injEq] at hr
    obtain ⟨rfl, rfl⟩ := hr
    have hnx : ∀ ty, (Instr.next (.pointer (some ⟨w.heap.size, 0, none⟩)) true ty).run Tryz.prog (w.iter hexS 16) = _ := fun ty => run_next_end w hexS 16 ty (by decide)
    go_wp2
    go_ret2
    exact ⟨rfl, hbel _⟩
end Go.Proofs.YtgjfegfopjfdpaaGreatDoor.P
end
section
namespace Go.Proofs.YtgjfegfopjfdpaaGreatDoor.P
open Go.RowKit Go.Proofs.YtgjfegfopjfdpaaGreatDoorW.PrintWords Go.Proofs.YtgjfegfopjfdpaaGreatDoorW.PrintLast Go.Proofs.YtgjfegfopjfdpaaGreatDoorW.PrintMore
attribute [local go_sem] max2_int min2_int max_two min_two max_three min_three max_four min_four
set_option linter.unusedVariables false
set_option linter.unusedSimpArgs false
def impl_signByte.f (a0 : ByteArray) (a1 : Int) : Option (Int × Bool) := if (wrap64 ((a0.size : Int) - a1)) < 3 then (some (0, false)) else (if 0 ≤ (wrap64 (a1 + 1)) then (if (wrap64 (a1 + 1)) < (a0.size : Int) then ((impl_figureValue.f (bt a0 (wrap64 (a1 + 1)))).bind fun bt339 => (if 0 ≤ (wrap64 (a1 + 2)) then (if (wrap64 (a1 + 2)) < (a0.size : Int) then ((impl_figureValue.f (bt a0 (wrap64 (a1 + 2)))).bind fun bt341 => (if bt339.2 = true then (if bt341.2 = true then (some ((wrap64 ((wrap64 (bt339.1 * 16)) + bt341.1)) % 256, true)) else (some (0, false))) else (some (0, false)))) else (none)) else (none))) else (none)) else (none))
set_option maxHeartbeats 8000000 in
set_option maxRecDepth 100000 in
theorem impl_signByte.calls (a0 : ByteArray) (a1 : Int) (r1 : Int) (r2 : Bool) (w : World) (h : impl_signByte.f a0 a1 = some (r1, r2)) :
  Calls Tryz.prog 96 #[.string a0, .int .i64 a1] w fun e w' => e = .returned (.tuple #[.int .u8 r1, .bool r2]) ∧ Below w.heap.size w w' := by
 have HB := Aside0.mk (Below.refl w.heap.size w);have H : (if (wrap64 ((a0.size : Int) - a1)) < 3 then (some (0, false)) else (if 0 ≤ (wrap64 (a1 + 1)) then (if (wrap64 (a1 + 1)) < (a0.size : Int) then ((impl_figureValue.f (bt a0 (wrap64 (a1 + 1)))).bind fun bt339 => (if 0 ≤ (wrap64 (a1 + 2)) then (if (wrap64 (a1 + 2)) < (a0.size : Int) then ((impl_figureValue.f (bt a0 (wrap64 (a1 + 2)))).bind fun bt341 => (if bt339.2 = true then (if bt341.2 = true then (some ((wrap64 ((wrap64 (bt339.1 * 16)) + bt341.1)) % 256, true)) else (some (0, false))) else (some (0, false)))) else (none)) else (none))) else (none)) else (none))) = some (r1, r2) := h;clear h;by_cases c3 : (wrap64 ((a0.size : Int) - a1)) < 3
 ·rw [if_pos c3] at H
  have c3b0 : decide ((wrap64 ((a0.size : Int) - a1)) < 3) = true := decide_eq_true c3;clear c3;simp only [Option.some.injEq, Prod.mk.injEq] at H
  obtain ⟨rfl, rfl⟩ := H;go_enter Tryz.func96, Tryz.ntmps96;go_wp2
  go_ret2
  exact ⟨zz5, (zz4 HB)⟩
 ·rw [if_neg c3] at H
  have c3b0 : decide ((wrap64 ((a0.size : Int) - a1)) < 3) = false := decide_eq_false c3;clear c3;obtain ⟨ji4, hji4⟩ : ∃ j_ : Int, (wrap64 (a1 + 1)) = j_ := ⟨_, rfl⟩;replace H : (if 0 ≤ (ji4) then (if (ji4) < (a0.size : Int) then ((impl_figureValue.f (bt a0 (ji4))).bind fun bt339 => (if 0 ≤ (wrap64 (a1 + 2)) then (if (wrap64 (a1 + 2)) < (a0.size : Int) then ((impl_figureValue.f (bt a0 (wrap64 (a1 + 2)))).bind fun bt341 => (if bt339.2 = true then (if bt341.2 = true then (some ((wrap64 ((wrap64 (bt339.1 * 16)) + bt341.1)) % 256, true)) else (some (0, false))) else (some (0, false)))) else (none)) else (none))) else (none)) else (none)) = some (r1, r2) := by first | (rw [hji4] at H; exact H) | (simp only [hji4] at H ⊢; exact H)
  have hji4w : (IntKind.i64.wrap (a1 + 1)) = ji4 := (i64_w _).trans hji4;by_cases c5 : 0 ≤ (ji4)
  ·rw [if_pos c5] at H
   have c5b0 : decide (0 ≤ (ji4)) = true := decide_eq_true c5;clear c5;by_cases c6 : (ji4) < (a0.size : Int)
   ·rw [if_pos c6] at H
    have c6b0 : decide ((ji4) < (a0.size : Int)) = true := decide_eq_true c6;clear c6;replace H := bindA H;obtain ⟨⟨t339, t340⟩, A8, H⟩ := H;try dsimp -simprocs only at H
    obtain ⟨ji9, hji9⟩ : ∃ j_ : Int, (wrap64 (a1 + 2)) = j_ := ⟨_, rfl⟩;replace H : (if 0 ≤ (ji9) then (if (ji9) < (a0.size : Int) then ((impl_figureValue.f (bt a0 (ji9))).bind fun bt341 => (if t340 = true then (if bt341.2 = true then (some ((wrap64 ((wrap64 (t339 * 16)) + bt341.1)) % 256, true)) else (some (0, false))) else (some (0, false)))) else (none)) else (none)) = some (r1, r2) := by first | (rw [hji9] at H; exact H) | (simp only [hji9] at H ⊢; exact H)
    (try rw [hji9] at A8)
    have hji9w : (IntKind.i64.wrap (a1 + 2)) = ji9 := (i64_w _).trans hji9;by_cases c10 : 0 ≤ (ji9)
    ·rw [if_pos c10] at H
     have c10b0 : decide (0 ≤ (ji9)) = true := decide_eq_true c10;clear c10;by_cases c11 : (ji9) < (a0.size : Int)
     ·rw [if_pos c11] at H
      have c11b0 : decide ((ji9) < (a0.size : Int)) = true := decide_eq_true c11;clear c11;replace H := bindA H;obtain ⟨⟨t341, t342⟩, A13, H⟩ := H;try dsimp -simprocs only at H
      by_cases c14 : t340 = true
      ·subst c14
       rw [if_pos rfl] at H;by_cases c15 : t342 = true
       ·subst c15
        rw [if_pos rfl] at H;simp only [Option.some.injEq, Prod.mk.injEq] at H
        obtain ⟨rfl, rfl⟩ := H;have p7 : 0 ≤ ((ji4) : Int) := ofD;have q7 : (ji4) < (a0.size : Int) := ofD;have hx7 := bt_at a0 (ji4);replace p7 := eq_true p7;replace q7 := eq_true q7;go_enter Tryz.func96, Tryz.ntmps96;go_wp2_with (first | ((with_reducible refine gate_callee (f := 108) rfl ?_); refine goesL_ (some 20) rfl rfl Tryz.func108 (by kernel_rfl) rfl #[.int .u8 (bt a0 (ji4))] rfl zz92 ?_; (with_reducible refine (impl_figureValue.calls (bt a0 (ji4)) t339 true _ A8.out).mono ?_); rintro e w16 ⟨rfl, hb⟩; refine ⟨_, rfl, ?_⟩; have n0_ := Aside0.mk (below_step (zz4 HB) hb); clear HB; have HB := n0_; clear n0_; (try clear hb); have p12 : 0 ≤ ((ji9) : Int) := ofD; have q12 : (ji9) < (a0.size : Int) := ofD; have hx12 := bt_at a0 (ji9); replace p12 := eq_true p12; replace q12 := eq_true q12) | ((with_reducible refine gate_callee (f := 108) rfl ?_); refine goesL_ (some 28) rfl rfl Tryz.func108 (by kernel_rfl) rfl #[.int .u8 (bt a0 (ji9))] rfl zz93 ?_; (with_reducible refine (impl_figureValue.calls (bt a0 (ji9)) t341 true _ A13.out).mono ?_); rintro e w17 ⟨rfl, hb⟩; refine ⟨_, rfl, ?_⟩; have n0_ := Aside0.mk (below_step (zz4 HB) hb); clear HB; have HB := n0_; clear n0_; (try clear hb)))
        go_ret2
        exact ⟨zz94, (zz4 HB)⟩
       ·replace c15 := Bool.eq_false_iff.mpr c15
        subst c15;rw [if_neg (show ¬ (false = true) by decide)] at H;simp only [Option.some.injEq, Prod.mk.injEq] at H
        obtain ⟨rfl, rfl⟩ := H;have p7 : 0 ≤ ((ji4) : Int) := ofD;have q7 : (ji4) < (a0.size : Int) := ofD;have hx7 := bt_at a0 (ji4);replace p7 := eq_true p7;replace q7 := eq_true q7;go_enter Tryz.func96, Tryz.ntmps96;go_wp2_with (first | ((with_reducible refine gate_callee (f := 108) rfl ?_); refine goesL_ (some 20) rfl rfl Tryz.func108 (by kernel_rfl) rfl #[.int .u8 (bt a0 (ji4))] rfl zz92 ?_; (with_reducible refine (impl_figureValue.calls (bt a0 (ji4)) t339 true _ A8.out).mono ?_); rintro e w18 ⟨rfl, hb⟩; refine ⟨_, rfl, ?_⟩; have n0_ := Aside0.mk (below_step (zz4 HB) hb); clear HB; have HB := n0_; clear n0_; (try clear hb); have p12 : 0 ≤ ((ji9) : Int) := ofD; have q12 : (ji9) < (a0.size : Int) := ofD; have hx12 := bt_at a0 (ji9); replace p12 := eq_true p12; replace q12 := eq_true q12) | ((with_reducible refine gate_callee (f := 108) rfl ?_); refine goesL_ (some 28) rfl rfl Tryz.func108 (by kernel_rfl) rfl #[.int .u8 (bt a0 (ji9))] rfl zz93 ?_; (with_reducible refine (impl_figureValue.calls (bt a0 (ji9)) t341 false _ A13.out).mono ?_); rintro e w19 ⟨rfl, hb⟩; refine ⟨_, rfl, ?_⟩; have n0_ := Aside0.mk (below_step (zz4 HB) hb); clear HB; have HB := n0_; clear n0_; (try clear hb)))
        go_ret2
        exact ⟨zz94, (zz4 HB)⟩
      ·replace c14 := Bool.eq_false_iff.mpr c14
       subst c14;rw [if_neg (show ¬ (false = true) by decide)] at H;simp only [Option.some.injEq, Prod.mk.injEq] at H
       obtain ⟨rfl, rfl⟩ := H;have p7 : 0 ≤ ((ji4) : Int) := ofD;have q7 : (ji4) < (a0.size : Int) := ofD;have hx7 := bt_at a0 (ji4);replace p7 := eq_true p7;replace q7 := eq_true q7;go_enter Tryz.func96, Tryz.ntmps96;go_wp2_with (first | ((with_reducible refine gate_callee (f := 108) rfl ?_); refine goesL_ (some 20) rfl rfl Tryz.func108 (by kernel_rfl) rfl #[.int .u8 (bt a0 (ji4))] rfl zz92 ?_; (with_reducible refine (impl_figureValue.calls (bt a0 (ji4)) t339 false _ A8.out).mono ?_); rintro e w20 ⟨rfl, hb⟩; refine ⟨_, rfl, ?_⟩; have n0_ := Aside0.mk (below_step (zz4 HB) hb); clear HB; have HB := n0_; clear n0_; (try clear hb); have p12 : 0 ≤ ((ji9) : Int) := ofD; have q12 : (ji9) < (a0.size : Int) := ofD; have hx12 := bt_at a0 (ji9); replace p12 := eq_true p12; replace q12 := eq_true q12) | ((with_reducible refine gate_callee (f := 108) rfl ?_); refine goesL_ (some 28) rfl rfl Tryz.func108 (by kernel_rfl) rfl #[.int .u8 (bt a0 (ji9))] rfl zz93 ?_; (with_reducible refine (impl_figureValue.calls (bt a0 (ji9)) t341 t342 _ A13.out).mono ?_); rintro e w21 ⟨rfl, hb⟩; refine ⟨_, rfl, ?_⟩; have n0_ := Aside0.mk (below_step (zz4 HB) hb); clear HB; have HB := n0_; clear n0_; (try clear hb)))
       go_ret2
       exact ⟨zz94, (zz4 HB)⟩
     ·rw [if_neg c11] at H
      exact absurd H (by simp)
    ·rw [if_neg c10] at H
     exact absurd H (by simp)
   ·rw [if_neg c6] at H
    exact absurd H (by simp)
  ·rw [if_neg c5] at H
   exact absurd H (by simp)
def impl_standsForItself.f (a0 : Int) : Option (Bool) := if a0 ≥ 97 then (if a0 ≤ 122 then (some true) else (if a0 ≥ 48 then (if a0 ≤ 57 then (some true) else (if a0 = 46 then (some true) else (some (a0 == 45)))) else (if a0 = 46 then (some true) else (some (a0 == 45))))) else (if a0 ≥ 48 then (if a0 ≤ 57 then (some true) else (if a0 = 46 then (some true) else (some (a0 == 45)))) else (if a0 = 46 then (some true) else (some (a0 == 45))))
set_option maxHeartbeats 8000000 in
set_option maxRecDepth 100000 in
theorem impl_standsForItself.calls (a0 : Int) (r : Bool) (w : World) (h : impl_standsForItself.f a0 = some r) :
  Calls Tryz.prog 97 #[.int .u8 a0] w fun e w' => e = .returned (.bool r) ∧ Drawn0 w w' := by
 have H : (if a0 ≥ 97 then (if a0 ≤ 122 then (some true) else (if a0 ≥ 48 then (if a0 ≤ 57 then (some true) else (if a0 = 46 then (some true) else (some (a0 == 45)))) else (if a0 = 46 then (some true) else (some (a0 == 45))))) else (if a0 ≥ 48 then (if a0 ≤ 57 then (some true) else (if a0 = 46 then (some true) else (some (a0 == 45)))) else (if a0 = 46 then (some true) else (some (a0 == 45))))) = some r := h;clear h;by_cases c2 : a0 ≥ 97
 ·rw [if_pos c2] at H
  have c2b0 : decide (97 ≤ a0) = true := decide_eq_true c2;clear c2;by_cases c3 : a0 ≤ 122
  ·rw [if_pos c3] at H
   have c3b0 : decide (a0 ≤ 122) = true := decide_eq_true c3;clear c3;obtain rfl := Option.some.inj H;go_enter Tryz.func97, Tryz.ntmps97;go_wp2
   go_ret
   exact ⟨zz0, zz1⟩
  ·rw [if_neg c3] at H
   have c3b0 : decide (a0 ≤ 122) = false := decide_eq_false c3;clear c3;by_cases c4 : a0 ≥ 48
   ·rw [if_pos c4] at H
    have c4b0 : decide (48 ≤ a0) = true := decide_eq_true c4;clear c4;by_cases c5 : a0 ≤ 57
    ·rw [if_pos c5] at H
     have c5b0 : decide (a0 ≤ 57) = true := decide_eq_true c5;clear c5;obtain rfl := Option.some.inj H;go_enter Tryz.func97, Tryz.ntmps97;go_wp2
     go_ret
     exact ⟨zz0, zz1⟩
    ·rw [if_neg c5] at H
     have c5b0 : decide (a0 ≤ 57) = false := decide_eq_false c5;clear c5;by_cases c6 : a0 = 46
     ·rw [if_pos c6] at H
      have c6b0 : (a0 == 46) = true := beq_iff_eq.mpr c6;have c6b1 : (a0 != 46) = false := bne_eq_false_iff_eq.mpr c6;clear c6;obtain rfl := Option.some.inj H;go_enter Tryz.func97, Tryz.ntmps97;go_wp2
      go_ret
      exact ⟨zz0, zz1⟩
     ·rw [if_neg c6] at H
      have c6b0 : (a0 == 46) = false := beq_eq_false_iff_ne.mpr c6;have c6b1 : (a0 != 46) = true := bne_iff_ne.mpr c6;obtain rfl := Option.some.inj H;go_enter Tryz.func97, Tryz.ntmps97;go_wp2
      go_ret
      exact ⟨zz0, zz1⟩
   ·rw [if_neg c4] at H
    have c4b0 : decide (48 ≤ a0) = false := decide_eq_false c4;clear c4;by_cases c7 : a0 = 46
    ·rw [if_pos c7] at H
     have c7b0 : (a0 == 46) = true := beq_iff_eq.mpr c7;have c7b1 : (a0 != 46) = false := bne_eq_false_iff_eq.mpr c7;clear c7;obtain rfl := Option.some.inj H;go_enter Tryz.func97, Tryz.ntmps97;go_wp2
     go_ret
     exact ⟨zz0, zz1⟩
    ·rw [if_neg c7] at H
     have c7b0 : (a0 == 46) = false := beq_eq_false_iff_ne.mpr c7;have c7b1 : (a0 != 46) = true := bne_iff_ne.mpr c7;obtain rfl := Option.some.inj H;go_enter Tryz.func97, Tryz.ntmps97;go_wp2
     go_ret
     exact ⟨zz0, zz1⟩
 ·rw [if_neg c2] at H
  have c2b0 : decide (97 ≤ a0) = false := decide_eq_false c2;clear c2;by_cases c8 : a0 ≥ 48
  ·rw [if_pos c8] at H
   have c8b0 : decide (48 ≤ a0) = true := decide_eq_true c8;clear c8;by_cases c9 : a0 ≤ 57
   ·rw [if_pos c9] at H
    have c9b0 : decide (a0 ≤ 57) = true := decide_eq_true c9;clear c9;obtain rfl := Option.some.inj H;go_enter Tryz.func97, Tryz.ntmps97;go_wp2
    go_ret
    exact ⟨zz0, zz1⟩
   ·rw [if_neg c9] at H
    have c9b0 : decide (a0 ≤ 57) = false := decide_eq_false c9;clear c9;by_cases c10 : a0 = 46
    ·rw [if_pos c10] at H
     have c10b0 : (a0 == 46) = true := beq_iff_eq.mpr c10;have c10b1 : (a0 != 46) = false := bne_eq_false_iff_eq.mpr c10;clear c10;obtain rfl := Option.some.inj H;go_enter Tryz.func97, Tryz.ntmps97;go_wp2
     go_ret
     exact ⟨zz0, zz1⟩
    ·rw [if_neg c10] at H
     have c10b0 : (a0 == 46) = false := beq_eq_false_iff_ne.mpr c10;have c10b1 : (a0 != 46) = true := bne_iff_ne.mpr c10;obtain rfl := Option.some.inj H;go_enter Tryz.func97, Tryz.ntmps97;go_wp2
     go_ret
     exact ⟨zz0, zz1⟩
  ·rw [if_neg c8] at H
   have c8b0 : decide (48 ≤ a0) = false := decide_eq_false c8;clear c8;by_cases c11 : a0 = 46
   ·rw [if_pos c11] at H
    have c11b0 : (a0 == 46) = true := beq_iff_eq.mpr c11;have c11b1 : (a0 != 46) = false := bne_eq_false_iff_eq.mpr c11;clear c11;obtain rfl := Option.some.inj H;go_enter Tryz.func97, Tryz.ntmps97;go_wp2
    go_ret
    exact ⟨zz0, zz1⟩
   ·rw [if_neg c11] at H
    have c11b0 : (a0 == 46) = false := beq_eq_false_iff_ne.mpr c11;have c11b1 : (a0 != 46) = true := bne_iff_ne.mpr c11;obtain rfl := Option.some.inj H;go_enter Tryz.func97, Tryz.ntmps97;go_wp2
    go_ret
    exact ⟨zz0, zz1⟩
def impl_EscNorm.l0 : Nat → ByteArray → List Int → Int → Option (ByteArray × Bool)
 | 0, _, _, _ => none
 | k + 1, x0, x4, x5 => if x5 < (x0.size : Int) then (if 0 ≤ x5 then (if (bt x0 x5) = 37 then ((impl_signByte.f x0 x5).bind fun bt343 => (if bt343.2 = true then ((impl_standsForItself.f bt343.1).bind fun t345 => (if t345 = true then (if x4.length < 140737488355328 then (impl_EscNorm.l0 k x0 (x4 ++ [bt343.1]) (wrap64 ((wrap64 (x5 + 2)) + 1))) else (none)) else (if 0 ≤ (bt343.1 / 16) then (if (bt343.1 / 16) < 16 then (if 0 ≤ (Go.bits .and .u8 bt343.1 15) then (if (Go.bits .and .u8 bt343.1 15) < 16 then ((some (([37, bt (⟨#[48, 49, 50, 51, 52, 53, 54, 55, 56, 57, 65, 66, 67, 68, 69, 70]⟩ : ByteArray) (bt343.1 / 16), bt (⟨#[48, 49, 50, 51, 52, 53, 54, 55, 56, 57, 65, 66, 67, 68, 69, 70]⟩ : ByteArray) (Go.bits .and .u8 bt343.1 15)] : List Int) : List Int)).bind fun y349 => (if x4.length + y349.length < 140737488355328 then (impl_EscNorm.l0 k x0 (x4 ++ y349) (wrap64 ((wrap64 (x5 + 2)) + 1))) else (none))) else (none)) else (none)) else (none)) else (none)))) else (some ((⟨#[]⟩ : ByteArray), false)))) else ((impl_standsForItself.f (bt x0 x5)).bind fun t355 => (if t355 = true then (if x4.length < 140737488355328 then (impl_EscNorm.l0 k x0 (x4 ++ [bt x0 x5]) (wrap64 (x5 + 1))) else (none)) else (if 0 ≤ ((bt x0 x5) / 16) then (if ((bt x0 x5) / 16) < 16 then (if 0 ≤ (Go.bits .and .u8 (bt x0 x5) 15) then (if (Go.bits .and .u8 (bt x0 x5) 15) < 16 then ((some (([37, bt (⟨#[48, 49, 50, 51, 52, 53, 54, 55, 56, 57, 65, 66, 67, 68, 69, 70]⟩ : ByteArray) ((bt x0 x5) / 16), bt (⟨#[48, 49, 50, 51, 52, 53, 54, 55, 56, 57, 65, 66, 67, 68, 69, 70]⟩ : ByteArray) (Go.bits .and .u8 (bt x0 x5) 15)] : List Int) : List Int)).bind fun y359 => (if x4.length + y359.length < 140737488355328 then (impl_EscNorm.l0 k x0 (x4 ++ y359) (wrap64 (x5 + 1))) else (none))) else (none)) else (none)) else (none)) else (none))))) else (none)) else (some (strOfNums x4, true))
def impl_EscNorm.f (k : Nat) (a0 : ByteArray) : Option (ByteArray × Bool) := if (a0.size : Int) > 60 then (some ((⟨#[]⟩ : ByteArray), false)) else (impl_EscNorm.l0 k a0 ([] : List Int) 0)
theorem impl_EscNorm.mono_l : ∀ k, (∀ y0 y1 y2, LeO (impl_EscNorm.l0 k y0 y1 y2) (impl_EscNorm.l0 (k + 1) y0 y1 y2))
 | 0 => fun _ _ _ r h => by simp [impl_EscNorm.l0] at h
 | k + 1 => by
  have ih0 := impl_EscNorm.mono_l k
  ·intro y0 y1 y2
   unfold impl_EscNorm.l0
   repeat' first | (with_reducible first | exact ih0 _ _ _ | exact LeO.refl _ | exact LeO.none _ | refine LeO.ite ?_ ?_ | refine LeO.bind ?_ (fun _ => ?_)) | exact LeO.none _ | refine LeO.ite ?_ ?_ | refine LeO.bind ?_ (fun _ => ?_)
def impl_EscNorm.T16 : Bool × List (List Nat × List Nat) := (true, [([], []), ([], []), ([1], [1]), ([2], [2]), ([], []), ([4], [4]), ([5], [5]), ([3, 6], [3, 6]), ([0, 7], [0, 7]), ([8, 8, 0, 1, 2, 3, 4, 5, 6, 7, 8], [0, 8])])
def impl_EscNorm.B16 : List Nat := [0, 0, 2, 6, 0, 16, 48, 126, 255, 511]
theorem impl_EscNorm.tab16 : rtab .any (opsOf Tryz.f78 16) = impl_EscNorm.T16 := by kernel_rfl
theorem impl_EscNorm.bits16 : waitsOk impl_EscNorm.T16.2 impl_EscNorm.B16 = true := by kernel_rfl
set_option maxHeartbeats 8000000 in
set_option maxRecDepth 100000 in
theorem impl_EscNorm.calls (k : Nat) (a0 : ByteArray) (r1 : ByteArray) (r2 : Bool) (w : World) (h : impl_EscNorm.f k a0 = some (r1, r2)) :
  Calls Tryz.prog 78 #[.string a0] w fun e w' => e = .returned (.tuple #[.string r1, .bool r2]) ∧ Below w.heap.size w w' := by
 have HB := Aside0.mk (Below.refl w.heap.size w);have H : (if (a0.size : Int) > 60 then (some ((⟨#[]⟩ : ByteArray), false)) else (impl_EscNorm.l0 k a0 ([] : List Int) 0)) = some (r1, r2) := h;clear h;by_cases c2 : (a0.size : Int) > 60
 ·rw [if_pos c2] at H
  have c2b0 : decide (60 < (a0.size : Int)) = true := decide_eq_true c2;have c2b1 : decide (60 < a0.size) = true := decide_eq_true (by omega);clear c2;simp only [Option.some.injEq, Prod.mk.injEq] at H
  obtain ⟨rfl, rfl⟩ := H;go_enter Tryz.func78, Tryz.ntmps78;go_wp2
  go_ret2
  exact ⟨zz5, (zz4 HB)⟩
 ·rw [if_neg c2] at H
  have c2b0 : decide (60 < (a0.size : Int)) = false := decide_eq_false c2;have c2b1 : decide (60 < a0.size) = false := decide_eq_false (by omega);clear c2;have H' := Aside0.mk H;clear H;go_enter Tryz.func78, Tryz.ntmps78;go_wp2
  go_loopg [4, 5] k (fun kq v4 v5 w' => ∃ (x4_1 : List Int) (x5_1 : Int), v5 = .int .i64 x5_1 ∧ Aside0 (impl_EscNorm.l0 kq a0 x4_1 x5_1 = some (r1, r2)) ∧ Aside0 (kq ≤ k) ∧ Aside0 (Kd.R (Kd.int .u8) 5 w' w.heap.size (fun _ => True) v4 x4_1) ∧ Aside0 (Below w.heap.size w w'))
  case atStart => exact ⟨(([] : List Int)), (0), zz0, H', ⟨Nat.le_refl _⟩, ⟨zz43⟩, ⟨(zz4 HB)⟩⟩
  case round =>
   clear H';obtain ⟨x4_1, x5_1, rfl, HA, HK1, HO_4, HB⟩ := hrel;cases gk with
   | zero => exact absurd HA.out (by simp [impl_EscNorm.l0])
   | succ k1 =>
    have H := HA.out;clear HA;simp only [impl_EscNorm.l0] at H
    by_cases c3 : x5_1 < (a0.size : Int)
    ·rw [if_pos c3] at H
     have c3b0 : decide (x5_1 < (a0.size : Int)) = true := decide_eq_true c3;clear c3;by_cases c4 : 0 ≤ x5_1
     ·rw [if_pos c4] at H
      have c4b0 : decide (0 ≤ x5_1) = true := decide_eq_true c4;clear c4;by_cases c6 : (bt a0 x5_1) = 37
      ·rw [if_pos c6] at H
       have c6b0 : ((bt a0 x5_1) == 37) = true := beq_iff_eq.mpr c6;have c6b1 : ((bt a0 x5_1) != 37) = false := bne_eq_false_iff_eq.mpr c6;clear c6;replace H := bindA H;obtain ⟨⟨t343, t344⟩, A7, H⟩ := H;try dsimp -simprocs only at H
       by_cases c8 : t344 = true
       ·subst c8
        rw [if_pos rfl] at H;replace H := bindA H;obtain ⟨t345, A9, H⟩ := H;by_cases c10 : t345 = true
        ·subst c10
         rw [if_pos rfl] at H;by_cases c11 : x4_1.length < 140737488355328
         ·rw [if_pos c11] at H
          have LMc11 := Aside0.mk c11;clear c11;obtain ⟨y346, Ny346⟩ := toY (x4_1 ++ [t343]);(first | with_reducible replace H := bindZ Ny346 H | rw [← Ny346.out] at H | skip)
          have H' := Aside0.mk H;clear H;have p5 : 0 ≤ (x5_1 : Int) := ofD;have q5 : x5_1 < (a0.size : Int) := ofD;have hx5 := bt_at a0 x5_1;replace p5 := eq_true p5;replace q5 := eq_true q5;go_wp2_with (first | ((with_reducible refine gate_callee (f := 96) rfl ?_); refine gsL (some 26) Tryz.func96 #[.string a0, .int .i64 x5_1] ?_; (with_reducible refine (impl_signByte.calls a0 x5_1 t343 true _ A7.out).mono ?_); rintro e w12 ⟨rfl, hb⟩; refine ⟨_, rfl, ?_⟩; have n0_ := Aside0.mk (Kd.R_below (zz9 HO_4) hb); have n1_ := Aside0.mk (below_step (zz4 HB) hb); clear HO_4; clear HB; have HO_4 := n0_; have HB := n1_; clear n0_ n1_; (try clear hb)) | ((with_reducible refine gate_callee (f := 97) rfl ?_); refine gsL (some 35) Tryz.func97 #[.int .u8 t343] ?_; (with_reducible refine (impl_standsForItself.calls t343 true _ A9.out).mono ?_); rintro e w' ⟨rfl, ⟨nd, rfl⟩⟩; refine ⟨_, rfl, ?_⟩) | ((with_reducible refine gate_builtin (b := .append) (xs := #[.tmp 36, .tmp 38]) rfl ?_); at_builtin; refine Kd.R_append (Kd.int .u8) (w0 := w) w.heap.size rfl (.tmp 36) (.tmp 38) 34 5 (.int .u8 0) 1 rfl Tryz.underlying34 info5 rfl (by decide) (by omega) u4 x4_1 t343 [.int .u8 t343] (fun _ => True) (fun _ => False) rfl rfl ?aP (fun _ hk => hk.elim) ?aF ?aO ?aB ?aS ?aL ?_; (case aP => exact rfl); (case aB => exact (zz4 HB)); (case aF => exact (fun _ _ => trivial)); (case aO => exact (zz9 HO_4)); (case aS => exact (below_size (zz4 HB))); (case aL => exact (zz3 LMc11)); intro v347 w13 ho hb hg hat; rw [← Ny346.out] at ho; have n0_ := Aside0.mk (hb); have n1_ := Aside0.mk (ho); clear HB; clear HO_4; have HB := n0_; have HO348 := n1_; clear n0_ n1_; clear ho hb hg hat))
          go_roundg k1
          case measure => have := HK1.out; omega
          case rel => exact ⟨(y346), (wrap64 ((wrap64 (x5_1 + 2)) + 1)), zz0, H', ⟨(zz3 HK1)⟩, ⟨(zz9 HO348)⟩, ⟨(zz4 HB)⟩⟩
         ·rw [if_neg c11] at H
          exact absurd H (by simp)
        ·replace c10 := Bool.eq_false_iff.mpr c10
         subst c10;rw [if_neg (show ¬ (false = true) by decide)] at H;obtain ⟨ji14, hji14⟩ : ∃ j_ : Int, (t343 / 16) = j_ := ⟨_, rfl⟩;replace H : (if 0 ≤ (ji14) then (if (ji14) < 16 then (if 0 ≤ (Go.bits .and .u8 t343 15) then (if (Go.bits .and .u8 t343 15) < 16 then ((some (([37, bt (⟨#[48, 49, 50, 51, 52, 53, 54, 55, 56, 57, 65, 66, 67, 68, 69, 70]⟩ : ByteArray) (ji14), bt (⟨#[48, 49, 50, 51, 52, 53, 54, 55, 56, 57, 65, 66, 67, 68, 69, 70]⟩ : ByteArray) (Go.bits .and .u8 t343 15)] : List Int) : List Int)).bind fun y349 => (if x4_1.length + y349.length < 140737488355328 then (impl_EscNorm.l0 k1 a0 (x4_1 ++ y349) (wrap64 ((wrap64 (x5_1 + 2)) + 1))) else (none))) else (none)) else (none)) else (none)) else (none)) = some (r1, r2) := by first | (rw [hji14] at H; exact H) | (simp only [hji14] at H ⊢; exact H)
         (try rw [hji14] at A7)
         (try rw [hji14] at A9)
         by_cases c15 : 0 ≤ (ji14)
         ·rw [if_pos c15] at H
          have c15b0 : decide (0 ≤ (ji14)) = true := decide_eq_true c15;clear c15;by_cases c16 : (ji14) < 16
          ·rw [if_pos c16] at H
           have c16b0 : decide ((ji14) < 16) = true := decide_eq_true c16;clear c16;by_cases c18 : 0 ≤ (Go.bits .and .u8 t343 15)
           ·rw [if_pos c18] at H
            have c18b0 : decide (0 ≤ (Go.bits .and .u8 t343 15)) = true := decide_eq_true c18;clear c18;by_cases c19 : (Go.bits .and .u8 t343 15) < 16
            ·rw [if_pos c19] at H
             have c19b0 : decide ((Go.bits .and .u8 t343 15) < 16) = true := decide_eq_true c19;clear c19;obtain ⟨y349, Ny349⟩ := toY (([37, bt (⟨#[48, 49, 50, 51, 52, 53, 54, 55, 56, 57, 65, 66, 67, 68, 69, 70]⟩ : ByteArray) (ji14), bt (⟨#[48, 49, 50, 51, 52, 53, 54, 55, 56, 57, 65, 66, 67, 68, 69, 70]⟩ : ByteArray) (Go.bits .and .u8 t343 15)] : List Int));(first | with_reducible replace H := bindZ Ny349 H | rw [← Ny349.out] at H | skip)
             by_cases c21 : x4_1.length + y349.length < 140737488355328
             ·rw [if_pos c21] at H
              have LMc21 := Aside0.mk c21;clear c21;obtain ⟨y352, Ny352⟩ := toY (x4_1 ++ y349);(first | with_reducible replace H := bindZ Ny352 H | rw [← Ny352.out] at H | skip)
              have H' := Aside0.mk H;clear H;have p5 : 0 ≤ (x5_1 : Int) := ofD;have q5 : x5_1 < (a0.size : Int) := ofD;have hx5 := bt_at a0 x5_1;replace p5 := eq_true p5;replace q5 := eq_true q5;try go_wp2_with (first | ((with_reducible refine gate_callee (f := 96) rfl ?_); refine gsL (some 26) Tryz.func96 #[.string a0, .int .i64 x5_1] ?_; (with_reducible refine (impl_signByte.calls a0 x5_1 t343 true _ A7.out).mono ?_); rintro e w22 ⟨rfl, hb⟩; refine ⟨_, rfl, ?_⟩; have n0_ := Aside0.mk (Kd.R_below (zz9 HO_4) hb); have n1_ := Aside0.mk (below_step (zz4 HB) hb); clear HO_4; clear HB; have HO_4 := n0_; have HB := n1_; clear n0_ n1_; (try clear hb)) | ((with_reducible refine gate_callee (f := 97) rfl ?_); refine gsL (some 35) Tryz.func97 #[.int .u8 t343] ?_; (with_reducible refine (impl_standsForItself.calls t343 false _ A9.out).mono ?_); rintro e w' ⟨rfl, ⟨nd, rfl⟩⟩; refine ⟨_, rfl, ?_⟩))
              (try (rw [drewN_self w22]; generalize hq_ : World.drewN w22 _ = w22; have n0_ : Aside0 (Kd.R (Kd.int .u8) 5 w22 w.heap.size (fun _ => True) u4 x4_1) := ⟨(by rw [← hq_]; exact (zz9 HO_4))⟩; have n1_ : Aside0 (Below w.heap.size w w22) := ⟨(by rw [← hq_]; exact (zz4 HB))⟩; clear HO_4 HB hq_; have HO_4 := n0_; have HB := n1_; clear n0_ n1_))
              have n0_ := Aside0.mk (Kd.R_drew HO_4.out);have n1_ := Aside0.mk (below_drew1 HB.out);clear HO_4;clear HB;have HO_4 := n0_;have HB := n1_;clear n0_ n1_;have p17 : 0 ≤ ((ji14) : Int) := ofD;have q17 : (ji14) < (16 : Int) := ofD;have hx17 := bt_at (⟨#[48, 49, 50, 51, 52, 53, 54, 55, 56, 57, 65, 66, 67, 68, 69, 70]⟩ : ByteArray) (ji14);replace p17 := eq_true p17;replace q17 := eq_true q17;have p20 : 0 ≤ ((Go.bits .and .u8 t343 15) : Int) := ofD;have q20 : (Go.bits .and .u8 t343 15) < (16 : Int) := ofD;have hx20 := bt_at (⟨#[48, 49, 50, 51, 52, 53, 54, 55, 56, 57, 65, 66, 67, 68, 69, 70]⟩ : ByteArray) (Go.bits .and .u8 t343 15);replace p20 := eq_true p20;replace q20 := eq_true q20;refine start_ (n := 10) (S := fun w' => True) (ds := []) #[false, false, false, false, false, false, false, false, false, false] (by kernel_rfl) rfl rfl trivial (fun hHeld => ?_); refine with_tabW impl_EscNorm.tab16 impl_EscNorm.bits16 (fun HT_ HW_ => ?_);generalize w22.drew = w23 at HO_4 HB hHeld ⊢;refine pureZ 0 (some 40) #[true, false, false, false, false, false, false, false, false, false] ?_;refine pureZ 1 (some 41) #[true, true, false, false, false, false, false, false, false, false] ?_;refine pureZ 2 (some 42) #[true, true, true, false, false, false, false, false, false, false] ?_;refine pureZ 4 (some 44) #[true, true, true, false, true, false, false, false, false, false] ?_;refine pureZ 5 (some 45) #[true, true, true, false, true, true, false, false, false, false] ?_;refine take_ (i := 3) (N := some 43) (v := ?_) (a' := ?_) #[true, true, true, true, true, true, false, false, false, false] rfl rfl (take_ofW HT_.out HW_.out (by kernel_rfl)) (fun _ _ _ h => h) (Or.inl ⟨by rfl, ?_⟩) hHeld ?_ ?_;rotate_left
              ·intro w' _
               go_simp
               with_reducible rfl
              rotate_left
              ·simp only [Act.put, List.setIfInBounds_toArray, List.set_cons_zero, List.set_cons_succ, i64_w, i32_w]
               rfl
              refine take_ (i := 6) (N := some 46) (v := ?_) (a' := ?_) #[true, true, true, true, true, true, true, false, false, false] rfl rfl (take_ofW HT_.out HW_.out (by kernel_rfl)) (fun _ _ _ h => h) (Or.inl ⟨by rfl, ?_⟩) hHeld ?_ ?_;rotate_left
              ·intro w' _
               go_simp
               with_reducible rfl
              rotate_left
              ·simp only [Act.put, List.setIfInBounds_toArray, List.set_cons_zero, List.set_cons_succ, i64_w, i32_w]
               rfl
              refine one_ (i := 7) (N := some 47) #[true, true, true, true, true, true, true, true, false, false] rfl rfl (one_of HT_.out (by kernel_rfl)) (by decide) (fun K hK => ?_);refine Kd.R_lit_step (Kd.int .u8) _ 5 ?hg (N := 47) ?hd (xs := ([37, bt (⟨#[48, 49, 50, 51, 52, 53, 54, 55, 56, 57, 65, 66, 67, 68, 69, 70]⟩ : ByteArray) (ji14), bt (⟨#[48, 49, 50, 51, 52, 53, 54, 55, 56, 57, 65, 66, 67, 68, 69, 70]⟩ : ByteArray) (Go.bits .and .u8 t343 15)] : List Int)) (inner := [.int .u8 37, .int .u8 (bt (⟨#[48, 49, 50, 51, 52, 53, 54, 55, 56, 57, 65, 66, 67, 68, 69, 70]⟩ : ByteArray) (ji14)), .int .u8 (bt (⟨#[48, 49, 50, 51, 52, 53, 54, 55, 56, 57, 65, 66, 67, 68, 69, 70]⟩ : ByteArray) (Go.bits .and .u8 t343 15))]) (ok := fun _ => True) (okp := fun _ => True) ?hr ?hp (fun _ hk => hk) trivial (Below.refl _ _) (Nat.le_refl _) (by simp) ?_; (case hd => rfl); (case hg => rfl); (case hr => exact zz8); (case hp => exact (Reps.one (show Kd.M (Kd.int .u8) _ _ _ 37 [.int .u8 37] from rfl) (Reps.one (show Kd.M (Kd.int .u8) _ _ _ (bt (⟨#[48, 49, 50, 51, 52, 53, 54, 55, 56, 57, 65, 66, 67, 68, 69, 70]⟩ : ByteArray) (ji14)) [.int .u8 (bt (⟨#[48, 49, 50, 51, 52, 53, 54, 55, 56, 57, 65, 66, 67, 68, 69, 70]⟩ : ByteArray) (ji14))] from rfl) (Reps.one (show Kd.M (Kd.int .u8) _ _ _ (bt (⟨#[48, 49, 50, 51, 52, 53, 54, 55, 56, 57, 65, 66, 67, 68, 69, 70]⟩ : ByteArray) (Go.bits .and .u8 t343 15)) [.int .u8 (bt (⟨#[48, 49, 50, 51, 52, 53, 54, 55, 56, 57, 65, 66, 67, 68, 69, 70]⟩ : ByteArray) (Go.bits .and .u8 t343 15))] from rfl) (Reps.none _ _)))));intro v350 w24 ho25 hb hg_ hnew_;clear hg_ hnew_;(first | rw [← Ny349.out] at ho25 | (simp only [Int.reduceToNat] at ho25; rw [← Ny349.out] at ho25))
              have n0_ := Aside0.mk (Kd.R_elder' (zz9 HO_4) (Kd.R_base ho25) hb);have n1_ := Aside0.mk (Kd.R_lower (Kd.R_new' ho25 (Kd.R_lt (zz9 HO_4))) (below_size (zz4 HB)));have n2_ := Aside0.mk (below_step (zz4 HB) hb);clear HO_4;clear HB;have HO_4 := n0_;have HO351 := n1_;have HB := n2_;clear n0_ n1_ n2_;clear hb ho25;obtain ⟨Ao27, co27, eo27⟩ := Kd.R_slice HO351.out;(first | subst eo27 | (injection eo27 with f1_ f2_ f3_; have f4_ := f1_.symm; have f5_ := f3_.symm; clear f1_ f2_ f3_; subst f4_; subst f5_))
              refine hK.out _ _ trivial (fun hHeld => ?_);clear hK K;refine norm_ (a' := ?_) ?_ ?_;rotate_left
              ·show Act.put _ (some 47) _ = _
               simp only [Act.put, List.setIfInBounds_toArray, List.set_cons_zero, List.set_cons_succ, i64_w, i32_w]
               rfl
              refine one_ (i := 8) (N := some 48) #[true, true, true, true, true, true, true, true, true, false] rfl rfl (one_of HT_.out (by kernel_rfl)) (by decide) (fun K hK => ?_);refine Kd.R_append_rows_step (Kd.int .u8) (w0 := w) w.heap.size (by rfl) (.tmp 40) (.tmp 47) 34 5 (.int .u8 0) 1 rfl Tryz.underlying34 info5 rfl (by decide) (by omega) u4 x4_1 y349 _ _ _ (fun k_ => some k_ ≠ (.slice Ao27 y349.length co27 : Value).ownBlock) (fun _ => False) rfl rfl ?aO ?aR (fun _ _ h => h) (fun _ h => h.elim) ?aF ?aB ?aS ?aL ?_;(case aR => exact (zz44 HO351))
              (case aB => exact (zz4 HB))
              (case aF => exact (fun k_ hk => Kd.fresh' (Kd.R_lt (zz9 HO351)) k_ hk))
              (case aO => exact (zz39 HO_4))
              (case aS => exact (below_size (zz4 HB)))
              (case aL => exact (zz3 LMc21))
              intro v353 w26 ho hb hg hat;rw [← Ny352.out] at ho;have n0_ := Aside0.mk (Kd.R_after (ok := (fun _ => True)) (zz9 HO351) hg hat);have n1_ := Aside0.mk (hb);have n2_ := Aside0.mk (ho);clear HO351;clear HB;clear HO_4;have HO351 := n0_;have HB := n1_;have HO354 := n2_;clear n0_ n1_ n2_;clear ho hb hg hat;refine hK.out _ _ trivial (fun hHeld => ?_);clear hK K;refine norm_ (a' := ?_) ?_ ?_;rotate_left
              ·show Act.put _ (some 48) _ = _
               simp only [Act.put, List.setIfInBounds_toArray, List.set_cons_zero, List.set_cons_succ, i64_w, i32_w]
               rfl
              refine pureZ 9 (some 4) #[true, true, true, true, true, true, true, true, true, true] ?_;refine done_ (done_of HT_.out (by kernel_rfl)) ?_;try go_wp2
              go_roundg k1
              case measure => have := HK1.out; omega
              case rel => exact ⟨(y352), (wrap64 ((wrap64 (x5_1 + 2)) + 1)), zz0, H', ⟨(zz3 HK1)⟩, ⟨(zz61 HO354)⟩, ⟨(zz4 HB)⟩⟩
             ·rw [if_neg c21] at H
              exact absurd H (by simp)
            ·rw [if_neg c19] at H
             exact absurd H (by simp)
           ·rw [if_neg c18] at H
            exact absurd H (by simp)
          ·rw [if_neg c16] at H
           exact absurd H (by simp)
         ·rw [if_neg c15] at H
          exact absurd H (by simp)
       ·replace c8 := Bool.eq_false_iff.mpr c8
        subst c8;rw [if_neg (show ¬ (false = true) by decide)] at H;simp only [Option.some.injEq, Prod.mk.injEq] at H
        obtain ⟨rfl, rfl⟩ := H;have p5 : 0 ≤ (x5_1 : Int) := ofD;have q5 : x5_1 < (a0.size : Int) := ofD;have hx5 := bt_at a0 x5_1;replace p5 := eq_true p5;replace q5 := eq_true q5;go_wp2_with (first | ((with_reducible refine gate_callee (f := 96) rfl ?_); refine gsL (some 26) Tryz.func96 #[.string a0, .int .i64 x5_1] ?_; (with_reducible refine (impl_signByte.calls a0 x5_1 t343 false _ A7.out).mono ?_); rintro e w28 ⟨rfl, hb⟩; refine ⟨_, rfl, ?_⟩; have n0_ := Aside0.mk (Kd.R_below (zz9 HO_4) hb); have n1_ := Aside0.mk (below_step (zz4 HB) hb); clear HO_4; clear HB; have HO_4 := n0_; have HB := n1_; clear n0_ n1_; (try clear hb)))
        go_ret2
        exact ⟨zz5, (zz4 HB)⟩
      ·rw [if_neg c6] at H
       have c6b0 : ((bt a0 x5_1) == 37) = false := beq_eq_false_iff_ne.mpr c6;have c6b1 : ((bt a0 x5_1) != 37) = true := bne_iff_ne.mpr c6;replace H := bindA H;obtain ⟨t355, A29, H⟩ := H;by_cases c30 : t355 = true
       ·subst c30
        rw [if_pos rfl] at H;by_cases c31 : x4_1.length < 140737488355328
        ·rw [if_pos c31] at H
         have LMc31 := Aside0.mk c31;clear c31;obtain ⟨y356, Ny356⟩ := toY (x4_1 ++ [bt a0 x5_1]);(first | with_reducible replace H := bindZ Ny356 H | rw [← Ny356.out] at H | skip)
         have H' := Aside0.mk H;clear H;have p5 : 0 ≤ (x5_1 : Int) := ofD;have q5 : x5_1 < (a0.size : Int) := ofD;have hx5 := bt_at a0 x5_1;replace p5 := eq_true p5;replace q5 := eq_true q5;go_wp2_with (first | ((with_reducible refine gate_callee (f := 97) rfl ?_); refine gsL (some 35) Tryz.func97 #[.int .u8 (bt a0 x5_1)] ?_; (with_reducible refine (impl_standsForItself.calls (bt a0 x5_1) true _ A29.out).mono ?_); rintro e w' ⟨rfl, ⟨nd, rfl⟩⟩; refine ⟨_, rfl, ?_⟩) | ((with_reducible refine gate_builtin (b := .append) (xs := #[.tmp 36, .tmp 38]) rfl ?_); at_builtin; refine Kd.R_append (Kd.int .u8) (w0 := w) w.heap.size rfl (.tmp 36) (.tmp 38) 34 5 (.int .u8 0) 1 rfl Tryz.underlying34 info5 rfl (by decide) (by omega) u4 x4_1 (bt a0 x5_1) [.int .u8 (bt a0 x5_1)] (fun _ => True) (fun _ => False) rfl rfl ?aP (fun _ hk => hk.elim) ?aF ?aO ?aB ?aS ?aL ?_; (case aP => exact rfl); (case aB => exact (zz4 HB)); (case aF => exact (fun _ _ => trivial)); (case aO => exact (zz9 HO_4)); (case aS => exact (below_size (zz4 HB))); (case aL => exact (zz3 LMc31)); intro v357 w32 ho hb hg hat; rw [← Ny356.out] at ho; have n0_ := Aside0.mk (hb); have n1_ := Aside0.mk (ho); clear HB; clear HO_4; have HB := n0_; have HO358 := n1_; clear n0_ n1_; clear ho hb hg hat))
         go_roundg k1
         case measure => have := HK1.out; omega
         case rel => exact ⟨(y356), (wrap64 (x5_1 + 1)), zz0, H', ⟨(zz3 HK1)⟩, ⟨(zz9 HO358)⟩, ⟨(zz4 HB)⟩⟩
        ·rw [if_neg c31] at H
         exact absurd H (by simp)
       ·replace c30 := Bool.eq_false_iff.mpr c30
        subst c30;rw [if_neg (show ¬ (false = true) by decide)] at H;obtain ⟨ji33, hji33⟩ : ∃ j_ : Int, ((bt a0 x5_1) / 16) = j_ := ⟨_, rfl⟩;replace H : (if 0 ≤ (ji33) then (if (ji33) < 16 then (if 0 ≤ (Go.bits .and .u8 (bt a0 x5_1) 15) then (if (Go.bits .and .u8 (bt a0 x5_1) 15) < 16 then ((some (([37, bt (⟨#[48, 49, 50, 51, 52, 53, 54, 55, 56, 57, 65, 66, 67, 68, 69, 70]⟩ : ByteArray) (ji33), bt (⟨#[48, 49, 50, 51, 52, 53, 54, 55, 56, 57, 65, 66, 67, 68, 69, 70]⟩ : ByteArray) (Go.bits .and .u8 (bt a0 x5_1) 15)] : List Int) : List Int)).bind fun y359 => (if x4_1.length + y359.length < 140737488355328 then (impl_EscNorm.l0 k1 a0 (x4_1 ++ y359) (wrap64 (x5_1 + 1))) else (none))) else (none)) else (none)) else (none)) else (none)) = some (r1, r2) := by first | (rw [hji33] at H; exact H) | (simp only [hji33] at H ⊢; exact H)
        (try rw [hji33] at A29)
        by_cases c34 : 0 ≤ (ji33)
        ·rw [if_pos c34] at H
         have c34b0 : decide (0 ≤ (ji33)) = true := decide_eq_true c34;clear c34;by_cases c35 : (ji33) < 16
         ·rw [if_pos c35] at H
          have c35b0 : decide ((ji33) < 16) = true := decide_eq_true c35;clear c35;by_cases c37 : 0 ≤ (Go.bits .and .u8 (bt a0 x5_1) 15)
          ·rw [if_pos c37] at H
           have c37b0 : decide (0 ≤ (Go.bits .and .u8 (bt a0 x5_1) 15)) = true := decide_eq_true c37;clear c37;by_cases c38 : (Go.bits .and .u8 (bt a0 x5_1) 15) < 16
           ·rw [if_pos c38] at H
            have c38b0 : decide ((Go.bits .and .u8 (bt a0 x5_1) 15) < 16) = true := decide_eq_true c38;clear c38;obtain ⟨y359, Ny359⟩ := toY (([37, bt (⟨#[48, 49, 50, 51, 52, 53, 54, 55, 56, 57, 65, 66, 67, 68, 69, 70]⟩ : ByteArray) (ji33), bt (⟨#[48, 49, 50, 51, 52, 53, 54, 55, 56, 57, 65, 66, 67, 68, 69, 70]⟩ : ByteArray) (Go.bits .and .u8 (bt a0 x5_1) 15)] : List Int));(first | with_reducible replace H := bindZ Ny359 H | rw [← Ny359.out] at H | skip)
            by_cases c40 : x4_1.length + y359.length < 140737488355328
            ·rw [if_pos c40] at H
             have LMc40 := Aside0.mk c40;clear c40;obtain ⟨y362, Ny362⟩ := toY (x4_1 ++ y359);(first | with_reducible replace H := bindZ Ny362 H | rw [← Ny362.out] at H | skip)
             have H' := Aside0.mk H;clear H;have p5 : 0 ≤ (x5_1 : Int) := ofD;have q5 : x5_1 < (a0.size : Int) := ofD;have hx5 := bt_at a0 x5_1;replace p5 := eq_true p5;replace q5 := eq_true q5;try go_wp2_with (first | ((with_reducible refine gate_callee (f := 97) rfl ?_); refine gsL (some 35) Tryz.func97 #[.int .u8 (bt a0 x5_1)] ?_; (with_reducible refine (impl_standsForItself.calls (bt a0 x5_1) false _ A29.out).mono ?_); rintro e w' ⟨rfl, ⟨nd, rfl⟩⟩; refine ⟨_, rfl, ?_⟩))
             (try (rw [drewN_self wr]; generalize hq_ : World.drewN wr _ = wr; have n0_ : Aside0 (Kd.R (Kd.int .u8) 5 wr w.heap.size (fun _ => True) u4 x4_1) := ⟨(by rw [← hq_]; exact (zz9 HO_4))⟩; have n1_ : Aside0 (Below w.heap.size w wr) := ⟨(by rw [← hq_]; exact (zz4 HB))⟩; clear HO_4 HB hq_; have HO_4 := n0_; have HB := n1_; clear n0_ n1_))
             have n0_ := Aside0.mk (Kd.R_drew HO_4.out);have n1_ := Aside0.mk (below_drew1 HB.out);clear HO_4;clear HB;have HO_4 := n0_;have HB := n1_;clear n0_ n1_;have p36 : 0 ≤ ((ji33) : Int) := ofD;have q36 : (ji33) < (16 : Int) := ofD;have hx36 := bt_at (⟨#[48, 49, 50, 51, 52, 53, 54, 55, 56, 57, 65, 66, 67, 68, 69, 70]⟩ : ByteArray) (ji33);replace p36 := eq_true p36;replace q36 := eq_true q36;have p39 : 0 ≤ ((Go.bits .and .u8 (bt a0 x5_1) 15) : Int) := ofD;have q39 : (Go.bits .and .u8 (bt a0 x5_1) 15) < (16 : Int) := ofD;have hx39 := bt_at (⟨#[48, 49, 50, 51, 52, 53, 54, 55, 56, 57, 65, 66, 67, 68, 69, 70]⟩ : ByteArray) (Go.bits .and .u8 (bt a0 x5_1) 15);replace p39 := eq_true p39;replace q39 := eq_true q39;refine start_ (n := 10) (S := fun w' => True) (ds := []) #[false, false, false, false, false, false, false, false, false, false] (by kernel_rfl) rfl rfl trivial (fun hHeld => ?_); refine with_tabW impl_EscNorm.tab16 impl_EscNorm.bits16 (fun HT_ HW_ => ?_);generalize wr.drew = w41 at HO_4 HB hHeld ⊢;refine pureZ 0 (some 40) #[true, false, false, false, false, false, false, false, false, false] ?_;refine pureZ 1 (some 41) #[true, true, false, false, false, false, false, false, false, false] ?_;refine pureZ 2 (some 42) #[true, true, true, false, false, false, false, false, false, false] ?_;refine pureZ 4 (some 44) #[true, true, true, false, true, false, false, false, false, false] ?_;refine pureZ 5 (some 45) #[true, true, true, false, true, true, false, false, false, false] ?_;refine take_ (i := 3) (N := some 43) (v := ?_) (a' := ?_) #[true, true, true, true, true, true, false, false, false, false] rfl rfl (take_ofW HT_.out HW_.out (by kernel_rfl)) (fun _ _ _ h => h) (Or.inl ⟨by rfl, ?_⟩) hHeld ?_ ?_;rotate_left
             ·intro w' _
              go_simp
              with_reducible rfl
             rotate_left
             ·simp only [Act.put, List.setIfInBounds_toArray, List.set_cons_zero, List.set_cons_succ, i64_w, i32_w]
              rfl
             refine take_ (i := 6) (N := some 46) (v := ?_) (a' := ?_) #[true, true, true, true, true, true, true, false, false, false] rfl rfl (take_ofW HT_.out HW_.out (by kernel_rfl)) (fun _ _ _ h => h) (Or.inl ⟨by rfl, ?_⟩) hHeld ?_ ?_;rotate_left
             ·intro w' _
              go_simp
              with_reducible rfl
             rotate_left
             ·simp only [Act.put, List.setIfInBounds_toArray, List.set_cons_zero, List.set_cons_succ, i64_w, i32_w]
              rfl
             refine one_ (i := 7) (N := some 47) #[true, true, true, true, true, true, true, true, false, false] rfl rfl (one_of HT_.out (by kernel_rfl)) (by decide) (fun K hK => ?_);refine Kd.R_lit_step (Kd.int .u8) _ 5 ?hg (N := 47) ?hd (xs := ([37, bt (⟨#[48, 49, 50, 51, 52, 53, 54, 55, 56, 57, 65, 66, 67, 68, 69, 70]⟩ : ByteArray) (ji33), bt (⟨#[48, 49, 50, 51, 52, 53, 54, 55, 56, 57, 65, 66, 67, 68, 69, 70]⟩ : ByteArray) (Go.bits .and .u8 (bt a0 x5_1) 15)] : List Int)) (inner := [.int .u8 37, .int .u8 (bt (⟨#[48, 49, 50, 51, 52, 53, 54, 55, 56, 57, 65, 66, 67, 68, 69, 70]⟩ : ByteArray) (ji33)), .int .u8 (bt (⟨#[48, 49, 50, 51, 52, 53, 54, 55, 56, 57, 65, 66, 67, 68, 69, 70]⟩ : ByteArray) (Go.bits .and .u8 (bt a0 x5_1) 15))]) (ok := fun _ => True) (okp := fun _ => True) ?hr ?hp (fun _ hk => hk) trivial (Below.refl _ _) (Nat.le_refl _) (by simp) ?_; (case hd => rfl); (case hg => rfl); (case hr => exact zz8); (case hp => exact (Reps.one (show Kd.M (Kd.int .u8) _ _ _ 37 [.int .u8 37] from rfl) (Reps.one (show Kd.M (Kd.int .u8) _ _ _ (bt (⟨#[48, 49, 50, 51, 52, 53, 54, 55, 56, 57, 65, 66, 67, 68, 69, 70]⟩ : ByteArray) (ji33)) [.int .u8 (bt (⟨#[48, 49, 50, 51, 52, 53, 54, 55, 56, 57, 65, 66, 67, 68, 69, 70]⟩ : ByteArray) (ji33))] from rfl) (Reps.one (show Kd.M (Kd.int .u8) _ _ _ (bt (⟨#[48, 49, 50, 51, 52, 53, 54, 55, 56, 57, 65, 66, 67, 68, 69, 70]⟩ : ByteArray) (Go.bits .and .u8 (bt a0 x5_1) 15)) [.int .u8 (bt (⟨#[48, 49, 50, 51, 52, 53, 54, 55, 56, 57, 65, 66, 67, 68, 69, 70]⟩ : ByteArray) (Go.bits .and .u8 (bt a0 x5_1) 15))] from rfl) (Reps.none _ _)))));intro v360 w42 ho43 hb hg_ hnew_;clear hg_ hnew_;(first | rw [← Ny359.out] at ho43 | (simp only [Int.reduceToNat] at ho43; rw [← Ny359.out] at ho43))
             have n0_ := Aside0.mk (Kd.R_elder' (zz9 HO_4) (Kd.R_base ho43) hb);have n1_ := Aside0.mk (Kd.R_lower (Kd.R_new' ho43 (Kd.R_lt (zz9 HO_4))) (below_size (zz4 HB)));have n2_ := Aside0.mk (below_step (zz4 HB) hb);clear HO_4;clear HB;have HO_4 := n0_;have HO361 := n1_;have HB := n2_;clear n0_ n1_ n2_;clear hb ho43;obtain ⟨Ao45, co45, eo45⟩ := Kd.R_slice HO361.out;(first | subst eo45 | (injection eo45 with f1_ f2_ f3_; have f4_ := f1_.symm; have f5_ := f3_.symm; clear f1_ f2_ f3_; subst f4_; subst f5_))
             refine hK.out _ _ trivial (fun hHeld => ?_);clear hK K;refine norm_ (a' := ?_) ?_ ?_;rotate_left
             ·show Act.put _ (some 47) _ = _
              simp only [Act.put, List.setIfInBounds_toArray, List.set_cons_zero, List.set_cons_succ, i64_w, i32_w]
              rfl
             refine one_ (i := 8) (N := some 48) #[true, true, true, true, true, true, true, true, true, false] rfl rfl (one_of HT_.out (by kernel_rfl)) (by decide) (fun K hK => ?_);refine Kd.R_append_rows_step (Kd.int .u8) (w0 := w) w.heap.size (by rfl) (.tmp 40) (.tmp 47) 34 5 (.int .u8 0) 1 rfl Tryz.underlying34 info5 rfl (by decide) (by omega) u4 x4_1 y359 _ _ _ (fun k_ => some k_ ≠ (.slice Ao45 y359.length co45 : Value).ownBlock) (fun _ => False) rfl rfl ?aO ?aR (fun _ _ h => h) (fun _ h => h.elim) ?aF ?aB ?aS ?aL ?_;(case aR => exact (zz44 HO361))
             (case aB => exact (zz4 HB))
             (case aF => exact (fun k_ hk => Kd.fresh' (Kd.R_lt (zz9 HO361)) k_ hk))
             (case aO => exact (zz39 HO_4))
             (case aS => exact (below_size (zz4 HB)))
             (case aL => exact (zz3 LMc40))
             intro v363 w44 ho hb hg hat;rw [← Ny362.out] at ho;have n0_ := Aside0.mk (Kd.R_after (ok := (fun _ => True)) (zz9 HO361) hg hat);have n1_ := Aside0.mk (hb);have n2_ := Aside0.mk (ho);clear HO361;clear HB;clear HO_4;have HO361 := n0_;have HB := n1_;have HO364 := n2_;clear n0_ n1_ n2_;clear ho hb hg hat;refine hK.out _ _ trivial (fun hHeld => ?_);clear hK K;refine norm_ (a' := ?_) ?_ ?_;rotate_left
             ·show Act.put _ (some 48) _ = _
              simp only [Act.put, List.setIfInBounds_toArray, List.set_cons_zero, List.set_cons_succ, i64_w, i32_w]
              rfl
             refine pureZ 9 (some 4) #[true, true, true, true, true, true, true, true, true, true] ?_;refine done_ (done_of HT_.out (by kernel_rfl)) ?_;try go_wp2
             go_roundg k1
             case measure => have := HK1.out; omega
             case rel => exact ⟨(y362), (wrap64 (x5_1 + 1)), zz0, H', ⟨(zz3 HK1)⟩, ⟨(zz61 HO364)⟩, ⟨(zz4 HB)⟩⟩
            ·rw [if_neg c40] at H
             exact absurd H (by simp)
           ·rw [if_neg c38] at H
            exact absurd H (by simp)
          ·rw [if_neg c37] at H
           exact absurd H (by simp)
         ·rw [if_neg c35] at H
          exact absurd H (by simp)
        ·rw [if_neg c34] at H
         exact absurd H (by simp)
     ·rw [if_neg c4] at H
      exact absurd H (by simp)
    ·rw [if_neg c3] at H
     have c3b0 : decide (x5_1 < (a0.size : Int)) = false := decide_eq_false c3;clear c3;simp only [Option.some.injEq, Prod.mk.injEq] at H
     obtain ⟨rfl, rfl⟩ := H;have hcv46 := own_string (P := Tryz.prog) Tryz.underlying34 Tryz.underlying5 Tryz.underlying9 (Kd.own_of_R HO_4.out);go_wp2
     go_ret2
     exact ⟨zz5, (zz4 HB)⟩
end Go.Proofs.YtgjfegfopjfdpaaGreatDoor.P
end
