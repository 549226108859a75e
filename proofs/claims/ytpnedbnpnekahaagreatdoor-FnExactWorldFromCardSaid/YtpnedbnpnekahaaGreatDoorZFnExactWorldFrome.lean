/- Part 5 of the proof of FnExactWorldFrom: the plain functions of what it reaches, that Go comes to just their answers, what they answer, and the words that the walks use; conditions: each theorem's own. -/
import Derived.Test.YtpnedbnpnekahaaGreatDoorZFnExactWorldFromb
import Derived.Test.YtpnedbnpnekahaaGreatDoorZFnExactWorldFromd
import Derived.Maps.Own
import Derived.Maps.OwnSet
import Derived.Carry
import Derived.Test.YtpnedbnpnekahaaGreatDoorZFnExactWorldFromc
import Derived.OneCell
import Derived.Laws.EntriesVeiled

section
namespace Go.Proofs.YtpnedbnpnekahaaGreatDoor.P
open Go.RowKit Go.Proofs.YtpnedbnpnekahaaGreatDoorW.PrintWords Go.Proofs.YtpnedbnpnekahaaGreatDoorW.PrintLast Go.Proofs.YtpnedbnpnekahaaGreatDoorW.PrintMore
attribute [local go_sem] max2_int min2_int max_two min_two max_three min_three max_four min_four
set_option linter.unusedVariables false
set_option linter.unusedSimpArgs false
def impl_readWhole.f (k : Nat) (a0 : ByteArray) : Option (ByteArray × List ByteArray × Bool × ByteArray × Bool) := (strings_CutPrefix.f a0 (⟨#[47, 47]⟩ : ByteArray)).bind fun bt503 => (if bt503.2 = true then ((strings_IndexAny.f bt503.1 (⟨#[47, 63]⟩ : ByteArray)).bind fun t505 => (if t505 < 0 then (if 0 ≤ (bt503.1.size : Int) then (if (bt503.1.size : Int) ≤ (bt503.1.size : Int) then ((impl_smallLetters.f (bt503.1.extract 0 ((bt503.1.size : Int) : Int).toNat)).bind fun t506 => ((impl_readWay.f k t506 ([] : List ByteArray) (bt503.1.extract ((bt503.1.size : Int) : Int).toNat bt503.1.size)).bind fun bt507 => (some (bt507.1, bt507.2.1, bt507.2.2.1, bt507.2.2.2.1, bt507.2.2.2.2)))) else (none)) else (none)) else (if 0 ≤ t505 then (if t505 ≤ (bt503.1.size : Int) then ((impl_smallLetters.f (bt503.1.extract 0 (t505 : Int).toNat)).bind fun t514 => ((impl_readWay.f k t514 ([] : List ByteArray) (bt503.1.extract (t505 : Int).toNat bt503.1.size)).bind fun bt515 => (some (bt515.1, bt515.2.1, bt515.2.2.1, bt515.2.2.2.1, bt515.2.2.2.2)))) else (none)) else (none)))) else (some ((⟨#[]⟩ : ByteArray), ([] : List ByteArray), false, (⟨#[]⟩ : ByteArray), false)))
theorem impl_readWhole.mono : ∀ a0 k, LeO (impl_readWhole.f k a0) (impl_readWhole.f (k + 1) a0) := by
 intro a0 k;unfold impl_readWhole.f
 repeat' first | (with_reducible first | exact impl_readWay.mono _ _ _ _ | exact LeO.refl _ | exact LeO.none _ | refine LeO.ite ?_ ?_ | refine LeO.bind ?_ (fun _ => ?_)) | exact LeO.none _ | refine LeO.ite ?_ ?_ | refine LeO.bind ?_ (fun _ => ?_)
def impl_readWhole.T7 : Bool × List (List Nat × List Nat) := (true, [([], []), ([], []), ([0, 1], [0, 1]), ([2], [2]), ([], []), ([], []), ([4, 5], [4, 5]), ([3, 6, 3], [3, 6]), ([7], [7]), ([7], [7]), ([8, 7, 0, 1, 2, 3, 4, 5, 6, 7, 8, 9], [8]), ([9, 10, 0, 1, 2, 3, 4, 5, 6, 7, 8, 9, 10], [9])])
def impl_readWhole.B7 : List Nat := [0, 0, 3, 7, 0, 0, 48, 127, 255, 255, 1023, 2047]
theorem impl_readWhole.tab7 : rtab .any (opsOf Tryz.f55 7) = impl_readWhole.T7 := by kernel_rfl
theorem impl_readWhole.bits7 : waitsOk impl_readWhole.T7.2 impl_readWhole.B7 = true := by kernel_rfl
set_option maxHeartbeats 8000000 in
set_option maxRecDepth 100000 in
theorem impl_readWhole.calls (k : Nat) (a0 : ByteArray) (r1 : ByteArray) (r2 : List ByteArray) (r3 : Bool) (r4 : ByteArray) (r5 : Bool) (w : World) (h : impl_readWhole.f k a0 = some (r1, r2, r3, r4, r5)) :
  Calls Tryz.prog 55 #[.string a0] w fun e w' => ∃ v1_ : Value, e = .returned (.tuple #[.agg #[.string r1, v1_, .bool r3, .string r4], .bool r5]) ∧ Kd.R Kd.string 9 w' w.heap.size (fun _ => True) v1_ r2 ∧ Below w.heap.size w w' := by
 have hu52 := Tryz.underlying52;have HB := Aside0.mk (Below.refl w.heap.size w);have H : ((strings_CutPrefix.f a0 (⟨#[47, 47]⟩ : ByteArray)).bind fun bt503 => (if bt503.2 = true then ((strings_IndexAny.f bt503.1 (⟨#[47, 63]⟩ : ByteArray)).bind fun t505 => (if t505 < 0 then (if 0 ≤ (bt503.1.size : Int) then (if (bt503.1.size : Int) ≤ (bt503.1.size : Int) then ((impl_smallLetters.f (bt503.1.extract 0 ((bt503.1.size : Int) : Int).toNat)).bind fun t506 => ((impl_readWay.f k t506 ([] : List ByteArray) (bt503.1.extract ((bt503.1.size : Int) : Int).toNat bt503.1.size)).bind fun bt507 => (some (bt507.1, bt507.2.1, bt507.2.2.1, bt507.2.2.2.1, bt507.2.2.2.2)))) else (none)) else (none)) else (if 0 ≤ t505 then (if t505 ≤ (bt503.1.size : Int) then ((impl_smallLetters.f (bt503.1.extract 0 (t505 : Int).toNat)).bind fun t514 => ((impl_readWay.f k t514 ([] : List ByteArray) (bt503.1.extract (t505 : Int).toNat bt503.1.size)).bind fun bt515 => (some (bt515.1, bt515.2.1, bt515.2.2.1, bt515.2.2.2.1, bt515.2.2.2.2)))) else (none)) else (none)))) else (some ((⟨#[]⟩ : ByteArray), ([] : List ByteArray), false, (⟨#[]⟩ : ByteArray), false)))) = some (r1, r2, r3, r4, r5) := h;clear h;replace H := bindA H;obtain ⟨⟨t503, t504⟩, A2, H⟩ := H;try dsimp -simprocs only at H
 by_cases c3 : t504 = true
 ·subst c3
  rw [if_pos rfl] at H;replace H := bindA H;obtain ⟨t505, A4, H⟩ := H;by_cases c5 : t505 < 0
  ·rw [if_pos c5] at H
   have c5b0 : decide (t505 < 0) = true := decide_eq_true c5;clear c5;by_cases c6 : 0 ≤ (t503.size : Int)
   ·rw [if_pos c6] at H
    have c6b0 := eq_true c6;have c6b1 : decide (0 ≤ (t503.size : Int)) = true := decide_eq_true c6;clear c6;by_cases c7 : (t503.size : Int) ≤ (t503.size : Int)
    ·rw [if_pos c7] at H
     have c7b0 := eq_true c7;have c7b1 : decide ((t503.size : Int) ≤ (t503.size : Int)) = true := decide_eq_true c7;clear c7;replace H := bindA H;obtain ⟨t506, A8, H⟩ := H;have c9b0 := eq_true (ofD : 0 ≤ (t503.size : Int));have c10b0 := eq_true (ofD : (t503.size : Int) ≤ (t503.size : Int));replace H := bindA H;obtain ⟨⟨t507, t508, t511, t512, t513⟩, A11, H⟩ := H;try dsimp -simprocs only at H
     simp only [Option.some.injEq, Prod.mk.injEq] at H
     obtain ⟨rfl, rfl, rfl, rfl, rfl⟩ := H;go_enter Tryz.func55, Tryz.ntmps55;try go_wp2_with (first | ((with_reducible refine gate_dst (N := 2) rfl ?_); refine boxE 2 #[.string (⟨#[]⟩ : ByteArray), .slice none 0 0, .bool false, .string (⟨#[]⟩ : ByteArray)] 52 ?_; intro gb502 hg w12 hbox hb; have BK502 := Aside0.mk (hbox); have GE502 := geB hg (zz0 HB); replace HB := Aside0.mk (below_step (zz0 HB) hb); clear hb hbox hg) | ((with_reducible refine gate_callee (f := 67) rfl ?_); refine goesL_ (some 9) rfl rfl Tryz.func67 (by kernel_rfl) rfl #[.string a0, .string (⟨#[47, 47]⟩ : ByteArray)] rfl zz147 ?_; (with_reducible refine (strings_CutPrefix.calls a0 (⟨#[47, 47]⟩ : ByteArray) t503 true _ A2.out).mono ?_); rintro e w' ⟨rfl, ⟨nd, rfl⟩⟩; refine ⟨_, rfl, ?_⟩; (try (rw [drewN_self w12]; generalize hq_ : World.drewN w12 _ = w12; have n0_ : Aside0 (w12.heap[gb502]? = some (.cells #[.string (⟨#[]⟩ : ByteArray), .slice none 0 0, .bool false, .string (⟨#[]⟩ : ByteArray)] 52 (0, 0))) := ⟨(by rw [← hq_]; exact (zz21 BK502))⟩; have n1_ : Aside0 (Below w.heap.size w w12) := ⟨zz149⟩; clear BK502 HB hq_; have BK502 := n0_; have HB := n1_; clear n0_ n1_))) | ((with_reducible refine gate_callee (f := 68) rfl ?_); refine goesL_ (some 16) rfl rfl Tryz.func68 (by kernel_rfl) rfl #[.string t503, .string (⟨#[47, 63]⟩ : ByteArray)] rfl zz147 ?_; (with_reducible refine (strings_IndexAny.calls t503 (⟨#[47, 63]⟩ : ByteArray) t505 _ A4.out).mono ?_); rintro e w13 ⟨rfl, hb⟩; refine ⟨_, rfl, ?_⟩; replace BK502 := Aside0.mk (blk_below (zz21 BK502) hb); replace HB := Aside0.mk (below_step (zz2 HB GE502) hb); (try clear hb)))
     replace BK502 := Aside0.mk (blk_drew BK502.out);replace HB := Aside0.mk (below_drew1 HB.out);refine start_ (n := 12) (S := fun w' => True) (ds := []) #[false, false, false, false, false, false, false, false, false, false, false, false] (by kernel_rfl) rfl rfl trivial (fun hHeld => ?_); refine with_tabW impl_readWhole.tab7 impl_readWhole.bits7 (fun HT_ HW_ => ?_);generalize w13.drew = w14 at BK502 HB hHeld ⊢;refine pureZ 0 (some 21) #[true, false, false, false, false, false, false, false, false, false, false, false] ?_;refine pureZ 1 (some 22) #[true, true, false, false, false, false, false, false, false, false, false, false] ?_;refine pureZ 2 (some 23) #[true, true, true, false, false, false, false, false, false, false, false, false] ?_;refine pureZ 4 (some 25) #[true, true, true, false, true, false, false, false, false, false, false, false] ?_;refine pureZ 5 (some 26) #[true, true, true, false, true, true, false, false, false, false, false, false] ?_;refine pureZ 6 (some 27) #[true, true, true, false, true, true, true, false, false, false, false, false] ?_;refine one_ (i := 3) (N := some 24) #[true, true, true, true, true, true, true, false, false, false, false, false] rfl rfl (one_of HT_.out (by kernel_rfl)) (by decide) (fun K hK => ?_);refine goes_ Tryz.func70 (by kernel_rfl) rfl #[.string (t503.extract 0 ((t503.size : Int) : Int).toNat)] (by rfl) rfl rfl zz147 ?_;with_reducible refine (impl_smallLetters.calls (t503.extract 0 ((t503.size : Int) : Int).toNat) t506 _ A8.out).mono ?_
     rintro e w15 ⟨rfl, hb⟩;refine ⟨_, rfl, ?_⟩;replace BK502 := Aside0.mk (blk_below (zz21 BK502) hb);replace HB := Aside0.mk (below_step (zz2 HB GE502) hb);(try clear hb)
     (try clear hb2)
     (try clear hk)
     (try clear hi)
     refine hK.out _ _ trivial (fun hHeld => ?_);clear hK K;refine norm_ (a' := ?_) ?_ ?_;rotate_left
     ·show Act.put _ (some 24) _ = _
      simp only [Act.put, List.setIfInBounds_toArray, List.set_cons_zero, List.set_cons_succ, i64_w, i32_w]
      rfl
     refine one_ (i := 7) (N := some 28) #[true, true, true, true, true, true, true, true, false, false, false, false] rfl rfl (one_of HT_.out (by kernel_rfl)) (by decide) (fun K hK => ?_);refine goes_ Tryz.func69 (by kernel_rfl) rfl #[.string t506, .slice none 0 0, .string (t503.extract ((t503.size : Int) : Int).toNat t503.size)] (by rfl) rfl rfl zz147 ?_;refine (impl_readWay.calls k t506 _ _ ([] : List ByteArray) (t503.extract ((t503.size : Int) : Int).toNat t503.size) t507 t508 t511 t512 t513 _ ?side1 ?side2 A11.out).mono ?_;(case side1 => exact Kd.C_nil _ _)
     (case side2 => exact Nat.le_refl _)
     rintro e w16 ⟨v509, rfl, ho0, hb⟩;refine ⟨_, rfl, ?_⟩;have HO510 := Aside0.mk (Kd.R_lower ho0 (below_size (zz2 HB GE502)));replace BK502 := Aside0.mk (blk_below (zz21 BK502) hb);replace HB := Aside0.mk (below_step (zz2 HB GE502) hb);(try clear hb)
     (try clear hb2)
     (try clear hk)
     (try clear hi)
     (try clear ho0)
     obtain ⟨Ao18, co18, eo18⟩ := Kd.R_slice HO510.out;(first | subst eo18 | (injection eo18 with f1_ f2_ f3_; have f4_ := f1_.symm; have f5_ := f3_.symm; clear f1_ f2_ f3_; subst f4_; subst f5_))
     refine hK.out _ _ trivial (fun hHeld => ?_);clear hK K;refine norm_ (a' := ?_) ?_ ?_;rotate_left
     ·show Act.put _ (some 28) _ = _
      simp only [Act.put, List.setIfInBounds_toArray, List.set_cons_zero, List.set_cons_succ, i64_w, i32_w]
      rfl
     refine pureZ 8 (some 29) #[true, true, true, true, true, true, true, true, true, false, false, false] ?_;refine pureZ 9 (some 30) #[true, true, true, true, true, true, true, true, true, true, false, false] ?_;refine one_ (i := 10) (N := none) #[true, true, true, true, true, true, true, true, true, true, true, false] rfl rfl (one_of HT_.out (by kernel_rfl)) (by decide) (fun K hK => ?_);have hs17 : w16.cell? ⟨gb502, 0, none⟩ = some (.string (⟨#[]⟩ : ByteArray)) := (blk_cell BK502.out 0).trans rfl;have hfs17 := blk_frozen BK502.out 0;have hs19 : w16.cell? ⟨gb502, 1, none⟩ = some (.slice none 0 0) := (blk_cell BK502.out 1).trans rfl;have hfs19 := blk_frozen BK502.out 1;have hs20 : w16.cell? ⟨gb502, 2, none⟩ = some (.bool false) := (blk_cell BK502.out 2).trans rfl;have hfs20 := blk_frozen BK502.out 2;have hs21 : w16.cell? ⟨gb502, 3, none⟩ = some (.string (⟨#[]⟩ : ByteArray)) := (blk_cell BK502.out 3).trans rfl;have hfs21 := blk_frozen BK502.out 3;refine skip_ (w1 := ?_) (by rfl) rfl ?_ ?_;rotate_left
     ·go_simp
      rfl
     refine hK.out _ _ trivial (fun hHeld => ?_);clear hK K;refine pureZ 11 (some 3) #[true, true, true, true, true, true, true, true, true, true, true, true] ?_;refine done_ (done_of HT_.out (by kernel_rfl)) ?_;try go_wp2
     refine bodyPost_ret (results_ct rfl _ _ gb502 52 #[.string t507, .slice Ao18 t508.length co18, .bool t511, .string t512] (0, 0) _ rfl (zz37 BK502) Tryz.underlying52 rfl (by kernel_rfl)) rfl ?_;exact ⟨_, zz1, (zz46 (rt HO510 BK502)), (zz2 HB GE502)⟩
    ·rw [if_neg c7] at H
     exact absurd H (by simp)
   ·rw [if_neg c6] at H
    exact absurd H (by simp)
  ·rw [if_neg c5] at H
   have c5b0 : decide (t505 < 0) = false := decide_eq_false c5;clear c5;by_cases c22 : 0 ≤ t505
   ·rw [if_pos c22] at H
    have c22b0 := eq_true c22;have c22b1 : decide (0 ≤ t505) = true := decide_eq_true c22;clear c22;by_cases c23 : t505 ≤ (t503.size : Int)
    ·rw [if_pos c23] at H
     have c23b0 := eq_true c23;have c23b1 : decide (t505 ≤ (t503.size : Int)) = true := decide_eq_true c23;clear c23;replace H := bindA H;obtain ⟨t514, A24, H⟩ := H;have c25b0 := eq_true (ofD : 0 ≤ t505);have c26b0 := eq_true (ofD : t505 ≤ (t503.size : Int));replace H := bindA H;obtain ⟨⟨t515, t516, t519, t520, t521⟩, A27, H⟩ := H;try dsimp -simprocs only at H
     simp only [Option.some.injEq, Prod.mk.injEq] at H
     obtain ⟨rfl, rfl, rfl, rfl, rfl⟩ := H;go_enter Tryz.func55, Tryz.ntmps55;try go_wp2_with (first | ((with_reducible refine gate_dst (N := 2) rfl ?_); refine boxE 2 #[.string (⟨#[]⟩ : ByteArray), .slice none 0 0, .bool false, .string (⟨#[]⟩ : ByteArray)] 52 ?_; intro gb502 hg w28 hbox hb; have BK502 := Aside0.mk (hbox); have GE502 := geB hg (zz0 HB); replace HB := Aside0.mk (below_step (zz0 HB) hb); clear hb hbox hg) | ((with_reducible refine gate_callee (f := 67) rfl ?_); refine goesL_ (some 9) rfl rfl Tryz.func67 (by kernel_rfl) rfl #[.string a0, .string (⟨#[47, 47]⟩ : ByteArray)] rfl zz147 ?_; (with_reducible refine (strings_CutPrefix.calls a0 (⟨#[47, 47]⟩ : ByteArray) t503 true _ A2.out).mono ?_); rintro e w' ⟨rfl, ⟨nd, rfl⟩⟩; refine ⟨_, rfl, ?_⟩; (try (rw [drewN_self w28]; generalize hq_ : World.drewN w28 _ = w28; have n0_ : Aside0 (w28.heap[gb502]? = some (.cells #[.string (⟨#[]⟩ : ByteArray), .slice none 0 0, .bool false, .string (⟨#[]⟩ : ByteArray)] 52 (0, 0))) := ⟨(by rw [← hq_]; exact (zz21 BK502))⟩; have n1_ : Aside0 (Below w.heap.size w w28) := ⟨zz149⟩; clear BK502 HB hq_; have BK502 := n0_; have HB := n1_; clear n0_ n1_))) | ((with_reducible refine gate_callee (f := 68) rfl ?_); refine goesL_ (some 16) rfl rfl Tryz.func68 (by kernel_rfl) rfl #[.string t503, .string (⟨#[47, 63]⟩ : ByteArray)] rfl zz147 ?_; (with_reducible refine (strings_IndexAny.calls t503 (⟨#[47, 63]⟩ : ByteArray) t505 _ A4.out).mono ?_); rintro e w29 ⟨rfl, hb⟩; refine ⟨_, rfl, ?_⟩; replace BK502 := Aside0.mk (blk_below (zz21 BK502) hb); replace HB := Aside0.mk (below_step (zz2 HB GE502) hb); (try clear hb)))
     replace BK502 := Aside0.mk (blk_drew BK502.out);replace HB := Aside0.mk (below_drew1 HB.out);refine start_ (n := 12) (S := fun w' => True) (ds := []) #[false, false, false, false, false, false, false, false, false, false, false, false] (by kernel_rfl) rfl rfl trivial (fun hHeld => ?_); refine with_tabW impl_readWhole.tab7 impl_readWhole.bits7 (fun HT_ HW_ => ?_);generalize w29.drew = w30 at BK502 HB hHeld ⊢;refine pureZ 0 (some 21) #[true, false, false, false, false, false, false, false, false, false, false, false] ?_;refine pureZ 1 (some 22) #[true, true, false, false, false, false, false, false, false, false, false, false] ?_;refine pureZ 2 (some 23) #[true, true, true, false, false, false, false, false, false, false, false, false] ?_;refine pureZ 4 (some 25) #[true, true, true, false, true, false, false, false, false, false, false, false] ?_;refine pureZ 5 (some 26) #[true, true, true, false, true, true, false, false, false, false, false, false] ?_;refine pureZ 6 (some 27) #[true, true, true, false, true, true, true, false, false, false, false, false] ?_;refine one_ (i := 3) (N := some 24) #[true, true, true, true, true, true, true, false, false, false, false, false] rfl rfl (one_of HT_.out (by kernel_rfl)) (by decide) (fun K hK => ?_);refine goes_ Tryz.func70 (by kernel_rfl) rfl #[.string (t503.extract 0 (t505 : Int).toNat)] (by rfl) rfl rfl zz147 ?_;with_reducible refine (impl_smallLetters.calls (t503.extract 0 (t505 : Int).toNat) t514 _ A24.out).mono ?_
     rintro e w31 ⟨rfl, hb⟩;refine ⟨_, rfl, ?_⟩;replace BK502 := Aside0.mk (blk_below (zz21 BK502) hb);replace HB := Aside0.mk (below_step (zz2 HB GE502) hb);(try clear hb)
     (try clear hb2)
     (try clear hk)
     (try clear hi)
     refine hK.out _ _ trivial (fun hHeld => ?_);clear hK K;refine norm_ (a' := ?_) ?_ ?_;rotate_left
     ·show Act.put _ (some 24) _ = _
      simp only [Act.put, List.setIfInBounds_toArray, List.set_cons_zero, List.set_cons_succ, i64_w, i32_w]
      rfl
     refine one_ (i := 7) (N := some 28) #[true, true, true, true, true, true, true, true, false, false, false, false] rfl rfl (one_of HT_.out (by kernel_rfl)) (by decide) (fun K hK => ?_);refine goes_ Tryz.func69 (by kernel_rfl) rfl #[.string t514, .slice none 0 0, .string (t503.extract (t505 : Int).toNat t503.size)] (by rfl) rfl rfl zz147 ?_;refine (impl_readWay.calls k t514 _ _ ([] : List ByteArray) (t503.extract (t505 : Int).toNat t503.size) t515 t516 t519 t520 t521 _ ?side1 ?side2 A27.out).mono ?_;(case side1 => exact Kd.C_nil _ _)
     (case side2 => exact Nat.le_refl _)
     rintro e w32 ⟨v517, rfl, ho0, hb⟩;refine ⟨_, rfl, ?_⟩;have HO518 := Aside0.mk (Kd.R_lower ho0 (below_size (zz2 HB GE502)));replace BK502 := Aside0.mk (blk_below (zz21 BK502) hb);replace HB := Aside0.mk (below_step (zz2 HB GE502) hb);(try clear hb)
     (try clear hb2)
     (try clear hk)
     (try clear hi)
     (try clear ho0)
     obtain ⟨Ao34, co34, eo34⟩ := Kd.R_slice HO518.out;(first | subst eo34 | (injection eo34 with f1_ f2_ f3_; have f4_ := f1_.symm; have f5_ := f3_.symm; clear f1_ f2_ f3_; subst f4_; subst f5_))
     refine hK.out _ _ trivial (fun hHeld => ?_);clear hK K;refine norm_ (a' := ?_) ?_ ?_;rotate_left
     ·show Act.put _ (some 28) _ = _
      simp only [Act.put, List.setIfInBounds_toArray, List.set_cons_zero, List.set_cons_succ, i64_w, i32_w]
      rfl
     refine pureZ 8 (some 29) #[true, true, true, true, true, true, true, true, true, false, false, false] ?_;refine pureZ 9 (some 30) #[true, true, true, true, true, true, true, true, true, true, false, false] ?_;refine one_ (i := 10) (N := none) #[true, true, true, true, true, true, true, true, true, true, true, false] rfl rfl (one_of HT_.out (by kernel_rfl)) (by decide) (fun K hK => ?_);have hs33 : w32.cell? ⟨gb502, 0, none⟩ = some (.string (⟨#[]⟩ : ByteArray)) := (blk_cell BK502.out 0).trans rfl;have hfs33 := blk_frozen BK502.out 0;have hs35 : w32.cell? ⟨gb502, 1, none⟩ = some (.slice none 0 0) := (blk_cell BK502.out 1).trans rfl;have hfs35 := blk_frozen BK502.out 1;have hs36 : w32.cell? ⟨gb502, 2, none⟩ = some (.bool false) := (blk_cell BK502.out 2).trans rfl;have hfs36 := blk_frozen BK502.out 2;have hs37 : w32.cell? ⟨gb502, 3, none⟩ = some (.string (⟨#[]⟩ : ByteArray)) := (blk_cell BK502.out 3).trans rfl;have hfs37 := blk_frozen BK502.out 3;refine skip_ (w1 := ?_) (by rfl) rfl ?_ ?_;rotate_left
     ·go_simp
      rfl
     refine hK.out _ _ trivial (fun hHeld => ?_);clear hK K;refine pureZ 11 (some 3) #[true, true, true, true, true, true, true, true, true, true, true, true] ?_;refine done_ (done_of HT_.out (by kernel_rfl)) ?_;try go_wp2
     refine bodyPost_ret (results_ct rfl _ _ gb502 52 #[.string t515, .slice Ao34 t516.length co34, .bool t519, .string t520] (0, 0) _ rfl (zz37 BK502) Tryz.underlying52 rfl (by kernel_rfl)) rfl ?_;exact ⟨_, zz1, (zz46 (rt HO518 BK502)), (zz2 HB GE502)⟩
    ·rw [if_neg c23] at H
     exact absurd H (by simp)
   ·rw [if_neg c22] at H
    exact absurd H (by simp)
 ·replace c3 := Bool.eq_false_iff.mpr c3
  subst c3;rw [if_neg (show ¬ (false = true) by decide)] at H;simp only [Option.some.injEq, Prod.mk.injEq] at H
  obtain ⟨rfl, rfl, rfl, rfl, rfl⟩ := H;go_enter Tryz.func55, Tryz.ntmps55;go_wp2_with (first | ((with_reducible refine gate_dst (N := 2) rfl ?_); refine boxE 2 #[.string (⟨#[]⟩ : ByteArray), .slice none 0 0, .bool false, .string (⟨#[]⟩ : ByteArray)] 52 ?_; intro gb502 hg w38 hbox hb; have BK502 := Aside0.mk (hbox); have GE502 := geB hg (zz0 HB); replace HB := Aside0.mk (below_step (zz0 HB) hb); clear hb hbox hg) | ((with_reducible refine gate_callee (f := 67) rfl ?_); refine goesL_ (some 9) rfl rfl Tryz.func67 (by kernel_rfl) rfl #[.string a0, .string (⟨#[47, 47]⟩ : ByteArray)] rfl zz147 ?_; (with_reducible refine (strings_CutPrefix.calls a0 (⟨#[47, 47]⟩ : ByteArray) t503 false _ A2.out).mono ?_); rintro e w' ⟨rfl, ⟨nd, rfl⟩⟩; refine ⟨_, rfl, ?_⟩; (try (rw [drewN_self w38]; generalize hq_ : World.drewN w38 _ = w38; have n0_ : Aside0 (w38.heap[gb502]? = some (.cells #[.string (⟨#[]⟩ : ByteArray), .slice none 0 0, .bool false, .string (⟨#[]⟩ : ByteArray)] 52 (0, 0))) := ⟨(by rw [← hq_]; exact (zz21 BK502))⟩; have n1_ : Aside0 (Below w.heap.size w w38) := ⟨zz149⟩; clear BK502 HB hq_; have BK502 := n0_; have HB := n1_; clear n0_ n1_)); obtain ⟨_, _, _, _, _, _, _, _⟩ := cf4 BK502))
  refine bodyPost_ret (results_ct rfl _ _ gb502 52 #[.string (⟨#[]⟩ : ByteArray), .slice none 0 0, .bool false, .string (⟨#[]⟩ : ByteArray)] (0, 0) _ rfl (zz37 BK502) Tryz.underlying52 rfl (by kernel_rfl)) rfl ?_;exact ⟨_, zz1, zz38, (zz2 HB GE502)⟩
def impl_AddrRead.f (k : Nat) (a0 : ByteArray) : Option (ByteArray × List ByteArray × Bool × ByteArray × Bool) := if (a0.size : Int) > 60 then (some ((⟨#[]⟩ : ByteArray), ([] : List ByteArray), false, (⟨#[]⟩ : ByteArray), false)) else ((strings_Cut.f a0 (⟨#[35]⟩ : ByteArray)).bind fun bt523 => ((impl_readWhole.f k bt523.1).bind fun bt526 => (some (bt526.1, bt526.2.1, bt526.2.2.1, bt526.2.2.2.1, bt526.2.2.2.2))))
theorem impl_AddrRead.mono : ∀ a0 k, LeO (impl_AddrRead.f k a0) (impl_AddrRead.f (k + 1) a0) := by
 intro a0 k;unfold impl_AddrRead.f
 repeat' first | (with_reducible first | exact impl_readWhole.mono _ _ | exact LeO.refl _ | exact LeO.none _ | refine LeO.ite ?_ ?_ | refine LeO.bind ?_ (fun _ => ?_)) | exact LeO.none _ | refine LeO.ite ?_ ?_ | refine LeO.bind ?_ (fun _ => ?_)
set_option maxHeartbeats 8000000 in
set_option maxRecDepth 100000 in
theorem impl_AddrRead.calls (k : Nat) (a0 : ByteArray) (r1 : ByteArray) (r2 : List ByteArray) (r3 : Bool) (r4 : ByteArray) (r5 : Bool) (w : World) (h : impl_AddrRead.f k a0 = some (r1, r2, r3, r4, r5)) :
  Calls Tryz.prog 42 #[.string a0] w fun e w' => ∃ v1_ : Value, e = .returned (.tuple #[.agg #[.string r1, v1_, .bool r3, .string r4], .bool r5]) ∧ Kd.R Kd.string 9 w' w.heap.size (fun _ => True) v1_ r2 ∧ Below w.heap.size w w' := by
 have hu52 := Tryz.underlying52;have HB := Aside0.mk (Below.refl w.heap.size w);have H : (if (a0.size : Int) > 60 then (some ((⟨#[]⟩ : ByteArray), ([] : List ByteArray), false, (⟨#[]⟩ : ByteArray), false)) else ((strings_Cut.f a0 (⟨#[35]⟩ : ByteArray)).bind fun bt523 => ((impl_readWhole.f k bt523.1).bind fun bt526 => (some (bt526.1, bt526.2.1, bt526.2.2.1, bt526.2.2.2.1, bt526.2.2.2.2))))) = some (r1, r2, r3, r4, r5) := h;clear h;by_cases c2 : (a0.size : Int) > 60
 ·rw [if_pos c2] at H
  have c2b0 : decide (60 < (a0.size : Int)) = true := decide_eq_true c2;have c2b1 : decide (60 < a0.size) = true := decide_eq_true (by omega);clear c2;simp only [Option.some.injEq, Prod.mk.injEq] at H
  obtain ⟨rfl, rfl, rfl, rfl, rfl⟩ := H;go_enter Tryz.func42, Tryz.ntmps42;go_wp2_with (first | ((with_reducible refine gate_dst (N := 2) rfl ?_); refine boxE 2 #[.string (⟨#[]⟩ : ByteArray), .slice none 0 0, .bool false, .string (⟨#[]⟩ : ByteArray)] 52 ?_; intro gb522 hg w3 hbox hb; have BK522 := Aside0.mk (hbox); have GE522 := geB hg (zz0 HB); replace HB := Aside0.mk (below_step (zz0 HB) hb); clear hb hbox hg; obtain ⟨_, _, _, _, _, _, _, _⟩ := cf4 BK522))
  refine bodyPost_ret (results_ct rfl _ _ gb522 52 #[.string (⟨#[]⟩ : ByteArray), .slice none 0 0, .bool false, .string (⟨#[]⟩ : ByteArray)] (0, 0) _ rfl (zz37 BK522) Tryz.underlying52 rfl (by kernel_rfl)) rfl ?_;exact ⟨_, zz1, zz38, (zz2 HB GE522)⟩
 ·rw [if_neg c2] at H
  have c2b0 : decide (60 < (a0.size : Int)) = false := decide_eq_false c2;have c2b1 : decide (60 < a0.size) = false := decide_eq_false (by omega);clear c2;replace H := bindA H;obtain ⟨⟨t523, t524, t525⟩, A5, H⟩ := H;try dsimp -simprocs only at H
  replace H := bindA H;obtain ⟨⟨t526, t527, t530, t531, t532⟩, A6, H⟩ := H;try dsimp -simprocs only at H
  simp only [Option.some.injEq, Prod.mk.injEq] at H
  obtain ⟨rfl, rfl, rfl, rfl, rfl⟩ := H;go_enter Tryz.func42, Tryz.ntmps42;go_wp2_with (first | ((with_reducible refine gate_dst (N := 2) rfl ?_); refine boxE 2 #[.string (⟨#[]⟩ : ByteArray), .slice none 0 0, .bool false, .string (⟨#[]⟩ : ByteArray)] 52 ?_; intro gb522 hg w7 hbox hb; have BK522 := Aside0.mk (hbox); have GE522 := geB hg (zz0 HB); replace HB := Aside0.mk (below_step (zz0 HB) hb); clear hb hbox hg) | ((with_reducible refine gate_callee (f := 54) rfl ?_); refine gsL (some 13) Tryz.func54 #[.string a0, .string (⟨#[35]⟩ : ByteArray)] ?_; (with_reducible refine (strings_Cut.calls a0 (⟨#[35]⟩ : ByteArray) t523 t524 t525 _ A5.out).mono ?_); rintro e w8 ⟨rfl, hb⟩; refine ⟨_, rfl, ?_⟩; replace BK522 := Aside0.mk (blk_below (zz21 BK522) hb); replace HB := Aside0.mk (below_step (zz2 HB GE522) hb); (try clear hb)) | ((with_reducible refine gate_callee (f := 55) rfl ?_); refine gsL (some 18) Tryz.func55 #[.string t523] ?_; (with_reducible refine (impl_readWhole.calls k t523 t526 t527 t530 t531 t532 _ A6.out).mono ?_); rintro e w9 ⟨v528, rfl, ho0, hb⟩; refine ⟨_, rfl, ?_⟩; have HO529 := Aside0.mk (Kd.R_lower ho0 (below_size (zz2 HB GE522))); replace BK522 := Aside0.mk (blk_below (zz21 BK522) hb); replace HB := Aside0.mk (below_step (zz2 HB GE522) hb); (try clear hb ho0); obtain ⟨_, _, _, _, _, _, _, _⟩ := cf4 BK522; obtain ⟨Ao11, co11, eo11⟩ := Kd.R_slice HO529.out; subst eo11))
  refine bodyPost_ret (results_ct rfl _ _ gb522 52 #[.string t526, .slice Ao11 t527.length co11, .bool t530, .string t531] (0, 0) _ rfl (zz37 BK522) Tryz.underlying52 rfl (by kernel_rfl)) rfl ?_;exact ⟨_, zz1, (zz46 (rt HO529 BK522)), (zz2 HB GE522)⟩
def impl_readAddress.f (k : Nat) (a0 : ByteArray) : Option (ByteArray × List ByteArray × Bool × ByteArray × Bool) := (impl_AddrRead.f k a0).bind fun bt534 => (if bt534.2.2.2.2 = true then ((impl_writeAddr.f bt534.1 bt534.2.1 bt534.2.2.1 bt534.2.2.2.1).bind fun t542 => (if t542.toList = a0.toList then (some (bt534.1, bt534.2.1, bt534.2.2.1, bt534.2.2.2.1, true)) else (some ((⟨#[]⟩ : ByteArray), ([] : List ByteArray), false, (⟨#[]⟩ : ByteArray), false)))) else (some ((⟨#[]⟩ : ByteArray), ([] : List ByteArray), false, (⟨#[]⟩ : ByteArray), false)))
theorem impl_readAddress.mono : ∀ a0 k, LeO (impl_readAddress.f k a0) (impl_readAddress.f (k + 1) a0) := by
 intro a0 k;unfold impl_readAddress.f
 repeat' first | (with_reducible first | exact impl_AddrRead.mono _ _ | exact LeO.refl _ | exact LeO.none _ | refine LeO.ite ?_ ?_ | refine LeO.bind ?_ (fun _ => ?_)) | exact LeO.none _ | refine LeO.ite ?_ ?_ | refine LeO.bind ?_ (fun _ => ?_)
set_option maxHeartbeats 8000000 in
set_option maxRecDepth 100000 in
theorem impl_readAddress.calls (k : Nat) (a0 : ByteArray) (r1 : ByteArray) (r2 : List ByteArray) (r3 : Bool) (r4 : ByteArray) (r5 : Bool) (w : World) (h : impl_readAddress.f k a0 = some (r1, r2, r3, r4, r5)) :
  Calls Tryz.prog 29 #[.string a0] w fun e w' => ∃ v1_ : Value, e = .returned (.tuple #[.agg #[.string r1, v1_, .bool r3, .string r4], .bool r5]) ∧ Kd.R Kd.string 9 w' w.heap.size (fun _ => True) v1_ r2 ∧ Below w.heap.size w w' := by
 have hu52 := Tryz.underlying52;have HB := Aside0.mk (Below.refl w.heap.size w);have H : ((impl_AddrRead.f k a0).bind fun bt534 => (if bt534.2.2.2.2 = true then ((impl_writeAddr.f bt534.1 bt534.2.1 bt534.2.2.1 bt534.2.2.2.1).bind fun t542 => (if t542.toList = a0.toList then (some (bt534.1, bt534.2.1, bt534.2.2.1, bt534.2.2.2.1, true)) else (some ((⟨#[]⟩ : ByteArray), ([] : List ByteArray), false, (⟨#[]⟩ : ByteArray), false)))) else (some ((⟨#[]⟩ : ByteArray), ([] : List ByteArray), false, (⟨#[]⟩ : ByteArray), false)))) = some (r1, r2, r3, r4, r5) := h;clear h;replace H := bindA H;obtain ⟨⟨t534, t535, t538, t539, t540⟩, A2, H⟩ := H;try dsimp -simprocs only at H
 by_cases c3 : t540 = true
 ·subst c3
  rw [if_pos rfl] at H;replace H := bindA H;obtain ⟨t542, A4, H⟩ := H;by_cases c5 : t542.toList = a0.toList
  ·rw [if_pos c5] at H
   have c5b0 : (t542.toList == a0.toList) = true := beq_iff_eq.mpr c5;have c5b1 : (t542.toList != a0.toList) = false := bne_eq_false_iff_eq.mpr c5;clear c5;simp only [Option.some.injEq, Prod.mk.injEq] at H
   obtain ⟨rfl, rfl, rfl, rfl, rfl⟩ := H;go_enter Tryz.func29, Tryz.ntmps29;go_wp2_with (first | ((with_reducible refine gate_dst (N := 2) rfl ?_); refine boxE 2 #[.string (⟨#[]⟩ : ByteArray), .slice none 0 0, .bool false, .string (⟨#[]⟩ : ByteArray)] 52 ?_; intro gb533 hg w6 hbox hb; have BK533 := Aside0.mk (hbox); have GE533 := geB hg (zz0 HB); replace HB := Aside0.mk (below_step (zz0 HB) hb); clear hb hbox hg) | ((with_reducible refine gate_callee (f := 42) rfl ?_); refine gsL (some 8) Tryz.func42 #[.string a0] ?_; (with_reducible refine (impl_AddrRead.calls k a0 t534 t535 t538 t539 true _ A2.out).mono ?_); rintro e w7 ⟨v536, rfl, ho0, hb⟩; refine ⟨_, rfl, ?_⟩; have HO537 := Aside0.mk (Kd.R_lower ho0 (below_size (zz2 HB GE533))); replace BK533 := Aside0.mk (blk_below (zz21 BK533) hb); replace HB := Aside0.mk (below_step (zz2 HB GE533) hb); (try clear hb ho0)) | ((with_reducible refine gate_dst (N := 4) rfl ?_); refine boxE 4 #[.string (⟨#[]⟩ : ByteArray), .slice none 0 0, .bool false, .string (⟨#[]⟩ : ByteArray)] 52 ?_; intro gb541 hg w8 hbox hb; replace HO537 := Aside0.mk (Kd.R_below (zz28 HO537) hb); have BK541 := Aside0.mk (hbox); have GE541 := geB hg (zz2 HB GE533); replace HB := Aside0.mk (below_step (zz2 HB GE533) hb); have NB533_541 := Aside0.mk ((by rw [hg]; exact Nat.ne_of_lt (blk_lt (zz21 BK533)) : gb533 ≠ gb541)); have NB541_533 := Aside0.mk ((by rw [hg]; exact Nat.ne_of_gt (blk_lt (zz21 BK533)) : gb541 ≠ gb533)); replace BK533 := Aside0.mk (blk_below (zz21 BK533) hb); clear hb hbox hg; have hnb9 := NB541_533.out; have hnc9 := NB533_541.out; obtain ⟨_, _, _, _, _, _, _, _⟩ := cf4 BK541; obtain ⟨Ao11, co11, eo11⟩ := Kd.R_slice HO537.out; subst eo11) | (go_at_call 43; (with_reducible refine (impl_writeAddr.calls t534 _ _ t535 t538 t539 t542 _ ?side1 ?side2 A4.out).mono ?_); (case side1 => exact (by refine (Kd.R_reads' (e := 9) (base := w.heap.size) (ok := fun k_ => True) (n := t535.length) (c := co11) ?_).2.2; exact (zz150 HO537 BK541))); (case side2 => exact (Kd.R_reads' HO537.out).2.1); rintro e w12 ⟨rfl, hb⟩; replace HO537 := Aside0.mk (Kd.R_below (zz150 HO537 BK541) hb); replace BK533 := Aside0.mk (blk_below (g := gb533) (o := .cells #[.string (⟨#[]⟩ : ByteArray), .slice none 0 0, .bool false, .string (⟨#[]⟩ : ByteArray)] 52 (0, 0)) (zz45 BK533 NB533_541) hb); replace BK541 := Aside0.mk (blk_below (g := gb541) (o := .cells #[.string t534, .slice Ao11 t535.length co11, .bool t538, .string t539] 52 (0, 0)) (zz37 BK541) hb); replace HB := Aside0.mk (below_step (zz33 HB GE533 GE541) hb); (try clear hb); obtain ⟨_, _, _, _, _, _, _, _⟩ := cf4 BK541; obtain ⟨_, _, _, _, _, _, _, _⟩ := cf4 BK533))
   refine bodyPost_ret (results_ct rfl _ _ gb533 52 #[.string t534, .slice Ao11 t535.length co11, .bool t538, .string t539] (0, 0) _ rfl (zz37 BK533) Tryz.underlying52 rfl (by kernel_rfl)) rfl ?_;exact ⟨_, zz1, (zz46 (rt HO537 BK533)), (zz33 HB GE533 GE541)⟩
  ·rw [if_neg c5] at H
   have c5b0 : (t542.toList == a0.toList) = false := beq_eq_false_iff_ne.mpr c5;have c5b1 : (t542.toList != a0.toList) = true := bne_iff_ne.mpr c5;simp only [Option.some.injEq, Prod.mk.injEq] at H
   obtain ⟨rfl, rfl, rfl, rfl, rfl⟩ := H;go_enter Tryz.func29, Tryz.ntmps29;go_wp2_with (first | ((with_reducible refine gate_dst (N := 2) rfl ?_); refine boxE 2 #[.string (⟨#[]⟩ : ByteArray), .slice none 0 0, .bool false, .string (⟨#[]⟩ : ByteArray)] 52 ?_; intro gb533 hg w15 hbox hb; have BK533 := Aside0.mk (hbox); have GE533 := geB hg (zz0 HB); replace HB := Aside0.mk (below_step (zz0 HB) hb); clear hb hbox hg) | ((with_reducible refine gate_callee (f := 42) rfl ?_); refine gsL (some 8) Tryz.func42 #[.string a0] ?_; (with_reducible refine (impl_AddrRead.calls k a0 t534 t535 t538 t539 true _ A2.out).mono ?_); rintro e w16 ⟨v536, rfl, ho0, hb⟩; refine ⟨_, rfl, ?_⟩; have HO537 := Aside0.mk (Kd.R_lower ho0 (below_size (zz2 HB GE533))); replace BK533 := Aside0.mk (blk_below (zz21 BK533) hb); replace HB := Aside0.mk (below_step (zz2 HB GE533) hb); (try clear hb ho0)) | ((with_reducible refine gate_dst (N := 4) rfl ?_); refine boxE 4 #[.string (⟨#[]⟩ : ByteArray), .slice none 0 0, .bool false, .string (⟨#[]⟩ : ByteArray)] 52 ?_; intro gb541 hg w17 hbox hb; replace HO537 := Aside0.mk (Kd.R_below (zz28 HO537) hb); have BK541 := Aside0.mk (hbox); have GE541 := geB hg (zz2 HB GE533); replace HB := Aside0.mk (below_step (zz2 HB GE533) hb); have NB533_541 := Aside0.mk ((by rw [hg]; exact Nat.ne_of_lt (blk_lt (zz21 BK533)) : gb533 ≠ gb541)); have NB541_533 := Aside0.mk ((by rw [hg]; exact Nat.ne_of_gt (blk_lt (zz21 BK533)) : gb541 ≠ gb533)); replace BK533 := Aside0.mk (blk_below (zz21 BK533) hb); clear hb hbox hg; have hnb18 := NB541_533.out; have hnc18 := NB533_541.out; obtain ⟨_, _, _, _, _, _, _, _⟩ := cf4 BK541; obtain ⟨Ao20, co20, eo20⟩ := Kd.R_slice HO537.out; subst eo20) | (go_at_call 43; (with_reducible refine (impl_writeAddr.calls t534 _ _ t535 t538 t539 t542 _ ?side1 ?side2 A4.out).mono ?_); (case side1 => exact (by refine (Kd.R_reads' (e := 9) (base := w.heap.size) (ok := fun k_ => True) (n := t535.length) (c := co20) ?_).2.2; exact (zz152 HO537 BK541))); (case side2 => exact (Kd.R_reads' HO537.out).2.1); rintro e w21 ⟨rfl, hb⟩; replace HO537 := Aside0.mk (Kd.R_below (zz152 HO537 BK541) hb); replace BK533 := Aside0.mk (blk_below (g := gb533) (o := .cells #[.string (⟨#[]⟩ : ByteArray), .slice none 0 0, .bool false, .string (⟨#[]⟩ : ByteArray)] 52 (0, 0)) (zz45 BK533 NB533_541) hb); replace BK541 := Aside0.mk (blk_below (g := gb541) (o := .cells #[.string t534, .slice Ao20 t535.length co20, .bool t538, .string t539] 52 (0, 0)) (zz37 BK541) hb); replace HB := Aside0.mk (below_step (zz33 HB GE533 GE541) hb); (try clear hb); obtain ⟨_, _, _, _, _, _, _, _⟩ := cf4 BK533))
   refine bodyPost_ret (results_ct rfl _ _ gb533 52 #[.string (⟨#[]⟩ : ByteArray), .slice none 0 0, .bool false, .string (⟨#[]⟩ : ByteArray)] (0, 0) _ rfl (zz37 BK533) Tryz.underlying52 rfl (by kernel_rfl)) rfl ?_;exact ⟨_, zz1, zz38, (zz33 HB GE533 GE541)⟩
 ·replace c3 := Bool.eq_false_iff.mpr c3
  subst c3;rw [if_neg (show ¬ (false = true) by decide)] at H;simp only [Option.some.injEq, Prod.mk.injEq] at H
  obtain ⟨rfl, rfl, rfl, rfl, rfl⟩ := H;go_enter Tryz.func29, Tryz.ntmps29;go_wp2_with (first | ((with_reducible refine gate_dst (N := 2) rfl ?_); refine boxE 2 #[.string (⟨#[]⟩ : ByteArray), .slice none 0 0, .bool false, .string (⟨#[]⟩ : ByteArray)] 52 ?_; intro gb533 hg w23 hbox hb; have BK533 := Aside0.mk (hbox); have GE533 := geB hg (zz0 HB); replace HB := Aside0.mk (below_step (zz0 HB) hb); clear hb hbox hg) | ((with_reducible refine gate_callee (f := 42) rfl ?_); refine gsL (some 8) Tryz.func42 #[.string a0] ?_; (with_reducible refine (impl_AddrRead.calls k a0 t534 t535 t538 t539 false _ A2.out).mono ?_); rintro e w24 ⟨v536, rfl, ho0, hb⟩; refine ⟨_, rfl, ?_⟩; have HO537 := Aside0.mk (Kd.R_lower ho0 (below_size (zz2 HB GE533))); replace BK533 := Aside0.mk (blk_below (zz21 BK533) hb); replace HB := Aside0.mk (below_step (zz2 HB GE533) hb); (try clear hb ho0)) | ((with_reducible refine gate_dst (N := 4) rfl ?_); refine boxE 4 #[.string (⟨#[]⟩ : ByteArray), .slice none 0 0, .bool false, .string (⟨#[]⟩ : ByteArray)] 52 ?_; intro gb541 hg w25 hbox hb; replace HO537 := Aside0.mk (Kd.R_below (zz28 HO537) hb); have BK541 := Aside0.mk (hbox); have GE541 := geB hg (zz2 HB GE533); replace HB := Aside0.mk (below_step (zz2 HB GE533) hb); have NB533_541 := Aside0.mk ((by rw [hg]; exact Nat.ne_of_lt (blk_lt (zz21 BK533)) : gb533 ≠ gb541)); have NB541_533 := Aside0.mk ((by rw [hg]; exact Nat.ne_of_gt (blk_lt (zz21 BK533)) : gb541 ≠ gb533)); replace BK533 := Aside0.mk (blk_below (zz21 BK533) hb); clear hb hbox hg; have hnb26 := NB541_533.out; have hnc26 := NB533_541.out; obtain ⟨_, _, _, _, _, _, _, _⟩ := cf4 BK541; obtain ⟨Ao28, co28, eo28⟩ := Kd.R_slice HO537.out; subst eo28; obtain ⟨_, _, _, _, _, _, _, _⟩ := cf4 BK533))
  refine bodyPost_ret (results_ct rfl _ _ gb533 52 #[.string (⟨#[]⟩ : ByteArray), .slice none 0 0, .bool false, .string (⟨#[]⟩ : ByteArray)] (0, 0) _ rfl (zz45 BK533 NB533_541) Tryz.underlying52 rfl (by kernel_rfl)) rfl ?_;exact ⟨_, zz1, zz38, (zz33 HB GE533 GE541)⟩
def impl_isAddress.f (k : Nat) (a0 : ByteArray) : Option (Bool) := (impl_readAddress.f k a0).bind fun bt543 => (some bt543.2.2.2.2)
theorem impl_isAddress.mono : ∀ a0 k, LeO (impl_isAddress.f k a0) (impl_isAddress.f (k + 1) a0) := by
 intro a0 k;unfold impl_isAddress.f
 repeat' first | (with_reducible first | exact impl_readAddress.mono _ _ | exact LeO.refl _ | exact LeO.none _ | refine LeO.ite ?_ ?_ | refine LeO.bind ?_ (fun _ => ?_)) | exact LeO.none _ | refine LeO.ite ?_ ?_ | refine LeO.bind ?_ (fun _ => ?_)
set_option maxHeartbeats 8000000 in
set_option maxRecDepth 100000 in
theorem impl_isAddress.calls (k : Nat) (a0 : ByteArray) (r : Bool) (w : World) (h : impl_isAddress.f k a0 = some r) :
  Calls Tryz.prog 41 #[.string a0] w fun e w' => e = .returned (.bool r) ∧ Below w.heap.size w w' := by
 have hu52 := Tryz.underlying52;have HB := Aside0.mk (Below.refl w.heap.size w);have H : ((impl_readAddress.f k a0).bind fun bt543 => (some bt543.2.2.2.2)) = some r := h;clear h;replace H := bindA H;obtain ⟨⟨t543, t544, t547, t548, t549⟩, A2, H⟩ := H;try dsimp -simprocs only at H
 obtain rfl := Option.some.inj H;go_enter Tryz.func41, Tryz.ntmps41;go_wp2_with (first | ((with_reducible refine gate_callee (f := 29) rfl ?_); refine gsL (some 7) Tryz.func29 #[.string a0] ?_; (with_reducible refine (impl_readAddress.calls k a0 t543 t544 t547 t548 t549 _ A2.out).mono ?_); rintro e w3 ⟨v545, rfl, ho0, hb⟩; refine ⟨_, rfl, ?_⟩; have HO546 := Aside0.mk (Kd.R_lower ho0 (below_size (zz0 HB))); replace HB := Aside0.mk (below_step (zz0 HB) hb); (try clear hb ho0)) | ((with_reducible refine gate_dst (N := 3) rfl ?_); refine boxE 3 #[.string (⟨#[]⟩ : ByteArray), .slice none 0 0, .bool false, .string (⟨#[]⟩ : ByteArray)] 52 ?_; intro gb550 hg w4 hbox hb; replace HO546 := Aside0.mk (Kd.R_below (zz28 HO546) hb); have BK550 := Aside0.mk (hbox); have GE550 := geB hg (zz0 HB); replace HB := Aside0.mk (below_step (zz0 HB) hb); clear hb hbox hg; obtain ⟨_, _, _, _, _, _, _, _⟩ := cf4 BK550; obtain ⟨Ao6, co6, eo6⟩ := Kd.R_slice HO546.out; subst eo6))
 go_ret
 exact ⟨zz1, (zz2 HB GE550)⟩
def impl_pageOk.f (k : Nat) (a0_0 : ByteArray) (a0_1 : ByteArray) (a0_2 : ByteArray) (a0_3 : Int) : Option (Bool) := (impl_isAddress.f k a0_0).bind fun t552 => (if t552 = true then (if (a0_1.size : Int) > 300 then (some false) else (if a0_3 < 0 then (some false) else (if a0_3 > 9 then (some false) else (if a0_2.toList = ([] : List UInt8) then (some true) else ((impl_isAddress.f k a0_2).bind fun t553 => (if t553 = true then (some (a0_1.toList == ([] : List UInt8))) else (some false))))))) else (some false))
theorem impl_pageOk.mono : ∀ a0 a1 a2 a3 k, LeO (impl_pageOk.f k a0 a1 a2 a3) (impl_pageOk.f (k + 1) a0 a1 a2 a3) := by
 intro a0 a1 a2 a3 k;unfold impl_pageOk.f
 repeat' first | (with_reducible first | exact impl_isAddress.mono _ _ | exact LeO.refl _ | exact LeO.none _ | refine LeO.ite ?_ ?_ | refine LeO.bind ?_ (fun _ => ?_)) | exact LeO.none _ | refine LeO.ite ?_ ?_ | refine LeO.bind ?_ (fun _ => ?_)
set_option maxHeartbeats 8000000 in
set_option maxRecDepth 100000 in
theorem impl_pageOk.calls (k : Nat) (a0_0 : ByteArray) (a0_1 : ByteArray) (a0_2 : ByteArray) (a0_3 : Int) (r : Bool) (w : World) (h : impl_pageOk.f k a0_0 a0_1 a0_2 a0_3 = some r) :
  Calls Tryz.prog 28 #[.agg #[.string a0_0, .string a0_1, .string a0_2, .int .i64 a0_3]] w fun e w' => e = .returned (.bool r) ∧ Below w.heap.size w w' := by
 have hu41 := Tryz.underlying41;have HB := Aside0.mk (Below.refl w.heap.size w);have H : ((impl_isAddress.f k a0_0).bind fun t552 => (if t552 = true then (if (a0_1.size : Int) > 300 then (some false) else (if a0_3 < 0 then (some false) else (if a0_3 > 9 then (some false) else (if a0_2.toList = ([] : List UInt8) then (some true) else ((impl_isAddress.f k a0_2).bind fun t553 => (if t553 = true then (some (a0_1.toList == ([] : List UInt8))) else (some false))))))) else (some false))) = some r := h;clear h;replace H := bindA H;obtain ⟨t552, A2, H⟩ := H;by_cases c3 : t552 = true
 ·subst c3
  rw [if_pos rfl] at H;by_cases c4 : (a0_1.size : Int) > 300
  ·rw [if_pos c4] at H
   have c4b0 : decide (300 < (a0_1.size : Int)) = true := decide_eq_true c4;have c4b1 : decide (300 < a0_1.size) = true := decide_eq_true (by omega);clear c4;obtain rfl := Option.some.inj H;go_enter Tryz.func28, Tryz.ntmps28;go_wp2_with (first | ((with_reducible refine gate_dst (N := 1) rfl ?_); (try (refine gate_guard (by rfl) ?_; dsimp only)); refine boxE 1 #[.string a0_0, .string a0_1, .string a0_2, .int .i64 a0_3] 41 ?_; intro gb551 hg w5 hbox hb; have BK551 := Aside0.mk (hbox); have GE551 := geB hg (zz0 HB); replace HB := Aside0.mk (below_step (zz0 HB) hb); clear hb hbox hg; obtain ⟨_, _, _, _, _, _, _, _⟩ := cf4 BK551) | ((with_reducible refine gate_callee (f := 41) rfl ?_); refine gsL (some 5) Tryz.func41 #[.string a0_0] ?_; (with_reducible refine (impl_isAddress.calls k a0_0 true _ A2.out).mono ?_); rintro e w7 ⟨rfl, hb⟩; refine ⟨_, rfl, ?_⟩; replace BK551 := Aside0.mk (blk_below (zz21 BK551) hb); replace HB := Aside0.mk (below_step (zz2 HB GE551) hb); (try clear hb); obtain ⟨_, _, _, _, _, _, _, _⟩ := cf4 BK551))
   go_ret
   exact ⟨zz1, (zz2 HB GE551)⟩
  ·rw [if_neg c4] at H
   have c4b0 : decide (300 < (a0_1.size : Int)) = false := decide_eq_false c4;have c4b1 : decide (300 < a0_1.size) = false := decide_eq_false (by omega);clear c4;by_cases c9 : a0_3 < 0
   ·rw [if_pos c9] at H
    have c9b0 : decide (a0_3 < 0) = true := decide_eq_true c9;clear c9;obtain rfl := Option.some.inj H;go_enter Tryz.func28, Tryz.ntmps28;go_wp2_with (first | ((with_reducible refine gate_dst (N := 1) rfl ?_); (try (refine gate_guard (by rfl) ?_; dsimp only)); refine boxE 1 #[.string a0_0, .string a0_1, .string a0_2, .int .i64 a0_3] 41 ?_; intro gb551 hg w10 hbox hb; have BK551 := Aside0.mk (hbox); have GE551 := geB hg (zz0 HB); replace HB := Aside0.mk (below_step (zz0 HB) hb); clear hb hbox hg; obtain ⟨_, _, _, _, _, _, _, _⟩ := cf4 BK551) | ((with_reducible refine gate_callee (f := 41) rfl ?_); refine gsL (some 5) Tryz.func41 #[.string a0_0] ?_; (with_reducible refine (impl_isAddress.calls k a0_0 true _ A2.out).mono ?_); rintro e w12 ⟨rfl, hb⟩; refine ⟨_, rfl, ?_⟩; replace BK551 := Aside0.mk (blk_below (zz21 BK551) hb); replace HB := Aside0.mk (below_step (zz2 HB GE551) hb); (try clear hb); obtain ⟨_, _, _, _, _, _, _, _⟩ := cf4 BK551))
    go_ret
    exact ⟨zz1, (zz2 HB GE551)⟩
   ·rw [if_neg c9] at H
    have c9b0 : decide (a0_3 < 0) = false := decide_eq_false c9;clear c9;by_cases c14 : a0_3 > 9
    ·rw [if_pos c14] at H
     have c14b0 : decide (9 < a0_3) = true := decide_eq_true c14;clear c14;obtain rfl := Option.some.inj H;go_enter Tryz.func28, Tryz.ntmps28;go_wp2_with (first | ((with_reducible refine gate_dst (N := 1) rfl ?_); (try (refine gate_guard (by rfl) ?_; dsimp only)); refine boxE 1 #[.string a0_0, .string a0_1, .string a0_2, .int .i64 a0_3] 41 ?_; intro gb551 hg w15 hbox hb; have BK551 := Aside0.mk (hbox); have GE551 := geB hg (zz0 HB); replace HB := Aside0.mk (below_step (zz0 HB) hb); clear hb hbox hg; obtain ⟨_, _, _, _, _, _, _, _⟩ := cf4 BK551) | ((with_reducible refine gate_callee (f := 41) rfl ?_); refine gsL (some 5) Tryz.func41 #[.string a0_0] ?_; (with_reducible refine (impl_isAddress.calls k a0_0 true _ A2.out).mono ?_); rintro e w17 ⟨rfl, hb⟩; refine ⟨_, rfl, ?_⟩; replace BK551 := Aside0.mk (blk_below (zz21 BK551) hb); replace HB := Aside0.mk (below_step (zz2 HB GE551) hb); (try clear hb); obtain ⟨_, _, _, _, _, _, _, _⟩ := cf4 BK551))
     go_ret
     exact ⟨zz1, (zz2 HB GE551)⟩
    ·rw [if_neg c14] at H
     have c14b0 : decide (9 < a0_3) = false := decide_eq_false c14;clear c14;by_cases c19 : a0_2.toList = ([] : List UInt8)
     ·rw [if_pos c19] at H
      have c19b0 : (a0_2.toList == ([] : List UInt8)) = true := beq_iff_eq.mpr c19;have c19b1 : (a0_2.toList != ([] : List UInt8)) = false := bne_eq_false_iff_eq.mpr c19;clear c19;obtain rfl := Option.some.inj H;go_enter Tryz.func28, Tryz.ntmps28;go_wp2_with (first | ((with_reducible refine gate_dst (N := 1) rfl ?_); (try (refine gate_guard (by rfl) ?_; dsimp only)); refine boxE 1 #[.string a0_0, .string a0_1, .string a0_2, .int .i64 a0_3] 41 ?_; intro gb551 hg w20 hbox hb; have BK551 := Aside0.mk (hbox); have GE551 := geB hg (zz0 HB); replace HB := Aside0.mk (below_step (zz0 HB) hb); clear hb hbox hg; obtain ⟨_, _, _, _, _, _, _, _⟩ := cf4 BK551) | ((with_reducible refine gate_callee (f := 41) rfl ?_); refine gsL (some 5) Tryz.func41 #[.string a0_0] ?_; (with_reducible refine (impl_isAddress.calls k a0_0 true _ A2.out).mono ?_); rintro e w22 ⟨rfl, hb⟩; refine ⟨_, rfl, ?_⟩; replace BK551 := Aside0.mk (blk_below (zz21 BK551) hb); replace HB := Aside0.mk (below_step (zz2 HB GE551) hb); (try clear hb); obtain ⟨_, _, _, _, _, _, _, _⟩ := cf4 BK551))
      go_ret
      exact ⟨zz1, (zz2 HB GE551)⟩
     ·rw [if_neg c19] at H
      have c19b0 : (a0_2.toList == ([] : List UInt8)) = false := beq_eq_false_iff_ne.mpr c19;have c19b1 : (a0_2.toList != ([] : List UInt8)) = true := bne_iff_ne.mpr c19;replace H := bindA H;obtain ⟨t553, A24, H⟩ := H;by_cases c25 : t553 = true
      ·subst c25
       rw [if_pos rfl] at H;obtain rfl := Option.some.inj H;go_enter Tryz.func28, Tryz.ntmps28;go_wp2_with (first | ((with_reducible refine gate_dst (N := 1) rfl ?_); (try (refine gate_guard (by rfl) ?_; dsimp only)); refine boxE 1 #[.string a0_0, .string a0_1, .string a0_2, .int .i64 a0_3] 41 ?_; intro gb551 hg w26 hbox hb; have BK551 := Aside0.mk (hbox); have GE551 := geB hg (zz0 HB); replace HB := Aside0.mk (below_step (zz0 HB) hb); clear hb hbox hg; obtain ⟨_, _, _, _, _, _, _, _⟩ := cf4 BK551) | ((with_reducible refine gate_callee (f := 41) rfl ?_); refine gsL (some 5) Tryz.func41 #[.string a0_0] ?_; (with_reducible refine (impl_isAddress.calls k a0_0 true _ A2.out).mono ?_); rintro e w28 ⟨rfl, hb⟩; refine ⟨_, rfl, ?_⟩; replace BK551 := Aside0.mk (blk_below (zz21 BK551) hb); replace HB := Aside0.mk (below_step (zz2 HB GE551) hb); (try clear hb); obtain ⟨_, _, _, _, _, _, _, _⟩ := cf4 BK551) | (go_at_call 41; (with_reducible refine (impl_isAddress.calls k a0_2 true _ A24.out).mono ?_); rintro e w30 ⟨rfl, hb⟩; replace BK551 := Aside0.mk (blk_below (zz21 BK551) hb); replace HB := Aside0.mk (below_step (zz2 HB GE551) hb); (try clear hb); obtain ⟨_, _, _, _, _, _, _, _⟩ := cf4 BK551))
       go_ret
       exact ⟨zz1, (zz2 HB GE551)⟩
      ·replace c25 := Bool.eq_false_iff.mpr c25
       subst c25;rw [if_neg (show ¬ (false = true) by decide)] at H;obtain rfl := Option.some.inj H;go_enter Tryz.func28, Tryz.ntmps28;go_wp2_with (first | ((with_reducible refine gate_dst (N := 1) rfl ?_); (try (refine gate_guard (by rfl) ?_; dsimp only)); refine boxE 1 #[.string a0_0, .string a0_1, .string a0_2, .int .i64 a0_3] 41 ?_; intro gb551 hg w32 hbox hb; have BK551 := Aside0.mk (hbox); have GE551 := geB hg (zz0 HB); replace HB := Aside0.mk (below_step (zz0 HB) hb); clear hb hbox hg; obtain ⟨_, _, _, _, _, _, _, _⟩ := cf4 BK551) | ((with_reducible refine gate_callee (f := 41) rfl ?_); refine gsL (some 5) Tryz.func41 #[.string a0_0] ?_; (with_reducible refine (impl_isAddress.calls k a0_0 true _ A2.out).mono ?_); rintro e w34 ⟨rfl, hb⟩; refine ⟨_, rfl, ?_⟩; replace BK551 := Aside0.mk (blk_below (zz21 BK551) hb); replace HB := Aside0.mk (below_step (zz2 HB GE551) hb); (try clear hb); obtain ⟨_, _, _, _, _, _, _, _⟩ := cf4 BK551) | (go_at_call 41; (with_reducible refine (impl_isAddress.calls k a0_2 false _ A24.out).mono ?_); rintro e w36 ⟨rfl, hb⟩; replace BK551 := Aside0.mk (blk_below (zz21 BK551) hb); replace HB := Aside0.mk (below_step (zz2 HB GE551) hb); (try clear hb)))
       go_ret
       exact ⟨zz1, (zz2 HB GE551)⟩
 ·replace c3 := Bool.eq_false_iff.mpr c3
  subst c3;rw [if_neg (show ¬ (false = true) by decide)] at H;obtain rfl := Option.some.inj H;go_enter Tryz.func28, Tryz.ntmps28;go_wp2_with (first | ((with_reducible refine gate_dst (N := 1) rfl ?_); (try (refine gate_guard (by rfl) ?_; dsimp only)); refine boxE 1 #[.string a0_0, .string a0_1, .string a0_2, .int .i64 a0_3] 41 ?_; intro gb551 hg w37 hbox hb; have BK551 := Aside0.mk (hbox); have GE551 := geB hg (zz0 HB); replace HB := Aside0.mk (below_step (zz0 HB) hb); clear hb hbox hg; obtain ⟨_, _, _, _, _, _, _, _⟩ := cf4 BK551) | ((with_reducible refine gate_callee (f := 41) rfl ?_); refine gsL (some 5) Tryz.func41 #[.string a0_0] ?_; (with_reducible refine (impl_isAddress.calls k a0_0 false _ A2.out).mono ?_); rintro e w39 ⟨rfl, hb⟩; refine ⟨_, rfl, ?_⟩; replace BK551 := Aside0.mk (blk_below (zz21 BK551) hb); replace HB := Aside0.mk (below_step (zz2 HB GE551) hb); (try clear hb)))
  go_ret
  exact ⟨zz1, (zz2 HB GE551)⟩
end Go.Proofs.YtpnedbnpnekahaaGreatDoor.P
end
section
namespace Go.Proofs.YtpnedbnpnekahaaGreatDoor.P
open Go.RowKit Go.Proofs.YtpnedbnpnekahaaGreatDoorW.PrintWords Go.Proofs.YtpnedbnpnekahaaGreatDoorW.PrintLast Go.Proofs.YtpnedbnpnekahaaGreatDoorW.PrintMore Go.Maps Go.ChangeMaps
set_option linter.unusedVariables false
set_option linter.unusedSimpArgs false
def pageD (p : S41) : DataW Unit := .agg [.lit (.string p.f0.data.toList), .lit (.string p.f1.data.toList), .lit (.string p.f2.data.toList), .lit (.int .i64 p.f3)]
def pageV (p : S41) : Value := .agg #[.string p.f0, .string p.f1, .string p.f2, .int .i64 p.f3]
def pageR (v : Value) : Option (DataW Unit × List MemPlace) :=
 match v with
 | .agg ⟨[.string a, .string b, .string c, .int .i64 d]⟩ => some (pageD ⟨a, b, c, d⟩, [])
 | _ => none
theorem pageR_mk (p : S41) : pageR (pageV p) = some (pageD p, []) := rfl
theorem pageR_inv {v : Value} {z : DataW Unit × List MemPlace} (h : pageR v = some z) : ∃ p, v = pageV p ∧ z = (pageD p, []) := by
 unfold pageR at h
 split at h
 ·exact ⟨⟨_, _, _, _⟩, rfl, (Option.some.inj h).symm⟩
 ·cases h
theorem pageD_inj {p q : S41} (h : pageD p = pageD q) : p = q := by
 obtain ⟨⟨⟨p0⟩⟩, ⟨⟨p1⟩⟩, ⟨⟨p2⟩⟩, p3⟩ := p
 obtain ⟨⟨⟨q0⟩⟩, ⟨⟨q1⟩⟩, ⟨⟨q2⟩⟩, q3⟩ := q
 simp [pageD] at h
 obtain ⟨rfl, rfl, rfl, rfl⟩ := h
 rfl
def keyL (s : ByteArray) : Lit := .string s.data.toList
def mapR : List S41 → DataW Unit
 | [] => .map []
 | p :: r => (mapR r).put (keyL p.f0) (pageD p)
def mapD (l : List S41) : DataW Unit := mapR l.reverse
theorem mapD_snoc (l : List S41) (p : S41) : mapD (l ++ [p]) = (mapD l).put (keyL p.f0) (pageD p) := by simp [mapD, mapR]
theorem keyL_lit (a : ByteArray) : WideAt.IsKeyLit (keyL a) := trivial
theorem keyL_inj {a b : ByteArray} (h : keyL a = keyL b) : a = b := by
 obtain ⟨⟨a⟩⟩ := a
 obtain ⟨⟨b⟩⟩ := b
 simp [keyL] at h
 rw [h]
theorem mapR_is : ∀ l, IsMap (mapR l)
 | [] => isMap_empty
 | p :: r => (mapR_is r).put _ _
theorem mapR_tidy : ∀ l, Tidy (mapR l)
 | [] => tidy_empty
 | p :: r => (mapR_tidy r).put (keyL_lit _) _
def pageAtR (a : ByteArray) : List S41 → Option S41
 | [] => none
 | p :: r => if p.f0 = a then some p else pageAtR a r
theorem mapR_at (a : ByteArray) : ∀ l, (mapR l).atKey (keyL a) (pageD z41) = pageD ((pageAtR a l).getD z41)
 | [] => rfl
 | p :: r => by
  unfold mapR pageAtR
  by_cases h : p.f0 = a
  ·rw [if_pos h, ← h, atKey_put_same (mapR_is r) (keyL_lit _)]; rfl
  ·rw [if_neg h, atKey_put_other (fun e => h (keyL_inj e).symm)]
   exact mapR_at a r
theorem mapR_has (a : ByteArray) : ∀ l, has (mapR l) (keyL a) = (pageAtR a l).isSome
 | [] => rfl
 | p :: r => by
  unfold mapR pageAtR
  by_cases h : p.f0 = a
  ·rw [if_pos h, ← h, has_put_same (mapR_is r) (keyL_lit _)]; rfl
  ·rw [if_neg h, has_put_other (fun e => h (keyL_inj e).symm)]
   exact mapR_has a r
theorem mapR_size (p : S41) (r : List S41) : size (mapR (p :: r)) = if (pageAtR p.f0 r).isSome then size (mapR r) else size (mapR r) + 1 := by
 show size ((mapR r).put _ _) = _
 rw [size_put (mapR_tidy r), mapR_has]
def getF (l : List S41) (a : ByteArray) (t : Int) : Int × ByteArray :=
 match pageAtR a l.reverse with
 | none => (0, ⟨#[]⟩)
 | some p => if t < 0 then (0, ⟨#[]⟩) else if t < p.f3 then (3, ⟨#[]⟩) else if p.f2.toList = ([] : List UInt8) then (1, p.f1) else (2, p.f2)
def pagesOk (k : Nat) : List S41 → Option Bool
 | [] => some true
 | p :: r => if p.f0.size ≤ 9223372036854775807 then (impl_pageOk.f k p.f0 p.f1 p.f2 p.f3).bind fun t => if t = true then pagesOk k r else some false else none
theorem map_below {w w' : World} {P : Program} {k : TypeId} {R : Value → Option (DataW Unit × List MemPlace)} {b n : Nat} {D : DataW Unit} (h : w.ownsMap P k R b n D) (hb : Below w.heap.size w w') : w'.ownsMap P k R b n D := by
 have hlt := h.lt
 obtain ⟨es, clock, h1, F, h2, h3⟩ := h
 exact ⟨es, clock, (hb.block b hlt).trans h1, F, h2, h3⟩
theorem grown_below {w W W' : World} (h : Below w.heap.size w W) (g : W.grownBy W' (some w.heap.size)) : Below w.heap.size w W' :=
 ⟨g.os.trans h.os, g.tape.trans h.tape, g.output.trans h.output, Nat.le_trans h.size g.size, fun i hi => (g.block i (Nat.lt_of_lt_of_le hi h.size) (by intro e; injection e with e; omega)).trans (h.block i hi)⟩
abbrev Pages (w : World) (b n : Nat) (D : DataW Unit) : Prop := w.ownsMap Tryz.prog 9 pageR b n D
set_option maxHeartbeats 8000000 in
set_option maxRecDepth 100000 in
theorem worldOf_walk (k : Nat) (A0 : Option Addr) (c0 : Nat) (l0 : List S41) (r : Bool) (w : World) (hr0 : Kd.C k41 w A0 l0.length l0) (hc0 : l0.length ≤ c0) (h12 : l0.length ≤ 12) (h : pagesOk k l0 = some r) :
  Calls Tryz.prog 19 #[.slice A0 l0.length c0] w fun e w' => Below w.heap.size w w' ∧
   (r = false → e = .returned (.tuple #[.map none, .bool false])) ∧ (r = true → ∃ b, w.heap.size ≤ b ∧ Pages w' b l0.length (mapD l0) ∧ e = .returned (.tuple #[.map (some b), .bool ((Maps.size (mapD l0) : Int) == (l0.length : Int))])) := by
 have hu := Tryz.underlying41
 have hle : decide ((12 : Int) < (l0.length : Int)) = false := decide_eq_false (by omega)
 have hmm := @run_makeMap Tryz.prog
 have H0 := Aside0.mk h
 clear h
 go_enter Tryz.func19, Tryz.ntmps19
 go_wp2
 go_loopg [13] l0.length (fun g v wx => ∃ i : Nat, v = .int .i64 i ∧ i + g = l0.length ∧ Aside0 (pagesOk k (l0.drop i) = some r) ∧ Aside0 (Pages wx w.heap.size i (mapD (l0.take i))) ∧ Aside0 (Below w.heap.size w wx))
 case atStart => exact ⟨0, rfl, by omega, ⟨by simpa using H0.out⟩, ⟨by simpa [mapD, mapR] using World.ownsMap_made w Tryz.prog 9 pageR⟩, ⟨(Below.refl _ _).alloc (Nat.le_refl _) _⟩⟩
 case round =>
  clear H0 hmm
  obtain ⟨i, rfl, hig, H, HM, HB⟩ := hrel
  cases gk with
  | zero =>
   obtain rfl : i = l0.length := by omega
   have hr : r = true := by
    have := H.out
    rw [List.drop_length] at this
    exact (Option.some.inj this).symm
   subst hr
   have hlt : decide ((l0.length : Int) < (l0.length : Int)) = false := decide_eq_false (by omega)
   have hlen := fun ty => HM.out.len Tryz.underlying44 ty
   go_wp2
   go_ret2
   refine ⟨HB.out, w.heap.size, Nat.le_refl _, ?_, ?_⟩
   ·have := HM.out
    rw [List.take_length] at this
    exact this
   ·rfl
  | succ g =>
   have hi : i < l0.length := by omega
   have hlt : decide ((i : Int) < (l0.length : Int)) = true := decide_eq_true (by omega)
   obtain ⟨ad, ea, hx0, hx1, hx2, hx3⟩ := at_T41 hr0 (i : Int) (by omega) (by omega)
   subst ea
   replace hx0 := (HB.out.cell (World.block_lt_of_cell? w _ hx0)).trans hx0
   replace hx1 := (HB.out.cell (World.block_lt_of_cell? w _ hx1)).trans hx1
   replace hx2 := (HB.out.cell (World.block_lt_of_cell? w _ hx2)).trans hx2
   replace hx3 := (HB.out.cell (World.block_lt_of_cell? w _ hx3)).trans hx3
   have p0 : (0 ≤ (i : Int)) = True := eq_true (by omega)
   have q0 : ((i : Int) < (l0.length : Int)) = True := eq_true (by omega)
   obtain ⟨p, hp⟩ : ∃ p, rd_T41 l0 (i : Int) = p := ⟨_, rfl⟩
   rw [hp] at hx0 hx1 hx2 hx3
   simp only [Int.toNat_natCast] at hx0 hx1 hx2 hx3
   have hd : l0.drop i = p :: l0.drop (i + 1) := by
    rw [List.drop_eq_getElem_cons hi]
    congr 1
    rw [← hp]
    simp [rd_T41, List.getD, List.getElem?_eq_getElem hi]
   have ht : l0.take (i + 1) = l0.take i ++ [p] := by
    rw [List.take_succ_eq_append_getElem hi]
    congr 2
    rw [← hp]
    simp [rd_T41, List.getD, List.getElem?_eq_getElem hi]
   have H1 := H.out
   rw [hd] at H1
   simp only [pagesOk] at H1
   by_cases hz : p.f0.size ≤ 9223372036854775807
   case neg => rw [if_neg hz] at H1; cases H1
   rw [if_pos hz] at H1
   have HK := Aside0.mk (Go.WideMaps.keyOf_string_mk (P := Tryz.prog) Tryz.underlying9 (s := p.f0) (by have : maxLen = 2 ^ 63 - 1 := rfl; omega))
   clear hz
   obtain ⟨t, A0', H2⟩ := Option.bind_eq_some_iff.mp H1
   have A := Aside0.mk A0'
   have HT := Aside0.mk ht
   clear H1 A0' H hd ht hp
   by_cases ct : t = true
   ·subst ct
    rw [if_pos rfl] at H2
    have H' := Aside0.mk H2
    clear H2
    go_wp2_with (first | ((with_reducible refine gate_dst (N := 6) rfl ?_); refine box_event ?hg (N := 6) ?hd (cs := #[.string (⟨#[]⟩ : ByteArray), .string (⟨#[]⟩ : ByteArray), .string (⟨#[]⟩ : ByteArray), .int .i64 0]) (t := 41) ?hr ?_; (case hd => rfl); (case hg => rfl); (case hr => first | (go_simp; done) | (go_simp; rfl)); intro gb hg w6 hbox hb; have BK := Aside0.mk hbox; have NB := Aside0.mk (show gb ≠ w.heap.size from by rw [hg]; exact Nat.ne_of_gt HM.out.lt); have GE := Aside0.mk (show w.heap.size ≤ gb from by rw [hg]; exact below_size HB.out); replace HM := Aside0.mk (map_below HM.out hb); replace HB := Aside0.mk (below_step HB.out hb); replace hx0 := (hb.cell (World.block_lt_of_cell? _ _ hx0)).trans hx0; replace hx1 := (hb.cell (World.block_lt_of_cell? _ _ hx1)).trans hx1; replace hx2 := (hb.cell (World.block_lt_of_cell? _ _ hx2)).trans hx2; replace hx3 := (hb.cell (World.block_lt_of_cell? _ _ hx3)).trans hx3; clear hb hg hbox; obtain ⟨hc0, hc1, hc2, hc3⟩ : w6.cell? ⟨gb, 0, none⟩ = some (.string (⟨#[]⟩ : ByteArray)) ∧ w6.cell? ⟨gb, 1, none⟩ = some (.string (⟨#[]⟩ : ByteArray)) ∧ w6.cell? ⟨gb, 2, none⟩ = some (.string (⟨#[]⟩ : ByteArray)) ∧ w6.cell? ⟨gb, 3, none⟩ = some (.int .i64 0) := ⟨(blk_cell BK.out 0).trans rfl, (blk_cell BK.out 1).trans rfl, (blk_cell BK.out 2).trans rfl, (blk_cell BK.out 3).trans rfl⟩; have hf0 := blk_frozen BK.out 0; have hf1 := blk_frozen BK.out 1; have hf2 := blk_frozen BK.out 2; have hf3 := blk_frozen BK.out 3) | (go_at_call 28; (with_reducible refine (impl_pageOk.calls k p.f0 p.f1 p.f2 p.f3 true _ A.out).mono ?_); rintro e w8 ⟨rfl, hb⟩; replace HM := Aside0.mk (map_below ((((HM.out.setCell (a := ⟨gb, 0, none⟩) NB.out.symm _).setCell (a := ⟨gb, 1, none⟩) NB.out.symm _).setCell (a := ⟨gb, 2, none⟩) NB.out.symm _).setCell (a := ⟨gb, 3, none⟩) NB.out.symm _) hb); replace BK := Aside0.mk (blk_below (g := gb) (o := .cells #[.string p.f0, .string p.f1, .string p.f2, .int .i64 p.f3] 41 (0, 0)) (by refine blk_put (cs := #[.string p.f0, .string p.f1, .string p.f2, .int .i64 0]) ?_ 3 _ rfl; refine blk_put (cs := #[.string p.f0, .string p.f1, .string (⟨#[]⟩ : ByteArray), .int .i64 0]) ?_ 2 _ rfl; refine blk_put (cs := #[.string p.f0, .string (⟨#[]⟩ : ByteArray), .string (⟨#[]⟩ : ByteArray), .int .i64 0]) ?_ 1 _ rfl; refine blk_put (cs := #[.string (⟨#[]⟩ : ByteArray), .string (⟨#[]⟩ : ByteArray), .string (⟨#[]⟩ : ByteArray), .int .i64 0]) ?_ 0 _ rfl; exact BK.out) hb); replace HB := Aside0.mk (below_step (below_set (below_set (below_set (below_set HB.out GE.out) GE.out) GE.out) GE.out) hb); clear hb hx0 hx1 hx2 hx3 hc0 hc1 hc2 hc3 hf0 hf1 hf2 hf3; obtain ⟨hc0, hc1, hc2, hc3⟩ : w8.cell? ⟨gb, 0, none⟩ = some (.string p.f0) ∧ w8.cell? ⟨gb, 1, none⟩ = some (.string p.f1) ∧ w8.cell? ⟨gb, 2, none⟩ = some (.string p.f2) ∧ w8.cell? ⟨gb, 3, none⟩ = some (.int .i64 p.f3) := ⟨(blk_cell BK.out 0).trans rfl, (blk_cell BK.out 1).trans rfl, (blk_cell BK.out 2).trans rfl, (blk_cell BK.out 3).trans rfl⟩) | (at_mapUpdate; refine wpList_mapUpdate_own _ rfl _ _ _ 44 rfl 9 41 (string_keyed Tryz.underlying9) Tryz.underlying44 pageR w.heap.size i (mapD (l0.take i)) rfl HM.out (by have : maxLen = 2 ^ 63 - 1 := rfl; omega) _ _ (keyL p.f0) rfl rfl HK.out (pageD p) [] (pageR_mk p) ?_; intro w9 hown hgrow))
    go_roundg g
    case measure => omega
    case rel => exact ⟨i + 1, by simp, by omega, H', ⟨by rw [HT.out, mapD_snoc]; exact hown⟩, ⟨grown_below HB.out hgrow⟩⟩
   ·obtain rfl : t = false := by simpa using ct
    rw [if_neg (by decide)] at H2
    obtain rfl := Option.some.inj H2
    go_wp2_with (first | ((with_reducible refine gate_dst (N := 6) rfl ?_); refine box_event ?hg (N := 6) ?hd (cs := #[.string (⟨#[]⟩ : ByteArray), .string (⟨#[]⟩ : ByteArray), .string (⟨#[]⟩ : ByteArray), .int .i64 0]) (t := 41) ?hr ?_; (case hd => rfl); (case hg => rfl); (case hr => first | (go_simp; done) | (go_simp; rfl)); intro gb hg w6 hbox hb; have BK := Aside0.mk hbox; have NB := Aside0.mk (show gb ≠ w.heap.size from by rw [hg]; exact Nat.ne_of_gt HM.out.lt); have GE := Aside0.mk (show w.heap.size ≤ gb from by rw [hg]; exact below_size HB.out); replace HM := Aside0.mk (map_below HM.out hb); replace HB := Aside0.mk (below_step HB.out hb); replace hx0 := (hb.cell (World.block_lt_of_cell? _ _ hx0)).trans hx0; replace hx1 := (hb.cell (World.block_lt_of_cell? _ _ hx1)).trans hx1; replace hx2 := (hb.cell (World.block_lt_of_cell? _ _ hx2)).trans hx2; replace hx3 := (hb.cell (World.block_lt_of_cell? _ _ hx3)).trans hx3; clear hb hg hbox; obtain ⟨hc0, hc1, hc2, hc3⟩ : w6.cell? ⟨gb, 0, none⟩ = some (.string (⟨#[]⟩ : ByteArray)) ∧ w6.cell? ⟨gb, 1, none⟩ = some (.string (⟨#[]⟩ : ByteArray)) ∧ w6.cell? ⟨gb, 2, none⟩ = some (.string (⟨#[]⟩ : ByteArray)) ∧ w6.cell? ⟨gb, 3, none⟩ = some (.int .i64 0) := ⟨(blk_cell BK.out 0).trans rfl, (blk_cell BK.out 1).trans rfl, (blk_cell BK.out 2).trans rfl, (blk_cell BK.out 3).trans rfl⟩; have hf0 := blk_frozen BK.out 0; have hf1 := blk_frozen BK.out 1; have hf2 := blk_frozen BK.out 2; have hf3 := blk_frozen BK.out 3) | (go_at_call 28; (with_reducible refine (impl_pageOk.calls k p.f0 p.f1 p.f2 p.f3 false _ A.out).mono ?_); rintro e w8 ⟨rfl, hb⟩; replace HM := Aside0.mk (map_below ((((HM.out.setCell (a := ⟨gb, 0, none⟩) NB.out.symm _).setCell (a := ⟨gb, 1, none⟩) NB.out.symm _).setCell (a := ⟨gb, 2, none⟩) NB.out.symm _).setCell (a := ⟨gb, 3, none⟩) NB.out.symm _) hb); replace BK := Aside0.mk (blk_below (g := gb) (o := .cells #[.string p.f0, .string p.f1, .string p.f2, .int .i64 p.f3] 41 (0, 0)) (by refine blk_put (cs := #[.string p.f0, .string p.f1, .string p.f2, .int .i64 0]) ?_ 3 _ rfl; refine blk_put (cs := #[.string p.f0, .string p.f1, .string (⟨#[]⟩ : ByteArray), .int .i64 0]) ?_ 2 _ rfl; refine blk_put (cs := #[.string p.f0, .string (⟨#[]⟩ : ByteArray), .string (⟨#[]⟩ : ByteArray), .int .i64 0]) ?_ 1 _ rfl; refine blk_put (cs := #[.string (⟨#[]⟩ : ByteArray), .string (⟨#[]⟩ : ByteArray), .string (⟨#[]⟩ : ByteArray), .int .i64 0]) ?_ 0 _ rfl; exact BK.out) hb); replace HB := Aside0.mk (below_step (below_set (below_set (below_set (below_set HB.out GE.out) GE.out) GE.out) GE.out) hb); clear hb hx0 hx1 hx2 hx3 hc0 hc1 hc2 hc3 hf0 hf1 hf2 hf3; obtain ⟨hc0, hc1, hc2, hc3⟩ : w8.cell? ⟨gb, 0, none⟩ = some (.string p.f0) ∧ w8.cell? ⟨gb, 1, none⟩ = some (.string p.f1) ∧ w8.cell? ⟨gb, 2, none⟩ = some (.string p.f2) ∧ w8.cell? ⟨gb, 3, none⟩ = some (.int .i64 p.f3) := ⟨(blk_cell BK.out 0).trans rfl, (blk_cell BK.out 1).trans rfl, (blk_cell BK.out 2).trans rfl, (blk_cell BK.out 3).trans rfl⟩))
    go_ret2
    exact ⟨HB.out, rfl⟩
def impl_worldOf.f (k : Nat) (l0 : List S41) : Option Bool := if 12 < l0.length then some false else pagesOk k l0
set_option maxRecDepth 100000 in
theorem impl_worldOf.calls (k : Nat) (A0 : Option Addr) (c0 : Nat) (l0 : List S41) (r : Bool) (w : World) (hr0 : Kd.C k41 w A0 l0.length l0) (hc0 : l0.length ≤ c0) (h : impl_worldOf.f k l0 = some r) :
  Calls Tryz.prog 19 #[.slice A0 l0.length c0] w fun e w' => Below w.heap.size w w' ∧
   (r = false → e = .returned (.tuple #[.map none, .bool false])) ∧ (r = true → ∃ b, w.heap.size ≤ b ∧ Pages w' b l0.length (mapD l0) ∧ e = .returned (.tuple #[.map (some b), .bool ((Maps.size (mapD l0) : Int) == (l0.length : Int))])) := by
 unfold impl_worldOf.f at h
 by_cases h12 : 12 < l0.length
 ·rw [if_pos h12] at h
  obtain rfl := Option.some.inj h
  have hle : decide ((12 : Int) < (l0.length : Int)) = true := decide_eq_true (by omega)
  clear h
  go_enter Tryz.func19, Tryz.ntmps19
  go_wp2
  go_ret2
  exact ⟨Below.refl _ _, fun _ => rfl, fun h => by cases h⟩
 ·rw [if_neg h12] at h
  exact worldOf_walk k A0 c0 l0 r w hr0 hc0 (by omega) h
set_option maxHeartbeats 4000000 in
set_option maxRecDepth 100000 in
theorem get_walk (b n : Nat) (l : List S41) (a : ByteArray) (t : Int) (w : World) (ha : a.size ≤ 9223372036854775807) (hm : Pages w b n (mapD l)) :
  Calls Tryz.prog 44 #[.map (some b), .string a, .int .i64 t] w fun e w' => e = .returned (.tuple #[.int .i64 (getF l a t).1, .string (getF l a t).2]) ∧ Below w.heap.size w w' := by
 have hu := Tryz.underlying41
 have HB := Aside0.mk (Below.refl w.heap.size w)
 have hz : (zeroValue 41).run Tryz.prog w = .ok (pageV z41) w := by kernel_rfl
 obtain ⟨v, ps, hrun, hv⟩ := hm.look_ok (string_keyed Tryz.underlying9) Tryz.underlying44 hz (pageR_mk z41) (Go.WideMaps.keyOf_string_mk (P := Tryz.prog) Tryz.underlying9 (s := a) (by have : maxLen = 2 ^ 63 - 1 := rfl; omega))
 have e1 := mapR_at a l.reverse
 have e2 := mapR_has a l.reverse
 rw [show (.string a.data.toList : Lit) = keyL a from rfl] at hv hrun
 unfold mapD at hv hrun
 rw [e1] at hv
 rw [e2] at hrun
 obtain ⟨q, rfl, hq⟩ := pageR_inv hv
 obtain rfl := pageD_inj (Prod.mk.inj hq).1
 unfold getF
 clear hv hq e1 e2 hm hz
 cases hp : pageAtR a l.reverse with
 | none =>
  rw [hp] at hrun
  simp only [Option.getD_none, Option.isSome_none, pageV] at hrun
  go_enter Tryz.func44, Tryz.ntmps44
  go_wp2
  go_ret2
  exact ⟨rfl, (Below.refl _ _).alloc (Nat.le_refl _) _⟩
 | some p =>
  rw [hp] at hrun
  simp only [Option.getD_some, Option.isSome_some, pageV] at hrun
  simp only
  by_cases c1 : t < 0
  ·rw [if_pos c1]
   have d1 : decide (t < 0) = true := decide_eq_true c1
   clear c1
   go_enter Tryz.func44, Tryz.ntmps44
   go_wp2
   go_ret2
   exact ⟨rfl, (Below.refl _ _).alloc (Nat.le_refl _) _⟩
  ·rw [if_neg c1]
   have d1 : decide (t < 0) = false := decide_eq_false c1
   clear c1
   by_cases c2 : t < p.f3
   ·rw [if_pos c2]
    have d2 : decide (t < p.f3) = true := decide_eq_true c2
    clear c2
    go_enter Tryz.func44, Tryz.ntmps44
    go_wp2
    go_ret2
    exact ⟨rfl, (Below.refl _ _).alloc (Nat.le_refl _) _⟩
   ·rw [if_neg c2]
    have d2 : decide (t < p.f3) = false := decide_eq_false c2
    clear c2
    by_cases c3 : p.f2.toList = ([] : List UInt8)
    ·rw [if_pos c3]
     have d3 : (p.f2.toList == ([] : List UInt8)) = true := beq_iff_eq.mpr c3
     have d4 : (p.f2.toList != ([] : List UInt8)) = false := bne_eq_false_iff_eq.mpr c3
     clear c3
     go_enter Tryz.func44, Tryz.ntmps44
     go_wp2
     go_quiet (fail)
     go_wp2
     go_ret2
     exact ⟨rfl, pw_below_drewN (below_alloc (Below.refl _ _) _) _⟩
    ·rw [if_neg c3]
     have d3 : (p.f2.toList == ([] : List UInt8)) = false := beq_eq_false_iff_ne.mpr c3
     have d4 : (p.f2.toList != ([] : List UInt8)) = true := bne_iff_ne.mpr c3
     clear c3
     go_enter Tryz.func44, Tryz.ntmps44
     go_wp2
     go_quiet (fail)
     go_wp2
     go_ret2
     exact ⟨rfl, pw_below_drewN (below_alloc (Below.refl _ _) _) _⟩
theorem pagesOk_mono (k : Nat) : ∀ l, LeO (pagesOk k l) (pagesOk (k + 1) l)
 | [] => LeO.refl _
 | p :: r => by
  unfold pagesOk
  exact LeO.ite (LeO.bind (impl_pageOk.mono _ _ _ _ _) (fun _ => LeO.ite (pagesOk_mono k r) (LeO.refl _))) (LeO.refl _)
theorem impl_worldOf.mono : ∀ a0 k, LeO (impl_worldOf.f k a0) (impl_worldOf.f (k + 1) a0) := fun a0 k => LeO.ite (LeO.refl _) (pagesOk_mono k a0)
end Go.Proofs.YtpnedbnpnekahaaGreatDoor.P
end
section
namespace Go.Proofs.YtpnedbnpnekahaaGreatDoor.P
open Go.RowKit Go.Proofs.YtpnedbnpnekahaaGreatDoorW.PrintWords Go.Proofs.YtpnedbnpnekahaaGreatDoorW.PrintLast Go.Proofs.YtpnedbnpnekahaaGreatDoorW.PrintMore
attribute [local go_sem] max2_int min2_int max_two min_two max_three min_three max_four min_four
set_option linter.unusedVariables false
set_option linter.unusedSimpArgs false
def impl_beginsWith.f (a0 : ByteArray) (a1 : Int) : Option (Bool) := if a0.toList = ([] : List UInt8) then (some false) else (if 0 < (a0.size : Int) then (some ((bt a0 0) == a1)) else (none))
set_option maxHeartbeats 8000000 in
set_option maxRecDepth 100000 in
theorem impl_beginsWith.calls (a0 : ByteArray) (a1 : Int) (r : Bool) (w : World) (h : impl_beginsWith.f a0 a1 = some r) :
  Calls Tryz.prog 75 #[.string a0, .int .u8 a1] w fun e w' => e = .returned (.bool r) ∧ Drawn0 w w' := by
 have H : (if a0.toList = ([] : List UInt8) then (some false) else (if 0 < (a0.size : Int) then (some ((bt a0 0) == a1)) else (none))) = some r := h;clear h;by_cases c3 : a0.toList = ([] : List UInt8)
 ·rw [if_pos c3] at H
  have c3b0 : (a0.toList == ([] : List UInt8)) = true := beq_iff_eq.mpr c3;have c3b1 : (a0.toList != ([] : List UInt8)) = false := bne_eq_false_iff_eq.mpr c3;clear c3;obtain rfl := Option.some.inj H;go_enter Tryz.func75, Tryz.ntmps75;go_wp2
  go_ret
  exact ⟨zz3, zz6⟩
 ·rw [if_neg c3] at H
  have c3b0 : (a0.toList == ([] : List UInt8)) = false := beq_eq_false_iff_ne.mpr c3;have c3b1 : (a0.toList != ([] : List UInt8)) = true := bne_iff_ne.mpr c3;by_cases c4 : 0 < (a0.size : Int)
  ·rw [if_pos c4] at H
   have c4b0 : decide (0 < (a0.size : Int)) = true := decide_eq_true c4;have c4b1 : decide (0 < a0.size) = true := decide_eq_true (by omega);clear c4;obtain rfl := Option.some.inj H;have p5 : 0 ≤ (0 : Int) := (by omega);have q5 : 0 < a0.size := (by have : (0 : Int) < (a0.size : Int) := ofD; omega);have hx5 : ∀ h : 0 < a0.size, ((a0[0]'h).toNat : Int) = bt a0 0 := bt_at a0 0;clear p5;have qi5 : (0 < (a0.size : Int)) = True := eq_true ofD;replace q5 := eq_true q5;go_enter Tryz.func75, Tryz.ntmps75;go_wp2
   go_ret
   exact ⟨zz3, zz6⟩
  ·rw [if_neg c4] at H
   exact absurd H (by simp)
end Go.Proofs.YtpnedbnpnekahaaGreatDoor.P
end
section
namespace Go.Proofs.YtpnedbnpnekahaaGreatDoor.Mk
open Go.RowKit Go.Proofs.YtpnedbnpnekahaaGreatDoor.P Go.Proofs.YtpnedbnpnekahaaGreatDoorW.PrintWords Go.Proofs.YtpnedbnpnekahaaGreatDoorW.PrintLast Go.Proofs.YtpnedbnpnekahaaGreatDoorW.PrintMore Go.Proofs.YtpnedbnpnekahaaGreatDoor.B
set_option linter.unusedVariables false
set_option linter.unusedSimpArgs false
def pmStep (s : ByteArray) (i : Nat) (ms : List ByteArray) (st a : Nat) : List ByteArray × Nat × Nat :=
 if st = 1 then (if bt s i = 62 then (ms ++ [s.extract a i], 0, a) else (ms, 1, a))
 else if st = 2 then (if bt s i = 41 then (ms, 0, a) else (ms, 2, a))
 else (if bt s i = 60 then (ms, 1, i + 1) else if bt s i = 40 then (ms, 2, a) else (ms, st, a))
def pmTo (s : ByteArray) : Nat → List ByteArray × Nat × Nat
 | 0 => ([], 0, 0)
 | k + 1 => pmStep s k (pmTo s k).1 (pmTo s k).2.1 (pmTo s k).2.2
def marks (s : ByteArray) : List ByteArray := if s.size ≤ 300 then (pmTo s s.size).1 else []
theorem pmStep_ok (s : ByteArray) (i : Nat) (ms : List ByteArray) (st a : Nat) (h1 : st ≤ 2) (h2 : a ≤ i) (h3 : ms.length ≤ i) :
  (pmStep s i ms st a).2.1 ≤ 2 ∧ (pmStep s i ms st a).2.2 ≤ i + 1 ∧ (pmStep s i ms st a).1.length ≤ i + 1 := by
 unfold pmStep
 repeat' split
 all_goals (try simp only [List.length_append, List.length_singleton])
 all_goals omega
theorem pmTo_ok (s : ByteArray) (k : Nat) : (pmTo s k).2.1 ≤ 2 ∧ (pmTo s k).2.2 ≤ k ∧ (pmTo s k).1.length ≤ k := by
 induction k with
 | zero => simp [pmTo]
 | succ k ih => exact pmStep_ok s k _ _ _ ih.1 ih.2.1 ih.2.2
def pmRun (s : ByteArray) : Nat → Nat → List ByteArray → Nat → Nat → List ByteArray × Nat × Nat
 | 0, _, ms, st, a => (ms, st, a)
 | d + 1, i, ms, st, a => pmRun s d (i + 1) (pmStep s i ms st a).1 (pmStep s i ms st a).2.1 (pmStep s i ms st a).2.2
theorem pmRun_to (s : ByteArray) (d : Nat) : ∀ i, pmRun s d i (pmTo s i).1 (pmTo s i).2.1 (pmTo s i).2.2 = pmTo s (i + d) := by
 induction d with
 | zero => intro i; rfl
 | succ d ih =>
  intro i
  simp only [pmRun]
  have := ih (i + 1)
  rw [show i + 1 + d = i + (d + 1) from by omega] at this
  exact this
theorem marks_run (s : ByteArray) (h : s.size ≤ 300) : marks s = (pmRun s s.size 0 [] 0 0).1 := by
 have := pmRun_to s s.size 0
 simp only [pmTo, Nat.zero_add] at this
 rw [this, marks, if_pos h]
def rnd (st : Nat) : Bool := st == 2
def frm (st a : Nat) : Int := if st = 1 then a else -1
theorem spec_l (s : ByteArray) (hs : s.size ≤ 300) (d : Nat) : ∀ (k i : Nat) (ms : List ByteArray) (st a : Nat), i + d = s.size → 3 * d + 2 < k → st ≤ 2 → a ≤ i → ms.length ≤ i →
  spec_l3Marks.l0 k s ms (rnd st) (frm st a) (i : Int) = some (pmRun s d i ms st a).1 := by
 induction d with
 | zero =>
  intro k i ms st a h hk h1 h2 h3
  obtain ⟨k, rfl⟩ : ∃ m, k = m + 2 := ⟨k - 2, by omega⟩
  simp only [spec_l3Marks.l0, spec_l3Marks.j1, pmRun]
  rw [if_neg (by omega), if_neg (by simp)]
 | succ d ih =>
  intro k i ms st a h hk h1 h2 h3
  obtain ⟨k, rfl⟩ : ∃ m, k = m + 3 := ⟨k - 3, by omega⟩
  have hlt : (i : Int) < (s.size : Int) := by omega
  have h0 : 0 ≤ (i : Int) := by omega
  have hd : decide ((s.size : Int) ≤ 300) = true := by simp; omega
  have hw : wrap64 ((i : Int) + 1) = ((i + 1 : Nat) : Int) := by rw [w64 (by omega) (by omega)]; omega
  have next := fun ms' st' a' (q1 : st' ≤ 2) (q2 : a' ≤ i + 1) (q3 : ms'.length ≤ i + 1) => ih k (i + 1) ms' st' a' (by omega) (by omega) q1 q2 q3
  simp only [spec_l3Marks.l0, spec_l3Marks.j1, spec_l3Marks.j2, pmRun]
  rw [if_pos hlt, hd, if_pos rfl, hw]
  by_cases e1 : st = 1
  ·subst e1
   have ef : frm 1 a = (a : Int) := by simp [frm]
   have er : rnd 1 = false := rfl
   rw [ef, er, if_pos (by omega : (a : Int) ≥ 0), if_pos h0, if_pos hlt]
   by_cases e2 : bt s i = 62
   ·have hp : pmStep s i ms 1 a = (ms ++ [s.extract a i], 0, a) := by simp [pmStep, e2]
    rw [if_pos (by simpa using e2), if_pos (by omega), if_pos (by omega), if_pos (by omega), if_pos (by omega), hp]
    have := next (ms ++ [s.extract a i]) 0 a (by omega) (by omega) (by simp; omega)
    simpa [rnd, frm] using this
   ·have hp : pmStep s i ms 1 a = (ms, 1, a) := by simp [pmStep, e2]
    rw [if_neg (by simpa using e2), if_pos (by omega : (a : Int) ≥ 0), hp]
    have := next ms 1 a (by omega) (by omega) (by omega)
    rwa [ef, er] at this
  ·have ef : frm st a = -1 := by simp [frm, e1]
   rw [ef, if_neg (by omega), if_neg (by simp), if_neg (by omega)]
   by_cases e2 : st = 2
   ·subst e2
    rw [show rnd 2 = true from rfl, if_pos rfl, if_pos h0, if_pos hlt]
    by_cases e3 : bt s i = 41
    ·have hp : pmStep s i ms 2 a = (ms, 0, a) := by simp [pmStep, e3]
     have eb : (bt s i != 41) = false := by simp [e3]
     rw [hp, eb]
     have := next ms 0 a (by omega) (by omega) (by omega)
     simpa [rnd, frm] using this
    ·have hp : pmStep s i ms 2 a = (ms, 2, a) := by simp [pmStep, e3]
     have eb : (bt s i != 41) = true := by simp [e3]
     rw [hp, eb]
     have := next ms 2 a (by omega) (by omega) (by omega)
     simpa [rnd, frm] using this
   ·obtain rfl : st = 0 := by omega
    rw [show rnd 0 = false from rfl, if_neg (by simp), if_pos h0, if_pos hlt]
    by_cases e3 : bt s i = 40
    ·have hp : pmStep s i ms 0 a = (ms, 2, a) := by simp [pmStep, e3]
     rw [if_pos e3, hp]
     have := next ms 2 a (by omega) (by omega) (by omega)
     simpa [rnd, frm] using this
    ·rw [if_neg e3]
     by_cases e4 : bt s i = 60
     ·have hp : pmStep s i ms 0 a = (ms, 1, i + 1) := by simp [pmStep, e4]
      rw [if_pos e4, hp]
      have := next ms 1 (i + 1) (by omega) (by omega) (by omega)
      simpa [rnd, frm] using this
     ·have hp : pmStep s i ms 0 a = (ms, 0, a) := by simp [pmStep, e3, e4]
      rw [if_neg e4, hp]
      have := next ms 0 a (by omega) (by omega) (by omega)
      simpa [rnd, frm] using this
theorem spec_ev (s : ByteArray) (hs : s.size ≤ 140737488351232) : Ev (fun k => spec_l3Marks.f k s) (marks s) := by
 unfold spec_l3Marks.f
 by_cases h : s.size ≤ 300
 ·refine Ev.of (fun k => spec_l3Marks.mono_l k |>.1 _ _ _ _ _) (k := 3 * s.size + 3) ?_
  have := spec_l s h s.size (3 * s.size + 3) 0 [] 0 0 (by omega) (by omega) (by omega) (by omega) (by simp)
  rw [marks_run s h]
  simpa [rnd, frm] using this
 ·refine Ev.of (fun k => spec_l3Marks.mono_l k |>.1 _ _ _ _ _) (k := 2) ?_
  simp only [spec_l3Marks.l0, spec_l3Marks.j1, marks]
  rw [if_neg h, if_pos (by omega), if_neg (by simp; omega)]
end Go.Proofs.YtpnedbnpnekahaaGreatDoor.Mk
end
section
namespace Go.Proofs.YtpnedbnpnekahaaGreatDoor.P
open Go.RowKit Go.Proofs.YtpnedbnpnekahaaGreatDoorW.PrintWords Go.Proofs.YtpnedbnpnekahaaGreatDoorW.PrintLast Go.Proofs.YtpnedbnpnekahaaGreatDoorW.PrintMore Go.Proofs.YtpnedbnpnekahaaGreatDoor.Mk
set_option linter.unusedVariables false
set_option linter.unusedSimpArgs false
structure PmInv (B : Nat) (s : ByteArray) (ms : List ByteArray) (st a : Nat) (v : Value) (w : World) : Prop where
 text : w.heap[B]? = some (.cells #[.string s] 9 (0, 0))
 marks : w.heap[B + 1]? = some (.cells #[v] 24 (0, 0))
 state : w.heap[B + 2]? = some (.cells #[.int .i64 st] 3 (0, 0))
 start : w.heap[B + 3]? = some (.cells #[.int .i64 a] 3 (0, 0))
 size : B + 5 ≤ w.heap.size
 row : Kd.R Kd.string 9 w (B + 5) (fun k => B + 5 ≤ k) v ms
theorem PmInv.setState {B : Nat} {s : ByteArray} {ms : List ByteArray} {st a : Nat} {v : Value} {w : World} (h : PmInv B s ms st a v w) (x : Int) (st' : Nat) (hx : x = st') :
  PmInv B s ms st' a v (w.setCell ⟨B + 2, 0, none⟩ (.int .i64 x)) := by
 subst hx
 exact ⟨(heap_set_ne _ _ _ _ (by show B ≠ B + 2; omega)).trans h.text, (heap_set_ne _ _ _ _ (by show B + 1 ≠ B + 2; omega)).trans h.marks, one_setCell h.state,
  (heap_set_ne _ _ _ _ (by show B + 3 ≠ B + 2; omega)).trans h.start, by rw [size_set]; exact h.size, Kd.R_far h.row (fun k hk => by show k ≠ B + 2; omega) _⟩
theorem PmInv.setStart {B : Nat} {s : ByteArray} {ms : List ByteArray} {st a : Nat} {v : Value} {w : World} (h : PmInv B s ms st a v w) (x : Int) (a' : Nat) (hx : x = a') :
  PmInv B s ms st a' v (w.setCell ⟨B + 3, 0, none⟩ (.int .i64 x)) := by
 subst hx
 exact ⟨(heap_set_ne _ _ _ _ (by show B ≠ B + 3; omega)).trans h.text, (heap_set_ne _ _ _ _ (by show B + 1 ≠ B + 3; omega)).trans h.marks,
  (heap_set_ne _ _ _ _ (by show B + 2 ≠ B + 3; omega)).trans h.state, one_setCell h.start, by rw [size_set]; exact h.size, Kd.R_far h.row (fun k hk => by show k ≠ B + 3; omega) _⟩
theorem PmInv.setMarks {B : Nat} {s : ByteArray} {ms ms' : List ByteArray} {st a : Nat} {v v' : Value} {w w1 : World} (h : PmInv B s ms st a v w) (hg : w.grownBy w1 v.ownBlock) (hrow : Kd.R Kd.string 9 w1 (B + 5) (fun k => B + 5 ≤ k) v' ms') (hv : ∀ k, v.ownBlock = some k → B + 5 ≤ k) :
  PmInv B s ms' st a v' (w1.setCell ⟨B + 1, 0, none⟩ v') := by
 have hs := h.size
 have blk : ∀ k, k < B + 5 → w1.heap[k]? = w.heap[k]? := fun k hk => hg.block k (by omega) (fun e => by have := hv k e.symm; omega)
 exact ⟨(heap_set_ne _ _ _ _ (by show B ≠ B + 1; omega)).trans ((blk B (by omega)).trans h.text), one_setCell ((blk (B + 1) (by omega)).trans h.marks),
  (heap_set_ne _ _ _ _ (by show B + 2 ≠ B + 1; omega)).trans ((blk (B + 2) (by omega)).trans h.state), (heap_set_ne _ _ _ _ (by show B + 3 ≠ B + 1; omega)).trans ((blk (B + 3) (by omega)).trans h.start),
  by rw [size_set]; have := hg.size; omega, Kd.R_far hrow (fun k hk => by show k ≠ B + 1; omega) _⟩
def PmPost (B : Nat) (s : ByteArray) (r : List ByteArray × Nat × Nat) (w : World) (e : Ending) (w' : World) : Prop :=
 e = .returned (.tuple #[]) ∧ (∃ v, PmInv B s r.1 r.2.1 r.2.2 v w') ∧ Below B w w' ∧ w'.heap[B + 4]? = w.heap[B + 4]?
set_option maxHeartbeats 400000 in
set_option maxRecDepth 100000 in
theorem pm1_calls (B i : Nat) (s : ByteArray) (ms : List ByteArray) (a : Nat) (v : Value) (w : World) (h : PmInv B s ms 0 a v w) (hi : i < 300) :
  Calls Tryz.prog 95 #[.int .i64 i, .int .u8 (bt s i), .pointer (some ⟨B + 2, 0, none⟩), .pointer (some ⟨B + 3, 0, none⟩)] w (PmPost B s (pmStep s i ms 0 a) w) := by
 have H := Aside0.mk h
 obtain ⟨h1, h2, h3, h4, h5, h6⟩ := h
 have c3 := cell_of_one h3
 have f3 := free_of_one h3
 have c4 := cell_of_one h4
 have f4 := free_of_one h4
 clear h1 h2 h3 h4 h5 h6
 generalize hb : bt s i = b
 have Hb := Aside0.mk hb
 clear hb
 by_cases e1 : b = 60
 ·have e1b : (b == 60) = true := by simp [e1]
  have hp : Aside0 (pmStep s i ms 0 a = (ms, 1, i + 1)) := ⟨by simp [pmStep, Hb.out, e1]⟩
  clear e1
  go_enter Tryz.func95, Tryz.ntmps95
  go_wp2
  go_end0
  rw [PmPost, hp.out]
  exact ⟨rfl, ⟨v, (H.out.setState 1 1 rfl).setStart _ (i + 1) (by omega)⟩, ((Below.refl _ _).setCell (by show B ≤ B + 2; omega) _).setCell (by show B ≤ B + 3; omega) _,
   (heap_set_ne _ _ _ _ (by show B + 4 ≠ B + 3; omega)).trans (heap_set_ne _ _ _ _ (by show B + 4 ≠ B + 2; omega))⟩
 ·have e1b : (b == 60) = false := by simp [e1]
  by_cases e2 : b = 40
  ·have e2b : (b == 40) = true := by simp [e2]
   have hp : Aside0 (pmStep s i ms 0 a = (ms, 2, a)) := ⟨by simp [pmStep, Hb.out, e1, e2]⟩
   clear e1 e2
   go_enter Tryz.func95, Tryz.ntmps95
   go_wp2
   go_end0
   rw [PmPost, hp.out]
   exact ⟨rfl, ⟨v, H.out.setState 2 2 rfl⟩, (Below.refl _ _).setCell (by show B ≤ B + 2; omega) _, heap_set_ne _ _ _ _ (by show B + 4 ≠ B + 2; omega)⟩
  ·have e2b : (b == 40) = false := by simp [e2]
   have hp : Aside0 (pmStep s i ms 0 a = (ms, 0, a)) := ⟨by simp [pmStep, Hb.out, e1, e2]⟩
   clear e1 e2
   go_enter Tryz.func95, Tryz.ntmps95
   go_wp2
   go_end0
   rw [PmPost, hp.out]
   exact ⟨rfl, ⟨v, H.out⟩, Below.refl _ _, rfl⟩
set_option maxHeartbeats 400000 in
set_option maxRecDepth 100000 in
theorem pm3_calls (B i : Nat) (s : ByteArray) (ms : List ByteArray) (a : Nat) (v : Value) (w : World) (h : PmInv B s ms 2 a v w) (hi : i < 300) :
  Calls Tryz.prog 97 #[.int .i64 i, .int .u8 (bt s i), .pointer (some ⟨B + 2, 0, none⟩)] w (PmPost B s (pmStep s i ms 2 a) w) := by
 have H := Aside0.mk h
 obtain ⟨h1, h2, h3, h4, h5, h6⟩ := h
 have c3 := cell_of_one h3
 have f3 := free_of_one h3
 clear h1 h2 h3 h4 h5 h6
 generalize hb : bt s i = b
 have Hb := Aside0.mk hb
 clear hb
 by_cases e1 : b = 41
 ·have e1b : (b == 41) = true := by simp [e1]
  have hp : Aside0 (pmStep s i ms 2 a = (ms, 0, a)) := ⟨by simp [pmStep, Hb.out, e1]⟩
  clear e1
  go_enter Tryz.func97, Tryz.ntmps97
  go_wp2
  go_end0
  rw [PmPost, hp.out]
  exact ⟨rfl, ⟨v, H.out.setState 0 0 rfl⟩, (Below.refl _ _).setCell (by show B ≤ B + 2; omega) _, heap_set_ne _ _ _ _ (by show B + 4 ≠ B + 2; omega)⟩
 ·have e1b : (b == 41) = false := by simp [e1]
  have hp : Aside0 (pmStep s i ms 2 a = (ms, 2, a)) := ⟨by simp [pmStep, Hb.out, e1]⟩
  clear e1
  go_enter Tryz.func97, Tryz.ntmps97
  go_wp2
  go_end0
  rw [PmPost, hp.out]
  exact ⟨rfl, ⟨v, H.out⟩, Below.refl _ _, rfl⟩
set_option maxHeartbeats 400000 in
set_option maxRecDepth 100000 in
theorem pm2_calls (B i : Nat) (s : ByteArray) (ms : List ByteArray) (a : Nat) (v : Value) (w : World) (h : PmInv B s ms 1 a v w) (hi : i < s.size) (hs : s.size ≤ 300) (ha : a ≤ i) (hm : ms.length ≤ 300) :
  Calls Tryz.prog 96 #[.int .i64 i, .int .u8 (bt s i), .pointer (some ⟨B + 1, 0, none⟩), .pointer (some ⟨B, 0, none⟩), .pointer (some ⟨B + 3, 0, none⟩), .pointer (some ⟨B + 2, 0, none⟩)] w (PmPost B s (pmStep s i ms 1 a) w) := by
 have H := Aside0.mk h
 obtain ⟨h1, h2, h3, h4, h5, h6⟩ := h
 have c1 := cell_of_one h1
 have c2 := cell_of_one h2
 have f2 := free_of_one h2
 have c3 := cell_of_one h3
 have f3 := free_of_one h3
 have c4 := cell_of_one h4
 have H6 := Aside0.mk h6
 obtain ⟨A, c, ev⟩ := Kd.R_slice h6
 subst ev
 clear h1 h2 h3 h4 h6
 generalize hb : bt s i = b
 have Hb := Aside0.mk hb
 clear hb
 by_cases e1 : b = 62
 ·have e1b : (b == 62) = true := by simp [e1]
  have hp : Aside0 (pmStep s i ms 1 a = (ms ++ [s.extract a i], 0, a)) := ⟨by simp [pmStep, Hb.out, e1]⟩
  clear e1
  have ha' : (a : Int) ≤ (i : Int) := by omega
  have hi' : (i : Int) ≤ (s.size : Int) := by omega
  go_enter Tryz.func96, Tryz.ntmps96
  go_wp2_with fail
  have W0 : Aside0 (PmInv B s ms 1 a (Value.slice A ms.length c) w.drew) := ⟨⟨H.out.text, H.out.marks, H.out.state, H.out.start, H.out.size, Kd.R_drew H.out.row⟩⟩
  refine start_ (n := 8) (S := fun w' => w'.cell? ⟨B + 1, 0, none⟩ = some (.slice A ms.length c) ∧ w'.cell? ⟨B, 0, none⟩ = some (.string s) ∧ w'.cell? ⟨B + 3, 0, none⟩ = some (.int .i64 a)) (ds := [7]) #[false, false, false, false, false, false, false, false] (by kernel_rfl) rfl rfl ⟨cell_of_one W0.out.marks, cell_of_one W0.out.text, cell_of_one W0.out.start⟩ (fun hHeld => ?_)
  have HB : Aside0 (Below B w w.drew) := ⟨below_drew (Below.refl B w)⟩
  have HE : Aside0 (w.drew.heap[B + 4]? = w.heap[B + 4]?) := ⟨rfl⟩
  clear c1 c2 f2 c3 f3 c4 h5 H H6
  generalize w.drew = w1 at W0 HB HE hHeld ⊢
  refine take_ (i := 0) (N := some 10) (v := ?_) (a' := ?_) #[true, false, false, false, false, false, false, false] rfl rfl (by kernel_rfl) (fun _ _ _ h => h) (Or.inl ⟨by rfl, ?_⟩) hHeld ?_ ?_
  rotate_left
  ·rintro w' ⟨s0, s1, s2⟩
   go_simp
   with_reducible rfl
  rotate_left
  ·simp only [Act.put, List.setIfInBounds_toArray, List.set_cons_zero, List.set_cons_succ, i64_w, i32_w]
   rfl
  refine take_ (i := 1) (N := some 11) (v := ?_) (a' := ?_) #[true, true, false, false, false, false, false, false] rfl rfl (by kernel_rfl) (fun _ _ _ h => h) (Or.inl ⟨by rfl, ?_⟩) hHeld ?_ ?_
  rotate_left
  ·rintro w' ⟨s0, s1, s2⟩
   go_simp
   with_reducible rfl
  rotate_left
  ·simp only [Act.put, List.setIfInBounds_toArray, List.set_cons_zero, List.set_cons_succ, i64_w, i32_w]
   rfl
  refine take_ (i := 2) (N := some 12) (v := ?_) (a' := ?_) #[true, true, true, false, false, false, false, false] rfl rfl (by kernel_rfl) (fun _ _ _ h => h) (Or.inl ⟨by rfl, ?_⟩) hHeld ?_ ?_
  rotate_left
  ·rintro w' ⟨s0, s1, s2⟩
   go_simp
   with_reducible rfl
  rotate_left
  ·simp only [Act.put, List.setIfInBounds_toArray, List.set_cons_zero, List.set_cons_succ, i64_w, i32_w]
   rfl
  refine pure_ (i := 3) (N := some 13) (v := ?_) (a' := ?_) #[true, true, true, true, false, false, false, false] rfl rfl (by kernel_rfl) (fun _ _ _ h => h) (Or.inl ⟨by rfl, ?_⟩) ?_ ?_
  rotate_left
  ·intro w'
   go_simp
   with_reducible rfl
  rotate_left
  ·simp only [Act.put, List.setIfInBounds_toArray, List.set_cons_zero, List.set_cons_succ, i64_w, i32_w]
   rfl
  refine pure_ (i := 4) (N := some 14) (v := .string (s.extract a i)) (a' := ?_) #[true, true, true, true, true, false, false, false] rfl rfl (by kernel_rfl) (fun _ _ _ h => h) (Or.inl ⟨by rfl, ?_⟩) ?_ ?_
  ·intro w'
   go_simp
  rotate_left
  ·simp only [Act.put, List.setIfInBounds_toArray, List.set_cons_zero, List.set_cons_succ, i64_w, i32_w]
   rfl
  refine one_ (i := 5) (N := some 15) #[true, true, true, true, true, true, false, false] rfl rfl (by kernel_rfl) (by decide) (fun K hK => ?_)
  refine value_ (w1 := ?_) (v := ?_) (by rfl) rfl ?_ ?_
  rotate_left 2
  ·go_simp
   constructor
   ·rfl
   ·rfl
  have W1 : Aside0 (PmInv B s ms 1 a (Value.slice A ms.length c) (w1.alloc (.cells #[.string (s.extract a i)] 9))) :=
   ⟨⟨(Below.heap_alloc _ _ _ (by have := W0.out.size; omega)).trans W0.out.text, (Below.heap_alloc _ _ _ (by have := W0.out.size; omega)).trans W0.out.marks, (Below.heap_alloc _ _ _ (by have := W0.out.size; omega)).trans W0.out.state,
    (Below.heap_alloc _ _ _ (by have := W0.out.size; omega)).trans W0.out.start, by have := W0.out.size; simp; omega, Kd.R_alloc W0.out.row _⟩⟩
  refine hK.out _ _ ⟨cell_of_one W1.out.marks, cell_of_one W1.out.text, cell_of_one W1.out.start⟩ (fun hHeld => ?_)
  clear hK K hHeld
  refine norm_ (a' := ?_) ?_ ?_
  rotate_left
  ·show Act.put _ (some 15) _ = _
   simp only [Act.put, List.setIfInBounds_toArray, List.set_cons_zero, List.set_cons_succ, i64_w, i32_w]
   rfl
  refine one_ (i := 6) (N := some 16) #[true, true, true, true, true, true, true, false] rfl rfl (by kernel_rfl) (by decide) (fun K hK => ?_)
  refine Kd.R_append_step Kd.string (B + 5) (by rfl) (.tmp 10) (.tmp 15) 24 9 (.string ⟨#[]⟩) 16 rfl Tryz.underlying24 info9 rfl (by decide) (by omega) (.slice A ms.length c) ms (s.extract a i) [.string (s.extract a i)] (fun k => B + 5 ≤ k) (fun _ => False) rfl rfl ?aP (fun _ hk => hk.elim) ?aF ?aO (Below.refl _ _) ?aS ?aL ?_
  (case aP => exact rfl)
  (case aF => exact (fun k_ hk => Nat.le_trans W0.out.size hk))
  (case aO => exact W0.out.row)
  (case aS => exact W0.out.size)
  (case aL => omega)
  intro v2 w2 ho hb hg hat
  obtain ⟨A2, cc2, e2⟩ := Kd.R_slice ho
  subst e2
  have hv : ∀ k, (Value.slice A ms.length c).ownBlock = some k → B + 5 ≤ k := fun k hk => W0.out.row.1 k hk
  have blk : ∀ k, k < B + 5 → w2.heap[k]? = w1.heap[k]? := fun k hk => hg.block k (by have := W0.out.size; omega) (fun e => by have := hv k e.symm; omega)
  have W3 : Aside0 (PmInv B s (ms ++ [s.extract a i]) 1 a (.slice A2 (ms ++ [s.extract a i]).length cc2) (w2.setCell ⟨B + 1, 0, none⟩ (.slice A2 (ms ++ [s.extract a i]).length cc2))) := ⟨W0.out.setMarks hg ho hv⟩
  have hm2 := (blk (B + 1) (by omega)).trans W0.out.marks
  have HB3 : Aside0 (Below B w (w2.setCell ⟨B + 1, 0, none⟩ (.slice A2 (ms ++ [s.extract a i]).length cc2))) := ⟨(HB.out.grown hg (by have := W0.out.size; omega) (fun k hk => by have := hv k hk; omega)).setCell (by show B ≤ B + 1; omega) _⟩
  have HE3 : Aside0 ((w2.setCell ⟨B + 1, 0, none⟩ (.slice A2 (ms ++ [s.extract a i]).length cc2)).heap[B + 4]? = w.heap[B + 4]?) := ⟨(heap_set_ne _ _ _ _ (by show B + 4 ≠ B + 1; omega)).trans ((blk (B + 4) (by omega)).trans HE.out)⟩
  have cM := cell_of_one hm2
  have fM := free_of_one hm2
  refine hK.out _ _ ⟨cM, cell_of_one ((blk B (by omega)).trans W0.out.text), cell_of_one ((blk (B + 3) (by omega)).trans W0.out.start)⟩ (fun hHeld => ?_)
  clear hK K hHeld hm2 ho hb hg hat hv blk
  refine norm_ (a' := ?_) ?_ ?_
  rotate_left
  ·show Act.put _ (some 16) _ = _
   simp only [Act.put, List.setIfInBounds_toArray, List.set_cons_zero, List.set_cons_succ, i64_w, i32_w]
   rfl
  refine last_ (i := 7) (N := none) #[true, true, true, true, true, true, true, true] rfl rfl (by kernel_rfl) (by decide) (fun K hK => ?_)
  refine skip_ (w1 := w2.setCell ⟨B + 1, 0, none⟩ (.slice A2 (ms ++ [s.extract a i]).length cc2)) (by rfl) rfl ?_ ?_
  ·go_simp
  refine hK.out _ _ ?_
  clear hK K cM fM
  refine done_ (by kernel_rfl) ?_
  generalize w2.setCell ⟨B + 1, 0, none⟩ (.slice A2 (ms ++ [s.extract a i]).length cc2) = w4 at W3 HB3 HE3 ⊢
  have c3 := cell_of_one W3.out.state
  have f3 := free_of_one W3.out.state
  go_wp2
  go_end0
  rw [PmPost, hp.out]
  exact ⟨rfl, ⟨_, W3.out.setState 0 0 rfl⟩, HB3.out.setCell (by show B ≤ B + 2; omega) _, (heap_set_ne _ _ _ _ (by show B + 4 ≠ B + 2; omega)).trans HE3.out⟩
 ·have e1b : (b == 62) = false := by simp [e1]
  have hp : Aside0 (pmStep s i ms 1 a = (ms, 1, a)) := ⟨by simp [pmStep, Hb.out, e1]⟩
  clear e1
  go_enter Tryz.func96, Tryz.ntmps96
  go_wp2
  go_end0
  rw [PmPost, hp.out]
  exact ⟨rfl, ⟨_, H.out⟩, Below.refl _ _, rfl⟩
def pmFns (B : Nat) : Array Value :=
 #[.func (.func 95) #[] #[.pointer (some ⟨B + 1 + 1, 0, none⟩), .pointer (some ⟨B + 1 + 1 + 1, 0, none⟩)],
  .func (.func 96) #[] #[.pointer (some ⟨B + 1, 0, none⟩), .pointer (some ⟨B, 0, none⟩), .pointer (some ⟨B + 1 + 1 + 1, 0, none⟩), .pointer (some ⟨B + 1 + 1, 0, none⟩)],
  .func (.func 97) #[] #[.pointer (some ⟨B + 1 + 1, 0, none⟩)]]
theorem pm_start (w : World) (s : ByteArray) (X : Obj) :
  PmInv w.heap.size s [] 0 0 (.slice none 0 0) (((((w.alloc (.cells #[.string s] 9)).alloc (.cells #[.slice none 0 0] 24)).alloc (.cells #[.int .i64 0] 3)).alloc (.cells #[.int .i64 0] 3)).alloc X) ∧
  (((((w.alloc (.cells #[.string s] 9)).alloc (.cells #[.slice none 0 0] 24)).alloc (.cells #[.int .i64 0] 3)).alloc (.cells #[.int .i64 0] 3)).alloc X).heap[w.heap.size + 4]? = some X := by
 generalize e1 : w.alloc (.cells #[.string s] 9) = w1
 have s1 : w1.heap.size = w.heap.size + 1 := by rw [← e1]; simp
 have h1 : w1.heap[w.heap.size]? = some (.cells #[.string s] 9 (0, 0)) := by rw [← e1]; exact heap_alloc_new _ _
 generalize e2 : w1.alloc (.cells #[.slice none 0 0] 24) = w2
 have s2 : w2.heap.size = w.heap.size + 2 := by rw [← e2]; simp [s1]
 have h2 : w2.heap[w.heap.size + 1]? = some (.cells #[.slice none 0 0] 24 (0, 0)) := by rw [← e2, ← s1]; exact heap_alloc_new _ _
 generalize e3 : w2.alloc (.cells #[.int .i64 0] 3) = w3
 have s3 : w3.heap.size = w.heap.size + 3 := by rw [← e3]; simp [s2]
 have h3 : w3.heap[w.heap.size + 2]? = some (.cells #[.int .i64 0] 3 (0, 0)) := by rw [← e3, ← s2]; exact heap_alloc_new _ _
 generalize e4 : w3.alloc (.cells #[.int .i64 0] 3) = w4
 have s4 : w4.heap.size = w.heap.size + 4 := by rw [← e4]; simp [s3]
 have h4 : w4.heap[w.heap.size + 3]? = some (.cells #[.int .i64 0] 3 (0, 0)) := by rw [← e4, ← s3]; exact heap_alloc_new _ _
 have a2 : ∀ j, j < w.heap.size + 1 → w2.heap[j]? = w1.heap[j]? := fun j hj => by rw [← e2]; exact Below.heap_alloc _ _ _ (by omega)
 have a3 : ∀ j, j < w.heap.size + 2 → w3.heap[j]? = w2.heap[j]? := fun j hj => by rw [← e3]; exact Below.heap_alloc _ _ _ (by omega)
 have a4 : ∀ j, j < w.heap.size + 3 → w4.heap[j]? = w3.heap[j]? := fun j hj => by rw [← e4]; exact Below.heap_alloc _ _ _ (by omega)
 have a5 : ∀ j, j < w.heap.size + 4 → (w4.alloc X).heap[j]? = w4.heap[j]? := fun j hj => Below.heap_alloc _ _ _ (by omega)
 refine ⟨⟨?_, ?_, ?_, ?_, by simp [s4], Kd.R_nil _ _ _ _ _⟩, ?_⟩
 ·rw [a5 _ (by omega), a4 _ (by omega), a3 _ (by omega), a2 _ (by omega)]; exact h1
 ·rw [a5 _ (by omega), a4 _ (by omega), a3 _ (by omega)]; exact h2
 ·rw [a5 _ (by omega), a4 _ (by omega)]; exact h3
 ·rw [a5 _ (by omega)]; exact h4
 ·rw [← s4]; exact heap_alloc_new _ _
def impl_pageMarks.f (a0 : ByteArray) : Option (List ByteArray) := some (marks a0)
set_option maxHeartbeats 400000 in
set_option maxRecDepth 100000 in
theorem impl_pageMarks.calls (a0 : ByteArray) (r : List ByteArray) (w : World) (h : impl_pageMarks.f a0 = some r) :
  Calls Tryz.prog 74 #[.string a0] w fun e w' => ∃ v0_ : Value, e = .returned (v0_) ∧ Kd.R Kd.string 9 w' w.heap.size (fun _ => True) v0_ r ∧ Below w.heap.size w w' := by
 obtain rfl := Option.some.inj h
 clear h
 by_cases hs : a0.size ≤ 300
 ·have hs' : decide (300 < (a0.size : Int)) = false := by simp; omega
  have hmk : Aside0 (marks a0 = (pmTo a0 a0.size).1) := ⟨by unfold marks; rw [if_pos hs]⟩
  go_enter Tryz.func74, Tryz.ntmps74
  go_wp2_with fail
  go_loopw [7] (fun i wr => ∃ k : Nat, k ≤ a0.size ∧ i = .int .i64 k ∧ Aside0 (∃ v, PmInv w.heap.size a0 (pmTo a0 k).1 (pmTo a0 k).2.1 (pmTo a0 k).2.2 v wr) ∧ Aside0 (wr.heap[w.heap.size + 4]? = some (.cells (pmFns w.heap.size) 105 (0, 0))) ∧ Aside0 (Below w.heap.size w wr))
   (fun i _ => a0.size - (intOf i).toNat)
  case atStart =>
   refine ⟨0, Nat.zero_le _, rfl, ⟨_, (pm_start w a0 _).1⟩, ⟨(pm_start w a0 _).2⟩, ⟨?_⟩⟩
   exact (((((Below.refl _ w).alloc (Nat.le_refl _) _).alloc (by simp) _).alloc (by simp; omega) _).alloc (by simp; omega) _).alloc (by simp; omega) _
  case round =>
   obtain ⟨k, hk, rfl, ⟨v, hI⟩, hA, hB⟩ := hrel
   have HI := Aside0.mk hI
   have cT := cell_of_one hI.text
   have ok := pmTo_ok a0 k
   by_cases hlt : k < a0.size
   ·have Hn : Aside0 (pmTo a0 (k + 1) = pmStep a0 k (pmTo a0 k).1 (pmTo a0 k).2.1 (pmTo a0 k).2.2) := ⟨rfl⟩
    have HA0 := Aside0.mk hA.out
    have ok1 := ok.1
    have ok2 := ok.2.1
    have ok3 := ok.2.2
    clear hI ok hA
    generalize (pmTo a0 k).1 = ms at HI Hn ok3
    generalize (pmTo a0 k).2.1 = st at HI Hn ok1
    generalize (pmTo a0 k).2.2 = a at HI Hn ok2
    have hbt := bt_at a0 k
    go_wp2_with fail
    have W0 : Aside0 (PmInv w.heap.size a0 ms st a v wr.drew) := ⟨⟨HI.out.text, HI.out.marks, HI.out.state, HI.out.start, HI.out.size, Kd.R_drew HI.out.row⟩⟩
    replace HA0 : Aside0 (wr.drew.heap[w.heap.size + 4]? = some (.cells (pmFns w.heap.size) 105 (0, 0))) := ⟨HA0.out⟩
    have HB0 : Aside0 (Below w.heap.size w wr.drew) := ⟨below_drew hB.out⟩
    clear HI hB cT
    obtain rfl | rfl | rfl : st = 0 ∨ st = 1 ∨ st = 2 := by omega
    ·skip
     refine start_ (n := 8) (S := fun w' => w'.cell? ⟨w.heap.size + 1 + 1, 0, none⟩ = some (.int .i64 0) ∧ w'.cell? ⟨w.heap.size, 0, none⟩ = some (.string a0) ∧ w'.cell? ⟨w.heap.size + 1 + 1 + 1 + 1, 0, none⟩ = some (.func (.func 95) #[] #[.pointer (some ⟨w.heap.size + 1 + 1, 0, none⟩), .pointer (some ⟨w.heap.size + 1 + 1 + 1, 0, none⟩)])) (ds := [7]) #[false, false, false, false, false, false, false, false] (by kernel_rfl) rfl rfl ⟨cell_of_one W0.out.state, cell_of_one W0.out.text, blk_cell HA0.out 0⟩ (fun hHeld => ?_)
     generalize wr.drew = w1 at W0 HA0 HB0 hHeld ⊢
     refine take_ (i := 0) (N := some 23) (v := ?_) (a' := ?_) #[true, false, false, false, false, false, false, false] rfl rfl (by kernel_rfl) (fun _ _ _ h => h) (Or.inl ⟨by rfl, ?_⟩) hHeld ?_ ?_
     rotate_left
     ·rintro w' ⟨s0, s1, s2⟩
      go_simp
      with_reducible rfl
     rotate_left
     ·simp only [Act.put, List.setIfInBounds_toArray, List.set_cons_zero, List.set_cons_succ, i64_w, i32_w]
      rfl
     refine pure_ (i := 1) (N := some 24) (v := .pointer (some ⟨w.heap.size + 1 + 1 + 1 + 1, 0, none⟩)) (a' := ?_) #[true, true, false, false, false, false, false, false] rfl rfl (by kernel_rfl) (fun _ _ _ h => h) (Or.inl ⟨by rfl, ?_⟩) ?_ ?_
     ·intro w'
      go_simp
     rotate_left
     ·simp only [Act.put, List.setIfInBounds_toArray, List.set_cons_zero, List.set_cons_succ, i64_w, i32_w]
      rfl
     refine take_ (i := 2) (N := some 25) (v := ?_) (a' := ?_) #[true, true, true, false, false, false, false, false] rfl rfl (by kernel_rfl) (fun _ _ _ h => h) (Or.inl ⟨by rfl, ?_⟩) hHeld ?_ ?_
     rotate_left
     ·rintro w' ⟨s0, s1, s2⟩
      go_simp
      with_reducible rfl
     rotate_left
     ·simp only [Act.put, List.setIfInBounds_toArray, List.set_cons_zero, List.set_cons_succ, i64_w, i32_w]
      rfl
     refine pure_ (i := 3) (N := some 26) (v := ?_) (a' := ?_) #[true, true, true, true, false, false, false, false] rfl rfl (by kernel_rfl) (fun _ _ _ h => h) (Or.inl ⟨by rfl, ?_⟩) ?_ ?_
     rotate_left
     ·intro w'
      go_simp
      with_reducible rfl
     rotate_left
     ·simp only [Act.put, List.setIfInBounds_toArray, List.set_cons_zero, List.set_cons_succ, i64_w, i32_w]
      rfl
     refine take_ (i := 4) (N := some 27) (v := ?_) (a' := ?_) #[true, true, true, true, true, false, false, false] rfl rfl (by kernel_rfl) (fun _ _ _ h => h) (Or.inl ⟨by rfl, ?_⟩) hHeld ?_ ?_
     rotate_left
     ·rintro w' ⟨s0, s1, s2⟩
      go_simp
      with_reducible rfl
     rotate_left
     ·simp only [Act.put, List.setIfInBounds_toArray, List.set_cons_zero, List.set_cons_succ, i64_w, i32_w]
      rfl
     refine pure_ (i := 5) (N := some 28) (v := ?_) (a' := ?_) #[true, true, true, true, true, true, false, false] rfl rfl (by kernel_rfl) (fun _ _ _ h => h) (Or.inl ⟨by rfl, ?_⟩) ?_ ?_
     rotate_left
     ·intro w'
      go_simp
      with_reducible rfl
     rotate_left
     ·simp only [Act.put, List.setIfInBounds_toArray, List.set_cons_zero, List.set_cons_succ, i64_w, i32_w]
      rfl
     refine pure_ (i := 6) (N := some 29) (v := .int .u8 (bt a0 k)) (a' := ?_) #[true, true, true, true, true, true, true, false] rfl rfl (by kernel_rfl) (fun _ _ _ h => h) (Or.inl ⟨by rfl, ?_⟩) ?_ ?_
     ·intro w'
      go_simp
      exact bt_at a0 k (by simpa using hlt)
     rotate_left
     ·simp only [Act.put, List.setIfInBounds_toArray, List.set_cons_zero, List.set_cons_succ, i64_w, i32_w]
      rfl
     refine last_ (i := 7) (N := some 30) #[true, true, true, true, true, true, true, true] rfl rfl (by kernel_rfl) (by decide) (fun K hK => ?_)
     refine callv_ Tryz.func95 (by kernel_rfl) rfl #[.int .i64 k, .int .u8 (bt a0 k), .pointer (some ⟨w.heap.size + 1 + 1, 0, none⟩), .pointer (some ⟨w.heap.size + 1 + 1 + 1, 0, none⟩)] (by rfl) rfl (.tmp 25) rfl rfl (by simp [Act.eval]) ?_
     refine (pm1_calls w.heap.size k a0 ms a v w1 W0.out (by omega)).mono ?_
     rintro e w2 ⟨rfl, ⟨v2, hI2⟩, hB2, hE2⟩
     refine ⟨_, rfl, hK.out _ _ ?_⟩
     have HI2 := Aside0.mk hI2
     have HB2 : Aside0 (Below w.heap.size w w2) := ⟨HB0.out.trans hB2⟩
     have HA2 := Aside0.mk (hE2.trans HA0.out)
     clear hI2 hB2 hE2 hK
     refine done_ (by kernel_rfl) ?_
     go_wp2
     go_roundw
     case rel => exact ⟨k + 1, by omega, by go_num, ⟨v2, by rw [Hn.out]; exact HI2.out⟩, HA2, HB2⟩
     case measure => simp [intOf]; omega
    ·skip
     refine start_ (n := 8) (S := fun w' => w'.cell? ⟨w.heap.size + 1 + 1, 0, none⟩ = some (.int .i64 1) ∧ w'.cell? ⟨w.heap.size, 0, none⟩ = some (.string a0) ∧ w'.cell? ⟨w.heap.size + 1 + 1 + 1 + 1, 1, none⟩ = some (.func (.func 96) #[] #[.pointer (some ⟨w.heap.size + 1, 0, none⟩), .pointer (some ⟨w.heap.size, 0, none⟩), .pointer (some ⟨w.heap.size + 1 + 1 + 1, 0, none⟩), .pointer (some ⟨w.heap.size + 1 + 1, 0, none⟩)])) (ds := [7]) #[false, false, false, false, false, false, false, false] (by kernel_rfl) rfl rfl ⟨cell_of_one W0.out.state, cell_of_one W0.out.text, blk_cell HA0.out 1⟩ (fun hHeld => ?_)
     generalize wr.drew = w1 at W0 HA0 HB0 hHeld ⊢
     refine take_ (i := 0) (N := some 23) (v := ?_) (a' := ?_) #[true, false, false, false, false, false, false, false] rfl rfl (by kernel_rfl) (fun _ _ _ h => h) (Or.inl ⟨by rfl, ?_⟩) hHeld ?_ ?_
     rotate_left
     ·rintro w' ⟨s0, s1, s2⟩
      go_simp
      with_reducible rfl
     rotate_left
     ·simp only [Act.put, List.setIfInBounds_toArray, List.set_cons_zero, List.set_cons_succ, i64_w, i32_w]
      rfl
     refine pure_ (i := 1) (N := some 24) (v := .pointer (some ⟨w.heap.size + 1 + 1 + 1 + 1, 1, none⟩)) (a' := ?_) #[true, true, false, false, false, false, false, false] rfl rfl (by kernel_rfl) (fun _ _ _ h => h) (Or.inl ⟨by rfl, ?_⟩) ?_ ?_
     ·intro w'
      go_simp
     rotate_left
     ·simp only [Act.put, List.setIfInBounds_toArray, List.set_cons_zero, List.set_cons_succ, i64_w, i32_w]
      rfl
     refine take_ (i := 2) (N := some 25) (v := ?_) (a' := ?_) #[true, true, true, false, false, false, false, false] rfl rfl (by kernel_rfl) (fun _ _ _ h => h) (Or.inl ⟨by rfl, ?_⟩) hHeld ?_ ?_
     rotate_left
     ·rintro w' ⟨s0, s1, s2⟩
      go_simp
      with_reducible rfl
     rotate_left
     ·simp only [Act.put, List.setIfInBounds_toArray, List.set_cons_zero, List.set_cons_succ, i64_w, i32_w]
      rfl
     refine pure_ (i := 3) (N := some 26) (v := ?_) (a' := ?_) #[true, true, true, true, false, false, false, false] rfl rfl (by kernel_rfl) (fun _ _ _ h => h) (Or.inl ⟨by rfl, ?_⟩) ?_ ?_
     rotate_left
     ·intro w'
      go_simp
      with_reducible rfl
     rotate_left
     ·simp only [Act.put, List.setIfInBounds_toArray, List.set_cons_zero, List.set_cons_succ, i64_w, i32_w]
      rfl
     refine take_ (i := 4) (N := some 27) (v := ?_) (a' := ?_) #[true, true, true, true, true, false, false, false] rfl rfl (by kernel_rfl) (fun _ _ _ h => h) (Or.inl ⟨by rfl, ?_⟩) hHeld ?_ ?_
     rotate_left
     ·rintro w' ⟨s0, s1, s2⟩
      go_simp
      with_reducible rfl
     rotate_left
     ·simp only [Act.put, List.setIfInBounds_toArray, List.set_cons_zero, List.set_cons_succ, i64_w, i32_w]
      rfl
     refine pure_ (i := 5) (N := some 28) (v := ?_) (a' := ?_) #[true, true, true, true, true, true, false, false] rfl rfl (by kernel_rfl) (fun _ _ _ h => h) (Or.inl ⟨by rfl, ?_⟩) ?_ ?_
     rotate_left
     ·intro w'
      go_simp
      with_reducible rfl
     rotate_left
     ·simp only [Act.put, List.setIfInBounds_toArray, List.set_cons_zero, List.set_cons_succ, i64_w, i32_w]
      rfl
     refine pure_ (i := 6) (N := some 29) (v := .int .u8 (bt a0 k)) (a' := ?_) #[true, true, true, true, true, true, true, false] rfl rfl (by kernel_rfl) (fun _ _ _ h => h) (Or.inl ⟨by rfl, ?_⟩) ?_ ?_
     ·intro w'
      go_simp
      exact bt_at a0 k (by simpa using hlt)
     rotate_left
     ·simp only [Act.put, List.setIfInBounds_toArray, List.set_cons_zero, List.set_cons_succ, i64_w, i32_w]
      rfl
     refine last_ (i := 7) (N := some 30) #[true, true, true, true, true, true, true, true] rfl rfl (by kernel_rfl) (by decide) (fun K hK => ?_)
     refine callv_ Tryz.func96 (by kernel_rfl) rfl #[.int .i64 k, .int .u8 (bt a0 k), .pointer (some ⟨w.heap.size + 1, 0, none⟩), .pointer (some ⟨w.heap.size, 0, none⟩), .pointer (some ⟨w.heap.size + 1 + 1 + 1, 0, none⟩), .pointer (some ⟨w.heap.size + 1 + 1, 0, none⟩)] (by rfl) rfl (.tmp 25) rfl rfl (by simp [Act.eval]) ?_
     refine (pm2_calls w.heap.size k a0 ms a v w1 W0.out (by omega) (by omega) (by omega) (by omega)).mono ?_
     rintro e w2 ⟨rfl, ⟨v2, hI2⟩, hB2, hE2⟩
     refine ⟨_, rfl, hK.out _ _ ?_⟩
     have HI2 := Aside0.mk hI2
     have HB2 : Aside0 (Below w.heap.size w w2) := ⟨HB0.out.trans hB2⟩
     have HA2 := Aside0.mk (hE2.trans HA0.out)
     clear hI2 hB2 hE2 hK
     refine done_ (by kernel_rfl) ?_
     go_wp2
     go_roundw
     case rel => exact ⟨k + 1, by omega, by go_num, ⟨v2, by rw [Hn.out]; exact HI2.out⟩, HA2, HB2⟩
     case measure => simp [intOf]; omega
    ·skip
     refine start_ (n := 8) (S := fun w' => w'.cell? ⟨w.heap.size + 1 + 1, 0, none⟩ = some (.int .i64 2) ∧ w'.cell? ⟨w.heap.size, 0, none⟩ = some (.string a0) ∧ w'.cell? ⟨w.heap.size + 1 + 1 + 1 + 1, 2, none⟩ = some (.func (.func 97) #[] #[.pointer (some ⟨w.heap.size + 1 + 1, 0, none⟩)])) (ds := [7]) #[false, false, false, false, false, false, false, false] (by kernel_rfl) rfl rfl ⟨cell_of_one W0.out.state, cell_of_one W0.out.text, blk_cell HA0.out 2⟩ (fun hHeld => ?_)
     generalize wr.drew = w1 at W0 HA0 HB0 hHeld ⊢
     refine take_ (i := 0) (N := some 23) (v := ?_) (a' := ?_) #[true, false, false, false, false, false, false, false] rfl rfl (by kernel_rfl) (fun _ _ _ h => h) (Or.inl ⟨by rfl, ?_⟩) hHeld ?_ ?_
     rotate_left
     ·rintro w' ⟨s0, s1, s2⟩
      go_simp
      with_reducible rfl
     rotate_left
     ·simp only [Act.put, List.setIfInBounds_toArray, List.set_cons_zero, List.set_cons_succ, i64_w, i32_w]
      rfl
     refine pure_ (i := 1) (N := some 24) (v := .pointer (some ⟨w.heap.size + 1 + 1 + 1 + 1, 2, none⟩)) (a' := ?_) #[true, true, false, false, false, false, false, false] rfl rfl (by kernel_rfl) (fun _ _ _ h => h) (Or.inl ⟨by rfl, ?_⟩) ?_ ?_
     ·intro w'
      go_simp
     rotate_left
     ·simp only [Act.put, List.setIfInBounds_toArray, List.set_cons_zero, List.set_cons_succ, i64_w, i32_w]
      rfl
     refine take_ (i := 2) (N := some 25) (v := ?_) (a' := ?_) #[true, true, true, false, false, false, false, false] rfl rfl (by kernel_rfl) (fun _ _ _ h => h) (Or.inl ⟨by rfl, ?_⟩) hHeld ?_ ?_
     rotate_left
     ·rintro w' ⟨s0, s1, s2⟩
      go_simp
      with_reducible rfl
     rotate_left
     ·simp only [Act.put, List.setIfInBounds_toArray, List.set_cons_zero, List.set_cons_succ, i64_w, i32_w]
      rfl
     refine pure_ (i := 3) (N := some 26) (v := ?_) (a' := ?_) #[true, true, true, true, false, false, false, false] rfl rfl (by kernel_rfl) (fun _ _ _ h => h) (Or.inl ⟨by rfl, ?_⟩) ?_ ?_
     rotate_left
     ·intro w'
      go_simp
      with_reducible rfl
     rotate_left
     ·simp only [Act.put, List.setIfInBounds_toArray, List.set_cons_zero, List.set_cons_succ, i64_w, i32_w]
      rfl
     refine take_ (i := 4) (N := some 27) (v := ?_) (a' := ?_) #[true, true, true, true, true, false, false, false] rfl rfl (by kernel_rfl) (fun _ _ _ h => h) (Or.inl ⟨by rfl, ?_⟩) hHeld ?_ ?_
     rotate_left
     ·rintro w' ⟨s0, s1, s2⟩
      go_simp
      with_reducible rfl
     rotate_left
     ·simp only [Act.put, List.setIfInBounds_toArray, List.set_cons_zero, List.set_cons_succ, i64_w, i32_w]
      rfl
     refine pure_ (i := 5) (N := some 28) (v := ?_) (a' := ?_) #[true, true, true, true, true, true, false, false] rfl rfl (by kernel_rfl) (fun _ _ _ h => h) (Or.inl ⟨by rfl, ?_⟩) ?_ ?_
     rotate_left
     ·intro w'
      go_simp
      with_reducible rfl
     rotate_left
     ·simp only [Act.put, List.setIfInBounds_toArray, List.set_cons_zero, List.set_cons_succ, i64_w, i32_w]
      rfl
     refine pure_ (i := 6) (N := some 29) (v := .int .u8 (bt a0 k)) (a' := ?_) #[true, true, true, true, true, true, true, false] rfl rfl (by kernel_rfl) (fun _ _ _ h => h) (Or.inl ⟨by rfl, ?_⟩) ?_ ?_
     ·intro w'
      go_simp
      exact bt_at a0 k (by simpa using hlt)
     rotate_left
     ·simp only [Act.put, List.setIfInBounds_toArray, List.set_cons_zero, List.set_cons_succ, i64_w, i32_w]
      rfl
     refine last_ (i := 7) (N := some 30) #[true, true, true, true, true, true, true, true] rfl rfl (by kernel_rfl) (by decide) (fun K hK => ?_)
     refine callv_ Tryz.func97 (by kernel_rfl) rfl #[.int .i64 k, .int .u8 (bt a0 k), .pointer (some ⟨w.heap.size + 1 + 1, 0, none⟩)] (by rfl) rfl (.tmp 25) rfl rfl (by simp [Act.eval]) ?_
     refine (pm3_calls w.heap.size k a0 ms a v w1 W0.out (by omega)).mono ?_
     rintro e w2 ⟨rfl, ⟨v2, hI2⟩, hB2, hE2⟩
     refine ⟨_, rfl, hK.out _ _ ?_⟩
     have HI2 := Aside0.mk hI2
     have HB2 : Aside0 (Below w.heap.size w w2) := ⟨HB0.out.trans hB2⟩
     have HA2 := Aside0.mk (hE2.trans HA0.out)
     clear hI2 hB2 hE2 hK
     refine done_ (by kernel_rfl) ?_
     go_wp2
     go_roundw
     case rel => exact ⟨k + 1, by omega, by go_num, ⟨v2, by rw [Hn.out]; exact HI2.out⟩, HA2, HB2⟩
     case measure => simp [intOf]; omega
   ·have ek : k = a0.size := by omega
    have Hk := Aside0.mk ek
    clear ek
    have cM := cell_of_one hI.marks
    clear hI
    go_wp2
    go_ret
    refine ⟨_, rfl, ?_, hB.out⟩
    rw [hmk.out, ← Hk.out]
    exact Kd.R_lower (Kd.R_mono HI.out.row (fun _ _ => trivial)) (by omega)
 ·have hs' : decide (300 < (a0.size : Int)) = true := by simp; omega
  have hmk : Aside0 (marks a0 = []) := ⟨by unfold marks; rw [if_neg hs]⟩
  clear hs
  go_enter Tryz.func74, Tryz.ntmps74
  go_wp2
  go_ret
  exact ⟨_, rfl, by rw [hmk.out]; exact Kd.R_nil _ _ _ _ _, (Below.refl _ _).alloc (Nat.le_refl _) _⟩
end Go.Proofs.YtpnedbnpnekahaaGreatDoor.P
end
section
namespace Go.Proofs.YtpnedbnpnekahaaGreatDoor.P
open Go.RowKit Go.Proofs.YtpnedbnpnekahaaGreatDoorW.PrintWords Go.Proofs.YtpnedbnpnekahaaGreatDoorW.PrintLast Go.Proofs.YtpnedbnpnekahaaGreatDoorW.PrintMore
attribute [local go_sem] max2_int min2_int max_two min_two max_three min_three max_four min_four
set_option linter.unusedVariables false
set_option linter.unusedSimpArgs false
def impl_PageBase.l0 : Nat → List ByteArray → Int → Int → Option (ByteArray × Bool)
 | 0, _, _, _ => none
 | k + 1, x7, x8, x9 => if x9 < x8 then (if 0 ≤ x9 then (if x9 < (x7.length : Int) then ((impl_beginsWith.f (rdOf ByteArray.empty x7 x9) 64).bind fun t558 => (if t558 = true then (if 1 ≤ ((rdOf ByteArray.empty x7 x9).size : Int) then (some ((rdOf ByteArray.empty x7 x9).extract 1 (rdOf ByteArray.empty x7 x9).size, true)) else (none)) else (impl_PageBase.l0 k x7 x8 (wrap64 (x9 + 1))))) else (none)) else (none)) else (some ((⟨#[]⟩ : ByteArray), false))
def impl_PageBase.f (k : Nat) (a0 : ByteArray) : Option (ByteArray × Bool) := (impl_pageMarks.f a0).bind fun t554 => (impl_PageBase.l0 k t554 (t554.length : Int) 0)
theorem impl_PageBase.mono_l : ∀ k, (∀ y0 y1 y2, LeO (impl_PageBase.l0 k y0 y1 y2) (impl_PageBase.l0 (k + 1) y0 y1 y2))
 | 0 => fun _ _ _ r h => by simp [impl_PageBase.l0] at h
 | k + 1 => by
  have ih0 := impl_PageBase.mono_l k
  ·intro y0 y1 y2
   unfold impl_PageBase.l0
   repeat' first | (with_reducible first | exact ih0 _ _ _ | exact LeO.refl _ | exact LeO.none _ | refine LeO.ite ?_ ?_ | refine LeO.bind ?_ (fun _ => ?_)) | exact LeO.none _ | refine LeO.ite ?_ ?_ | refine LeO.bind ?_ (fun _ => ?_)
set_option maxHeartbeats 8000000 in
set_option maxRecDepth 100000 in
theorem impl_PageBase.calls (k : Nat) (a0 : ByteArray) (r1 : ByteArray) (r2 : Bool) (w : World) (h : impl_PageBase.f k a0 = some (r1, r2)) :
  Calls Tryz.prog 58 #[.string a0] w fun e w' => e = .returned (.tuple #[.string r1, .bool r2]) ∧ Below w.heap.size w w' := by
 have HB := Aside0.mk (Below.refl w.heap.size w);have H : ((impl_pageMarks.f a0).bind fun t554 => (impl_PageBase.l0 k t554 (t554.length : Int) 0)) = some (r1, r2) := h;clear h;replace H := bindA H;obtain ⟨t554, A2, H⟩ := H;have H' := Aside0.mk H;clear H;go_enter Tryz.func58, Tryz.ntmps58;go_wp2_with (first | ((with_reducible refine gate_callee (f := 74) rfl ?_); refine gsL (some 7) Tryz.func74 #[.string a0] ?_; (with_reducible refine (impl_pageMarks.calls a0 t554 _ A2.out).mono ?_); rintro e w3 ⟨v555, rfl, ho0, hb⟩; refine ⟨_, rfl, ?_⟩; have HO556 := Aside0.mk (Kd.R_lower ho0 (below_size (zz0 HB))); replace HB := Aside0.mk (below_step (zz0 HB) hb); (try clear hb ho0); obtain ⟨Ao4, co4, eo4⟩ := Kd.R_slice HO556.out; subst eo4))
 go_loopg [9] k (fun kq v9 w' => ∃ (x9_1 : Int), v9 = .int .i64 x9_1 ∧ Aside0 (impl_PageBase.l0 kq t554 (t554.length : Int) x9_1 = some (r1, r2)) ∧ Aside0 (kq ≤ k) ∧ Aside0 (Kd.R Kd.string 9 w' w.heap.size (fun _ => True) (.slice Ao4 t554.length co4) t554) ∧ Aside0 (Below w.heap.size w w'))
 case atStart => exact ⟨(0), zz3, H', ⟨Nat.le_refl _⟩, ⟨(zz28 HO556)⟩, ⟨(zz0 HB)⟩⟩
 case round =>
  clear H';obtain ⟨x9_1, rfl, HA, HK1, HO_7, HB⟩ := hrel;cases gk with
  | zero => exact absurd HA.out (by simp [impl_PageBase.l0])
  | succ k1 =>
   have H := HA.out;clear HA;simp only [impl_PageBase.l0] at H
   by_cases c5 : x9_1 < (t554.length : Int)
   ·rw [if_pos c5] at H
    have c5b0 : decide (x9_1 < (t554.length : Int)) = true := decide_eq_true c5;clear c5;by_cases c6 : 0 ≤ x9_1
    ·rw [if_pos c6] at H
     have c6b0 : decide (0 ≤ x9_1) = true := decide_eq_true c6;clear c6;by_cases c7 : x9_1 < (t554.length : Int)
     ·rw [if_pos c7] at H
      have c7b0 : decide (x9_1 < (t554.length : Int)) = true := decide_eq_true c7;clear c7;replace H := bindA H;obtain ⟨t558, A8, H⟩ := H;by_cases c9 : t558 = true
      ·subst c9
       rw [if_pos rfl] at H;by_cases c10 : 1 ≤ ((rdOf ByteArray.empty t554 x9_1).size : Int)
       ·rw [if_pos c10] at H
        have c10b0 := eq_true c10;have c10b1 : decide (1 ≤ ((rdOf ByteArray.empty t554 x9_1).size : Int)) = true := decide_eq_true c10;clear c10;simp only [Option.some.injEq, Prod.mk.injEq] at H
        obtain ⟨rfl, rfl⟩ := H;have p557 : 0 ≤ (x9_1 : Int) := ofD;have q557 : x9_1 < (t554.length : Int) := ofD;obtain ⟨ad557, e557, hx557_0⟩ := Kd.at_string (Kd.R_reads' HO_7.out).2.2 x9_1 p557 q557;cases e557
        replace p557 := eq_true p557;replace q557 := eq_true q557;go_wp2_with (first | ((with_reducible refine gate_callee (f := 75) rfl ?_); refine gsL (some 14) Tryz.func75 #[.string (rdOf ByteArray.empty t554 x9_1), .int .u8 64] ?_; (with_reducible refine (impl_beginsWith.calls (rdOf ByteArray.empty t554 x9_1) 64 true _ A8.out).mono ?_); rintro e w' ⟨rfl, ⟨nd, rfl⟩⟩; refine ⟨_, rfl, ?_⟩))
        go_ret2
        exact ⟨zz1, (zz0 HB)⟩
       ·rw [if_neg c10] at H
        exact absurd H (by simp)
      ·replace c9 := Bool.eq_false_iff.mpr c9
       subst c9;rw [if_neg (show ¬ (false = true) by decide)] at H;have H' := Aside0.mk H;clear H;have p557 : 0 ≤ (x9_1 : Int) := ofD;have q557 : x9_1 < (t554.length : Int) := ofD;obtain ⟨ad557, e557, hx557_0⟩ := Kd.at_string (Kd.R_reads' HO_7.out).2.2 x9_1 p557 q557;cases e557
       replace p557 := eq_true p557;replace q557 := eq_true q557;go_wp2_with (first | ((with_reducible refine gate_callee (f := 75) rfl ?_); refine gsL (some 14) Tryz.func75 #[.string (rdOf ByteArray.empty t554 x9_1), .int .u8 64] ?_; (with_reducible refine (impl_beginsWith.calls (rdOf ByteArray.empty t554 x9_1) 64 false _ A8.out).mono ?_); rintro e w' ⟨rfl, ⟨nd, rfl⟩⟩; refine ⟨_, rfl, ?_⟩))
       go_roundg k1
       case measure => have := HK1.out; omega
       case rel => exact ⟨(wrap64 (x9_1 + 1)), zz3, H', ⟨(zz5 HK1)⟩, ⟨(zz28 HO_7)⟩, ⟨(zz0 HB)⟩⟩
     ·rw [if_neg c7] at H
      exact absurd H (by simp)
    ·rw [if_neg c6] at H
     exact absurd H (by simp)
   ·rw [if_neg c5] at H
    have c5b0 : decide (x9_1 < (t554.length : Int)) = false := decide_eq_false c5;clear c5;simp only [Option.some.injEq, Prod.mk.injEq] at H
    obtain ⟨rfl, rfl⟩ := H;go_wp2
    go_ret2
    exact ⟨zz1, (zz0 HB)⟩
def strings_HasPrefix.f (a0 : ByteArray) (a1 : ByteArray) : Option (Bool) := (stringslite_HasPrefix.f a0 a1).bind fun t559 => (some t559)
set_option maxHeartbeats 8000000 in
set_option maxRecDepth 100000 in
theorem strings_HasPrefix.calls (a0 : ByteArray) (a1 : ByteArray) (r : Bool) (w : World) (h : strings_HasPrefix.f a0 a1 = some r) :
  Calls Tryz.prog 76 #[.string a0, .string a1] w fun e w' => e = .returned (.bool r) ∧ Drawn0 w w' := by
 have H : ((stringslite_HasPrefix.f a0 a1).bind fun t559 => (some t559)) = some r := h;clear h;replace H := bindA H;obtain ⟨t559, A3, H⟩ := H;obtain rfl := Option.some.inj H;go_enter Tryz.func76, Tryz.ntmps76;go_wp2_with (first | ((with_reducible refine gate_callee (f := 98) rfl ?_); refine gsL (some 7) Tryz.func98 #[.string a0, .string a1] ?_; (with_reducible refine (stringslite_HasPrefix.calls a0 a1 t559 _ A3.out).mono ?_); rintro e w' ⟨rfl, ⟨nd, rfl⟩⟩; refine ⟨_, rfl, ?_⟩))
 go_ret
 exact ⟨zz3, zz6⟩
def impl_AddrJoin.j0 : Nat → ByteArray → Bool → ByteArray → List ByteArray → Bool → ByteArray → Option (ByteArray × List ByteArray × Bool × ByteArray × Bool)
 | 0, _, _, _, _, _, _ => none
 | k + 1, x1, x16, x561000, x561001, x561002, x561003 => if x16 = true then (some ((⟨#[]⟩ : ByteArray), ([] : List ByteArray), false, (⟨#[]⟩ : ByteArray), false)) else ((strings_Cut.f x1 (⟨#[35]⟩ : ByteArray)).bind fun bt563 => ((strings_HasPrefix.f bt563.1 (⟨#[47, 47]⟩ : ByteArray)).bind fun t566 => (if t566 = true then ((impl_readWhole.f k bt563.1).bind fun bt567 => (some (bt567.1, bt567.2.1, bt567.2.2.1, bt567.2.2.2.1, bt567.2.2.2.2))) else (if bt563.1.toList = ([] : List UInt8) then ((slices_Clone_string_string.f x561001).bind fun t574 => (some (x561000, t574, x561002, x561003, true))) else (if 0 < (bt563.1.size : Int) then (if (bt bt563.1 0) = 47 then ((impl_readWay.f k x561000 ([] : List ByteArray) bt563.1).bind fun bt577 => (some (bt577.1, bt577.2.1, bt577.2.2.1, bt577.2.2.2.1, bt577.2.2.2.2))) else (if (bt bt563.1 0) = 63 then ((impl_readWay.f k x561000 x561001 bt563.1).bind fun bt584 => (some (bt584.1, bt584.2.1, bt584.2.2.1, bt584.2.2.2.1, bt584.2.2.2.2))) else (if 0 ≤ (mx (wrap64 ((x561001.length : Int) - 1)) 0) then (if (mx (wrap64 ((x561001.length : Int) - 1)) 0) ≤ (x561001.length : Int) then ((impl_readWay.f k x561000 (x561001.take ((mx (wrap64 ((x561001.length : Int) - 1)) 0) : Int).toNat) bt563.1).bind fun bt592 => (some (bt592.1, bt592.2.1, bt592.2.2.1, bt592.2.2.2.1, bt592.2.2.2.2))) else (none)) else (none)))) else (none))))))
def impl_AddrJoin.f (k : Nat) (a0_0 : ByteArray) (l0_1 : List ByteArray) (a0_2 : Bool) (a0_3 : ByteArray) (a1 : ByteArray) : Option (ByteArray × List ByteArray × Bool × ByteArray × Bool) := if (a1.size : Int) > 60 then (impl_AddrJoin.j0 k a1 true a0_0 l0_1 a0_2 a0_3) else ((impl_AddrOk.f k a0_0 l0_1 a0_2 a0_3).bind fun t562 => (impl_AddrJoin.j0 k a1 (!t562) a0_0 l0_1 a0_2 a0_3))
def impl_AddrJoin.T13 : Bool × List (List Nat × List Nat) := (true, [([], []), ([0], [0]), ([], []), ([2], [2]), ([], []), ([4], [4]), ([5], [5]), ([6], [6]), ([7], [7]), ([3, 8], [3, 8]), ([], []), ([1, 9, 10], [1, 9, 10]), ([11], [11]), ([11], [11]), ([12, 11, 0, 1, 2, 3, 4, 5, 6, 7, 8, 9, 10, 11, 12, 13], [12]), ([13, 14, 0, 1, 2, 3, 4, 5, 6, 7, 8, 9, 10, 11, 12, 13, 14], [13])])
def impl_AddrJoin.B13 : List Nat := [0, 1, 0, 4, 0, 16, 48, 112, 240, 508, 0, 2047, 4095, 4095, 16383, 32767]
theorem impl_AddrJoin.tab13 : rtab .any (opsOf Tryz.f59 13) = impl_AddrJoin.T13 := by kernel_rfl
theorem impl_AddrJoin.bits13 : waitsOk impl_AddrJoin.T13.2 impl_AddrJoin.B13 = true := by kernel_rfl
set_option maxHeartbeats 8000000 in
set_option maxRecDepth 100000 in
theorem impl_AddrJoin.calls (k : Nat) (a0_0 : ByteArray) (A0_1 : Option Addr) (c0_1 : Nat) (l0_1 : List ByteArray) (a0_2 : Bool) (a0_3 : ByteArray) (a1 : ByteArray) (r1 : ByteArray) (r2 : List ByteArray) (r3 : Bool) (r4 : ByteArray) (r5 : Bool) (w : World) (hr0_1 : Kd.C Kd.string w A0_1 l0_1.length l0_1) (hc0_1 : l0_1.length ≤ c0_1) (h : impl_AddrJoin.f k a0_0 l0_1 a0_2 a0_3 a1 = some (r1, r2, r3, r4, r5)) :
  Calls Tryz.prog 59 #[.agg #[.string a0_0, .slice A0_1 l0_1.length c0_1, .bool a0_2, .string a0_3], .string a1] w fun e w' => ∃ v1_ : Value, e = .returned (.tuple #[.agg #[.string r1, v1_, .bool r3, .string r4], .bool r5]) ∧ Kd.R Kd.string 9 w' w.heap.size (fun _ => True) v1_ r2 ∧ Below w.heap.size w w' := by
 have hu52 := Tryz.underlying52;have HR0_1 := Aside0.mk hr0_1;have HC0_1 := Aside0.mk hc0_1;clear hr0_1 hc0_1;have HB := Aside0.mk (Below.refl w.heap.size w);have H : (if (a1.size : Int) > 60 then (impl_AddrJoin.j0 k a1 true a0_0 l0_1 a0_2 a0_3) else ((impl_AddrOk.f k a0_0 l0_1 a0_2 a0_3).bind fun t562 => (impl_AddrJoin.j0 k a1 (!t562) a0_0 l0_1 a0_2 a0_3))) = some (r1, r2, r3, r4, r5) := h;clear h;have HC3 := Aside0.mk H;clear H;go_enter Tryz.func59, Tryz.ntmps59;go_upto_region 1 with (first | ((with_reducible refine gate_dst (N := 2) rfl ?_); refine boxE 2 #[.string a0_0, .slice A0_1 l0_1.length c0_1, .bool a0_2, .string a0_3] 52 ?_; intro gb560 hg w4 hbox hb; have BK560 := Aside0.mk (hbox); have GE560 := geB hg (zz0 HB); replace HB := Aside0.mk (below_step (zz0 HB) hb); clear hb hbox hg) | ((with_reducible refine gate_dst (N := 4) rfl ?_); refine boxE 4 #[.string (⟨#[]⟩ : ByteArray), .slice none 0 0, .bool false, .string (⟨#[]⟩ : ByteArray)] 52 ?_; intro gb561 hg w5 hbox hb; have BK561 := Aside0.mk (hbox); have GE561 := geB hg (zz2 HB GE560); replace HB := Aside0.mk (below_step (zz2 HB GE560) hb); have NB560_561 := Aside0.mk ((by rw [hg]; exact Nat.ne_of_lt (blk_lt (zz21 BK560)) : gb560 ≠ gb561)); have NB561_560 := Aside0.mk ((by rw [hg]; exact Nat.ne_of_gt (blk_lt (zz21 BK560)) : gb561 ≠ gb560)); replace BK560 := Aside0.mk (blk_below (zz21 BK560) hb); clear hb hbox hg))
 (try simp only [Act.put, List.setIfInBounds_toArray, List.set_cons_zero, List.set_cons_succ])
 go_cut [16] (fun v16 wc => ∃ (kq : Nat) (x16_2 : Bool), v16 = .bool x16_2 ∧ Aside0 (impl_AddrJoin.j0 kq a1 x16_2 a0_0 l0_1 a0_2 a0_3 = some (r1, r2, r3, r4, r5)) ∧ Aside0 (kq ≤ k) ∧ Aside0 (wc.heap[gb560]? = some (.cells #[.string a0_0, (.slice A0_1 l0_1.length c0_1), .bool a0_2, .string a0_3] 52 (0, 0))) ∧ Aside0 (wc.heap[gb561]? = some (.cells #[.string (⟨#[]⟩ : ByteArray), (.slice none 0 0), .bool false, .string (⟨#[]⟩ : ByteArray)] 52 (0, 0))) ∧ Aside0 (Below w.heap.size w wc))
 case first =>
  have H := HC3.out;clear HC3;by_cases c6 : (a1.size : Int) > 60
  ·rw [if_pos c6] at H
   have c6b0 : decide (60 < (a1.size : Int)) = true := decide_eq_true c6;have c6b1 : decide (60 < a1.size) = true := decide_eq_true (by omega);clear c6;(first | rw [c6b0] | (simp only [i64_w, i32_w]; rw [c6b0]) | skip)
   have H' := Aside0.mk H;clear H;go_wp2
   go_meet
   case rel => exact ⟨_, (true), zz3, H', ⟨zz9⟩, ⟨(zz21 BK560)⟩, ⟨(zz21 BK561)⟩, ⟨(zz33 HB GE560 GE561)⟩⟩
  ·rw [if_neg c6] at H
   have c6b0 : decide (60 < (a1.size : Int)) = false := decide_eq_false c6;have c6b1 : decide (60 < a1.size) = false := decide_eq_false (by omega);clear c6;(first | rw [c6b0] | (simp only [i64_w, i32_w]; rw [c6b0]) | skip)
   replace H := bindA H;obtain ⟨t562, A7, H⟩ := H;have H' := Aside0.mk H;clear H;have hnb8 := NB560_561.out;have hnc8 := NB561_560.out;obtain ⟨_, _, _, _, _, _, _, _⟩ := cf4 BK560;go_wp2_with (first | (go_at_call 57; (with_reducible refine (impl_AddrOk.calls k a0_0 _ _ l0_1 a0_2 a0_3 t562 _ ?side1 ?side2 A7.out).mono ?_); (case side1 => exact (zz24 HR0_1 HB)); (case side2 => exact HC0_1.out); rintro e w10 ⟨rfl, hb⟩; replace BK560 := Aside0.mk (blk_below (zz21 BK560) hb); replace BK561 := Aside0.mk (blk_below (zz21 BK561) hb); replace HB := Aside0.mk (below_step (zz33 HB GE560 GE561) hb); (try clear hb)))
   go_meet
   case rel => exact ⟨_, (!t562), zz3, H', ⟨zz9⟩, ⟨(zz21 BK560)⟩, ⟨(zz21 BK561)⟩, ⟨(zz33 HB GE560 GE561)⟩⟩
 case rest =>
  clear HC3;obtain ⟨kq, x16_2, rfl, HA, HJ2, BK560, BK561, HB⟩ := hcut;cases kq with
  | zero => exact absurd HA.out (by simp [impl_AddrJoin.j0])
  | succ kj2 =>
   have H := HA.out;clear HA;simp only [impl_AddrJoin.j0] at H
   by_cases c11 : x16_2 = true
   ·subst c11
    rw [if_pos rfl] at H;simp only [Option.some.injEq, Prod.mk.injEq] at H
    obtain ⟨rfl, rfl, rfl, rfl, rfl⟩ := H;have hnb12 := NB561_560.out;have hnc12 := NB560_561.out;obtain ⟨_, _, _, _, _, _, _, _⟩ := cf4 BK561;go_wp2
    refine bodyPost_ret (results_ct rfl _ _ gb561 52 #[.string (⟨#[]⟩ : ByteArray), .slice none 0 0, .bool false, .string (⟨#[]⟩ : ByteArray)] (0, 0) _ rfl (zz37 BK561) Tryz.underlying52 rfl (by kernel_rfl)) rfl ?_;exact ⟨_, zz1, zz38, (zz33 HB GE560 GE561)⟩
   ·replace c11 := Bool.eq_false_iff.mpr c11
    subst c11;rw [if_neg (show ¬ (false = true) by decide)] at H;replace H := bindA H;obtain ⟨⟨t563, t564, t565⟩, A14, H⟩ := H;try dsimp -simprocs only at H
    replace H := bindA H;obtain ⟨t566, A15, H⟩ := H;by_cases c16 : t566 = true
    ·subst c16
     rw [if_pos rfl] at H;replace H := bindA H;obtain ⟨⟨t567, t568, t571, t572, t573⟩, A17, H⟩ := H;try dsimp -simprocs only at H
     simp only [Option.some.injEq, Prod.mk.injEq] at H
     obtain ⟨rfl, rfl, rfl, rfl, rfl⟩ := H;go_wp2_with (first | ((with_reducible refine gate_callee (f := 54) rfl ?_); refine gsL (some 20) Tryz.func54 #[.string a1, .string (⟨#[35]⟩ : ByteArray)] ?_; (with_reducible refine (strings_Cut.calls a1 (⟨#[35]⟩ : ByteArray) t563 t564 t565 _ A14.out).mono ?_); rintro e w18 ⟨rfl, hb⟩; refine ⟨_, rfl, ?_⟩; replace BK560 := Aside0.mk (blk_below (zz21 BK560) hb); replace BK561 := Aside0.mk (blk_below (zz21 BK561) hb); replace HB := Aside0.mk (below_step (zz33 HB GE560 GE561) hb); (try clear hb)) | ((with_reducible refine gate_callee (f := 76) rfl ?_); refine gsL (some 26) Tryz.func76 #[.string t563, .string (⟨#[47, 47]⟩ : ByteArray)] ?_; (with_reducible refine (strings_HasPrefix.calls t563 (⟨#[47, 47]⟩ : ByteArray) true _ A15.out).mono ?_); rintro e w' ⟨rfl, ⟨nd, rfl⟩⟩; refine ⟨_, rfl, ?_⟩; (try (rw [drewN_self w18]; generalize hq_ : World.drewN w18 _ = w18; have n0_ : Aside0 (w18.heap[gb560]? = some (.cells #[.string a0_0, .slice A0_1 l0_1.length c0_1, .bool a0_2, .string a0_3] 52 (0, 0))) := ⟨zz156⟩; have n1_ : Aside0 (w18.heap[gb561]? = some (.cells #[.string (⟨#[]⟩ : ByteArray), .slice none 0 0, .bool false, .string (⟨#[]⟩ : ByteArray)] 52 (0, 0))) := ⟨zz157⟩; have n2_ : Aside0 (Below w.heap.size w w18) := ⟨zz158⟩; clear BK560 BK561 HB hq_; have BK560 := n0_; have BK561 := n1_; have HB := n2_; clear n0_ n1_ n2_))) | ((with_reducible refine gate_callee (f := 55) rfl ?_); refine gsL (some 28) Tryz.func55 #[.string t563] ?_; (with_reducible refine (impl_readWhole.calls kj2 t563 t567 t568 t571 t572 t573 _ A17.out).mono ?_); rintro e w19 ⟨v569, rfl, ho0, hb⟩; refine ⟨_, rfl, ?_⟩; have HO570 := Aside0.mk (Kd.R_lower ho0 (below_size (zz33 HB GE560 GE561))); replace BK560 := Aside0.mk (blk_below (zz21 BK560) hb); replace BK561 := Aside0.mk (blk_below (zz21 BK561) hb); replace HB := Aside0.mk (below_step (zz33 HB GE560 GE561) hb); (try clear hb ho0); have hnb20 := NB561_560.out; have hnc20 := NB560_561.out; obtain ⟨_, _, _, _, _, _, _, _⟩ := cf4 BK561; obtain ⟨Ao22, co22, eo22⟩ := Kd.R_slice HO570.out; subst eo22))
     refine bodyPost_ret (results_ct rfl _ _ gb561 52 #[.string t567, .slice Ao22 t568.length co22, .bool t571, .string t572] (0, 0) _ rfl (zz37 BK561) Tryz.underlying52 rfl (by kernel_rfl)) rfl ?_;exact ⟨_, zz1, (zz46 (rt HO570 BK561)), (zz33 HB GE560 GE561)⟩
    ·replace c16 := Bool.eq_false_iff.mpr c16
     subst c16;rw [if_neg (show ¬ (false = true) by decide)] at H;by_cases c23 : t563.toList = ([] : List UInt8)
     ·rw [if_pos c23] at H
      have c23b0 : (t563.toList == ([] : List UInt8)) = true := beq_iff_eq.mpr c23;have c23b1 : (t563.toList != ([] : List UInt8)) = false := bne_eq_false_iff_eq.mpr c23;clear c23;replace H := bindA H;obtain ⟨t574, A24, H⟩ := H;simp only [Option.some.injEq, Prod.mk.injEq] at H
      obtain ⟨rfl, rfl, rfl, rfl, rfl⟩ := H;go_wp2_with (first | ((with_reducible refine gate_callee (f := 54) rfl ?_); refine gsL (some 20) Tryz.func54 #[.string a1, .string (⟨#[35]⟩ : ByteArray)] ?_; (with_reducible refine (strings_Cut.calls a1 (⟨#[35]⟩ : ByteArray) t563 t564 t565 _ A14.out).mono ?_); rintro e w25 ⟨rfl, hb⟩; refine ⟨_, rfl, ?_⟩; replace BK560 := Aside0.mk (blk_below (zz21 BK560) hb); replace BK561 := Aside0.mk (blk_below (zz21 BK561) hb); replace HB := Aside0.mk (below_step (zz33 HB GE560 GE561) hb); (try clear hb)) | ((with_reducible refine gate_callee (f := 76) rfl ?_); refine gsL (some 26) Tryz.func76 #[.string t563, .string (⟨#[47, 47]⟩ : ByteArray)] ?_; (with_reducible refine (strings_HasPrefix.calls t563 (⟨#[47, 47]⟩ : ByteArray) false _ A15.out).mono ?_); rintro e w' ⟨rfl, ⟨nd, rfl⟩⟩; refine ⟨_, rfl, ?_⟩; (try (rw [drewN_self w25]; generalize hq_ : World.drewN w25 _ = w25; have n0_ : Aside0 (w25.heap[gb560]? = some (.cells #[.string a0_0, .slice A0_1 l0_1.length c0_1, .bool a0_2, .string a0_3] 52 (0, 0))) := ⟨zz156⟩; have n1_ : Aside0 (w25.heap[gb561]? = some (.cells #[.string (⟨#[]⟩ : ByteArray), .slice none 0 0, .bool false, .string (⟨#[]⟩ : ByteArray)] 52 (0, 0))) := ⟨zz157⟩; have n2_ : Aside0 (Below w.heap.size w w25) := ⟨zz158⟩; clear BK560 BK561 HB hq_; have BK560 := n0_; have BK561 := n1_; have HB := n2_; clear n0_ n1_ n2_)); have hnb26 := NB560_561.out; have hnc26 := NB561_560.out; obtain ⟨_, _, _, _, _, _, _, _⟩ := cf4 BK560) | ((with_reducible refine gate_callee (f := 77) rfl ?_); refine gsL (some 36) Tryz.func77 #[.slice A0_1 l0_1.length c0_1] ?_; (with_reducible refine (slices_Clone_string_string.calls _ _ l0_1 t574 _ ?side1 ?side2 A24.out).mono ?_); (case side1 => exact (zz24 HR0_1 HB)); (case side2 => exact HC0_1.out); rintro e w28 ⟨v575, rfl, ho0, hb⟩; refine ⟨_, rfl, ?_⟩; have HO576 := Aside0.mk (Kd.R_lower ho0 (below_size (zz33 HB GE560 GE561))); replace BK560 := Aside0.mk (blk_below (zz21 BK560) hb); replace BK561 := Aside0.mk (blk_below (zz21 BK561) hb); replace HB := Aside0.mk (below_step (zz33 HB GE560 GE561) hb); (try clear hb ho0); obtain ⟨Ao29, co29, eo29⟩ := Kd.R_slice HO576.out; subst eo29; obtain ⟨_, _, _, _, _, _, _, _⟩ := cf4 BK560; obtain ⟨_, _, _, _, _, _, _, _⟩ := cf4 BK561))
      refine bodyPost_ret (results_ct rfl _ _ gb561 52 #[.string a0_0, .slice Ao29 t574.length co29, .bool a0_2, .string a0_3] (0, 0) _ rfl (zz45 BK561 NB561_560) Tryz.underlying52 rfl (by kernel_rfl)) rfl ?_;exact ⟨_, zz1, (zz46 (rt (rt HO576 BK560) BK561)), (zz33 HB GE560 GE561)⟩
     ·rw [if_neg c23] at H
      have c23b0 : (t563.toList == ([] : List UInt8)) = false := beq_eq_false_iff_ne.mpr c23;have c23b1 : (t563.toList != ([] : List UInt8)) = true := bne_iff_ne.mpr c23;by_cases c32 : 0 < (t563.size : Int)
      ·rw [if_pos c32] at H
       have c32b0 : decide (0 < (t563.size : Int)) = true := decide_eq_true c32;have c32b1 : decide (0 < t563.size) = true := decide_eq_true (by omega);clear c32;by_cases c34 : (bt t563 0) = 47
       ·rw [if_pos c34] at H
        have c34b0 : ((bt t563 0) == 47) = true := beq_iff_eq.mpr c34;have c34b1 : ((bt t563 0) != 47) = false := bne_eq_false_iff_eq.mpr c34;clear c34;replace H := bindA H;obtain ⟨⟨t577, t578, t581, t582, t583⟩, A35, H⟩ := H;try dsimp -simprocs only at H
        simp only [Option.some.injEq, Prod.mk.injEq] at H
        obtain ⟨rfl, rfl, rfl, rfl, rfl⟩ := H;go_wp2_with (first | ((with_reducible refine gate_callee (f := 54) rfl ?_); refine gsL (some 20) Tryz.func54 #[.string a1, .string (⟨#[35]⟩ : ByteArray)] ?_; (with_reducible refine (strings_Cut.calls a1 (⟨#[35]⟩ : ByteArray) t563 t564 t565 _ A14.out).mono ?_); rintro e w36 ⟨rfl, hb⟩; refine ⟨_, rfl, ?_⟩; replace BK560 := Aside0.mk (blk_below (zz21 BK560) hb); replace BK561 := Aside0.mk (blk_below (zz21 BK561) hb); replace HB := Aside0.mk (below_step (zz33 HB GE560 GE561) hb); (try clear hb)) | ((with_reducible refine gate_callee (f := 76) rfl ?_); refine gsL (some 26) Tryz.func76 #[.string t563, .string (⟨#[47, 47]⟩ : ByteArray)] ?_; (with_reducible refine (strings_HasPrefix.calls t563 (⟨#[47, 47]⟩ : ByteArray) false _ A15.out).mono ?_); rintro e w' ⟨rfl, ⟨nd, rfl⟩⟩; refine ⟨_, rfl, ?_⟩; (try (rw [drewN_self w36]; generalize hq_ : World.drewN w36 _ = w36; have n0_ : Aside0 (w36.heap[gb560]? = some (.cells #[.string a0_0, .slice A0_1 l0_1.length c0_1, .bool a0_2, .string a0_3] 52 (0, 0))) := ⟨zz156⟩; have n1_ : Aside0 (w36.heap[gb561]? = some (.cells #[.string (⟨#[]⟩ : ByteArray), .slice none 0 0, .bool false, .string (⟨#[]⟩ : ByteArray)] 52 (0, 0))) := ⟨zz157⟩; have n2_ : Aside0 (Below w.heap.size w w36) := ⟨zz158⟩; clear BK560 BK561 HB hq_; have BK560 := n0_; have BK561 := n1_; have HB := n2_; clear n0_ n1_ n2_)); have p33 : 0 ≤ (0 : Int) := (by omega); have q33 : 0 < t563.size := (by have : (0 : Int) < (t563.size : Int) := ofD; omega); have hx33 : ∀ h : 0 < t563.size, ((t563[0]'h).toNat : Int) = bt t563 0 := bt_at t563 0; clear p33; have qi33 : (0 < (t563.size : Int)) = True := eq_true ofD; replace q33 := eq_true q33; have hnb37 := NB560_561.out; have hnc37 := NB561_560.out; obtain ⟨_, _, _, _, _, _, _, _⟩ := cf4 BK560) | ((with_reducible refine gate_callee (f := 69) rfl ?_); refine gsL (some 46) Tryz.func69 #[.string a0_0, .slice none 0 0, .string t563] ?_; (refine (impl_readWay.calls kj2 a0_0 _ _ ([] : List ByteArray) t563 t577 t578 t581 t582 t583 _ ?side1 ?side2 A35.out).mono ?_); (case side1 => exact Kd.C_nil _ _); (case side2 => exact Nat.le_refl _); rintro e w39 ⟨v579, rfl, ho0, hb⟩; refine ⟨_, rfl, ?_⟩; have HO580 := Aside0.mk (Kd.R_lower ho0 (below_size (zz33 HB GE560 GE561))); replace BK560 := Aside0.mk (blk_below (zz21 BK560) hb); replace BK561 := Aside0.mk (blk_below (zz21 BK561) hb); replace HB := Aside0.mk (below_step (zz33 HB GE560 GE561) hb); (try clear hb ho0); obtain ⟨_, _, _, _, _, _, _, _⟩ := cf4 BK561; obtain ⟨Ao41, co41, eo41⟩ := Kd.R_slice HO580.out; subst eo41))
        refine bodyPost_ret (results_ct rfl _ _ gb561 52 #[.string t577, .slice Ao41 t578.length co41, .bool t581, .string t582] (0, 0) _ rfl (zz37 BK561) Tryz.underlying52 rfl (by kernel_rfl)) rfl ?_;exact ⟨_, zz1, (zz46 (rt HO580 BK561)), (zz33 HB GE560 GE561)⟩
       ·rw [if_neg c34] at H
        have c34b0 : ((bt t563 0) == 47) = false := beq_eq_false_iff_ne.mpr c34;have c34b1 : ((bt t563 0) != 47) = true := bne_iff_ne.mpr c34;by_cases c43 : (bt t563 0) = 63
        ·rw [if_pos c43] at H
         have c43b0 : ((bt t563 0) == 63) = true := beq_iff_eq.mpr c43;have c43b1 : ((bt t563 0) != 63) = false := bne_eq_false_iff_eq.mpr c43;clear c43;replace H := bindA H;obtain ⟨⟨t584, t585, t588, t589, t590⟩, A44, H⟩ := H;try dsimp -simprocs only at H
         simp only [Option.some.injEq, Prod.mk.injEq] at H
         obtain ⟨rfl, rfl, rfl, rfl, rfl⟩ := H;go_wp2_with (first | ((with_reducible refine gate_callee (f := 54) rfl ?_); refine gsL (some 20) Tryz.func54 #[.string a1, .string (⟨#[35]⟩ : ByteArray)] ?_; (with_reducible refine (strings_Cut.calls a1 (⟨#[35]⟩ : ByteArray) t563 t564 t565 _ A14.out).mono ?_); rintro e w45 ⟨rfl, hb⟩; refine ⟨_, rfl, ?_⟩; replace BK560 := Aside0.mk (blk_below (zz21 BK560) hb); replace BK561 := Aside0.mk (blk_below (zz21 BK561) hb); replace HB := Aside0.mk (below_step (zz33 HB GE560 GE561) hb); (try clear hb)) | ((with_reducible refine gate_callee (f := 76) rfl ?_); refine gsL (some 26) Tryz.func76 #[.string t563, .string (⟨#[47, 47]⟩ : ByteArray)] ?_; (with_reducible refine (strings_HasPrefix.calls t563 (⟨#[47, 47]⟩ : ByteArray) false _ A15.out).mono ?_); rintro e w' ⟨rfl, ⟨nd, rfl⟩⟩; refine ⟨_, rfl, ?_⟩; (try (rw [drewN_self w45]; generalize hq_ : World.drewN w45 _ = w45; have n0_ : Aside0 (w45.heap[gb560]? = some (.cells #[.string a0_0, .slice A0_1 l0_1.length c0_1, .bool a0_2, .string a0_3] 52 (0, 0))) := ⟨zz156⟩; have n1_ : Aside0 (w45.heap[gb561]? = some (.cells #[.string (⟨#[]⟩ : ByteArray), .slice none 0 0, .bool false, .string (⟨#[]⟩ : ByteArray)] 52 (0, 0))) := ⟨zz157⟩; have n2_ : Aside0 (Below w.heap.size w w45) := ⟨zz158⟩; clear BK560 BK561 HB hq_; have BK560 := n0_; have BK561 := n1_; have HB := n2_; clear n0_ n1_ n2_)); have p33 : 0 ≤ (0 : Int) := (by omega); have q33 : 0 < t563.size := (by have : (0 : Int) < (t563.size : Int) := ofD; omega); have hx33 : ∀ h : 0 < t563.size, ((t563[0]'h).toNat : Int) = bt t563 0 := bt_at t563 0; clear p33; have qi33 : (0 < (t563.size : Int)) = True := eq_true ofD; replace q33 := eq_true q33; have p42 : 0 ≤ (0 : Int) := (by omega); have q42 : 0 < t563.size := (by have : (0 : Int) < (t563.size : Int) := ofD; omega); have hx42 : ∀ h : 0 < t563.size, ((t563[0]'h).toNat : Int) = bt t563 0 := bt_at t563 0; clear p42; have qi42 : (0 < (t563.size : Int)) = True := eq_true ofD; replace q42 := eq_true q42; have hnb46 := NB560_561.out; have hnc46 := NB561_560.out; obtain ⟨_, _, _, _, _, _, _, _⟩ := cf4 BK560) | ((with_reducible refine gate_callee (f := 69) rfl ?_); refine gsL (some 58) Tryz.func69 #[.string a0_0, .slice A0_1 l0_1.length c0_1, .string t563] ?_; (with_reducible refine (impl_readWay.calls kj2 a0_0 _ _ l0_1 t563 t584 t585 t588 t589 t590 _ ?side1 ?side2 A44.out).mono ?_); (case side1 => exact (zz24 HR0_1 HB)); (case side2 => exact HC0_1.out); rintro e w48 ⟨v586, rfl, ho0, hb⟩; refine ⟨_, rfl, ?_⟩; have HO587 := Aside0.mk (Kd.R_lower ho0 (below_size (zz33 HB GE560 GE561))); replace BK560 := Aside0.mk (blk_below (zz21 BK560) hb); replace BK561 := Aside0.mk (blk_below (zz21 BK561) hb); replace HB := Aside0.mk (below_step (zz33 HB GE560 GE561) hb); (try clear hb ho0); obtain ⟨_, _, _, _, _, _, _, _⟩ := cf4 BK561; obtain ⟨Ao50, co50, eo50⟩ := Kd.R_slice HO587.out; subst eo50))
         refine bodyPost_ret (results_ct rfl _ _ gb561 52 #[.string t584, .slice Ao50 t585.length co50, .bool t588, .string t589] (0, 0) _ rfl (zz37 BK561) Tryz.underlying52 rfl (by kernel_rfl)) rfl ?_;exact ⟨_, zz1, (zz46 (rt HO587 BK561)), (zz33 HB GE560 GE561)⟩
        ·rw [if_neg c43] at H
         have c43b0 : ((bt t563 0) == 63) = false := beq_eq_false_iff_ne.mpr c43;have c43b1 : ((bt t563 0) != 63) = true := bne_iff_ne.mpr c43;obtain ⟨ji51, hji51⟩ : ∃ j_ : Int, (mx (wrap64 ((l0_1.length : Int) - 1)) 0) = j_ := ⟨_, rfl⟩;replace H : (if 0 ≤ (ji51) then (if (ji51) ≤ (l0_1.length : Int) then ((impl_readWay.f kj2 a0_0 (l0_1.take ((ji51) : Int).toNat) t563).bind fun bt592 => (some (bt592.1, bt592.2.1, bt592.2.2.1, bt592.2.2.2.1, bt592.2.2.2.2))) else (none)) else (none)) = some (r1, r2, r3, r4, r5) := by first | (rw [hji51] at H; exact H) | (simp only [hji51] at H ⊢; exact H)
         (try rw [hji51] at A14)
         (try rw [hji51] at A15)
         (try (have hji51l : 0 ≤ ji51 := by (rw [← hji51]; unfold mx; (repeat' split) <;> omega)))
         (try (have hji51m : 0 ≤ ji51 := by omega))
         have hji51_ : (if (wrap64 ((l0_1.length : Int) - 1)) < 0 then 0 else (wrap64 ((l0_1.length : Int) - 1))) = ji51 := hji51;by_cases c52 : 0 ≤ (ji51)
         ·rw [if_pos c52] at H
          have c52b0 := eq_true c52;have c52b1 : decide (0 ≤ (ji51)) = true := decide_eq_true c52;clear c52;by_cases c53 : (ji51) ≤ (l0_1.length : Int)
          ·rw [if_pos c53] at H
           have c53b0 := eq_true c53;have c53b1 : decide ((ji51) ≤ (l0_1.length : Int)) = true := decide_eq_true c53;clear c53;replace H := bindA H;obtain ⟨⟨t592, t593, t596, t597, t598⟩, A54, H⟩ := H;try dsimp -simprocs only at H
           simp only [Option.some.injEq, Prod.mk.injEq] at H
           obtain ⟨rfl, rfl, rfl, rfl, rfl⟩ := H;try go_wp2_with (first | ((with_reducible refine gate_callee (f := 54) rfl ?_); refine gsL (some 20) Tryz.func54 #[.string a1, .string (⟨#[35]⟩ : ByteArray)] ?_; (with_reducible refine (strings_Cut.calls a1 (⟨#[35]⟩ : ByteArray) t563 t564 t565 _ A14.out).mono ?_); rintro e w55 ⟨rfl, hb⟩; refine ⟨_, rfl, ?_⟩; replace BK560 := Aside0.mk (blk_below (zz21 BK560) hb); replace BK561 := Aside0.mk (blk_below (zz21 BK561) hb); replace HB := Aside0.mk (below_step (zz33 HB GE560 GE561) hb); (try clear hb)) | ((with_reducible refine gate_callee (f := 76) rfl ?_); refine gsL (some 26) Tryz.func76 #[.string t563, .string (⟨#[47, 47]⟩ : ByteArray)] ?_; (with_reducible refine (strings_HasPrefix.calls t563 (⟨#[47, 47]⟩ : ByteArray) false _ A15.out).mono ?_); rintro e w' ⟨rfl, ⟨nd, rfl⟩⟩; refine ⟨_, rfl, ?_⟩; (try (rw [drewN_self w55]; generalize hq_ : World.drewN w55 _ = w55; have n0_ : Aside0 (w55.heap[gb560]? = some (.cells #[.string a0_0, .slice A0_1 l0_1.length c0_1, .bool a0_2, .string a0_3] 52 (0, 0))) := ⟨zz156⟩; have n1_ : Aside0 (w55.heap[gb561]? = some (.cells #[.string (⟨#[]⟩ : ByteArray), .slice none 0 0, .bool false, .string (⟨#[]⟩ : ByteArray)] 52 (0, 0))) := ⟨zz157⟩; have n2_ : Aside0 (Below w.heap.size w w55) := ⟨zz158⟩; clear BK560 BK561 HB hq_; have BK560 := n0_; have BK561 := n1_; have HB := n2_; clear n0_ n1_ n2_)); have p33 : 0 ≤ (0 : Int) := (by omega); have q33 : 0 < t563.size := (by have : (0 : Int) < (t563.size : Int) := ofD; omega); have hx33 : ∀ h : 0 < t563.size, ((t563[0]'h).toNat : Int) = bt t563 0 := bt_at t563 0; clear p33; have qi33 : (0 < (t563.size : Int)) = True := eq_true ofD; replace q33 := eq_true q33; have p42 : 0 ≤ (0 : Int) := (by omega); have q42 : 0 < t563.size := (by have : (0 : Int) < (t563.size : Int) := ofD; omega); have hx42 : ∀ h : 0 < t563.size, ((t563[0]'h).toNat : Int) = bt t563 0 := bt_at t563 0; clear p42; have qi42 : (0 < (t563.size : Int)) = True := eq_true ofD; replace q42 := eq_true q42))
           replace BK560 := Aside0.mk (blk_drew BK560.out);replace BK561 := Aside0.mk (blk_drew BK561.out);replace HB := Aside0.mk (below_drew1 HB.out);obtain ⟨i057, hi057, _, hsz57, _⟩ := info_parts info9;obtain ⟨hcut57, hA57, hC57⟩ := print_take_of (P := Tryz.prog) Value.string (⟨#[]⟩ : ByteArray) 24 9 .i64 Tryz.underlying24 hi057 hsz57 A0_1 c0_1 l0_1 (ji51) ofD ofD HC0_1.out;have HR591 := Aside0.mk (Kd.C_of_reads (h1 := fun _ => rfl) (hA57 _ (Kd.reads_of_C HR0_1.out)));have HC591 := Aside0.mk hC57;clear hA57 hC57 hi057 hsz57;refine start_ (n := 16) (S := fun w' => w'.cell? ⟨gb560, 0, none⟩ = some (.string a0_0) ∧ w'.cell? ⟨gb560, 1, none⟩ = some (.slice A0_1 l0_1.length c0_1) ∧ w'.cell? ⟨gb560, 2, none⟩ = some (.bool a0_2) ∧ w'.cell? ⟨gb560, 3, none⟩ = some (.string a0_3)) (ds := []) #[false, false, false, false, false, false, false, false, false, false, false, false, false, false, false, false] (by kernel_rfl) rfl rfl ⟨(blk_cell BK560.out 0).trans rfl, (blk_cell BK560.out 1).trans rfl, (blk_cell BK560.out 2).trans rfl, (blk_cell BK560.out 3).trans rfl⟩ (fun hHeld => ?_); refine with_tabW impl_AddrJoin.tab13 impl_AddrJoin.bits13 (fun HT_ HW_ => ?_);generalize w55.drew = w56 at BK560 BK561 HB HR591 hHeld ⊢;refine pureZ 0 (some 61) #[true, false, false, false, false, false, false, false, false, false, false, false, false, false, false, false] ?_;refine pureZ 2 (some 63) #[true, false, true, false, false, false, false, false, false, false, false, false, false, false, false, false] ?_;refine pureZ 4 (some 65) #[true, false, true, false, true, false, false, false, false, false, false, false, false, false, false, false] ?_;refine pureZ 10 (some 71) #[true, false, true, false, true, false, false, false, false, false, true, false, false, false, false, false] ?_;refine takeZ4 1 (some 62) #[true, true, true, false, true, false, false, false, false, false, true, false, false, false, false, false] hHeld ?_;refine takeZ4 3 (some 64) #[true, true, true, true, true, false, false, false, false, false, true, false, false, false, false, false] hHeld ?_;refine takeZ4 5 (some 66) #[true, true, true, true, true, true, false, false, false, false, true, false, false, false, false, false] hHeld ?_;refine pureZ 6 (some 67) #[true, true, true, true, true, true, true, false, false, false, true, false, false, false, false, false] ?_;refine pureZ 7 (some 68) #[true, true, true, true, true, true, true, true, false, false, true, false, false, false, false, false] ?_;refine pureZ 8 (some 69) #[true, true, true, true, true, true, true, true, true, false, true, false, false, false, false, false] ?_;refine pureZ 9 (some 70) #[true, true, true, true, true, true, true, true, true, true, true, false, false, false, false, false] ?_;refine one_ (i := 11) (N := some 72) #[true, true, true, true, true, true, true, true, true, true, true, true, false, false, false, false] rfl rfl (one_of HT_.out (by kernel_rfl)) (by decide) (fun K hK => ?_);refine goes_ Tryz.func69 (by kernel_rfl) rfl #[.string a0_0, .slice A0_1 (l0_1.take ((ji51) : Int).toNat).length c0_1, .string t563] (by rfl) rfl rfl (by (try simp only [List.map_toArray, List.map_cons, List.map_nil]); first | done | (rw [show (l0_1.take ((ji51) : Int).toNat).length = (ji51).toNat from (by rw [List.length_take]; have h_ : ((ji51) : Int) ≤ (l0_1.length : Int) := ofD; omega)] <;> rfl) | (simp only [hji51]; rfl) | rfl | (simp only [List.length_drop, List.length_take]; rfl)) ?_;with_reducible refine (impl_readWay.calls kj2 a0_0 _ _ (l0_1.take ((ji51) : Int).toNat) t563 t592 t593 t596 t597 t598 _ ?side1 ?side2 A54.out).mono ?_
           (case side1 => exact (zz24 HR591 HB))
           (case side2 => exact HC591.out)
           rintro e w58 ⟨v594, rfl, ho0, hb⟩;refine ⟨_, rfl, ?_⟩;have HO595 := Aside0.mk (Kd.R_lower ho0 (below_size (zz33 HB GE560 GE561)));replace BK560 := Aside0.mk (blk_below (zz21 BK560) hb);replace BK561 := Aside0.mk (blk_below (zz21 BK561) hb);replace HB := Aside0.mk (below_step (zz33 HB GE560 GE561) hb);(try clear hb)
           (try clear hb2)
           (try clear hk)
           (try clear hi)
           (try clear ho0)
           obtain ⟨Ao60, co60, eo60⟩ := Kd.R_slice HO595.out;(first | subst eo60 | (injection eo60 with f1_ f2_ f3_; have f4_ := f1_.symm; have f5_ := f3_.symm; clear f1_ f2_ f3_; subst f4_; subst f5_))
           refine hK.out _ _ ⟨(blk_cell BK560.out 0).trans rfl, (blk_cell BK560.out 1).trans rfl, (blk_cell BK560.out 2).trans rfl, (blk_cell BK560.out 3).trans rfl⟩ (fun hHeld => ?_);clear hK K;refine norm_ (a' := ?_) ?_ ?_;rotate_left
           ·show Act.put _ (some 72) _ = _
            simp only [Act.put, List.setIfInBounds_toArray, List.set_cons_zero, List.set_cons_succ, i64_w, i32_w]
            rfl
           refine pureZ 12 (some 73) #[true, true, true, true, true, true, true, true, true, true, true, true, true, false, false, false] ?_;refine pureZ 13 (some 74) #[true, true, true, true, true, true, true, true, true, true, true, true, true, true, false, false] ?_;refine one_ (i := 14) (N := none) #[true, true, true, true, true, true, true, true, true, true, true, true, true, true, true, false] rfl rfl (one_of HT_.out (by kernel_rfl)) (by decide) (fun K hK => ?_);have hs59 : w58.cell? ⟨gb561, 0, none⟩ = some (.string (⟨#[]⟩ : ByteArray)) := (blk_cell BK561.out 0).trans rfl;have hfs59 := blk_frozen BK561.out 0;have hns59_0 := NB560_561.out;have hms59_0 := NB561_560.out;have hs61 : w58.cell? ⟨gb561, 1, none⟩ = some (.slice none 0 0) := (blk_cell BK561.out 1).trans rfl;have hfs61 := blk_frozen BK561.out 1;have hns61_0 := NB560_561.out;have hms61_0 := NB561_560.out;have hs62 : w58.cell? ⟨gb561, 2, none⟩ = some (.bool false) := (blk_cell BK561.out 2).trans rfl;have hfs62 := blk_frozen BK561.out 2;have hns62_0 := NB560_561.out;have hms62_0 := NB561_560.out;have hs63 : w58.cell? ⟨gb561, 3, none⟩ = some (.string (⟨#[]⟩ : ByteArray)) := (blk_cell BK561.out 3).trans rfl;have hfs63 := blk_frozen BK561.out 3;have hns63_0 := NB560_561.out;have hms63_0 := NB561_560.out;refine skip_ (w1 := ?_) (by rfl) rfl ?_ ?_;rotate_left
           ·go_simp
            rfl
           refine hK.out _ _ ⟨((cell_far (p := ⟨gb561, _, none⟩) NB560_561.out _).trans (((cell_far (p := ⟨gb561, _, none⟩) NB560_561.out _).trans (((cell_far (p := ⟨gb561, _, none⟩) NB560_561.out _).trans (((cell_far (p := ⟨gb561, _, none⟩) NB560_561.out _).trans (hHeld.1)))))))), ((cell_far (p := ⟨gb561, _, none⟩) NB560_561.out _).trans (((cell_far (p := ⟨gb561, _, none⟩) NB560_561.out _).trans (((cell_far (p := ⟨gb561, _, none⟩) NB560_561.out _).trans (((cell_far (p := ⟨gb561, _, none⟩) NB560_561.out _).trans (hHeld.2.1)))))))), ((cell_far (p := ⟨gb561, _, none⟩) NB560_561.out _).trans (((cell_far (p := ⟨gb561, _, none⟩) NB560_561.out _).trans (((cell_far (p := ⟨gb561, _, none⟩) NB560_561.out _).trans (((cell_far (p := ⟨gb561, _, none⟩) NB560_561.out _).trans (hHeld.2.2.1)))))))), ((cell_far (p := ⟨gb561, _, none⟩) NB560_561.out _).trans (((cell_far (p := ⟨gb561, _, none⟩) NB560_561.out _).trans (((cell_far (p := ⟨gb561, _, none⟩) NB560_561.out _).trans (((cell_far (p := ⟨gb561, _, none⟩) NB560_561.out _).trans (hHeld.2.2.2))))))))⟩ (fun hHeld => ?_);clear hK K;refine pureZ 15 (some 5) #[true, true, true, true, true, true, true, true, true, true, true, true, true, true, true, true] ?_;refine done_ (done_of HT_.out (by kernel_rfl)) ?_;try go_wp2
           refine bodyPost_ret (results_ct rfl _ _ gb561 52 #[.string t592, .slice Ao60 t593.length co60, .bool t596, .string t597] (0, 0) _ rfl (zz37 BK561) Tryz.underlying52 rfl (by kernel_rfl)) rfl ?_;exact ⟨_, (by first | rfl | (simp [errW_none, errW_some] <;> rfl) | (simp only [← hji51]; first | rfl | (simp [errW_none, errW_some] <;> rfl)) | (simp [*, errW_none, errW_some] <;> rfl)), (zz46 (rt HO595 BK561)), (zz33 HB GE560 GE561)⟩
          ·rw [if_neg c53] at H
           exact absurd H (by simp)
         ·rw [if_neg c52] at H
          exact absurd H (by simp)
      ·rw [if_neg c32] at H
       exact absurd H (by simp)
def impl_PageLinks.l0 : Nat → List ByteArray → List ByteArray → Int → Int → Option (List ByteArray)
 | 0, _, _, _, _ => none
 | k + 1, x3, x7, x8, x9 => if x9 < x8 then (if 0 ≤ x9 then (if x9 < (x7.length : Int) then ((impl_beginsWith.f (rdOf ByteArray.empty x7 x9) 33).bind fun t603 => (if t603 = true then (impl_PageLinks.l0 k x3 x7 x8 (wrap64 (x9 + 1))) else ((impl_beginsWith.f (rdOf ByteArray.empty x7 x9) 64).bind fun t604 => (if t604 = true then (impl_PageLinks.l0 k x3 x7 x8 (wrap64 (x9 + 1))) else (if x3.length < 8796093022208 then (impl_PageLinks.l0 k (x3 ++ [rdOf ByteArray.empty x7 x9]) x7 x8 (wrap64 (x9 + 1))) else (none)))))) else (none)) else (none)) else (some x3)
def impl_PageLinks.f (k : Nat) (a0 : ByteArray) : Option (List ByteArray) := (impl_pageMarks.f a0).bind fun t599 => (impl_PageLinks.l0 k ([] : List ByteArray) t599 (t599.length : Int) 0)
theorem impl_PageLinks.mono_l : ∀ k, (∀ y0 y1 y2 y3, LeO (impl_PageLinks.l0 k y0 y1 y2 y3) (impl_PageLinks.l0 (k + 1) y0 y1 y2 y3))
 | 0 => fun _ _ _ _ r h => by simp [impl_PageLinks.l0] at h
 | k + 1 => by
  have ih0 := impl_PageLinks.mono_l k
  ·intro y0 y1 y2 y3
   unfold impl_PageLinks.l0
   repeat' first | (with_reducible first | exact ih0 _ _ _ _ | exact LeO.refl _ | exact LeO.none _ | refine LeO.ite ?_ ?_ | refine LeO.bind ?_ (fun _ => ?_)) | exact LeO.none _ | refine LeO.ite ?_ ?_ | refine LeO.bind ?_ (fun _ => ?_)
set_option maxHeartbeats 8000000 in
set_option maxRecDepth 100000 in
theorem impl_PageLinks.calls (k : Nat) (a0 : ByteArray) (r : List ByteArray) (w : World) (h : impl_PageLinks.f k a0 = some r) :
  Calls Tryz.prog 60 #[.string a0] w fun e w' => ∃ v0_ : Value, e = .returned (v0_) ∧ Kd.R Kd.string 9 w' w.heap.size (fun _ => True) v0_ r ∧ Below w.heap.size w w' := by
 have HB := Aside0.mk (Below.refl w.heap.size w);have H : ((impl_pageMarks.f a0).bind fun t599 => (impl_PageLinks.l0 k ([] : List ByteArray) t599 (t599.length : Int) 0)) = some r := h;clear h;replace H := bindA H;obtain ⟨t599, A2, H⟩ := H;have H' := Aside0.mk H;clear H;go_enter Tryz.func60, Tryz.ntmps60;go_wp2_with (first | ((with_reducible refine gate_callee (f := 74) rfl ?_); refine gsL (some 7) Tryz.func74 #[.string a0] ?_; (with_reducible refine (impl_pageMarks.calls a0 t599 _ A2.out).mono ?_); rintro e w3 ⟨v600, rfl, ho0, hb⟩; refine ⟨_, rfl, ?_⟩; have HO601 := Aside0.mk (Kd.R_lower ho0 (below_size (zz0 HB))); replace HB := Aside0.mk (below_step (zz0 HB) hb); (try clear hb ho0); obtain ⟨Ao4, co4, eo4⟩ := Kd.R_slice HO601.out; subst eo4))
 go_loopg [3, 9] k (fun kq v3 v9 w' => ∃ (x3_1 : List ByteArray) (x9_1 : Int), v9 = .int .i64 x9_1 ∧ Aside0 (impl_PageLinks.l0 kq x3_1 t599 (t599.length : Int) x9_1 = some r) ∧ Aside0 (kq ≤ k) ∧ Aside0 (Kd.R Kd.string 9 w' w.heap.size (fun k_ => some k_ ≠ ((.slice Ao4 t599.length co4) : Value).ownBlock) v3 x3_1) ∧ Aside0 (Kd.R Kd.string 9 w' w.heap.size (fun k_ => some k_ ≠ (v3 : Value).ownBlock) (.slice Ao4 t599.length co4) t599) ∧ Aside0 (Below w.heap.size w w'))
 case atStart => exact ⟨(([] : List ByteArray)), (0), zz3, H', ⟨Nat.le_refl _⟩, ⟨zz38⟩, ⟨(by (with_reducible repeat (first | apply Kd.R_alloc | apply Kd.R_drewN | apply Kd.R_drew)); exact Kd.R_mono HO601.out (fun _ hk => (by simp [Value.ownBlock])))⟩, ⟨(zz0 HB)⟩⟩
 case round =>
  clear H';obtain ⟨x3_1, x9_1, rfl, HA, HK1, HO_3, HO_7, HB⟩ := hrel;cases gk with
  | zero => exact absurd HA.out (by simp [impl_PageLinks.l0])
  | succ k1 =>
   have H := HA.out;clear HA;simp only [impl_PageLinks.l0] at H
   by_cases c5 : x9_1 < (t599.length : Int)
   ·rw [if_pos c5] at H
    have c5b0 : decide (x9_1 < (t599.length : Int)) = true := decide_eq_true c5;clear c5;by_cases c6 : 0 ≤ x9_1
    ·rw [if_pos c6] at H
     have c6b0 : decide (0 ≤ x9_1) = true := decide_eq_true c6;clear c6;by_cases c7 : x9_1 < (t599.length : Int)
     ·rw [if_pos c7] at H
      have c7b0 : decide (x9_1 < (t599.length : Int)) = true := decide_eq_true c7;clear c7;replace H := bindA H;obtain ⟨t603, A8, H⟩ := H;by_cases c9 : t603 = true
      ·subst c9
       rw [if_pos rfl] at H;have H' := Aside0.mk H;clear H;have p602 : 0 ≤ (x9_1 : Int) := ofD;have q602 : x9_1 < (t599.length : Int) := ofD;obtain ⟨ad602, e602, hx602_0⟩ := Kd.at_string (Kd.R_reads' HO_7.out).2.2 x9_1 p602 q602;cases e602
       replace p602 := eq_true p602;replace q602 := eq_true q602;go_wp2_with (first | ((with_reducible refine gate_callee (f := 75) rfl ?_); refine gsL (some 14) Tryz.func75 #[.string (rdOf ByteArray.empty t599 x9_1), .int .u8 33] ?_; (with_reducible refine (impl_beginsWith.calls (rdOf ByteArray.empty t599 x9_1) 33 true _ A8.out).mono ?_); rintro e w' ⟨rfl, ⟨nd, rfl⟩⟩; refine ⟨_, rfl, ?_⟩))
       go_roundg k1
       case measure => have := HK1.out; omega
       case rel => exact ⟨(x3_1), (wrap64 (x9_1 + 1)), zz3, H', ⟨(zz5 HK1)⟩, ⟨(zz28 HO_3)⟩, ⟨(zz28 HO_7)⟩, ⟨(zz0 HB)⟩⟩
      ·replace c9 := Bool.eq_false_iff.mpr c9
       subst c9;rw [if_neg (show ¬ (false = true) by decide)] at H;replace H := bindA H;obtain ⟨t604, A10, H⟩ := H;by_cases c11 : t604 = true
       ·subst c11
        rw [if_pos rfl] at H;have H' := Aside0.mk H;clear H;have p602 : 0 ≤ (x9_1 : Int) := ofD;have q602 : x9_1 < (t599.length : Int) := ofD;obtain ⟨ad602, e602, hx602_0⟩ := Kd.at_string (Kd.R_reads' HO_7.out).2.2 x9_1 p602 q602;cases e602
        replace p602 := eq_true p602;replace q602 := eq_true q602;go_wp2_with (first | ((with_reducible refine gate_callee (f := 75) rfl ?_); refine gsL (some 14) Tryz.func75 #[.string (rdOf ByteArray.empty t599 x9_1), .int .u8 33] ?_; (with_reducible refine (impl_beginsWith.calls (rdOf ByteArray.empty t599 x9_1) 33 false _ A8.out).mono ?_); rintro e w' ⟨rfl, ⟨nd, rfl⟩⟩; refine ⟨_, rfl, ?_⟩) | (go_at_call 75; (with_reducible refine (impl_beginsWith.calls (rdOf ByteArray.empty t599 x9_1) 64 true _ A10.out).mono ?_); rintro e w' ⟨rfl, ⟨nd, rfl⟩⟩))
        go_roundg k1
        case measure => have := HK1.out; omega
        case rel => exact ⟨(x3_1), (wrap64 (x9_1 + 1)), zz3, H', ⟨(zz5 HK1)⟩, ⟨(zz28 HO_3)⟩, ⟨(zz28 HO_7)⟩, ⟨(zz0 HB)⟩⟩
       ·replace c11 := Bool.eq_false_iff.mpr c11
        subst c11;rw [if_neg (show ¬ (false = true) by decide)] at H;by_cases c12 : x3_1.length < 8796093022208
        ·rw [if_pos c12] at H
         have LMc12 := Aside0.mk c12;clear c12;obtain ⟨y605, Ny605⟩ := toY (x3_1 ++ [rdOf ByteArray.empty t599 x9_1]);(first | with_reducible replace H := bindZ Ny605 H | rw [← Ny605.out] at H | skip)
         have H' := Aside0.mk H;clear H;have p602 : 0 ≤ (x9_1 : Int) := ofD;have q602 : x9_1 < (t599.length : Int) := ofD;obtain ⟨ad602, e602, hx602_0⟩ := Kd.at_string (Kd.R_reads' HO_7.out).2.2 x9_1 p602 q602;cases e602
         replace p602 := eq_true p602;replace q602 := eq_true q602;go_wp2_with (first | ((with_reducible refine gate_callee (f := 75) rfl ?_); refine gsL (some 14) Tryz.func75 #[.string (rdOf ByteArray.empty t599 x9_1), .int .u8 33] ?_; (with_reducible refine (impl_beginsWith.calls (rdOf ByteArray.empty t599 x9_1) 33 false _ A8.out).mono ?_); rintro e w' ⟨rfl, ⟨nd, rfl⟩⟩; refine ⟨_, rfl, ?_⟩) | (go_at_call 75; (with_reducible refine (impl_beginsWith.calls (rdOf ByteArray.empty t599 x9_1) 64 false _ A10.out).mono ?_); rintro e w' ⟨rfl, ⟨nd, rfl⟩⟩) | ((with_reducible refine gate_builtin (b := .append) (xs := #[.tmp 21, .tmp 23]) rfl ?_); at_builtin; refine Kd.R_append Kd.string (w0 := w) w.heap.size rfl (.tmp 21) (.tmp 23) 24 9 (.string ⟨#[]⟩) 16 rfl Tryz.underlying24 info9 rfl (by decide) (by omega) u3 x3_1 (rdOf ByteArray.empty t599 x9_1) [.string (rdOf ByteArray.empty t599 x9_1)] (fun k_ => some k_ ≠ (.slice (some ad602) t599.length co4 : Value).ownBlock) (fun _ => False) rfl rfl ?aP (fun _ hk => hk.elim) ?aF ?aO ?aB ?aS ?aL ?_; (case aP => exact rfl); (case aB => exact (zz0 HB)); (case aF => exact (fun k_ hk => Kd.fresh' (Kd.R_lt (zz28 HO_7)) k_ hk)); (case aO => exact (zz28 HO_3)); (case aS => exact (below_size (zz0 HB))); (case aL => exact (zz5 LMc12)); intro v606 w13 ho hb hg hat; rw [← Ny605.out] at ho; replace HO_7 := Aside0.mk (Kd.R_after (ok := (fun _ => True)) (zz36 HO_7) hg hat); replace HB := Aside0.mk (hb); have HO607 := Aside0.mk (ho); clear HO_3; clear ho hb hg hat))
         go_roundg k1
         case measure => have := HK1.out; omega
         case rel => exact ⟨(y605), (wrap64 (x9_1 + 1)), zz3, H', ⟨(zz5 HK1)⟩, ⟨(zz28 HO607)⟩, ⟨(zz34 HO_7)⟩, ⟨(zz0 HB)⟩⟩
        ·rw [if_neg c12] at H
         exact absurd H (by simp)
     ·rw [if_neg c7] at H
      exact absurd H (by simp)
    ·rw [if_neg c6] at H
     exact absurd H (by simp)
   ·rw [if_neg c5] at H
    have c5b0 : decide (x9_1 < (t599.length : Int)) = false := decide_eq_false c5;clear c5;obtain rfl := Option.some.inj H;go_wp2
    go_ret
    exact ⟨_, zz1, (zz70 HO_3), (zz0 HB)⟩
def impl_AddrText.f (k : Nat) (a0_0 : ByteArray) (l0_1 : List ByteArray) (a0_2 : Bool) (a0_3 : ByteArray) : Option (ByteArray) := (impl_AddrOk.f k a0_0 l0_1 a0_2 a0_3).bind fun t609 => (if t609 = true then ((impl_writeAddr.f a0_0 l0_1 a0_2 a0_3).bind fun t610 => (some t610)) else (some (⟨#[]⟩ : ByteArray)))
set_option maxHeartbeats 8000000 in
set_option maxRecDepth 100000 in
theorem impl_AddrText.calls (k : Nat) (a0_0 : ByteArray) (A0_1 : Option Addr) (c0_1 : Nat) (l0_1 : List ByteArray) (a0_2 : Bool) (a0_3 : ByteArray) (r : ByteArray) (w : World) (hr0_1 : Kd.C Kd.string w A0_1 l0_1.length l0_1) (hc0_1 : l0_1.length ≤ c0_1) (h : impl_AddrText.f k a0_0 l0_1 a0_2 a0_3 = some r) :
  Calls Tryz.prog 61 #[.agg #[.string a0_0, .slice A0_1 l0_1.length c0_1, .bool a0_2, .string a0_3]] w fun e w' => e = .returned (.string r) ∧ Below w.heap.size w w' := by
 have hu52 := Tryz.underlying52;have HR0_1 := Aside0.mk hr0_1;have HC0_1 := Aside0.mk hc0_1;clear hr0_1 hc0_1;have HB := Aside0.mk (Below.refl w.heap.size w);have H : ((impl_AddrOk.f k a0_0 l0_1 a0_2 a0_3).bind fun t609 => (if t609 = true then ((impl_writeAddr.f a0_0 l0_1 a0_2 a0_3).bind fun t610 => (some t610)) else (some (⟨#[]⟩ : ByteArray)))) = some r := h;clear h;replace H := bindA H;obtain ⟨t609, A2, H⟩ := H;by_cases c3 : t609 = true
 ·subst c3
  rw [if_pos rfl] at H;replace H := bindA H;obtain ⟨t610, A4, H⟩ := H;obtain rfl := Option.some.inj H;go_enter Tryz.func61, Tryz.ntmps61;go_wp2_with (first | ((with_reducible refine gate_dst (N := 1) rfl ?_); refine boxE 1 #[.string a0_0, .slice A0_1 l0_1.length c0_1, .bool a0_2, .string a0_3] 52 ?_; intro gb608 hg w5 hbox hb; have BK608 := Aside0.mk (hbox); have GE608 := geB hg (zz0 HB); replace HB := Aside0.mk (below_step (zz0 HB) hb); clear hb hbox hg; obtain ⟨_, _, _, _, _, _, _, _⟩ := cf4 BK608) | ((with_reducible refine gate_callee (f := 57) rfl ?_); refine gsL (some 4) Tryz.func57 #[.agg #[.string a0_0, .slice A0_1 l0_1.length c0_1, .bool a0_2, .string a0_3]] ?_; (with_reducible refine (impl_AddrOk.calls k a0_0 _ _ l0_1 a0_2 a0_3 true _ ?side1 ?side2 A2.out).mono ?_); (case side1 => exact (zz24 HR0_1 HB)); (case side2 => exact HC0_1.out); rintro e w7 ⟨rfl, hb⟩; refine ⟨_, rfl, ?_⟩; replace BK608 := Aside0.mk (blk_below (zz21 BK608) hb); replace HB := Aside0.mk (below_step (zz2 HB GE608) hb); (try clear hb); obtain ⟨_, _, _, _, _, _, _, _⟩ := cf4 BK608) | ((with_reducible refine gate_callee (f := 43) rfl ?_); refine gsL (some 7) Tryz.func43 #[.agg #[.string a0_0, .slice A0_1 l0_1.length c0_1, .bool a0_2, .string a0_3]] ?_; (with_reducible refine (impl_writeAddr.calls a0_0 _ _ l0_1 a0_2 a0_3 t610 _ ?side1 ?side2 A4.out).mono ?_); (case side1 => exact (zz24 HR0_1 HB)); (case side2 => exact HC0_1.out); rintro e w9 ⟨rfl, hb⟩; refine ⟨_, rfl, ?_⟩; replace BK608 := Aside0.mk (blk_below (zz21 BK608) hb); replace HB := Aside0.mk (below_step (zz2 HB GE608) hb); (try clear hb)))
  go_ret
  exact ⟨zz1, (zz2 HB GE608)⟩
 ·replace c3 := Bool.eq_false_iff.mpr c3
  subst c3;rw [if_neg (show ¬ (false = true) by decide)] at H;obtain rfl := Option.some.inj H;go_enter Tryz.func61, Tryz.ntmps61;go_wp2_with (first | ((with_reducible refine gate_dst (N := 1) rfl ?_); refine boxE 1 #[.string a0_0, .slice A0_1 l0_1.length c0_1, .bool a0_2, .string a0_3] 52 ?_; intro gb608 hg w10 hbox hb; have BK608 := Aside0.mk (hbox); have GE608 := geB hg (zz0 HB); replace HB := Aside0.mk (below_step (zz0 HB) hb); clear hb hbox hg; obtain ⟨_, _, _, _, _, _, _, _⟩ := cf4 BK608) | ((with_reducible refine gate_callee (f := 57) rfl ?_); refine gsL (some 4) Tryz.func57 #[.agg #[.string a0_0, .slice A0_1 l0_1.length c0_1, .bool a0_2, .string a0_3]] ?_; (with_reducible refine (impl_AddrOk.calls k a0_0 _ _ l0_1 a0_2 a0_3 false _ ?side1 ?side2 A2.out).mono ?_); (case side1 => exact (zz24 HR0_1 HB)); (case side2 => exact HC0_1.out); rintro e w12 ⟨rfl, hb⟩; refine ⟨_, rfl, ?_⟩; replace BK608 := Aside0.mk (blk_below (zz21 BK608) hb); replace HB := Aside0.mk (below_step (zz2 HB GE608) hb); (try clear hb)))
  go_ret
  exact ⟨zz1, (zz2 HB GE608)⟩
def slices_Index_string_string.l0 : Nat → List ByteArray → ByteArray → Int → Int → Option (Int)
 | 0, _, _, _, _ => none
 | k + 1, x0, x1, x7, x8 => if x8 < x7 then (if 0 ≤ x8 then (if x8 < (x0.length : Int) then (if x1.toList = (rdOf ByteArray.empty x0 x8).toList then (some x8) else (slices_Index_string_string.l0 k x0 x1 x7 (wrap64 (x8 + 1)))) else (none)) else (none)) else (some (-1))
def slices_Index_string_string.f (k : Nat) (l0 : List ByteArray) (a1 : ByteArray) : Option (Int) := slices_Index_string_string.l0 k l0 a1 (l0.length : Int) 0
set_option maxHeartbeats 8000000 in
set_option maxRecDepth 100000 in
theorem slices_Index_string_string.calls (k : Nat) (A0 : Option Addr) (c0 : Nat) (l0 : List ByteArray) (a1 : ByteArray) (r : Int) (w : World) (hr0 : Kd.C Kd.string w A0 l0.length l0) (hc0 : l0.length ≤ c0) (h : slices_Index_string_string.f k l0 a1 = some r) :
  Calls Tryz.prog 78 #[.slice A0 l0.length c0, .string a1] w fun e w' => e = .returned (.int .i64 r) ∧ Drawn0 w w' := by
 have HR0 := Aside0.mk hr0;have HC0 := Aside0.mk hc0;clear hr0 hc0;have H : (slices_Index_string_string.l0 k l0 a1 (l0.length : Int) 0) = some r := h;clear h;have H' := Aside0.mk H;clear H;go_enter Tryz.func78, Tryz.ntmps78;go_wp2
 go_loopg [8] k (fun kq v8 w' => ∃ (x8_1 : Int), v8 = .int .i64 x8_1 ∧ Aside0 (slices_Index_string_string.l0 kq l0 a1 (l0.length : Int) x8_1 = some r) ∧ Aside0 (kq ≤ k) ∧ Drawn0 w w')
 case atStart => exact ⟨(0), zz3, H', ⟨Nat.le_refl _⟩, zz6⟩
 case round =>
  clear H';obtain ⟨x8_1, rfl, HA, HK1, ⟨m1, rfl⟩⟩ := hrel;cases gk with
  | zero => exact absurd HA.out (by simp [slices_Index_string_string.l0])
  | succ k1 =>
   have H := HA.out;clear HA;simp only [slices_Index_string_string.l0] at H
   by_cases c3 : x8_1 < (l0.length : Int)
   ·rw [if_pos c3] at H
    have c3b0 : decide (x8_1 < (l0.length : Int)) = true := decide_eq_true c3;clear c3;by_cases c4 : 0 ≤ x8_1
    ·rw [if_pos c4] at H
     have c4b0 : decide (0 ≤ x8_1) = true := decide_eq_true c4;clear c4;by_cases c5 : x8_1 < (l0.length : Int)
     ·rw [if_pos c5] at H
      have c5b0 : decide (x8_1 < (l0.length : Int)) = true := decide_eq_true c5;clear c5;by_cases c6 : a1.toList = (rdOf ByteArray.empty l0 x8_1).toList
      ·rw [if_pos c6] at H
       have c6b0 : (a1.toList == (rdOf ByteArray.empty l0 x8_1).toList) = true := beq_iff_eq.mpr c6;have c6b1 : (a1.toList != (rdOf ByteArray.empty l0 x8_1).toList) = false := bne_eq_false_iff_eq.mpr c6;clear c6;obtain rfl := Option.some.inj H;have p611 : 0 ≤ (x8_1 : Int) := ofD;have q611 : x8_1 < (l0.length : Int) := ofD;obtain ⟨ad611, e611, hx611_0⟩ := Kd.at_string HR0.out x8_1 p611 q611;cases e611
       replace p611 := eq_true p611;replace q611 := eq_true q611;go_wp2
       go_ret
       exact ⟨zz3, zz6⟩
      ·rw [if_neg c6] at H
       have c6b0 : (a1.toList == (rdOf ByteArray.empty l0 x8_1).toList) = false := beq_eq_false_iff_ne.mpr c6;have c6b1 : (a1.toList != (rdOf ByteArray.empty l0 x8_1).toList) = true := bne_iff_ne.mpr c6;have H' := Aside0.mk H;clear H;have p611 : 0 ≤ (x8_1 : Int) := ofD;have q611 : x8_1 < (l0.length : Int) := ofD;obtain ⟨ad611, e611, hx611_0⟩ := Kd.at_string HR0.out x8_1 p611 q611;cases e611
       replace p611 := eq_true p611;replace q611 := eq_true q611;go_wp2
       go_roundg k1
       case measure => have := HK1.out; omega
       case rel => exact ⟨(wrap64 (x8_1 + 1)), zz3, H', ⟨(zz5 HK1)⟩, zz6⟩
     ·rw [if_neg c5] at H
      exact absurd H (by simp)
    ·rw [if_neg c4] at H
     exact absurd H (by simp)
   ·rw [if_neg c3] at H
    have c3b0 : decide (x8_1 < (l0.length : Int)) = false := decide_eq_false c3;clear c3;obtain rfl := Option.some.inj H;go_wp2
    go_ret
    exact ⟨zz3, zz6⟩
def slices_Contains_string_string.f (k : Nat) (l0 : List ByteArray) (a1 : ByteArray) : Option (Bool) := (slices_Index_string_string.f k l0 a1).bind fun t612 => (some (decide (t612 ≥ 0)))
set_option maxHeartbeats 8000000 in
set_option maxRecDepth 100000 in
theorem slices_Contains_string_string.calls (k : Nat) (A0 : Option Addr) (c0 : Nat) (l0 : List ByteArray) (a1 : ByteArray) (r : Bool) (w : World) (hr0 : Kd.C Kd.string w A0 l0.length l0) (hc0 : l0.length ≤ c0) (h : slices_Contains_string_string.f k l0 a1 = some r) :
  Calls Tryz.prog 62 #[.slice A0 l0.length c0, .string a1] w fun e w' => e = .returned (.bool r) ∧ Drawn0 w w' := by
 have HR0 := Aside0.mk hr0;have HC0 := Aside0.mk hc0;clear hr0 hc0;have H : ((slices_Index_string_string.f k l0 a1).bind fun t612 => (some (decide (t612 ≥ 0)))) = some r := h;clear h;replace H := bindA H;obtain ⟨t612, A3, H⟩ := H;obtain rfl := Option.some.inj H;go_enter Tryz.func62, Tryz.ntmps62;go_wp2_with (first | ((with_reducible refine gate_callee (f := 78) rfl ?_); refine gsL (some 7) Tryz.func78 #[.slice A0 l0.length c0, .string a1] ?_; (with_reducible refine (slices_Index_string_string.calls k _ _ l0 a1 t612 _ ?side1 ?side2 A3.out).mono ?_); (case side1 => exact (zz59 HR0)); (case side2 => exact HC0.out); rintro e w' ⟨rfl, ⟨nd, rfl⟩⟩; refine ⟨_, rfl, ?_⟩))
 go_ret
 exact ⟨zz3, zz6⟩
mutual
def impl_PageAddrs.j0 : Nat → ByteArray → ByteArray → List ByteArray → Bool → ByteArray → Option (List ByteArray)
 | 0, _, _, _, _, _ => none
 | k + 1, x1, x616000, x616001, x616002, x616003 => (impl_PageLinks.f k x1).bind fun t626 => (impl_PageAddrs.l0 k ([] : List ByteArray) t626 (t626.length : Int) 0 x616000 x616001 x616002 x616003)
def impl_PageAddrs.l0 : Nat → List ByteArray → List ByteArray → Int → Int → ByteArray → List ByteArray → Bool → ByteArray → Option (List ByteArray)
 | 0, _, _, _, _, _, _, _, _ => none
 | k + 1, x10, x35, x36, x37, x616000, x616001, x616002, x616003 => if x37 < x36 then (if 0 ≤ x37 then (if x37 < (x35.length : Int) then ((impl_AddrJoin.f k x616000 x616001 x616002 x616003 (rdOf ByteArray.empty x35 x37)).bind fun bt630 => (if bt630.2.2.2.2 = true then ((impl_AddrText.f k bt630.1 bt630.2.1 bt630.2.2.1 bt630.2.2.2.1).bind fun t638 => ((slices_Contains_string_string.f k x10 t638).bind fun t639 => (if t639 = true then (impl_PageAddrs.l0 k x10 x35 x36 (wrap64 (x37 + 1)) x616000 x616001 x616002 x616003) else (if x10.length < 8796093022208 then (impl_PageAddrs.l0 k (x10 ++ [t638]) x35 x36 (wrap64 (x37 + 1)) x616000 x616001 x616002 x616003) else (none))))) else (impl_PageAddrs.l0 k x10 x35 x36 (wrap64 (x37 + 1)) x616000 x616001 x616002 x616003))) else (none)) else (none)) else (some x10)
end
def impl_PageAddrs.f (k : Nat) (a0_0 : ByteArray) (l0_1 : List ByteArray) (a0_2 : Bool) (a0_3 : ByteArray) (a1 : ByteArray) : Option (List ByteArray) := (impl_AddrOk.f k a0_0 l0_1 a0_2 a0_3).bind fun t614 => (if t614 = true then ((impl_PageBase.f k a1).bind fun bt616 => (if bt616.2 = true then ((impl_AddrJoin.f k a0_0 l0_1 a0_2 a0_3 bt616.1).bind fun bt618 => (if bt618.2.2.2.2 = true then (impl_PageAddrs.j0 k a1 bt618.1 bt618.2.1 bt618.2.2.1 bt618.2.2.2.1) else (impl_PageAddrs.j0 k a1 a0_0 l0_1 a0_2 a0_3))) else (impl_PageAddrs.j0 k a1 a0_0 l0_1 a0_2 a0_3))) else (some ([] : List ByteArray)))
set_option maxHeartbeats 8000000 in
set_option maxRecDepth 100000 in
theorem impl_PageAddrs.calls (k : Nat) (a0_0 : ByteArray) (P0_1_ : Nat → Prop) (A0_1 : Option Addr) (c0_1 : Nat) (l0_1 : List ByteArray) (a0_2 : Bool) (a0_3 : ByteArray) (a1 : ByteArray) (r : List ByteArray) (w : World) (hs0_1 : Kd.V Kd.string 9 w w.heap.size (fun k_ => P0_1_ k_) (.slice A0_1 l0_1.length c0_1) l0_1) (h : impl_PageAddrs.f k a0_0 l0_1 a0_2 a0_3 a1 = some r) :
  Calls Tryz.prog 45 #[.agg #[.string a0_0, .slice A0_1 l0_1.length c0_1, .bool a0_2, .string a0_3], .string a1] w fun e w' => ∃ v0_ : Value, e = .returned (v0_) ∧ Kd.R Kd.string 9 w' w.heap.size (fun k_ => (w.heap.size ≤ k_)) v0_ r ∧ Below w.heap.size w w' := by
 have hu52 := Tryz.underlying52;have HO0_1 := Aside0.mk (show Kd.V Kd.string 9 w w.heap.size (fun k_ => (P0_1_ k_ ∨ w.heap.size ≤ k_)) (.slice A0_1 l0_1.length c0_1) l0_1 from Kd.V_mono hs0_1 (fun k_ hk => .inl hk));have HB := Aside0.mk (Below.refl w.heap.size w);have H : ((impl_AddrOk.f k a0_0 l0_1 a0_2 a0_3).bind fun t614 => (if t614 = true then ((impl_PageBase.f k a1).bind fun bt616 => (if bt616.2 = true then ((impl_AddrJoin.f k a0_0 l0_1 a0_2 a0_3 bt616.1).bind fun bt618 => (if bt618.2.2.2.2 = true then (impl_PageAddrs.j0 k a1 bt618.1 bt618.2.1 bt618.2.2.1 bt618.2.2.2.1) else (impl_PageAddrs.j0 k a1 a0_0 l0_1 a0_2 a0_3))) else (impl_PageAddrs.j0 k a1 a0_0 l0_1 a0_2 a0_3))) else (some ([] : List ByteArray)))) = some r := h;clear h;replace H := bindA H;obtain ⟨t614, A3, H⟩ := H;by_cases c4 : t614 = true
 ·subst c4
  rw [if_pos rfl] at H;replace H := bindA H;obtain ⟨⟨t616, t617⟩, A5, H⟩ := H;try dsimp -simprocs only at H
  have HC6 := Aside0.mk H;clear H;go_enter Tryz.func45, Tryz.ntmps45;go_upto_if 25 with (first | ((with_reducible refine gate_dst (N := 2) rfl ?_); refine boxE 2 #[.string a0_0, .slice A0_1 l0_1.length c0_1, .bool a0_2, .string a0_3] 52 ?_; intro gb613 hg w7 hbox hb; replace HO0_1 := Aside0.mk (Kd.V_below (Kd.V_elderB (zz74 HO0_1) gb613 (Nat.le_of_eq hg.symm)) hb); have BK613 := Aside0.mk (hbox); have GE613 := geB hg (zz0 HB); replace HB := Aside0.mk (below_step (zz0 HB) hb); clear hb hbox hg; obtain ⟨_, _, _, _, _, _, _, _⟩ := cf4 BK613) | ((with_reducible refine gate_callee (f := 57) rfl ?_); refine gsL (some 17) Tryz.func57 #[.agg #[.string a0_0, .slice A0_1 l0_1.length c0_1, .bool a0_2, .string a0_3]] ?_; (with_reducible refine (impl_AddrOk.calls k a0_0 _ _ l0_1 a0_2 a0_3 true _ ?side1 ?side2 A3.out).mono ?_); (case side1 => exact (zz75 HO0_1)); (case side2 => exact (Kd.V_reads' HO0_1.out).2.1); rintro e w9 ⟨rfl, hb⟩; refine ⟨_, rfl, ?_⟩; replace HO0_1 := Aside0.mk (Kd.V_below (zz74 HO0_1) hb); replace BK613 := Aside0.mk (blk_below (zz21 BK613) hb); replace HB := Aside0.mk (below_step (zz2 HB GE613) hb); (try clear hb); obtain ⟨_, _, _, _, _, _, _, _⟩ := cf4 BK613) | ((with_reducible refine gate_dst (N := 5) rfl ?_); refine boxE 5 #[.string (⟨#[]⟩ : ByteArray), .slice none 0 0, .bool false, .string (⟨#[]⟩ : ByteArray)] 52 ?_; intro gb615 hg w11 hbox hb; replace HO0_1 := Aside0.mk (Kd.V_below (Kd.V_elderB (zz74 HO0_1) gb615 (Nat.le_of_eq hg.symm)) hb); have BK615 := Aside0.mk (hbox); have GE615 := geB hg (zz2 HB GE613); replace HB := Aside0.mk (below_step (zz2 HB GE613) hb); have NB613_615 := Aside0.mk ((by rw [hg]; exact Nat.ne_of_lt (blk_lt (zz21 BK613)) : gb613 ≠ gb615)); have NB615_613 := Aside0.mk ((by rw [hg]; exact Nat.ne_of_gt (blk_lt (zz21 BK613)) : gb615 ≠ gb613)); replace BK613 := Aside0.mk (blk_below (zz21 BK613) hb); clear hb hbox hg; have hnb12 := NB615_613.out; have hnc12 := NB613_615.out; obtain ⟨_, _, _, _, _, _, _, _⟩ := cf4 BK615) | ((with_reducible refine gate_callee (f := 58) rfl ?_); refine gsL (some 22) Tryz.func58 #[.string a1] ?_; (with_reducible refine (impl_PageBase.calls k a1 t616 t617 _ A5.out).mono ?_); rintro e w14 ⟨rfl, hb⟩; refine ⟨_, rfl, ?_⟩; replace HO0_1 := Aside0.mk (Kd.V_below (by (with_reducible repeat (first | apply Kd.V_alloc | apply Kd.V_drewN | apply Kd.V_drew)); exact (Kd.V_mono (Kd.V_far (p := ⟨gb615, 3, none⟩) (Kd.V_far (p := ⟨gb615, 2, none⟩) (Kd.V_far (p := ⟨gb615, 1, none⟩) (Kd.V_far (p := ⟨gb615, 0, none⟩) (Kd.V_mono HO0_1.out (fun k_ hk => (⟨hk, hk.2⟩ : _ ∧ k_ ≠ gb615))) (fun _ hk => hk.2) (.string a0_0)) (fun _ hk => hk.2) (.slice A0_1 l0_1.length c0_1)) (fun _ hk => hk.2) (.bool a0_2)) (fun _ hk => hk.2) (.string a0_3)) (fun _ h_ => h_.1))) hb); replace BK613 := Aside0.mk (blk_below (g := gb613) (o := .cells #[.string a0_0, .slice A0_1 l0_1.length c0_1, .bool a0_2, .string a0_3] 52 (0, 0)) (zz45 BK613 NB613_615) hb); replace BK615 := Aside0.mk (blk_below (g := gb615) (o := .cells #[.string a0_0, .slice A0_1 l0_1.length c0_1, .bool a0_2, .string a0_3] 52 (0, 0)) (zz37 BK615) hb); replace HB := Aside0.mk (below_step (zz33 HB GE613 GE615) hb); (try clear hb)))
  (try simp only [Act.put, List.setIfInBounds_toArray, List.set_cons_zero, List.set_cons_succ])
  go_cut [] (fun wc => ∃ (kq : Nat) (x616000_5 : ByteArray) (x616001_5 : List ByteArray) (x616002_5 : Bool) (x616003_5 : ByteArray) (u616001 : Value), Aside0 (impl_PageAddrs.j0 kq a1 x616000_5 x616001_5 x616002_5 x616003_5 = some r) ∧ Aside0 (kq ≤ k) ∧ Aside0 (Kd.V Kd.string 9 wc w.heap.size (fun k_ => (P0_1_ k_ ∨ w.heap.size ≤ k_) ∧ k_ ≠ gb613 ∧ k_ ≠ gb615) (.slice A0_1 l0_1.length c0_1) l0_1) ∧ Aside0 (Kd.V Kd.string 9 wc w.heap.size (fun k_ => (P0_1_ k_ ∨ w.heap.size ≤ k_) ∧ k_ ≠ gb613 ∧ k_ ≠ gb615) u616001 x616001_5) ∧ Aside0 (wc.heap[gb613]? = some (.cells #[.string a0_0, (.slice A0_1 l0_1.length c0_1), .bool a0_2, .string a0_3] 52 (0, 0))) ∧ Aside0 (wc.heap[gb615]? = some (.cells #[.string x616000_5, u616001, .bool x616002_5, .string x616003_5] 52 (0, 0))) ∧ Aside0 (Below w.heap.size w wc))
  case first =>
   have H := HC6.out;clear HC6;by_cases c15 : t617 = true
   ·subst c15
    rw [if_pos rfl] at H;replace H := bindA H;obtain ⟨⟨t618, t619, t622, t623, t624⟩, A16, H⟩ := H;try dsimp -simprocs only at H
    by_cases c17 : t624 = true
    ·subst c17
     rw [if_pos rfl] at H;have H' := Aside0.mk H;clear H;have hnb18 := NB613_615.out;have hnc18 := NB615_613.out;obtain ⟨_, _, _, _, _, _, _, _⟩ := cf4 BK613;go_wp2_with (first | ((with_reducible refine gate_callee (f := 59) rfl ?_); refine gsL (some 29) Tryz.func59 #[.agg #[.string a0_0, .slice A0_1 l0_1.length c0_1, .bool a0_2, .string a0_3], .string t616] ?_; (with_reducible refine (impl_AddrJoin.calls k a0_0 _ _ l0_1 a0_2 a0_3 t616 t618 t619 t622 t623 true _ ?side1 ?side2 A16.out).mono ?_); (case side1 => exact (zz75 HO0_1)); (case side2 => exact (Kd.V_reads' HO0_1.out).2.1); rintro e w20 ⟨v620, rfl, ho0, hb⟩; refine ⟨_, rfl, ?_⟩; replace HO0_1 := Aside0.mk (Kd.V_elder' (zz74 HO0_1) (Kd.R_base ho0) hb); have HO621 := Aside0.mk (Kd.R_lower (Kd.R_newM (M := fun k_ => (w.heap.size ≤ k_)) ho0 (below_size (zz33 HB GE613 GE615)) (fun k_ h_ => h_)) (below_size (zz33 HB GE613 GE615))); replace BK613 := Aside0.mk (blk_below (zz21 BK613) hb); replace BK615 := Aside0.mk (blk_below (zz21 BK615) hb); replace HB := Aside0.mk (below_step (zz33 HB GE613 GE615) hb); (try clear hb ho0)) | ((with_reducible refine gate_dst (N := 8) rfl ?_); refine boxE 8 #[.string (⟨#[]⟩ : ByteArray), .slice none 0 0, .bool false, .string (⟨#[]⟩ : ByteArray)] 52 ?_; intro gb625 hg w21 hbox hb; replace HO0_1 := Aside0.mk (Kd.V_below (Kd.V_elderB (zz74 HO0_1) gb625 (Nat.le_of_eq hg.symm)) hb); replace HO621 := Aside0.mk (Kd.R_below (zz28 HO621) hb); have BK625 := Aside0.mk (hbox); have GE625 := geB hg (zz33 HB GE613 GE615); replace HB := Aside0.mk (below_step (zz33 HB GE613 GE615) hb); have NB613_625 := Aside0.mk ((by rw [hg]; exact Nat.ne_of_lt (blk_lt (zz21 BK613)) : gb613 ≠ gb625)); have NB625_613 := Aside0.mk ((by rw [hg]; exact Nat.ne_of_gt (blk_lt (zz21 BK613)) : gb625 ≠ gb613)); replace BK613 := Aside0.mk (blk_below (zz21 BK613) hb); have NB615_625 := Aside0.mk ((by rw [hg]; exact Nat.ne_of_lt (blk_lt (zz21 BK615)) : gb615 ≠ gb625)); have NB625_615 := Aside0.mk ((by rw [hg]; exact Nat.ne_of_gt (blk_lt (zz21 BK615)) : gb625 ≠ gb615)); replace BK615 := Aside0.mk (blk_below (zz21 BK615) hb); clear hb hbox hg; have hnb22 := NB625_613.out; have hnc22 := NB613_625.out; have hnb23 := NB625_615.out; have hnc23 := NB615_625.out; obtain ⟨_, _, _, _, _, _, _, _⟩ := cf4 BK625; obtain ⟨Ao25, co25, eo25⟩ := Kd.R_slice HO621.out; subst eo25; obtain ⟨_, _, _, _, _, _, _, _⟩ := cf4 BK615))
     go_meet
     case rel => exact ⟨_, (t618), (t619), (t622), (t623), (.slice Ao25 t619.length co25), H', ⟨zz9⟩, ⟨(by (with_reducible repeat (first | apply Kd.V_alloc | apply Kd.V_drewN | apply Kd.V_drew)); exact Kd.V_mono (Kd.V_far (p := ⟨gb615, 3, none⟩) (Kd.V_far (p := ⟨gb615, 2, none⟩) (Kd.V_far (p := ⟨gb615, 1, none⟩) (Kd.V_far (p := ⟨gb615, 0, none⟩) (Kd.V_far (p := ⟨gb625, 3, none⟩) (Kd.V_far (p := ⟨gb625, 2, none⟩) (Kd.V_far (p := ⟨gb625, 1, none⟩) (Kd.V_far (p := ⟨gb625, 0, none⟩) (Kd.V_mono (Kd.V_mono HO0_1.out (fun k_ hk => (⟨hk, hk.2⟩ : _ ∧ k_ ≠ gb625))) (fun k_ hk => (⟨hk, hk.1.1.1.2⟩ : _ ∧ k_ ≠ gb615))) (fun _ hk => hk.1.2) (.string t618)) (fun _ hk => hk.1.2) (.slice Ao25 t619.length co25)) (fun _ hk => hk.1.2) (.bool t622)) (fun _ hk => hk.1.2) (.string t623)) (fun _ hk => hk.2) (.string t618)) (fun _ hk => hk.2) (.slice Ao25 t619.length co25)) (fun _ hk => hk.2) (.bool t622)) (fun _ hk => hk.2) (.string t623)) (fun _ hk => ⟨hk.1.1.1.1.1.1, ⟨hk.1.1.1.1.1.2, hk.1.1.1.1.2⟩⟩))⟩, ⟨Kd.V_mono (Kd.R_V (by (with_reducible repeat (first | apply Kd.R_alloc | apply Kd.R_drewN | apply Kd.R_drew)); exact Kd.R_mono (ok' := fun k_ => (w.heap.size ≤ k_) ∧ k_ ≠ gb613 ∧ k_ ≠ gb615) (Kd.R_far (p := ⟨gb615, 3, none⟩) (Kd.R_far (p := ⟨gb615, 2, none⟩) (Kd.R_far (p := ⟨gb615, 1, none⟩) (Kd.R_far (p := ⟨gb615, 0, none⟩) (Kd.R_far (p := ⟨gb625, 3, none⟩) (Kd.R_far (p := ⟨gb625, 2, none⟩) (Kd.R_far (p := ⟨gb625, 1, none⟩) (Kd.R_far (p := ⟨gb625, 0, none⟩) (Kd.R_types (Kd.R_types (Kd.R_types (Kd.R_types HO621.out BK613.out (by decide)) BK615.out (by decide)) BK625.out (by decide)) BK615.out (by decide)) (fun _ hk => hk.1.2) (.string t618)) (fun _ hk => hk.1.2) (.slice Ao25 t619.length co25)) (fun _ hk => hk.1.2) (.bool t622)) (fun _ hk => hk.1.2) (.string t623)) (fun _ hk => hk.2) (.string t618)) (fun _ hk => hk.2) (.slice Ao25 t619.length co25)) (fun _ hk => hk.2) (.bool t622)) (fun _ hk => hk.2) (.string t623)) (fun _ hk => ⟨hk.1.1.1.1.1, ⟨hk.1.1.1.2, hk.1.1.2⟩⟩))) (fun k_ hk => by first | exact ⟨(.inr (hk.1)), hk.2⟩ | exact (.inr (hk)))⟩, ⟨(by (repeat (first | (with_reducible first | exact BK613.out | refine blk_drewN ?_ _ | refine blk_drew ?_ | refine blk_alloc ?_ _ | apply blk_put | apply blk_far) | exact BK613.out)); all_goals first | rfl | exact NB613_615.out | exact NB613_625.out)⟩, ⟨(zz45 BK615 NB615_625)⟩, ⟨(zz42 HB GE613 GE615 GE625)⟩⟩
    ·replace c17 := Bool.eq_false_iff.mpr c17
     subst c17;rw [if_neg (show ¬ (false = true) by decide)] at H;have H' := Aside0.mk H;clear H;have hnb27 := NB613_615.out;have hnc27 := NB615_613.out;obtain ⟨_, _, _, _, _, _, _, _⟩ := cf4 BK613;go_wp2_with (first | ((with_reducible refine gate_callee (f := 59) rfl ?_); refine gsL (some 29) Tryz.func59 #[.agg #[.string a0_0, .slice A0_1 l0_1.length c0_1, .bool a0_2, .string a0_3], .string t616] ?_; (with_reducible refine (impl_AddrJoin.calls k a0_0 _ _ l0_1 a0_2 a0_3 t616 t618 t619 t622 t623 false _ ?side1 ?side2 A16.out).mono ?_); (case side1 => exact (zz75 HO0_1)); (case side2 => exact (Kd.V_reads' HO0_1.out).2.1); rintro e w29 ⟨v620, rfl, ho0, hb⟩; refine ⟨_, rfl, ?_⟩; replace HO0_1 := Aside0.mk (Kd.V_elder' (zz74 HO0_1) (Kd.R_base ho0) hb); have HO621 := Aside0.mk (Kd.R_lower (Kd.R_newM (M := fun k_ => (w.heap.size ≤ k_)) ho0 (below_size (zz33 HB GE613 GE615)) (fun k_ h_ => h_)) (below_size (zz33 HB GE613 GE615))); replace BK613 := Aside0.mk (blk_below (zz21 BK613) hb); replace BK615 := Aside0.mk (blk_below (zz21 BK615) hb); replace HB := Aside0.mk (below_step (zz33 HB GE613 GE615) hb); (try clear hb ho0)) | ((with_reducible refine gate_dst (N := 8) rfl ?_); refine boxE 8 #[.string (⟨#[]⟩ : ByteArray), .slice none 0 0, .bool false, .string (⟨#[]⟩ : ByteArray)] 52 ?_; intro gb625 hg w30 hbox hb; replace HO0_1 := Aside0.mk (Kd.V_below (Kd.V_elderB (zz74 HO0_1) gb625 (Nat.le_of_eq hg.symm)) hb); replace HO621 := Aside0.mk (Kd.R_below (zz28 HO621) hb); have BK625 := Aside0.mk (hbox); have GE625 := geB hg (zz33 HB GE613 GE615); replace HB := Aside0.mk (below_step (zz33 HB GE613 GE615) hb); have NB613_625 := Aside0.mk ((by rw [hg]; exact Nat.ne_of_lt (blk_lt (zz21 BK613)) : gb613 ≠ gb625)); have NB625_613 := Aside0.mk ((by rw [hg]; exact Nat.ne_of_gt (blk_lt (zz21 BK613)) : gb625 ≠ gb613)); replace BK613 := Aside0.mk (blk_below (zz21 BK613) hb); have NB615_625 := Aside0.mk ((by rw [hg]; exact Nat.ne_of_lt (blk_lt (zz21 BK615)) : gb615 ≠ gb625)); have NB625_615 := Aside0.mk ((by rw [hg]; exact Nat.ne_of_gt (blk_lt (zz21 BK615)) : gb625 ≠ gb615)); replace BK615 := Aside0.mk (blk_below (zz21 BK615) hb); clear hb hbox hg; have hnb31 := NB625_613.out; have hnc31 := NB613_625.out; have hnb32 := NB625_615.out; have hnc32 := NB615_625.out; obtain ⟨_, _, _, _, _, _, _, _⟩ := cf4 BK625; obtain ⟨Ao34, co34, eo34⟩ := Kd.R_slice HO621.out; subst eo34))
     go_meet
     case rel => exact ⟨_, (a0_0), (l0_1), (a0_2), (a0_3), (.slice A0_1 l0_1.length c0_1), H', ⟨zz9⟩, ⟨(zz169 HO0_1)⟩, ⟨(zz169 HO0_1)⟩, ⟨(zz45 BK613 NB613_625)⟩, ⟨(zz45 BK615 NB615_625)⟩, ⟨(zz42 HB GE613 GE615 GE625)⟩⟩
   ·replace c15 := Bool.eq_false_iff.mpr c15
    subst c15;rw [if_neg (show ¬ (false = true) by decide)] at H;have H' := Aside0.mk H;clear H;go_wp2
    go_meet
    case rel => exact ⟨_, (a0_0), (l0_1), (a0_2), (a0_3), (.slice A0_1 l0_1.length c0_1), H', ⟨zz9⟩, ⟨(zz170 HO0_1)⟩, ⟨(zz170 HO0_1)⟩, ⟨(zz21 BK613)⟩, ⟨(zz21 BK615)⟩, ⟨(zz33 HB GE613 GE615)⟩⟩
  case rest =>
   clear HC6;obtain ⟨kq, x616000_5, x616001_5, x616002_5, x616003_5, u616001, HA, HJ5, HO_614001, HO_616001, BK613, BK615, HB⟩ := hcut;cases kq with
   | zero => exact absurd HA.out (by simp [impl_PageAddrs.j0])
   | succ kj5 =>
    have H := HA.out;clear HA;simp only [impl_PageAddrs.j0] at H
    replace H := bindA H;obtain ⟨t626, A35, H⟩ := H;have H' := Aside0.mk H;clear H;go_wp2_with (first | ((with_reducible refine gate_callee (f := 60) rfl ?_); refine gsL (some 35) Tryz.func60 #[.string a1] ?_; (with_reducible refine (impl_PageLinks.calls kj5 a1 t626 _ A35.out).mono ?_); rintro e w36 ⟨v627, rfl, ho0, hb⟩; refine ⟨_, rfl, ?_⟩; replace HO_614001 := Aside0.mk (Kd.V_elder' (zz74 HO_614001) (Kd.R_base ho0) hb); replace HO_616001 := Aside0.mk (Kd.V_elder' (zz74 HO_616001) (Kd.R_base ho0) hb); have HO628 := Aside0.mk (Kd.R_lower (Kd.R_newM (M := fun k_ => (w.heap.size ≤ k_)) ho0 (below_size (zz33 HB GE613 GE615)) (fun k_ h_ => h_)) (below_size (zz33 HB GE613 GE615))); replace BK613 := Aside0.mk (blk_below (zz21 BK613) hb); replace BK615 := Aside0.mk (blk_below (zz21 BK615) hb); replace HB := Aside0.mk (below_step (zz33 HB GE613 GE615) hb); (try clear hb ho0); obtain ⟨Ao37, co37, eo37⟩ := Kd.R_slice HO628.out; subst eo37))
    go_loopg [10, 37] kj5 (fun kq v10 v37 w' => ∃ (x10_2 : List ByteArray) (x37_2 : Int), v37 = .int .i64 x37_2 ∧ Aside0 (impl_PageAddrs.l0 kq x10_2 t626 (t626.length : Int) x37_2 x616000_5 x616001_5 x616002_5 x616003_5 = some r) ∧ Aside0 (kq ≤ kj5) ∧ Aside0 (Kd.R Kd.string 9 w' w.heap.size (fun k_ => (w.heap.size ≤ k_) ∧ some k_ ≠ ((.slice Ao37 t626.length co37) : Value).ownBlock) v10 x10_2) ∧ Aside0 (Kd.R Kd.string 9 w' w.heap.size (fun k_ => (w.heap.size ≤ k_) ∧ some k_ ≠ (v10 : Value).ownBlock) (.slice Ao37 t626.length co37) t626) ∧ Aside0 (Kd.V Kd.string 9 w' w.heap.size (fun k_ => (P0_1_ k_ ∨ w.heap.size ≤ k_) ∧ some k_ ≠ (v10 : Value).ownBlock ∧ some k_ ≠ ((.slice Ao37 t626.length co37) : Value).ownBlock ∧ k_ ≠ gb613 ∧ k_ ≠ gb615) (.slice A0_1 l0_1.length c0_1) l0_1) ∧ Aside0 (Kd.V Kd.string 9 w' w.heap.size (fun k_ => (P0_1_ k_ ∨ w.heap.size ≤ k_) ∧ some k_ ≠ (v10 : Value).ownBlock ∧ some k_ ≠ ((.slice Ao37 t626.length co37) : Value).ownBlock ∧ k_ ≠ gb613 ∧ k_ ≠ gb615) u616001 x616001_5) ∧ Aside0 (w'.heap[gb613]? = some (.cells #[.string a0_0, (.slice A0_1 l0_1.length c0_1), .bool a0_2, .string a0_3] 52 (0, 0))) ∧ Aside0 (w'.heap[gb615]? = some (.cells #[.string x616000_5, u616001, .bool x616002_5, .string x616003_5] 52 (0, 0))) ∧ Aside0 (Below w.heap.size w w'))
    case atStart => exact ⟨(([] : List ByteArray)), (0), zz3, H', ⟨Nat.le_refl _⟩, ⟨zz38⟩, ⟨(by (with_reducible repeat (first | apply Kd.R_alloc | apply Kd.R_drewN | apply Kd.R_drew)); exact Kd.R_mono HO628.out (fun _ hk => ⟨hk.1, (by simp [Value.ownBlock])⟩))⟩, ⟨(zz173 HO_614001)⟩, ⟨(zz173 HO_616001)⟩, ⟨(zz21 BK613)⟩, ⟨(zz21 BK615)⟩, ⟨(zz33 HB GE613 GE615)⟩⟩
    case round =>
     clear H';obtain ⟨x10_2, x37_2, rfl, HA, HK2, HO_10, HO_35, HO_614001, HO_616001, BK613, BK615, HB⟩ := hrel;cases gk with
     | zero => exact absurd HA.out (by simp [impl_PageAddrs.l0])
     | succ k2 =>
      have H := HA.out;clear HA;simp only [impl_PageAddrs.l0] at H
      by_cases c38 : x37_2 < (t626.length : Int)
      ·rw [if_pos c38] at H
       have c38b0 : decide (x37_2 < (t626.length : Int)) = true := decide_eq_true c38;clear c38;by_cases c39 : 0 ≤ x37_2
       ·rw [if_pos c39] at H
        have c39b0 : decide (0 ≤ x37_2) = true := decide_eq_true c39;clear c39;by_cases c40 : x37_2 < (t626.length : Int)
        ·rw [if_pos c40] at H
         have c40b0 : decide (x37_2 < (t626.length : Int)) = true := decide_eq_true c40;clear c40;replace H := bindA H;obtain ⟨⟨t630, t631, t634, t635, t636⟩, A41, H⟩ := H;try dsimp -simprocs only at H
         by_cases c42 : t636 = true
         ·subst c42
          rw [if_pos rfl] at H;replace H := bindA H;obtain ⟨t638, A43, H⟩ := H;replace H := bindA H;obtain ⟨t639, A44, H⟩ := H;by_cases c45 : t639 = true
          ·subst c45
           rw [if_pos rfl] at H;have H' := Aside0.mk H;clear H;have p629 : 0 ≤ (x37_2 : Int) := ofD;have q629 : x37_2 < (t626.length : Int) := ofD;obtain ⟨ad629, e629, hx629_0⟩ := Kd.at_string (Kd.R_reads' HO_35.out).2.2 x37_2 p629 q629;cases e629
           replace p629 := eq_true p629;replace q629 := eq_true q629;have hnb46 := NB615_613.out;have hnc46 := NB613_615.out;obtain ⟨_, _, _, _, _, _, _, _⟩ := cf4 BK615;obtain ⟨Ao48, co48, eo48⟩ := Kd.V_slice HO_616001.out;subst eo48;go_wp2_with (first | ((with_reducible refine gate_callee (f := 59) rfl ?_); refine gsL (some 44) Tryz.func59 #[.agg #[.string x616000_5, .slice Ao48 x616001_5.length co48, .bool x616002_5, .string x616003_5], .string (rdOf ByteArray.empty t626 x37_2)] ?_; (with_reducible refine (impl_AddrJoin.calls k2 x616000_5 _ _ x616001_5 x616002_5 x616003_5 (rdOf ByteArray.empty t626 x37_2) t630 t631 t634 t635 true _ ?side1 ?side2 A41.out).mono ?_); (case side1 => exact (zz75 HO_616001)); (case side2 => exact (Kd.V_reads' HO_616001.out).2.1); rintro e w49 ⟨v632, rfl, ho0, hb⟩; refine ⟨_, rfl, ?_⟩; replace HO_614001 := Aside0.mk (Kd.V_elder' (zz74 HO_614001) (Kd.R_base ho0) hb); replace HO_616001 := Aside0.mk (Kd.V_elder' (zz74 HO_616001) (Kd.R_base ho0) hb); have HO633 := Aside0.mk (Kd.R_lower (Kd.R_new' (Kd.R_new' (Kd.R_newM (M := fun k_ => (w.heap.size ≤ k_)) ho0 (below_size (zz33 HB GE613 GE615)) (fun k_ h_ => h_)) (Kd.R_lt (zz28 HO_10))) (Kd.R_lt (zz28 HO_35))) (below_size (zz33 HB GE613 GE615))); replace HO_10 := Aside0.mk (Kd.R_elder' (zz28 HO_10) (Kd.R_base ho0) hb); replace HO_35 := Aside0.mk (Kd.R_elder' (zz28 HO_35) (Kd.R_base ho0) hb); replace BK613 := Aside0.mk (blk_below (zz21 BK613) hb); replace BK615 := Aside0.mk (blk_below (zz21 BK615) hb); replace HB := Aside0.mk (below_step (zz33 HB GE613 GE615) hb); (try clear hb ho0)) | ((with_reducible refine gate_dst (N := 13) rfl ?_); refine boxE 13 #[.string (⟨#[]⟩ : ByteArray), .slice none 0 0, .bool false, .string (⟨#[]⟩ : ByteArray)] 52 ?_; intro gb637 hg w50 hbox hb; replace HO_10 := Aside0.mk (Kd.R_below (zz28 HO_10) hb); replace HO_35 := Aside0.mk (Kd.R_below (zz28 HO_35) hb); replace HO_614001 := Aside0.mk (Kd.V_below (Kd.V_elderB (zz74 HO_614001) gb637 (Nat.le_of_eq hg.symm)) hb); replace HO_616001 := Aside0.mk (Kd.V_below (Kd.V_elderB (zz74 HO_616001) gb637 (Nat.le_of_eq hg.symm)) hb); replace HO633 := Aside0.mk (Kd.R_below (zz28 HO633) hb); have BK637 := Aside0.mk (hbox); have GE637 := geB hg (zz33 HB GE613 GE615); replace HB := Aside0.mk (below_step (zz33 HB GE613 GE615) hb); have NB613_637 := Aside0.mk ((by rw [hg]; exact Nat.ne_of_lt (blk_lt (zz21 BK613)) : gb613 ≠ gb637)); have NB637_613 := Aside0.mk ((by rw [hg]; exact Nat.ne_of_gt (blk_lt (zz21 BK613)) : gb637 ≠ gb613)); replace BK613 := Aside0.mk (blk_below (zz21 BK613) hb); have NB615_637 := Aside0.mk ((by rw [hg]; exact Nat.ne_of_lt (blk_lt (zz21 BK615)) : gb615 ≠ gb637)); have NB637_615 := Aside0.mk ((by rw [hg]; exact Nat.ne_of_gt (blk_lt (zz21 BK615)) : gb637 ≠ gb615)); replace BK615 := Aside0.mk (blk_below (zz21 BK615) hb); clear hb hbox hg; have hnb51 := NB637_613.out; have hnc51 := NB613_637.out; have hnb52 := NB637_615.out; have hnc52 := NB615_637.out; obtain ⟨_, _, _, _, _, _, _, _⟩ := cf4 BK637; obtain ⟨Ao54, co54, eo54⟩ := Kd.R_slice HO633.out; subst eo54) | ((with_reducible refine gate_callee (f := 61) rfl ?_); refine gsL (some 50) Tryz.func61 #[.agg #[.string t630, .slice Ao54 t631.length co54, .bool t634, .string t635]] ?_; (with_reducible refine (impl_AddrText.calls k2 t630 _ _ t631 t634 t635 t638 _ ?side1 ?side2 A43.out).mono ?_); (case side1 => exact (by refine (Kd.R_reads' (e := 9) (base := w.heap.size) (ok := fun k_ => ((((w.heap.size ≤ k_) ∧ True) ∧ some k_ ≠ (u10 : Value).ownBlock) ∧ some k_ ≠ (.slice (some ad629) t626.length co37 : Value).ownBlock)) (n := t631.length) (c := co54) ?_).2.2; exact (zz175 HO633 BK637))); (case side2 => exact (Kd.R_reads' HO633.out).2.1); rintro e w55 ⟨rfl, hb⟩; refine ⟨_, rfl, ?_⟩; replace HO_10 := Aside0.mk (Kd.R_below (zz175 HO_10 BK637) hb); replace HO_35 := Aside0.mk (Kd.R_below (zz175 HO_35 BK637) hb); replace HO_614001 := Aside0.mk (Kd.V_below (zz177 HO_614001) hb); replace HO_616001 := Aside0.mk (Kd.V_below (zz177 HO_616001) hb); replace HO633 := Aside0.mk (Kd.R_below (zz175 HO633 BK637) hb); replace BK613 := Aside0.mk (blk_below (g := gb613) (o := .cells #[.string a0_0, .slice A0_1 l0_1.length c0_1, .bool a0_2, .string a0_3] 52 (0, 0)) (zz45 BK613 NB613_637) hb); replace BK615 := Aside0.mk (blk_below (g := gb615) (o := .cells #[.string x616000_5, .slice Ao48 x616001_5.length co48, .bool x616002_5, .string x616003_5] 52 (0, 0)) (zz45 BK615 NB615_637) hb); replace BK637 := Aside0.mk (blk_below (g := gb637) (o := .cells #[.string t630, .slice Ao54 t631.length co54, .bool t634, .string t635] 52 (0, 0)) (zz37 BK637) hb); replace HB := Aside0.mk (below_step (zz42 HB GE613 GE615 GE637) hb); (try clear hb); obtain ⟨Ao56, co56, eo56⟩ := Kd.R_slice HO_10.out; subst eo56) | ((with_reducible refine gate_callee (f := 62) rfl ?_); refine gsL (some 53) Tryz.func62 #[.slice Ao56 x10_2.length co56, .string t638] ?_; (with_reducible refine (slices_Contains_string_string.calls k2 _ _ x10_2 t638 true _ ?side1 ?side2 A44.out).mono ?_); (case side1 => exact (zz39 HO_10)); (case side2 => exact (Kd.R_reads' HO_10.out).2.1); rintro e w' ⟨rfl, ⟨nd, rfl⟩⟩; refine ⟨_, rfl, ?_⟩))
           go_roundg k2
           case measure => have := HJ5.out; have := HK2.out; omega
           case rel => exact ⟨(x10_2), (wrap64 (x37_2 + 1)), zz3, H', ⟨(zz20 HJ5 HK2)⟩, ⟨(zz178 HO_10)⟩, ⟨(zz178 HO_35)⟩, ⟨(zz179 HO_614001)⟩, ⟨(zz179 HO_616001)⟩, ⟨(zz21 BK613)⟩, ⟨(zz21 BK615)⟩, ⟨(zz42 HB GE613 GE615 GE637)⟩⟩
          ·replace c45 := Bool.eq_false_iff.mpr c45
           subst c45;rw [if_neg (show ¬ (false = true) by decide)] at H;by_cases c57 : x10_2.length < 8796093022208
           ·rw [if_pos c57] at H
            have LMc57 := Aside0.mk c57;clear c57;obtain ⟨y640, Ny640⟩ := toY (x10_2 ++ [t638]);(first | with_reducible replace H := bindZ Ny640 H | rw [← Ny640.out] at H | skip)
            have H' := Aside0.mk H;clear H;have p629 : 0 ≤ (x37_2 : Int) := ofD;have q629 : x37_2 < (t626.length : Int) := ofD;obtain ⟨ad629, e629, hx629_0⟩ := Kd.at_string (Kd.R_reads' HO_35.out).2.2 x37_2 p629 q629;cases e629
            replace p629 := eq_true p629;replace q629 := eq_true q629;have hnb58 := NB615_613.out;have hnc58 := NB613_615.out;obtain ⟨_, _, _, _, _, _, _, _⟩ := cf4 BK615;obtain ⟨Ao60, co60, eo60⟩ := Kd.V_slice HO_616001.out;subst eo60;go_wp2_with (first | ((with_reducible refine gate_callee (f := 59) rfl ?_); refine gsL (some 44) Tryz.func59 #[.agg #[.string x616000_5, .slice Ao60 x616001_5.length co60, .bool x616002_5, .string x616003_5], .string (rdOf ByteArray.empty t626 x37_2)] ?_; (with_reducible refine (impl_AddrJoin.calls k2 x616000_5 _ _ x616001_5 x616002_5 x616003_5 (rdOf ByteArray.empty t626 x37_2) t630 t631 t634 t635 true _ ?side1 ?side2 A41.out).mono ?_); (case side1 => exact (zz75 HO_616001)); (case side2 => exact (Kd.V_reads' HO_616001.out).2.1); rintro e w61 ⟨v632, rfl, ho0, hb⟩; refine ⟨_, rfl, ?_⟩; replace HO_614001 := Aside0.mk (Kd.V_elder' (zz74 HO_614001) (Kd.R_base ho0) hb); replace HO_616001 := Aside0.mk (Kd.V_elder' (zz74 HO_616001) (Kd.R_base ho0) hb); have HO633 := Aside0.mk (Kd.R_lower (Kd.R_new' (Kd.R_new' (Kd.R_newM (M := fun k_ => (w.heap.size ≤ k_)) ho0 (below_size (zz33 HB GE613 GE615)) (fun k_ h_ => h_)) (Kd.R_lt (zz28 HO_10))) (Kd.R_lt (zz28 HO_35))) (below_size (zz33 HB GE613 GE615))); replace HO_10 := Aside0.mk (Kd.R_elder' (zz28 HO_10) (Kd.R_base ho0) hb); replace HO_35 := Aside0.mk (Kd.R_elder' (zz28 HO_35) (Kd.R_base ho0) hb); replace BK613 := Aside0.mk (blk_below (zz21 BK613) hb); replace BK615 := Aside0.mk (blk_below (zz21 BK615) hb); replace HB := Aside0.mk (below_step (zz33 HB GE613 GE615) hb); (try clear hb ho0)) | ((with_reducible refine gate_dst (N := 13) rfl ?_); refine boxE 13 #[.string (⟨#[]⟩ : ByteArray), .slice none 0 0, .bool false, .string (⟨#[]⟩ : ByteArray)] 52 ?_; intro gb637 hg w62 hbox hb; replace HO_10 := Aside0.mk (Kd.R_below (zz28 HO_10) hb); replace HO_35 := Aside0.mk (Kd.R_below (zz28 HO_35) hb); replace HO_614001 := Aside0.mk (Kd.V_below (Kd.V_elderB (zz74 HO_614001) gb637 (Nat.le_of_eq hg.symm)) hb); replace HO_616001 := Aside0.mk (Kd.V_below (Kd.V_elderB (zz74 HO_616001) gb637 (Nat.le_of_eq hg.symm)) hb); replace HO633 := Aside0.mk (Kd.R_below (zz28 HO633) hb); have BK637 := Aside0.mk (hbox); have GE637 := geB hg (zz33 HB GE613 GE615); replace HB := Aside0.mk (below_step (zz33 HB GE613 GE615) hb); have NB613_637 := Aside0.mk ((by rw [hg]; exact Nat.ne_of_lt (blk_lt (zz21 BK613)) : gb613 ≠ gb637)); have NB637_613 := Aside0.mk ((by rw [hg]; exact Nat.ne_of_gt (blk_lt (zz21 BK613)) : gb637 ≠ gb613)); replace BK613 := Aside0.mk (blk_below (zz21 BK613) hb); have NB615_637 := Aside0.mk ((by rw [hg]; exact Nat.ne_of_lt (blk_lt (zz21 BK615)) : gb615 ≠ gb637)); have NB637_615 := Aside0.mk ((by rw [hg]; exact Nat.ne_of_gt (blk_lt (zz21 BK615)) : gb637 ≠ gb615)); replace BK615 := Aside0.mk (blk_below (zz21 BK615) hb); clear hb hbox hg; have hnb63 := NB637_613.out; have hnc63 := NB613_637.out; have hnb64 := NB637_615.out; have hnc64 := NB615_637.out; obtain ⟨_, _, _, _, _, _, _, _⟩ := cf4 BK637; obtain ⟨Ao66, co66, eo66⟩ := Kd.R_slice HO633.out; subst eo66) | ((with_reducible refine gate_callee (f := 61) rfl ?_); refine gsL (some 50) Tryz.func61 #[.agg #[.string t630, .slice Ao66 t631.length co66, .bool t634, .string t635]] ?_; (with_reducible refine (impl_AddrText.calls k2 t630 _ _ t631 t634 t635 t638 _ ?side1 ?side2 A43.out).mono ?_); (case side1 => exact (by refine (Kd.R_reads' (e := 9) (base := w.heap.size) (ok := fun k_ => ((((w.heap.size ≤ k_) ∧ True) ∧ some k_ ≠ (u10 : Value).ownBlock) ∧ some k_ ≠ (.slice (some ad629) t626.length co37 : Value).ownBlock)) (n := t631.length) (c := co66) ?_).2.2; exact (zz180 HO633 BK637))); (case side2 => exact (Kd.R_reads' HO633.out).2.1); rintro e w67 ⟨rfl, hb⟩; refine ⟨_, rfl, ?_⟩; replace HO_10 := Aside0.mk (Kd.R_below (zz180 HO_10 BK637) hb); replace HO_35 := Aside0.mk (Kd.R_below (zz180 HO_35 BK637) hb); replace HO_614001 := Aside0.mk (Kd.V_below (zz182 HO_614001) hb); replace HO_616001 := Aside0.mk (Kd.V_below (zz182 HO_616001) hb); replace HO633 := Aside0.mk (Kd.R_below (zz180 HO633 BK637) hb); replace BK613 := Aside0.mk (blk_below (g := gb613) (o := .cells #[.string a0_0, .slice A0_1 l0_1.length c0_1, .bool a0_2, .string a0_3] 52 (0, 0)) (zz45 BK613 NB613_637) hb); replace BK615 := Aside0.mk (blk_below (g := gb615) (o := .cells #[.string x616000_5, .slice Ao60 x616001_5.length co60, .bool x616002_5, .string x616003_5] 52 (0, 0)) (zz45 BK615 NB615_637) hb); replace BK637 := Aside0.mk (blk_below (g := gb637) (o := .cells #[.string t630, .slice Ao66 t631.length co66, .bool t634, .string t635] 52 (0, 0)) (zz37 BK637) hb); replace HB := Aside0.mk (below_step (zz42 HB GE613 GE615 GE637) hb); (try clear hb); obtain ⟨Ao68, co68, eo68⟩ := Kd.R_slice HO_10.out; subst eo68) | ((with_reducible refine gate_callee (f := 62) rfl ?_); refine gsL (some 53) Tryz.func62 #[.slice Ao68 x10_2.length co68, .string t638] ?_; (with_reducible refine (slices_Contains_string_string.calls k2 _ _ x10_2 t638 false _ ?side1 ?side2 A44.out).mono ?_); (case side1 => exact (zz39 HO_10)); (case side2 => exact (Kd.R_reads' HO_10.out).2.1); rintro e w' ⟨rfl, ⟨nd, rfl⟩⟩; refine ⟨_, rfl, ?_⟩) | ((with_reducible refine gate_builtin (b := .append) (xs := #[.tmp 55, .tmp 57]) rfl ?_); at_builtin; refine Kd.R_append Kd.string (w0 := w) w.heap.size rfl (.tmp 55) (.tmp 57) 24 9 (.string ⟨#[]⟩) 16 rfl Tryz.underlying24 info9 rfl (by decide) (by omega) (.slice Ao68 x10_2.length co68) x10_2 t638 [.string t638] (fun k_ => (w.heap.size ≤ k_) ∧ some k_ ≠ (.slice (some ad629) t626.length co37 : Value).ownBlock ∧ some k_ ≠ (.slice Ao66 t631.length co66 : Value).ownBlock) (fun _ => False) rfl rfl ?aP (fun _ hk => hk.elim) ?aF ?aO ?aB ?aS ?aL ?_; (case aP => exact rfl); (case aB => exact (zz42 HB GE613 GE615 GE637)); (case aF => exact (fun k_ hk => ⟨(Nat.le_trans (below_size (zz42 HB GE613 GE615 GE637)) hk), Kd.fresh' (Kd.R_lt (zz28 HO_35)) k_ hk, Kd.fresh' (Kd.R_lt (zz28 HO633)) k_ hk⟩)); (case aO => exact (by (with_reducible repeat (first | apply Kd.R_alloc | apply Kd.R_drewN | apply Kd.R_drew)); exact Kd.R_mono HO_10.out (fun _ hk => ⟨hk.1.1, ⟨hk.1.2, hk.2⟩⟩))); (case aS => exact (below_size (zz42 HB GE613 GE615 GE637))); (case aL => exact (zz5 LMc57)); intro v641 w69 ho hb hg hat; rw [← Ny640.out] at ho; replace HO_35 := Aside0.mk (Kd.R_after (ok := (fun k_ => (w.heap.size ≤ k_) ∧ some k_ ≠ (.slice Ao66 t631.length co66 : Value).ownBlock)) (by (with_reducible repeat (first | apply Kd.R_alloc | apply Kd.R_drewN | apply Kd.R_drew)); exact Kd.R_mono HO_35.out (fun _ hk => ⟨⟨hk.1.1, hk.2⟩, hk.1.2⟩)) hg hat); replace HO_614001 := Aside0.mk (Kd.V_afterv (ok := (fun k_ => (P0_1_ k_ ∨ w.heap.size ≤ k_) ∧ some k_ ≠ (.slice (some ad629) t626.length co37 : Value).ownBlock ∧ some k_ ≠ (.slice Ao66 t631.length co66 : Value).ownBlock ∧ k_ ≠ gb613 ∧ k_ ≠ gb615 ∧ k_ ≠ gb637)) (zz185 HO_614001) hg hat); replace HO_616001 := Aside0.mk (Kd.V_afterv (ok := (fun k_ => (P0_1_ k_ ∨ w.heap.size ≤ k_) ∧ some k_ ≠ (.slice (some ad629) t626.length co37 : Value).ownBlock ∧ some k_ ≠ (.slice Ao66 t631.length co66 : Value).ownBlock ∧ k_ ≠ gb613 ∧ k_ ≠ gb615 ∧ k_ ≠ gb637)) (zz185 HO_616001) hg hat); replace BK613 := Aside0.mk (blk_grown (zz21 BK613) hg (Kd.R_ne HO_10.out BK613.out (by decide))); replace BK615 := Aside0.mk (blk_grown (zz21 BK615) hg (Kd.R_ne HO_10.out BK615.out (by decide))); replace HO633 := Aside0.mk (Kd.R_after (ok := (fun k_ => (w.heap.size ≤ k_) ∧ some k_ ≠ (.slice (some ad629) t626.length co37 : Value).ownBlock)) (by (with_reducible repeat (first | apply Kd.R_alloc | apply Kd.R_drewN | apply Kd.R_drew)); exact Kd.R_mono HO633.out (fun _ hk => ⟨⟨hk.1.1.1, hk.2⟩, hk.1.2⟩)) hg hat); replace BK637 := Aside0.mk (blk_grown (zz21 BK637) hg (Kd.R_ne HO_10.out BK637.out (by decide))); replace HB := Aside0.mk (hb); have HO642 := Aside0.mk (ho); clear HO_10; clear ho hb hg hat))
            go_roundg k2
            case measure => have := HJ5.out; have := HK2.out; omega
            case rel => exact ⟨(y640), (wrap64 (x37_2 + 1)), zz3, H', ⟨(zz20 HJ5 HK2)⟩, ⟨(zz92 HO642)⟩, ⟨(zz81 HO_35)⟩, ⟨(zz187 HO_614001)⟩, ⟨(zz187 HO_616001)⟩, ⟨(zz21 BK613)⟩, ⟨(zz21 BK615)⟩, ⟨(zz42 HB GE613 GE615 GE637)⟩⟩
           ·rw [if_neg c57] at H
            exact absurd H (by simp)
         ·replace c42 := Bool.eq_false_iff.mpr c42
          subst c42;rw [if_neg (show ¬ (false = true) by decide)] at H;have H' := Aside0.mk H;clear H;have p629 : 0 ≤ (x37_2 : Int) := ofD;have q629 : x37_2 < (t626.length : Int) := ofD;obtain ⟨ad629, e629, hx629_0⟩ := Kd.at_string (Kd.R_reads' HO_35.out).2.2 x37_2 p629 q629;cases e629
          replace p629 := eq_true p629;replace q629 := eq_true q629;have hnb70 := NB615_613.out;have hnc70 := NB613_615.out;obtain ⟨_, _, _, _, _, _, _, _⟩ := cf4 BK615;obtain ⟨Ao72, co72, eo72⟩ := Kd.V_slice HO_616001.out;subst eo72;go_wp2_with (first | ((with_reducible refine gate_callee (f := 59) rfl ?_); refine gsL (some 44) Tryz.func59 #[.agg #[.string x616000_5, .slice Ao72 x616001_5.length co72, .bool x616002_5, .string x616003_5], .string (rdOf ByteArray.empty t626 x37_2)] ?_; (with_reducible refine (impl_AddrJoin.calls k2 x616000_5 _ _ x616001_5 x616002_5 x616003_5 (rdOf ByteArray.empty t626 x37_2) t630 t631 t634 t635 false _ ?side1 ?side2 A41.out).mono ?_); (case side1 => exact (zz75 HO_616001)); (case side2 => exact (Kd.V_reads' HO_616001.out).2.1); rintro e w73 ⟨v632, rfl, ho0, hb⟩; refine ⟨_, rfl, ?_⟩; replace HO_614001 := Aside0.mk (Kd.V_elder' (zz74 HO_614001) (Kd.R_base ho0) hb); replace HO_616001 := Aside0.mk (Kd.V_elder' (zz74 HO_616001) (Kd.R_base ho0) hb); have HO633 := Aside0.mk (Kd.R_lower (Kd.R_new' (Kd.R_new' (Kd.R_newM (M := fun k_ => (w.heap.size ≤ k_)) ho0 (below_size (zz33 HB GE613 GE615)) (fun k_ h_ => h_)) (Kd.R_lt (zz28 HO_10))) (Kd.R_lt (zz28 HO_35))) (below_size (zz33 HB GE613 GE615))); replace HO_10 := Aside0.mk (Kd.R_elder' (zz28 HO_10) (Kd.R_base ho0) hb); replace HO_35 := Aside0.mk (Kd.R_elder' (zz28 HO_35) (Kd.R_base ho0) hb); replace BK613 := Aside0.mk (blk_below (zz21 BK613) hb); replace BK615 := Aside0.mk (blk_below (zz21 BK615) hb); replace HB := Aside0.mk (below_step (zz33 HB GE613 GE615) hb); (try clear hb ho0)) | ((with_reducible refine gate_dst (N := 13) rfl ?_); refine boxE 13 #[.string (⟨#[]⟩ : ByteArray), .slice none 0 0, .bool false, .string (⟨#[]⟩ : ByteArray)] 52 ?_; intro gb637 hg w74 hbox hb; replace HO_10 := Aside0.mk (Kd.R_below (zz28 HO_10) hb); replace HO_35 := Aside0.mk (Kd.R_below (zz28 HO_35) hb); replace HO_614001 := Aside0.mk (Kd.V_below (Kd.V_elderB (zz74 HO_614001) gb637 (Nat.le_of_eq hg.symm)) hb); replace HO_616001 := Aside0.mk (Kd.V_below (Kd.V_elderB (zz74 HO_616001) gb637 (Nat.le_of_eq hg.symm)) hb); replace HO633 := Aside0.mk (Kd.R_below (zz28 HO633) hb); have BK637 := Aside0.mk (hbox); have GE637 := geB hg (zz33 HB GE613 GE615); replace HB := Aside0.mk (below_step (zz33 HB GE613 GE615) hb); have NB613_637 := Aside0.mk ((by rw [hg]; exact Nat.ne_of_lt (blk_lt (zz21 BK613)) : gb613 ≠ gb637)); have NB637_613 := Aside0.mk ((by rw [hg]; exact Nat.ne_of_gt (blk_lt (zz21 BK613)) : gb637 ≠ gb613)); replace BK613 := Aside0.mk (blk_below (zz21 BK613) hb); have NB615_637 := Aside0.mk ((by rw [hg]; exact Nat.ne_of_lt (blk_lt (zz21 BK615)) : gb615 ≠ gb637)); have NB637_615 := Aside0.mk ((by rw [hg]; exact Nat.ne_of_gt (blk_lt (zz21 BK615)) : gb637 ≠ gb615)); replace BK615 := Aside0.mk (blk_below (zz21 BK615) hb); clear hb hbox hg; have hnb75 := NB637_613.out; have hnc75 := NB613_637.out; have hnb76 := NB637_615.out; have hnc76 := NB615_637.out; obtain ⟨_, _, _, _, _, _, _, _⟩ := cf4 BK637; obtain ⟨Ao78, co78, eo78⟩ := Kd.R_slice HO633.out; subst eo78))
          go_roundg k2
          case measure => have := HJ5.out; have := HK2.out; omega
          case rel => exact ⟨(x10_2), (wrap64 (x37_2 + 1)), zz3, H', ⟨(zz20 HJ5 HK2)⟩, ⟨(zz46 (rt HO_10 BK637))⟩, ⟨(zz46 (rt HO_35 BK637))⟩, ⟨(zz188 HO_614001)⟩, ⟨(zz188 HO_616001)⟩, ⟨(zz45 BK613 NB613_637)⟩, ⟨(zz45 BK615 NB615_637)⟩, ⟨(zz42 HB GE613 GE615 GE637)⟩⟩
        ·rw [if_neg c40] at H
         exact absurd H (by simp)
       ·rw [if_neg c39] at H
        exact absurd H (by simp)
      ·rw [if_neg c38] at H
       have c38b0 : decide (x37_2 < (t626.length : Int)) = false := decide_eq_false c38;clear c38;obtain rfl := Option.some.inj H;go_wp2
       go_ret
       exact ⟨_, zz1, (zz78 HO_10), (zz33 HB GE613 GE615)⟩
 ·replace c4 := Bool.eq_false_iff.mpr c4
  subst c4;rw [if_neg (show ¬ (false = true) by decide)] at H;obtain rfl := Option.some.inj H;go_enter Tryz.func45, Tryz.ntmps45;go_wp2_with (first | ((with_reducible refine gate_dst (N := 2) rfl ?_); refine boxE 2 #[.string a0_0, .slice A0_1 l0_1.length c0_1, .bool a0_2, .string a0_3] 52 ?_; intro gb613 hg w79 hbox hb; replace HO0_1 := Aside0.mk (Kd.V_below (Kd.V_elderB (zz74 HO0_1) gb613 (Nat.le_of_eq hg.symm)) hb); have BK613 := Aside0.mk (hbox); have GE613 := geB hg (zz0 HB); replace HB := Aside0.mk (below_step (zz0 HB) hb); clear hb hbox hg; obtain ⟨_, _, _, _, _, _, _, _⟩ := cf4 BK613) | ((with_reducible refine gate_callee (f := 57) rfl ?_); refine gsL (some 17) Tryz.func57 #[.agg #[.string a0_0, .slice A0_1 l0_1.length c0_1, .bool a0_2, .string a0_3]] ?_; (with_reducible refine (impl_AddrOk.calls k a0_0 _ _ l0_1 a0_2 a0_3 false _ ?side1 ?side2 A3.out).mono ?_); (case side1 => exact (zz75 HO0_1)); (case side2 => exact (Kd.V_reads' HO0_1.out).2.1); rintro e w81 ⟨rfl, hb⟩; refine ⟨_, rfl, ?_⟩; replace HO0_1 := Aside0.mk (Kd.V_below (zz74 HO0_1) hb); replace BK613 := Aside0.mk (blk_below (zz21 BK613) hb); replace HB := Aside0.mk (below_step (zz2 HB GE613) hb); (try clear hb)))
  go_ret
  exact ⟨_, zz1, zz38, (zz2 HB GE613)⟩
def impl_leads.f (k : Nat) (a0_0 : ByteArray) (l0_1 : List ByteArray) (a0_2 : Bool) (a0_3 : ByteArray) (a1 : Int) (a2 : ByteArray) : Option (List ByteArray) := if a1 = 1 then ((impl_PageAddrs.f k a0_0 l0_1 a0_2 a0_3 a2).bind fun t644 => (some t644)) else (if a1 = 2 then (some (([a2] : List ByteArray))) else (some ([] : List ByteArray)))
set_option maxHeartbeats 8000000 in
set_option maxRecDepth 100000 in
theorem impl_leads.calls (k : Nat) (a0_0 : ByteArray) (A0_1 : Option Addr) (c0_1 : Nat) (l0_1 : List ByteArray) (a0_2 : Bool) (a0_3 : ByteArray) (a1 : Int) (a2 : ByteArray) (r : List ByteArray) (w : World) (hr0_1 : Kd.C Kd.string w A0_1 l0_1.length l0_1) (hc0_1 : l0_1.length ≤ c0_1) (h : impl_leads.f k a0_0 l0_1 a0_2 a0_3 a1 a2 = some r) :
  Calls Tryz.prog 31 #[.agg #[.string a0_0, .slice A0_1 l0_1.length c0_1, .bool a0_2, .string a0_3], .int .i64 a1, .string a2] w fun e w' => ∃ v0_ : Value, e = .returned (v0_) ∧ Kd.R Kd.string 9 w' w.heap.size (fun _ => True) v0_ r ∧ Below w.heap.size w w' := by
 have hu52 := Tryz.underlying52;have HR0_1 := Aside0.mk hr0_1;have HC0_1 := Aside0.mk hc0_1;clear hr0_1 hc0_1;have HB := Aside0.mk (Below.refl w.heap.size w);have H : (if a1 = 1 then ((impl_PageAddrs.f k a0_0 l0_1 a0_2 a0_3 a2).bind fun t644 => (some t644)) else (if a1 = 2 then (some (([a2] : List ByteArray))) else (some ([] : List ByteArray)))) = some r := h;clear h;by_cases c4 : a1 = 1
 ·rw [if_pos c4] at H
  have c4b0 : (a1 == 1) = true := beq_iff_eq.mpr c4;have c4b1 : (a1 != 1) = false := bne_eq_false_iff_eq.mpr c4;clear c4;replace H := bindA H;obtain ⟨t644, A5, H⟩ := H;obtain rfl := Option.some.inj H;go_enter Tryz.func31, Tryz.ntmps31;go_wp2_with (first | ((with_reducible refine gate_dst (N := 3) rfl ?_); refine boxE 3 #[.string a0_0, .slice A0_1 l0_1.length c0_1, .bool a0_2, .string a0_3] 52 ?_; intro gb643 hg w6 hbox hb; have BK643 := Aside0.mk (hbox); have GE643 := geB hg (zz0 HB); replace HB := Aside0.mk (below_step (zz0 HB) hb); clear hb hbox hg; obtain ⟨_, _, _, _, _, _, _, _⟩ := cf4 BK643) | ((with_reducible refine gate_callee (f := 45) rfl ?_); refine gsL (some 12) Tryz.func45 #[.agg #[.string a0_0, .slice A0_1 l0_1.length c0_1, .bool a0_2, .string a0_3], .string a2] ?_; (with_reducible refine (impl_PageAddrs.calls k a0_0 (fun k_ => k_ < w.heap.size) _ _ l0_1 a0_2 a0_3 a2 t644 _ ?side1 A5.out).mono ?_); (case side1 => exact Kd.V_mk HC0_1.out (Kd.F_below (Kd.C_F Kd.heap_string HR0_1.out) (zz2 HB GE643))); rintro e w8 ⟨v645, rfl, ho0, hb⟩; refine ⟨_, rfl, ?_⟩; have HO646 := Aside0.mk (Kd.R_lower (Kd.R_mono (ok' := fun k_ => True) ho0 (fun _ hk_ => trivial)) (below_size (zz2 HB GE643))); replace BK643 := Aside0.mk (blk_below (zz21 BK643) hb); replace HB := Aside0.mk (below_step (zz2 HB GE643) hb); (try clear hb ho0)))
  go_ret
  exact ⟨_, zz1, (zz28 HO646), (zz2 HB GE643)⟩
 ·rw [if_neg c4] at H
  have c4b0 : (a1 == 1) = false := beq_eq_false_iff_ne.mpr c4;have c4b1 : (a1 != 1) = true := bne_iff_ne.mpr c4;by_cases c9 : a1 = 2
  ·rw [if_pos c9] at H
   have c9b0 : (a1 == 2) = true := beq_iff_eq.mpr c9;have c9b1 : (a1 != 2) = false := bne_eq_false_iff_eq.mpr c9;clear c9;obtain ⟨y647, Ny647⟩ := toY (([a2] : List ByteArray));(first | with_reducible replace H := bindZ Ny647 H | rw [← Ny647.out] at H | skip)
   obtain rfl := Option.some.inj H;go_enter Tryz.func31, Tryz.ntmps31;go_wp2_with (first | ((with_reducible refine gate_dst (N := 3) rfl ?_); refine boxE 3 #[.string a0_0, .slice A0_1 l0_1.length c0_1, .bool a0_2, .string a0_3] 52 ?_; intro gb643 hg w10 hbox hb; have BK643 := Aside0.mk (hbox); have GE643 := geB hg (zz0 HB); replace HB := Aside0.mk (below_step (zz0 HB) hb); clear hb hbox hg) | ((with_reducible refine gate_dst (N := 16) rfl ?_); refine Kd.R_lit Kd.string _ 9 ?hg (N := 16) ?hd (xs := ([a2] : List ByteArray)) (inner := [.string a2]) (ok := fun _ => True) (okp := fun _ => True) ?hr ?hp (fun _ hk => hk) trivial (Below.refl _ _) (Nat.le_refl _) (by simp) ?_; (case hd => rfl); (case hg => rfl); (case hr => exact zz19); (case hp => exact (Reps.one (show Kd.M Kd.string _ _ _ a2 [.string a2] from rfl) (Reps.none _ _))); intro v648 w11 ho12 hb hg_ hnew_; clear hg_ hnew_; (first | rw [← Ny647.out] at ho12 | (simp only [Int.reduceToNat] at ho12; rw [← Ny647.out] at ho12)); have HO649 := Aside0.mk (Kd.R_lower ho12 (below_size (zz2 HB GE643))); replace BK643 := Aside0.mk (blk_below (zz21 BK643) hb); replace HB := Aside0.mk (below_step (zz2 HB GE643) hb); clear hb ho12))
   go_ret
   exact ⟨_, zz1, (zz28 HO649), (zz2 HB GE643)⟩
  ·rw [if_neg c9] at H
   have c9b0 : (a1 == 2) = false := beq_eq_false_iff_ne.mpr c9;have c9b1 : (a1 != 2) = true := bne_iff_ne.mpr c9;obtain rfl := Option.some.inj H;go_enter Tryz.func31, Tryz.ntmps31;go_wp2_with (first | ((with_reducible refine gate_dst (N := 3) rfl ?_); refine boxE 3 #[.string a0_0, .slice A0_1 l0_1.length c0_1, .bool a0_2, .string a0_3] 52 ?_; intro gb643 hg w13 hbox hb; have BK643 := Aside0.mk (hbox); have GE643 := geB hg (zz0 HB); replace HB := Aside0.mk (below_step (zz0 HB) hb); clear hb hbox hg))
   go_ret
   exact ⟨_, zz1, zz38, (zz2 HB GE643)⟩
end Go.Proofs.YtpnedbnpnekahaaGreatDoor.P
end
section
namespace Go.Proofs.YtpnedbnpnekahaaGreatDoor.P
open Go.RowKit Go.Proofs.YtpnedbnpnekahaaGreatDoorW.PrintWords Go.Proofs.YtpnedbnpnekahaaGreatDoorW.PrintLast Go.Proofs.YtpnedbnpnekahaaGreatDoorW.PrintMore Go.Maps Go.ChangeMaps
set_option linter.unusedVariables false
set_option linter.unusedSimpArgs false
abbrev SP := S41
set_option maxRecDepth 100000 in
theorem last_walk (b n : Nat) (l : List SP) (a : ByteArray) (w : World) (ha : a.size ≤ 9223372036854775807) (hm : Pages w b n (mapD l)) :
  Calls Tryz.prog 30 #[.map (some b), .string a] w fun e w' => e = .returned (.tuple #[.int .i64 (getF l a 2).1, .string (getF l a 2).2]) ∧ Below w.heap.size w w' := by
 obtain ⟨q, hq⟩ : ∃ q, getF l a 2 = q := ⟨_, rfl⟩
 rw [hq]
 go_enter Tryz.func30, Tryz.ntmps30
 go_wp2_with (first | (go_at_call 44; refine (get_walk b n l a 2 _ ha hm).mono ?_; rintro e w1 ⟨rfl, hb⟩; rw [hq]; have HB := Aside0.mk hb; clear hb))
 go_ret2
 exact ⟨rfl, HB.out⟩
def fromF (k : Nat) (l : List SP) (a : ByteArray) : Option (List ByteArray) :=
 (impl_readAddress.f k a).bind fun bt => if bt.2.2.2.2 = true then impl_leads.f k bt.1 bt.2.1 bt.2.2.1 bt.2.2.2.1 (getF l a 2).1 (getF l a 2).2 else some []
set_option maxHeartbeats 4000000 in
set_option maxRecDepth 100000 in
theorem from_walk (k : Nat) (b n : Nat) (l : List SP) (a : ByteArray) (r : List ByteArray) (w : World) (ha : a.size ≤ 9223372036854775807) (hm : Pages w b n (mapD l)) (h : fromF k l a = some r) :
  Calls Tryz.prog 20 #[.map (some b), .string a] w fun e w' => ∃ v0_ : Value, e = .returned v0_ ∧ Kd.R Kd.string 9 w' w.heap.size (fun _ => True) v0_ r ∧ Below w.heap.size w w' := by
 have HB := Aside0.mk (Below.refl w.heap.size w)
 unfold fromF at h
 obtain ⟨⟨r1, r2, r3, r4, r5⟩, A1, H⟩ := Option.bind_eq_some_iff.mp h
 clear h
 simp only at H
 cases r5 with
 | false =>
  rw [if_neg (by decide)] at H
  obtain rfl := Option.some.inj H
  have A := Aside0.mk A1
  have HM := Aside0.mk hm
  clear A1 H hm
  go_enter Tryz.func20, Tryz.ntmps20
  go_wp2_with (first | (go_at_call 29; (with_reducible refine (impl_readAddress.calls k a r1 r2 r3 r4 false _ A.out).mono ?_); rintro e w1 ⟨v1, rfl, ho, hb⟩; have HO := Aside0.mk (Kd.R_lower ho (Nat.le_refl _)); replace HM := Aside0.mk (map_below HM.out hb); replace HB := Aside0.mk (below_step HB.out hb); clear ho hb; obtain ⟨Ao, co, eo⟩ := Kd.R_slice HO.out; subst eo) | ((with_reducible refine gate_dst (N := 5) rfl ?_); refine box_event ?hg (N := 5) ?hd (cs := #[.string (⟨#[]⟩ : ByteArray), .slice none 0 0, .bool false, .string (⟨#[]⟩ : ByteArray)]) (t := 52) ?hr ?_; (case hd => rfl); (case hg => rfl); (case hr => first | (go_simp; done) | (go_simp; rfl)); intro gb hg w2 hbox hb; have BK := Aside0.mk hbox; have NB := Aside0.mk (show gb ≠ b from by rw [hg]; exact Nat.ne_of_gt HM.out.lt); have GE := Aside0.mk (show w.heap.size ≤ gb from by rw [hg]; exact below_size HB.out); replace HO := Aside0.mk (Kd.R_below HO.out hb); replace HM := Aside0.mk (map_below HM.out hb); replace HB := Aside0.mk (below_step HB.out hb); clear hb hg hbox; obtain ⟨hc0, hc1, hc2, hc3⟩ : w2.cell? ⟨gb, 0, none⟩ = some (.string (⟨#[]⟩ : ByteArray)) ∧ w2.cell? ⟨gb, 1, none⟩ = some (.slice none 0 0) ∧ w2.cell? ⟨gb, 2, none⟩ = some (.bool false) ∧ w2.cell? ⟨gb, 3, none⟩ = some (.string (⟨#[]⟩ : ByteArray)) := ⟨(blk_cell BK.out 0).trans rfl, (blk_cell BK.out 1).trans rfl, (blk_cell BK.out 2).trans rfl, (blk_cell BK.out 3).trans rfl⟩; have hf0 := blk_frozen BK.out 0; have hf1 := blk_frozen BK.out 1; have hf2 := blk_frozen BK.out 2; have hf3 := blk_frozen BK.out 3))
  go_ret
  exact ⟨_, rfl, Kd.R_nil _ _ _ _ _, below_set (below_set (below_set (below_set HB.out GE.out) GE.out) GE.out) GE.out⟩
 | true =>
  rw [if_pos rfl] at H
  have A := Aside0.mk A1
  have HM := Aside0.mk hm
  have HL := Aside0.mk H
  clear A1 H hm
  go_enter Tryz.func20, Tryz.ntmps20
  go_wp2_with (first | (go_at_call 29; (with_reducible refine (impl_readAddress.calls k a r1 r2 r3 r4 true _ A.out).mono ?_); rintro e w1 ⟨v1, rfl, ho, hb⟩; have HO := Aside0.mk (Kd.R_lower ho (Nat.le_refl _)); replace HM := Aside0.mk (map_below HM.out hb); replace HB := Aside0.mk (below_step HB.out hb); clear ho hb; obtain ⟨Ao, co, eo⟩ := Kd.R_slice HO.out; subst eo) | ((with_reducible refine gate_dst (N := 5) rfl ?_); refine box_event ?hg (N := 5) ?hd (cs := #[.string (⟨#[]⟩ : ByteArray), .slice none 0 0, .bool false, .string (⟨#[]⟩ : ByteArray)]) (t := 52) ?hr ?_; (case hd => rfl); (case hg => rfl); (case hr => first | (go_simp; done) | (go_simp; rfl)); intro gb hg w2 hbox hb; have BK := Aside0.mk hbox; have NB := Aside0.mk (show gb ≠ b from by rw [hg]; exact Nat.ne_of_gt HM.out.lt); have GE := Aside0.mk (show w.heap.size ≤ gb from by rw [hg]; exact below_size HB.out); replace HO := Aside0.mk (Kd.R_below HO.out hb); replace HM := Aside0.mk (map_below HM.out hb); replace HB := Aside0.mk (below_step HB.out hb); clear hb hg hbox; obtain ⟨hc0, hc1, hc2, hc3⟩ : w2.cell? ⟨gb, 0, none⟩ = some (.string (⟨#[]⟩ : ByteArray)) ∧ w2.cell? ⟨gb, 1, none⟩ = some (.slice none 0 0) ∧ w2.cell? ⟨gb, 2, none⟩ = some (.bool false) ∧ w2.cell? ⟨gb, 3, none⟩ = some (.string (⟨#[]⟩ : ByteArray)) := ⟨(blk_cell BK.out 0).trans rfl, (blk_cell BK.out 1).trans rfl, (blk_cell BK.out 2).trans rfl, (blk_cell BK.out 3).trans rfl⟩; have hf0 := blk_frozen BK.out 0; have hf1 := blk_frozen BK.out 1; have hf2 := blk_frozen BK.out 2; have hf3 := blk_frozen BK.out 3) | (go_at_call 30; refine (last_walk b n l a _ ha ((((HM.out.setCell (a := ⟨gb, 0, none⟩) NB.out.symm _).setCell (a := ⟨gb, 1, none⟩) NB.out.symm _).setCell (a := ⟨gb, 2, none⟩) NB.out.symm _).setCell (a := ⟨gb, 3, none⟩) NB.out.symm _)).mono ?_; rintro e w3 ⟨rfl, hb⟩; replace HO := Aside0.mk (Kd.R_below (Kd.R_mono (Kd.R_far (p := ⟨gb, 3, none⟩) (Kd.R_far (p := ⟨gb, 2, none⟩) (Kd.R_far (p := ⟨gb, 1, none⟩) (Kd.R_far (p := ⟨gb, 0, none⟩) (Kd.R_types HO.out BK.out (by decide)) (fun _ hk => hk.2) (.string r1)) (fun _ hk => hk.2) (.slice Ao r2.length co)) (fun _ hk => hk.2) (.bool r3)) (fun _ hk => hk.2) (.string r4)) (fun _ hk => trivial)) hb); replace BK := Aside0.mk (blk_below (g := gb) (o := .cells #[.string r1, .slice Ao r2.length co, .bool r3, .string r4] 52 (0, 0)) (by refine blk_put (cs := #[.string r1, .slice Ao r2.length co, .bool r3, .string (⟨#[]⟩ : ByteArray)]) ?_ 3 _ rfl; refine blk_put (cs := #[.string r1, .slice Ao r2.length co, .bool false, .string (⟨#[]⟩ : ByteArray)]) ?_ 2 _ rfl; refine blk_put (cs := #[.string r1, .slice none 0 0, .bool false, .string (⟨#[]⟩ : ByteArray)]) ?_ 1 _ rfl; refine blk_put (cs := #[.string (⟨#[]⟩ : ByteArray), .slice none 0 0, .bool false, .string (⟨#[]⟩ : ByteArray)]) ?_ 0 _ rfl; exact BK.out) hb); replace HB := Aside0.mk (below_step (below_set (below_set (below_set (below_set HB.out GE.out) GE.out) GE.out) GE.out) hb); clear hb hc0 hc1 hc2 hc3 hf0 hf1 hf2 hf3; obtain ⟨hc0, hc1, hc2, hc3⟩ : w3.cell? ⟨gb, 0, none⟩ = some (.string r1) ∧ w3.cell? ⟨gb, 1, none⟩ = some (.slice Ao r2.length co) ∧ w3.cell? ⟨gb, 2, none⟩ = some (.bool r3) ∧ w3.cell? ⟨gb, 3, none⟩ = some (.string r4) := ⟨(blk_cell BK.out 0).trans rfl, (blk_cell BK.out 1).trans rfl, (blk_cell BK.out 2).trans rfl, (blk_cell BK.out 3).trans rfl⟩) | (go_at_call 31; (with_reducible refine (impl_leads.calls k r1 _ _ r2 r3 r4 (getF l a 2).1 (getF l a 2).2 r _ ?side1 ?side2 HL.out).mono ?_); (case side1 => exact (Kd.R_reads' HO.out).2.2); (case side2 => exact (Kd.R_reads' HO.out).2.1); rintro e w4 ⟨v4, rfl, ho, hb⟩; have HR := Aside0.mk (Kd.R_lower ho (below_size HB.out)); replace HB := Aside0.mk (below_step HB.out hb); clear ho hb))
  go_ret
  exact ⟨_, rfl, HR.out, HB.out⟩
def impl_WorldFrom.f (k : Nat) (l0 : List SP) (a1 : ByteArray) : Option (List ByteArray) :=
 if a1.size ≤ 9223372036854775807 then (impl_worldOf.f k l0).bind fun t => if t = true then (if ((Maps.size (mapD l0) : Int) == (l0.length : Int)) = true then fromF k l0 a1 else some ([] : List ByteArray)) else some ([] : List ByteArray) else none
set_option maxRecDepth 100000 in
theorem impl_WorldFrom.calls (k : Nat) (A0 : Option Addr) (c0 : Nat) (l0 : List (SP)) (a1 : ByteArray) (r : List ByteArray) (w : World) (hr0 : Kd.C k41 w A0 l0.length l0) (hc0 : l0.length ≤ c0) (h : impl_WorldFrom.f k l0 a1 = some r) :
  Calls Tryz.prog 7 #[.slice A0 l0.length c0, .string a1] w fun e w' => ∃ v0_ : Value, e = .returned v0_ ∧ Kd.R Kd.string 9 w' w.heap.size (fun _ => True) v0_ r ∧ Below w.heap.size w w' := by
 unfold impl_WorldFrom.f at h
 by_cases hz : a1.size ≤ 9223372036854775807
 case neg => rw [if_neg hz] at h; cases h
 rw [if_pos hz] at h
 obtain ⟨t, A, H⟩ := Option.bind_eq_some_iff.mp h
 clear h
 cases t with
 | false =>
  rw [if_neg (by decide)] at H
  obtain rfl := Option.some.inj H
  go_enter Tryz.func7, Tryz.ntmps7
  go_wp2_with (first | (go_at_call 19; refine (impl_worldOf.calls k A0 c0 l0 false _ hr0 hc0 A).mono ?_; rintro e w1 ⟨hb, h0, h1⟩; obtain rfl := h0 rfl; clear h0 h1; have HB := Aside0.mk hb; clear hb))
  go_ret
  exact ⟨_, rfl, Kd.R_nil _ _ _ _ _, HB.out⟩
 | true =>
  rw [if_pos rfl] at H
  obtain ⟨q, hq⟩ : ∃ q, ((Maps.size (mapD l0) : Int) == (l0.length : Int)) = q := ⟨_, rfl⟩
  rw [hq] at H
  cases q with
  | false =>
   rw [if_neg (by decide)] at H
   obtain rfl := Option.some.inj H
   go_enter Tryz.func7, Tryz.ntmps7
   go_wp2_with (first | (go_at_call 19; refine (impl_worldOf.calls k A0 c0 l0 true _ hr0 hc0 A).mono ?_; rintro e w1 ⟨hb, h0, h1⟩; obtain ⟨b, _, _, rfl⟩ := h1 rfl; rw [hq]; clear h0 h1; have HB := Aside0.mk hb; clear hb))
   go_ret
   exact ⟨_, rfl, Kd.R_nil _ _ _ _ _, HB.out⟩
  | true =>
   rw [if_pos rfl] at H
   have HF := Aside0.mk H
   clear H
   go_enter Tryz.func7, Tryz.ntmps7
   go_wp2_with (first | (go_at_call 19; refine (impl_worldOf.calls k A0 c0 l0 true _ hr0 hc0 A).mono ?_; rintro e w1 ⟨hb, h0, h1⟩; obtain ⟨b, _, hM, rfl⟩ := h1 rfl; rw [hq]; clear h0 h1; have HM := Aside0.mk hM; have HB := Aside0.mk hb; clear hb hM) | (go_at_call 20; refine (from_walk k b _ l0 a1 r _ hz HM.out HF.out).mono ?_; rintro e w2 ⟨v2, rfl, ho, hb⟩; have HR := Aside0.mk (Kd.R_lower ho (below_size HB.out)); replace HB := Aside0.mk (below_step HB.out hb); clear hb ho))
   go_ret
   exact ⟨_, rfl, HR.out, HB.out⟩
end Go.Proofs.YtpnedbnpnekahaaGreatDoor.P
end
