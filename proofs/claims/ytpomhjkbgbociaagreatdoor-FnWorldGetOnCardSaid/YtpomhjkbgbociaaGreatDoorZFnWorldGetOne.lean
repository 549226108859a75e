/- Part 5 of the proof of FnWorldGetOn: the plain functions of what it reaches, that Go comes to just their answers, what they answer, and the words that the walks use; conditions: each theorem's own. -/
import Derived.Test.YtpomhjkbgbociaaGreatDoorZFnWorldGetOnb
import Derived.Test.YtpomhjkbgbociaaGreatDoorZFnWorldGetOnd
import Derived.Laws.RangeAny
import Derived.Laws.Runes
import Derived.Laws.RangeString
import Derived.Laws.Strings3
import Derived.Lib.IndexAny
import Derived.Lib.IndexBytes
import Derived.Deep.LoopGhost
import Derived.Maps.Own
import Derived.Maps.OwnSet
import Derived.Carry
import Derived.Test.YtpomhjkbgbociaaGreatDoorZFnWorldGetOnc

section
namespace Go.Proofs.YtpomhjkbgbociaaGreatDoor.P
open Go.RowKit Go.Proofs.YtpomhjkbgbociaaGreatDoorW.PrintWords Go.Proofs.YtpomhjkbgbociaaGreatDoorW.PrintLast Go.Proofs.YtpomhjkbgbociaaGreatDoorW.PrintMore
attribute [local go_sem] max2_int min2_int max_two min_two max_three min_three max_four min_four
set_option linter.unusedVariables false
set_option linter.unusedSimpArgs false
set_option maxHeartbeats 8000000
set_option maxRecDepth 100000
mutual
def strings_genSplit.j0 : Nat → ByteArray → ByteArray → Int → Int → Option (List ByteArray)
 | 0, _, _, _, _ => none
 | k + 1, x0, x1, x2, x3 => if 0 ≤ (mn x3 (wrap64 ((x0.size : Int) + 1))) then (if (mn x3 (wrap64 ((x0.size : Int) + 1)) : Int).toNat ≤ 17592186044416 then (strings_genSplit.l0 k x0 x1 x2 (wrap64 ((mn x3 (wrap64 ((x0.size : Int) + 1))) - 1)) (List.replicate (mn x3 (wrap64 ((x0.size : Int) + 1)) : Int).toNat (⟨#[]⟩ : ByteArray)) 0) else (none)) else (none)
def strings_genSplit.l0 : Nat → ByteArray → ByteArray → Int → Int → List ByteArray → Int → Option (List ByteArray)
 | 0, _, _, _, _, _, _ => none
 | k + 1, x0, x1, x2, x3, x9, x10 => if x10 < x3 then ((strings_Index.f x0 x1).bind fun t609 => (if t609 < 0 then (if 0 ≤ x10 then (if x10 < (x9.length : Int) then (if 0 ≤ (wrap64 (x10 + 1)) then (if (wrap64 (x10 + 1)) ≤ (x9.length : Int) then (some ((x9.set (x10 : Int).toNat x0).take ((wrap64 (x10 + 1)) : Int).toNat)) else (none)) else (none)) else (none)) else (none)) else (if 0 ≤ (wrap64 (t609 + x2)) then (if (wrap64 (t609 + x2)) ≤ (x0.size : Int) then (if 0 ≤ x10 then (if x10 < (x9.length : Int) then (if 0 ≤ (wrap64 (t609 + (x1.size : Int))) then (if (wrap64 (t609 + (x1.size : Int))) ≤ (x0.size : Int) then (strings_genSplit.l0 k (x0.extract ((wrap64 (t609 + (x1.size : Int))) : Int).toNat x0.size) x1 x2 x3 (x9.set (x10 : Int).toNat (x0.extract 0 ((wrap64 (t609 + x2)) : Int).toNat)) (wrap64 (x10 + 1))) else (none)) else (none)) else (none)) else (none)) else (none)) else (none)))) else (if 0 ≤ x10 then (if x10 < (x9.length : Int) then (if 0 ≤ (wrap64 (x10 + 1)) then (if (wrap64 (x10 + 1)) ≤ (x9.length : Int) then (some ((x9.set (x10 : Int).toNat x0).take ((wrap64 (x10 + 1)) : Int).toNat)) else (none)) else (none)) else (none)) else (none))
end
def strings_genSplit.f (k : Nat) (a0 : ByteArray) (a1 : ByteArray) (a2 : Int) (a3 : Int) : Option (List ByteArray) := if a3 = 0 then (some ([] : List ByteArray)) else (if a1.toList = ([] : List UInt8) then ((strings_explode.f a0 a3).bind fun t602 => (some t602)) else (if a3 < 0 then ((strings_Count.f a0 a1).bind fun t605 => (strings_genSplit.j0 k a0 a1 a2 (wrap64 (t605 + 1)))) else (strings_genSplit.j0 k a0 a1 a2 a3)))
theorem strings_genSplit.mono_l : ∀ k, (∀ y0 y1 y2 y3, LeO (strings_genSplit.j0 k y0 y1 y2 y3) (strings_genSplit.j0 (k + 1) y0 y1 y2 y3)) ∧ (∀ y0 y1 y2 y3 y4 y5, LeO (strings_genSplit.l0 k y0 y1 y2 y3 y4 y5) (strings_genSplit.l0 (k + 1) y0 y1 y2 y3 y4 y5))
 | 0 => by refine ⟨?_, ?_⟩ <;> (intros; intro r h; simp [strings_genSplit.j0, strings_genSplit.l0] at h)
 | k + 1 => by
  obtain ⟨ih0, ih1⟩ := strings_genSplit.mono_l k;refine ⟨?_, ?_⟩ <;> intros <;> (first | unfold strings_genSplit.j0 | unfold strings_genSplit.l0) <;>
  repeat' first | (with_reducible first | exact ih0 _ _ _ _ | exact ih1 _ _ _ _ _ _ | exact LeO.refl _ | exact LeO.none _ | refine LeO.ite ?_ ?_ | refine LeO.bind ?_ (fun _ => ?_)) | exact LeO.none _ | refine LeO.ite ?_ ?_ | refine LeO.bind ?_ (fun _ => ?_)
theorem strings_genSplit.mono : ∀ a0 a1 a2 a3 k, LeO (strings_genSplit.f k a0 a1 a2 a3) (strings_genSplit.f (k + 1) a0 a1 a2 a3) := by
 intro a0 a1 a2 a3 k;obtain ⟨ih0, ih1⟩ := strings_genSplit.mono_l k;unfold strings_genSplit.f
 repeat' first | (with_reducible first | exact ih0 _ _ _ _ | exact ih1 _ _ _ _ _ _ | exact LeO.refl _ | exact LeO.none _ | refine LeO.ite ?_ ?_ | refine LeO.bind ?_ (fun _ => ?_)) | exact LeO.none _ | refine LeO.ite ?_ ?_ | refine LeO.bind ?_ (fun _ => ?_)
theorem strings_genSplit.calls (k : Nat) (a0 : ByteArray) (a1 : ByteArray) (a2 : Int) (a3 : Int) (r : List ByteArray) (w : World) (h : strings_genSplit.f k a0 a1 a2 a3 = some r) :
  Calls Tryz.prog 112 #[.string a0, .string a1, .int .i64 a2, .int .i64 a3] w fun e w' => ∃ v0_ : Value, e = .returned (v0_) ∧ Kd.R Kd.string 9 w' w.heap.size (fun _ => True) v0_ r ∧ Below w.heap.size w w' := by
 have HB := A_ (Below.refl w.heap.size w);unfold strings_genSplit.f at h
 have H := h;clear h;replace H := iteEq H;rcases H with ⟨c5b0, c5b1, H⟩ | ⟨c5b0, c5b1, c5, H⟩
 ·obtain rfl := sI H
  go_enter Tryz.func112, Tryz.ntmps112;go_wp2
  go_ret
  exact ⟨_, zz11, zz41, (zz2 HB)⟩
 ·replace H := iteEq H
  rcases H with ⟨c6b0, c6b1, H⟩ | ⟨c6b0, c6b1, c6, H⟩
  ·replace H := Option.bind_eq_some_iff.mp H
   obtain ⟨t602, A70, H⟩ := H;replace H : (some t602) = some r := H;have A7 := A_ A70;clear A70;obtain rfl := sI H;go_enter Tryz.func112, Tryz.ntmps112;go_wp2_with (first | (refine gV 125 (some 18) Tryz.func125 (strings_explode.calls a0 a3 t602 _ A7.out) ?_; rintro v603 w8 ⟨ho0, hb⟩; have HO604 := A_ (Kd.R_lower ho0 (below_size (zz2 HB))); replace HB := A_ (bS (zz2 HB) hb); (try clear hb ho0)))
   go_ret
   exact ⟨_, zz11, (zz18 HO604), (zz2 HB)⟩
  ·have HC9 := A_ H
   clear H;go_enter Tryz.func112, Tryz.ntmps112;go_upto_if 20 with (fail)
   go_cut [3] (fun v3 wc => ∃ (kq : Nat) (x3_8 : Int), v3 = .int .i64 x3_8 ∧ Aside0 (strings_genSplit.j0 kq a0 a1 a2 x3_8 = some r) ∧ Aside0 (kq ≤ k) ∧ Aside0 (Below w.heap.size w wc))
   case first =>
    obtain ⟨H⟩ := HC9;replace H := iteEd H;rcases H with ⟨c10b0, H⟩ | ⟨c10b0, H⟩
    ·(first | rw [c10b0] | (simp only [i64_w, i32_w]; rw [c10b0]) | skip)
     replace H := bindA H;obtain ⟨t605, A11, H⟩ := H;have H' := A_ H;clear H;go_wp2_with (first | (refine gR 126 (some 23) Tryz.func126 (strings_Count.calls a0 a1 t605 _ A11.out) ?_; rintro w12 hb; replace HB := A_ (bS (zz2 HB) hb); (try clear hb)))
     go_meet
     case rel => exact ⟨_, (wrap64 (t605 + 1)), zz5, H', ⟨zz6⟩, ⟨(zz2 HB)⟩⟩
    ·(first | rw [c10b0] | (simp only [i64_w, i32_w]; rw [c10b0]) | skip)
     have H' := A_ H;clear H;go_wp2
     go_meet
     case rel => exact ⟨_, (a3), zz5, H', ⟨zz6⟩, ⟨(zz2 HB)⟩⟩
   case rest =>
    clear HC9;obtain ⟨kq, x3_8, rfl, HA, HJ8, HB⟩ := hcut;cases kq with
    | zero => exact absurd HA.out (by simp [strings_genSplit.j0])
    | succ kj8 =>
     obtain ⟨H⟩ := HA;simp only [strings_genSplit.j0] at H
     obtain ⟨ji13, hji13⟩ : ∃ j_ : Int, (mn x3_8 (wrap64 ((a0.size : Int) + 1))) = j_ := ⟨_, rfl⟩;(first | rw [hji13] at H | simp only [hji13] at H)
     have hji13_ : (if (wrap64 ((a0.size : Int) + 1)) < x3_8 then (wrap64 ((a0.size : Int) + 1)) else x3_8) = ji13 := hji13;replace H := iteE H;rcases H with ⟨c14, H⟩ | ⟨c14, H⟩
     ·have c14b0 := eq_true c14
      have c14b1 := dT c14;clear c14;replace H := iteN H;obtain ⟨c15, H⟩ := H;have c15b0 := eq_true c15;have c15b1 := dT c15;clear c15;obtain ⟨y606, Ny606⟩ := toY (List.replicate (ji13 : Int).toNat (⟨#[]⟩ : ByteArray));(first | with_reducible replace H := bindZ Ny606 H | rw [← Ny606.out] at H | skip)
      have H' := A_ H;clear H;go_wp2_with (first | ((with_reducible refine gD (N := 31) rfl ?_); refine Kd.R_make Kd.string _ 9 rfl (N := 31) rfl 35 _ _ rfl ji13 rfl rfl Tryz.underlying35 (.string ⟨#[]⟩) 16 info9 rfl (by decide) (by omega) (⟨#[]⟩ : ByteArray) (ok := fun _ => True) (okp := fun _ => True) rfl (fun _ hk => hk) trivial ofD (Nat.le_trans (Nat.mul_le_mul_right _ (ofD : ji13.toNat ≤ 17592186044416)) (by omega)) (Below.refl _ _) (Nat.le_refl _) ?_; intro v607 w16 ho17 hb hg_ hnew_; clear hg_ hnew_; (first | rw [← Ny606.out] at ho17 | (simp only [Int.reduceToNat] at ho17; rw [← Ny606.out] at ho17)); have HO608 := A_ (Kd.R_lower ho17 (below_size (zz2 HB))); replace HB := A_ (bS (zz2 HB) hb); clear hb ho17))
      go_loopg [0, 10] kj8 (fun kq v0 v10 w' => ∃ (x0_2 : ByteArray) (x9_2 : List ByteArray) (x10_2 : Int), v0 = .string x0_2 ∧ v10 = .int .i64 x10_2 ∧ Aside0 (strings_genSplit.l0 kq x0_2 a1 a2 (wrap64 ((ji13) - 1)) x9_2 x10_2 = some r) ∧ Aside0 (kq ≤ kj8) ∧ Aside0 (Kd.R Kd.string 9 w' w.heap.size (fun _ => True) v607 x9_2) ∧ Aside0 (Below w.heap.size w w'))
      case atStart => exact ⟨(a0), (y606), (0), zz5, zz5, H', ⟨Nat.le_refl _⟩, ⟨(zz18 HO608)⟩, ⟨(zz2 HB)⟩⟩
      case round =>
       clear H';obtain ⟨x0_2, x9_2, x10_2, rfl, rfl, HA, HK2, HO_9, HB⟩ := hrel;cases gk with
       | zero => exact absurd HA.out (by simp [strings_genSplit.l0])
       | succ k2 =>
        obtain ⟨H⟩ := HA;simp only [strings_genSplit.l0] at H
        replace H := iteEd H;rcases H with ⟨c18b0, H⟩ | ⟨c18b0, H⟩
        ·replace H := Option.bind_eq_some_iff.mp H
         obtain ⟨t609, A190, H⟩ := H;replace H : (if t609 < 0 then (if 0 ≤ x10_2 then (if x10_2 < (x9_2.length : Int) then (if 0 ≤ (wrap64 (x10_2 + 1)) then (if (wrap64 (x10_2 + 1)) ≤ (x9_2.length : Int) then (some ((x9_2.set (x10_2 : Int).toNat x0_2).take ((wrap64 (x10_2 + 1)) : Int).toNat)) else (none)) else (none)) else (none)) else (none)) else (if 0 ≤ (wrap64 (t609 + a2)) then (if (wrap64 (t609 + a2)) ≤ (x0_2.size : Int) then (if 0 ≤ x10_2 then (if x10_2 < (x9_2.length : Int) then (if 0 ≤ (wrap64 (t609 + (a1.size : Int))) then (if (wrap64 (t609 + (a1.size : Int))) ≤ (x0_2.size : Int) then (strings_genSplit.l0 k2 (x0_2.extract ((wrap64 (t609 + (a1.size : Int))) : Int).toNat x0_2.size) a1 a2 (wrap64 ((ji13) - 1)) (x9_2.set (x10_2 : Int).toNat (x0_2.extract 0 ((wrap64 (t609 + a2)) : Int).toNat)) (wrap64 (x10_2 + 1))) else (none)) else (none)) else (none)) else (none)) else (none)) else (none))) = some r := H;have A19 := A_ A190;clear A190;have HF20 := A_ H;clear H;go_upto_if 41 with (first | (refine gR 127 (some 39) Tryz.func127 (strings_Index.calls x0_2 a1 t609 _ A19.out) ?_; rintro w21 hb; replace HO_9 := A_ (rB (zz18 HO_9) hb); replace HB := A_ (bS (zz2 HB) hb); (try clear hb)))
         obtain ⟨H⟩ := HF20;replace H := iteEd H;rcases H with ⟨c22b0, H⟩ | ⟨c22b0, H⟩
         ·(first | rw [c22b0] | (simp only [i64_w, i32_w]; rw [c22b0]) | skip)
          replace H := iteNd H;obtain ⟨c23b0, H⟩ := H;replace H := iteNd H;obtain ⟨c24b0, H⟩ := H;obtain ⟨y610, hy610⟩ : ∃ y_ : List ByteArray, y_ = (x9_2.set (x10_2 : Int).toNat x0_2) := ⟨_, rfl⟩;replace H : (if 0 ≤ (wrap64 (x10_2 + 1)) then (if (wrap64 (x10_2 + 1)) ≤ (x9_2.length : Int) then (some (y610.take ((wrap64 (x10_2 + 1)) : Int).toNat)) else (none)) else (none)) = some r := by first | (rw [hy610]; with_reducible exact H) | (have H2_ := (Option.bind_some _ _).symm.trans H; rw [hy610]; with_reducible exact H2_) | (have H2_ := (Option.bind_some _ _).symm.trans H; with_reducible exact H2_) | with_reducible exact H | (rw [hy610]; exact H) | exact H
          have Ny610 := A_ hy610;have Ly610 : y610.length ≤ x9_2.length ∧ x9_2.length ≤ y610.length := by rw [hy610, List.length_set]; exact ⟨Nat.le_refl _, Nat.le_refl _⟩
          have My610 := Ly610.1;replace Ly610 := Ly610.2;clear hy610;obtain ⟨ji26, hji26⟩ : ∃ j_ : Int, (wrap64 (x10_2 + 1)) = j_ := ⟨_, rfl⟩;(first | rw [hji26] at H | simp only [hji26] at H)
          have hji26w : (IntKind.i64.wrap (x10_2 + 1)) = ji26 := (i64_w _).trans hji26;replace H := iteN H;obtain ⟨c27, H⟩ := H;have c27b0 := eq_true c27;have c27b1 := dT c27;clear c27;replace H := iteN H;obtain ⟨c28, H⟩ := H;have c28b0 := eq_true c28;have c28b1 := dT c28;clear c28;obtain ⟨y611, Ny611⟩ := toY (y610.take ((ji26) : Int).toNat);(first | with_reducible replace H := bindZ Ny611 H | rw [← Ny611.out] at H | skip)
          obtain rfl := sI H;have p25 : 0 ≤ (x10_2 : Int) := ofD;have q25 : (x10_2 : Int) < ((x9_2.length : Int) : Int) := ofD;obtain ⟨go25, co25, eo25, gb25, gl25, cl25, HG25⟩ := Kd.R_form HO_9.out (by omega);(first | cases eo25 | (injection eo25 with ea_ en_ ec_; (first | subst ea_ | (injection ea_ with ea_; subst ea_)); subst ec_; clear en_))
          have GB25 := A_ gb25;have GG25 := A_ HG25;clear gb25 gl25 HG25;obtain ⟨hx25_0, hf25_0⟩ := Kd.R_celln (⟨#[]⟩ : ByteArray) HO_9.out (x10_2 : Int) p25 q25;replace p25 := eq_true p25;replace q25 := eq_true q25;have HP29 := Kd.R_putg HO_9.out (x10_2 : Int) x0_2;go_wp2_with (first | ((with_reducible refine gate_store (t := 9) (p := 61) rfl ?_); refine store_event (t := 9) (p := 61) (v := ?vo_w30) (w1 := (w21.setCell ⟨go25, (x10_2 : Int).toNat, none⟩ (.string x0_2))) ?hg ?ho ?hn ?hr ?_; (case ho => rfl); (case hg => rfl); (case hn => rfl); (case hr => exact zz16); intro w30 hw; have hg : w21.grownBy w30 (some go25) := (by rw [hw]; exact HP29.2); have hp_ : Kd.R Kd.string 9 w30 w.heap.size (fun _ => True) (.slice (some ⟨go25, 0, none⟩) x9_2.length co25) y610 := (by rw [hw, Ny610.out]; exact HP29.1); clear HP29; replace HO_9 := A_ (hp_); replace HB := A_ ((by rw [hw]; exact below_set (HB.out) GB25.out : Below w.heap.size w w30)); clear hg hw hp_; have q31 : ((ji26) : Int) ≤ ((x9_2.length : Int) : Int) := ofD; obtain ⟨i031, hi031, _, hsz31, _⟩ := info_parts info9; have hcut31 := cut_to (P := Tryz.prog) 35 9 .i64 Tryz.underlying35 hi031 (some ⟨go25, 0, none⟩) x9_2.length co25 (ji26) ofD q31 (Kd.R_reads' HO_9.out).2.1; have hr31 := Kd.R_take (m := ((ji26) : Int).toNat) HO_9.out (by omega); have hy31 : y611.length = ((ji26) : Int).toNat := (by rw [Ny611.out, List.length_take]; omega); rw [← Ny611.out] at hr31; rw [← hy31] at hr31 hcut31; clear hy31 hi031 hsz31 HO_9; have HO613 := A_ hr31; clear hr31; replace q31 := eq_true q31))
          go_ret
          exact ⟨_, (by first | rfl | (simp [errW_none, errW_some] <;> rfl) | (simp only [← hji13, ← hji26]; first | rfl | (simp [errW_none, errW_some] <;> rfl)) | (simp [*, errW_none, errW_some] <;> rfl)), (zz18 HO613), (zz2 HB)⟩
         ·(first | rw [c22b0] | (simp only [i64_w, i32_w]; rw [c22b0]) | skip)
          obtain ⟨ji32, hji32⟩ : ∃ j_ : Int, (wrap64 (t609 + a2)) = j_ := ⟨_, rfl⟩;(first | rw [hji32] at H | simp only [hji32] at H)
          have hji32w : (IntKind.i64.wrap (t609 + a2)) = ji32 := (i64_w _).trans hji32;replace H := iteN H;obtain ⟨c33, H⟩ := H;have c33b0 := eq_true c33;have c33b1 := dT c33;clear c33;replace H := iteN H;obtain ⟨c34, H⟩ := H;have c34b0 := eq_true c34;have c34b1 := dT c34;clear c34;replace H := iteNd H;obtain ⟨c35b0, H⟩ := H;replace H := iteNd H;obtain ⟨c36b0, H⟩ := H;obtain ⟨y614, hy614⟩ : ∃ y_ : List ByteArray, y_ = (x9_2.set (x10_2 : Int).toNat (x0_2.extract 0 ((ji32) : Int).toNat)) := ⟨_, rfl⟩;replace H : (if 0 ≤ (wrap64 (t609 + (a1.size : Int))) then (if (wrap64 (t609 + (a1.size : Int))) ≤ (x0_2.size : Int) then (strings_genSplit.l0 k2 (x0_2.extract ((wrap64 (t609 + (a1.size : Int))) : Int).toNat x0_2.size) a1 a2 (wrap64 ((ji13) - 1)) y614 (wrap64 (x10_2 + 1))) else (none)) else (none)) = some r := by first | (rw [hy614]; with_reducible exact H) | (have H2_ := (Option.bind_some _ _).symm.trans H; rw [hy614]; with_reducible exact H2_) | (have H2_ := (Option.bind_some _ _).symm.trans H; with_reducible exact H2_) | with_reducible exact H | (rw [hy614]; exact H) | exact H
          have Ny614 := A_ hy614;have Ly614 : y614.length ≤ x9_2.length ∧ x9_2.length ≤ y614.length := by rw [hy614, List.length_set]; exact ⟨Nat.le_refl _, Nat.le_refl _⟩
          have My614 := Ly614.1;replace Ly614 := Ly614.2;clear hy614;obtain ⟨ji38, hji38⟩ : ∃ j_ : Int, (wrap64 (t609 + (a1.size : Int))) = j_ := ⟨_, rfl⟩;(first | rw [hji38] at H | simp only [hji38] at H)
          have hji38w : (IntKind.i64.wrap (t609 + (a1.size : Int))) = ji38 := (i64_w _).trans hji38;replace H := iteN H;obtain ⟨c39, H⟩ := H;have c39b0 := eq_true c39;have c39b1 := dT c39;clear c39;replace H := iteN H;obtain ⟨c40, H⟩ := H;have c40b0 := eq_true c40;have c40b1 := dT c40;clear c40;have H' := A_ H;clear H;have p37 : 0 ≤ (x10_2 : Int) := ofD;have q37 : (x10_2 : Int) < ((x9_2.length : Int) : Int) := ofD;obtain ⟨go37, co37, eo37, gb37, gl37, cl37, HG37⟩ := Kd.R_form HO_9.out (by omega);(first | cases eo37 | (injection eo37 with ea_ en_ ec_; (first | subst ea_ | (injection ea_ with ea_; subst ea_)); subst ec_; clear en_))
          have GB37 := A_ gb37;have GG37 := A_ HG37;clear gb37 gl37 HG37;obtain ⟨hx37_0, hf37_0⟩ := Kd.R_celln (⟨#[]⟩ : ByteArray) HO_9.out (x10_2 : Int) p37 q37;replace p37 := eq_true p37;replace q37 := eq_true q37;have HP41 := Kd.R_putg HO_9.out (x10_2 : Int) (x0_2.extract 0 ((ji32) : Int).toNat);go_wp2_with (first | ((with_reducible refine gate_store (t := 9) (p := 49) rfl ?_); refine store_event (t := 9) (p := 49) (v := ?vo_w42) (w1 := (w21.setCell ⟨go37, (x10_2 : Int).toNat, none⟩ (.string (x0_2.extract 0 ((ji32) : Int).toNat)))) ?hg ?ho ?hn ?hr ?_; (case ho => rfl); (case hg => rfl); (case hn => rfl); (case hr => exact zz16); intro w42 hw; have hg : w21.grownBy w42 (some go37) := (by rw [hw]; exact HP41.2); have hp_ : Kd.R Kd.string 9 w42 w.heap.size (fun _ => True) (.slice (some ⟨go37, 0, none⟩) x9_2.length co37) y614 := (by rw [hw, Ny614.out]; exact HP41.1); clear HP41; replace HO_9 := A_ (hp_); replace HB := A_ ((by rw [hw]; exact below_set (HB.out) GB37.out : Below w.heap.size w w42)); clear hg hw hp_))
          go_roundg k2
          case measure => have := HJ8.out; have := HK2.out; omega
          case rel => exact ⟨(x0_2.extract ((ji38) : Int).toNat x0_2.size), (y614), (wrap64 (x10_2 + 1)), (by first | rfl | (simp only [i64_w, i32_w]; done) | (simp only [aid_isEmpty, aid_isEmpty2]; done) | (simp; done) | ((simp only [← hji38] <;> (first | rfl | simp)); done) | (simp [*]; done)), zz5, H', ⟨(zz33 HJ8 HK2)⟩, ⟨(zz18 HO_9)⟩, ⟨(zz2 HB)⟩⟩
        ·replace H := iteNd H
         obtain ⟨c43b0, H⟩ := H;replace H := iteNd H;obtain ⟨c44b0, H⟩ := H;obtain ⟨y615, hy615⟩ : ∃ y_ : List ByteArray, y_ = (x9_2.set (x10_2 : Int).toNat x0_2) := ⟨_, rfl⟩;replace H : (if 0 ≤ (wrap64 (x10_2 + 1)) then (if (wrap64 (x10_2 + 1)) ≤ (x9_2.length : Int) then (some (y615.take ((wrap64 (x10_2 + 1)) : Int).toNat)) else (none)) else (none)) = some r := by first | (rw [hy615]; with_reducible exact H) | (have H2_ := (Option.bind_some _ _).symm.trans H; rw [hy615]; with_reducible exact H2_) | (have H2_ := (Option.bind_some _ _).symm.trans H; with_reducible exact H2_) | with_reducible exact H | (rw [hy615]; exact H) | exact H
         have Ny615 := A_ hy615;have Ly615 : y615.length ≤ x9_2.length ∧ x9_2.length ≤ y615.length := by rw [hy615, List.length_set]; exact ⟨Nat.le_refl _, Nat.le_refl _⟩
         have My615 := Ly615.1;replace Ly615 := Ly615.2;clear hy615;obtain ⟨ji46, hji46⟩ : ∃ j_ : Int, (wrap64 (x10_2 + 1)) = j_ := ⟨_, rfl⟩;(first | rw [hji46] at H | simp only [hji46] at H)
         have hji46w : (IntKind.i64.wrap (x10_2 + 1)) = ji46 := (i64_w _).trans hji46;replace H := iteN H;obtain ⟨c47, H⟩ := H;have c47b0 := eq_true c47;have c47b1 := dT c47;clear c47;replace H := iteN H;obtain ⟨c48, H⟩ := H;have c48b0 := eq_true c48;have c48b1 := dT c48;clear c48;obtain ⟨y616, Ny616⟩ := toY (y615.take ((ji46) : Int).toNat);(first | with_reducible replace H := bindZ Ny616 H | rw [← Ny616.out] at H | skip)
         obtain rfl := sI H;have p45 : 0 ≤ (x10_2 : Int) := ofD;have q45 : (x10_2 : Int) < ((x9_2.length : Int) : Int) := ofD;obtain ⟨go45, co45, eo45, gb45, gl45, cl45, HG45⟩ := Kd.R_form HO_9.out (by omega);(first | cases eo45 | (injection eo45 with ea_ en_ ec_; (first | subst ea_ | (injection ea_ with ea_; subst ea_)); subst ec_; clear en_))
         have GB45 := A_ gb45;have GG45 := A_ HG45;clear gb45 gl45 HG45;obtain ⟨hx45_0, hf45_0⟩ := Kd.R_celln (⟨#[]⟩ : ByteArray) HO_9.out (x10_2 : Int) p45 q45;replace p45 := eq_true p45;replace q45 := eq_true q45;have HP49 := Kd.R_putg HO_9.out (x10_2 : Int) x0_2;go_wp2_with (first | ((with_reducible refine gate_store (t := 9) (p := 61) rfl ?_); refine store_event (t := 9) (p := 61) (v := ?vo_w50) (w1 := (wr.setCell ⟨go45, (x10_2 : Int).toNat, none⟩ (.string x0_2))) ?hg ?ho ?hn ?hr ?_; (case ho => rfl); (case hg => rfl); (case hn => rfl); (case hr => exact zz16); intro w50 hw; have hg : wr.grownBy w50 (some go45) := (by rw [hw]; exact HP49.2); have hp_ : Kd.R Kd.string 9 w50 w.heap.size (fun _ => True) (.slice (some ⟨go45, 0, none⟩) x9_2.length co45) y615 := (by rw [hw, Ny615.out]; exact HP49.1); clear HP49; replace HO_9 := A_ (hp_); replace HB := A_ ((by rw [hw]; exact below_set (HB.out) GB45.out : Below w.heap.size w w50)); clear hg hw hp_; have q51 : ((ji46) : Int) ≤ ((x9_2.length : Int) : Int) := ofD; obtain ⟨i051, hi051, _, hsz51, _⟩ := info_parts info9; have hcut51 := cut_to (P := Tryz.prog) 35 9 .i64 Tryz.underlying35 hi051 (some ⟨go45, 0, none⟩) x9_2.length co45 (ji46) ofD q51 (Kd.R_reads' HO_9.out).2.1; have hr51 := Kd.R_take (m := ((ji46) : Int).toNat) HO_9.out (by omega); have hy51 : y616.length = ((ji46) : Int).toNat := (by rw [Ny616.out, List.length_take]; omega); rw [← Ny616.out] at hr51; rw [← hy51] at hr51 hcut51; clear hy51 hi051 hsz51 HO_9; have HO618 := A_ hr51; clear hr51; replace q51 := eq_true q51))
         go_ret
         exact ⟨_, (by first | rfl | (simp [errW_none, errW_some] <;> rfl) | (simp only [← hji13, ← hji46]; first | rfl | (simp [errW_none, errW_some] <;> rfl)) | (simp [*, errW_none, errW_some] <;> rfl)), (zz18 HO618), (zz2 HB)⟩
     ·exact absurd H (by simp)
def strings_Split.f (k : Nat) (a0 : ByteArray) (a1 : ByteArray) : Option (List ByteArray) := (strings_genSplit.f k a0 a1 0 (-1)).bind fun t619 => (some t619)
theorem strings_Split.mono : ∀ a0 a1 k, LeO (strings_Split.f k a0 a1) (strings_Split.f (k + 1) a0 a1) := by
 intro a0 a1 k;unfold strings_Split.f
 repeat' first | (with_reducible first | exact strings_genSplit.mono _ _ _ _ _ | exact LeO.refl _ | exact LeO.none _ | refine LeO.ite ?_ ?_ | refine LeO.bind ?_ (fun _ => ?_)) | exact LeO.none _ | refine LeO.ite ?_ ?_ | refine LeO.bind ?_ (fun _ => ?_)
theorem strings_Split.calls (k : Nat) (a0 : ByteArray) (a1 : ByteArray) (r : List ByteArray) (w : World) (h : strings_Split.f k a0 a1 = some r) :
  Calls Tryz.prog 85 #[.string a0, .string a1] w fun e w' => ∃ v0_ : Value, e = .returned (v0_) ∧ Kd.R Kd.string 9 w' w.heap.size (fun _ => True) v0_ r ∧ Below w.heap.size w w' := by
 have HB := A_ (Below.refl w.heap.size w);unfold strings_Split.f at h
 have H := h;clear h;replace H := bindA H;obtain ⟨t619, A3, H⟩ := H;obtain rfl := sI H;go_enter Tryz.func85, Tryz.ntmps85;go_wp2_with (first | (refine gV 112 (some 7) Tryz.func112 (strings_genSplit.calls k a0 a1 0 (-1) t619 _ A3.out) ?_; rintro v620 w4 ⟨ho0, hb⟩; have HO621 := A_ (Kd.R_lower ho0 (below_size (zz2 HB))); replace HB := A_ (bS (zz2 HB) hb); (try clear hb ho0)))
 go_ret
 exact ⟨_, zz11, (zz18 HO621), (zz2 HB)⟩
mutual
def impl_PathClean.l0 : Nat → List ByteArray → List ByteArray → Int → Int → Option (List ByteArray)
 | 0, _, _, _, _ => none
 | k + 1, x3, x6, x7, x8 => if x8 < x7 then (if 0 ≤ x8 then (if x8 < (x6.length : Int) then (if (rdOf ByteArray.empty x6 x8).toList = ([] : List UInt8) then (impl_PathClean.j1 k x3 (rdOf ByteArray.empty x6 x8) x6 x7 x8 (rdOf ByteArray.empty x6 x8) ((rdOf ByteArray.empty x6 x8).toList == ([] : List UInt8))) else (impl_PathClean.j1 k x3 (rdOf ByteArray.empty x6 x8) x6 x7 x8 (rdOf ByteArray.empty x6 x8) ((rdOf ByteArray.empty x6 x8).toList == ([46] : List UInt8)))) else (none)) else (none)) else (some x3)
def impl_PathClean.j1 : Nat → List ByteArray → ByteArray → List ByteArray → Int → Int → ByteArray → Bool → Option (List ByteArray)
 | 0, _, _, _, _, _, _, _ => none
 | k + 1, x3, x5, x6, x7, x8, x12, x13 => if x13 = true then (impl_PathClean.l0 k x3 x6 x7 (wrap64 (x8 + 1))) else (if x12.toList = ([46, 46] : List UInt8) then (if (x3.length : Int) > 0 then (if 0 ≤ (wrap64 ((x3.length : Int) - 1)) then (if (wrap64 ((x3.length : Int) - 1)) ≤ (x3.length : Int) then (impl_PathClean.l0 k (x3.take ((wrap64 ((x3.length : Int) - 1)) : Int).toNat) x6 x7 (wrap64 (x8 + 1))) else (none)) else (none)) else (impl_PathClean.l0 k x3 x6 x7 (wrap64 (x8 + 1)))) else (if x3.length < 8796093022208 then (impl_PathClean.l0 k (x3 ++ [x5]) x6 x7 (wrap64 (x8 + 1))) else (none)))
end
def impl_PathClean.f (k : Nat) (l0 : List ByteArray) : Option (List ByteArray) := impl_PathClean.l0 k ([] : List ByteArray) l0 (l0.length : Int) 0
theorem impl_PathClean.mono_l : ∀ k, (∀ y0 y1 y2 y3, LeO (impl_PathClean.l0 k y0 y1 y2 y3) (impl_PathClean.l0 (k + 1) y0 y1 y2 y3)) ∧ (∀ y0 y1 y2 y3 y4 y5 y6, LeO (impl_PathClean.j1 k y0 y1 y2 y3 y4 y5 y6) (impl_PathClean.j1 (k + 1) y0 y1 y2 y3 y4 y5 y6))
 | 0 => by refine ⟨?_, ?_⟩ <;> (intros; intro r h; simp [impl_PathClean.l0, impl_PathClean.j1] at h)
 | k + 1 => by
  obtain ⟨ih0, ih1⟩ := impl_PathClean.mono_l k;refine ⟨?_, ?_⟩ <;> intros <;> (first | unfold impl_PathClean.l0 | unfold impl_PathClean.j1) <;>
  repeat' first | (with_reducible first | exact ih0 _ _ _ _ | exact ih1 _ _ _ _ _ _ _ | exact LeO.refl _ | exact LeO.none _ | refine LeO.ite ?_ ?_ | refine LeO.bind ?_ (fun _ => ?_)) | exact LeO.none _ | refine LeO.ite ?_ ?_ | refine LeO.bind ?_ (fun _ => ?_)
theorem impl_PathClean.mono : ∀ a0 k, LeO (impl_PathClean.f k a0) (impl_PathClean.f (k + 1) a0) := by
 intro a0 k;obtain ⟨ih0, ih1⟩ := impl_PathClean.mono_l k;unfold impl_PathClean.f
 repeat' first | (with_reducible first | exact ih0 _ _ _ _ | exact ih1 _ _ _ _ _ _ _ | exact LeO.refl _ | exact LeO.none _ | refine LeO.ite ?_ ?_ | refine LeO.bind ?_ (fun _ => ?_)) | exact LeO.none _ | refine LeO.ite ?_ ?_ | refine LeO.bind ?_ (fun _ => ?_)
theorem impl_PathClean.calls (k : Nat) (A0 : Option Addr) (c0 : Nat) (l0 : List ByteArray) (r : List ByteArray) (w : World) (hr0 : Kd.C Kd.string w A0 l0.length l0) (hc0 : l0.length ≤ c0) (h : impl_PathClean.f k l0 = some r) :
  Calls Tryz.prog 86 #[.slice A0 l0.length c0] w fun e w' => ∃ v0_ : Value, e = .returned (v0_) ∧ Kd.R Kd.string 9 w' w.heap.size (fun _ => True) v0_ r ∧ Below w.heap.size w w' := by
 have HR0 := A_ hr0;have HC0 := A_ hc0;clear hr0 hc0;have HB := A_ (Below.refl w.heap.size w);unfold impl_PathClean.f at h
 have H := h;clear h;have H' := A_ H;clear H;go_enter Tryz.func86, Tryz.ntmps86;go_wp2
 go_step3
 go_wp2
 go_step3
 go_wp2
 go_loopg [3, 8] k (fun kq v3 v8 w' => ∃ (x3_1 : List ByteArray) (x8_1 : Int), v8 = .int .i64 x8_1 ∧ Aside0 (impl_PathClean.l0 kq x3_1 l0 (l0.length : Int) x8_1 = some r) ∧ Aside0 (kq ≤ k) ∧ Aside0 (Kd.R Kd.string 9 w' w.heap.size (fun _ => True) v3 x3_1) ∧ Aside0 (Below w.heap.size w w'))
 case atStart => exact ⟨(([] : List ByteArray)), (0), zz5, H', ⟨Nat.le_refl _⟩, ⟨zz41⟩, ⟨(zz2 HB)⟩⟩
 case round =>
  clear H';obtain ⟨x3_1, x8_1, rfl, HA, HK1, HO_3, HB⟩ := hrel;cases gk with
  | zero => exact absurd HA.out (by simp [impl_PathClean.l0])
  | succ k1 =>
   obtain ⟨H⟩ := HA;simp only [impl_PathClean.l0] at H
   replace H := iteEd H;rcases H with ⟨c2b0, H⟩ | ⟨c2b0, H⟩
   ·replace H := iteNd H
    obtain ⟨c3b0, H⟩ := H;replace H := iteNd H;obtain ⟨c4b0, H⟩ := H;have HC5 := A_ H;clear H;obtain ⟨⟨ad622, e622, hx622_0⟩, p622, q622⟩ := atB (Kd.at_string HR0.out x8_1);cases e622
    replace hx622_0 := cbl HB hx622_0;go_upto_if 13 with (fail)
    go_cut [13] (fun v13 wc => ∃ (kq : Nat) (x13_4 : Bool), v13 = .bool x13_4 ∧ Aside0 (impl_PathClean.j1 kq x3_1 (rdOf ByteArray.empty l0 x8_1) l0 (l0.length : Int) x8_1 (rdOf ByteArray.empty l0 x8_1) x13_4 = some r) ∧ Aside0 (kq ≤ k1) ∧ Aside0 (Kd.R Kd.string 9 wc w.heap.size (fun _ => True) u3 x3_1) ∧ Aside0 (Below w.heap.size w wc))
    case first =>
     obtain ⟨H⟩ := HC5;replace H := iteE H;rcases H with ⟨c6, H⟩ | ⟨c6, H⟩
     ·have c6b0 : ((rdOf ByteArray.empty l0 x8_1).toList == ([] : List UInt8)) = true := beq_iff_eq.mpr c6
      have c6i0 : (rdOf ByteArray.empty l0 x8_1).toList.isEmpty = true := (aid_isEmpty2 _).symm.trans c6b0;have c6b1 : ((rdOf ByteArray.empty l0 x8_1).toList != ([] : List UInt8)) = false := bne_eq_false_iff_eq.mpr c6;clear c6;(first | rw [c6b0] | (simp only [i64_w, i32_w]; rw [c6b0]) | skip)
      have H' := A_ H;clear H;go_wp2
      all_goals (first | (exfalso; have h_ : (rdOf ByteArray.empty l0 x8_1).toList.isEmpty = false := (by assumption); rw [c6i0] at h_; cases h_; done) | skip)
      go_meet
      case rel => exact ⟨_, (((rdOf ByteArray.empty l0 x8_1).toList == ([] : List UInt8))), zz5, H', ⟨(zz25 HK1)⟩, ⟨(zz18 HO_3)⟩, ⟨(zz2 HB)⟩⟩
     ·have c6b0 : ((rdOf ByteArray.empty l0 x8_1).toList == ([] : List UInt8)) = false := beq_eq_false_iff_ne.mpr c6
      have c6i0 : (rdOf ByteArray.empty l0 x8_1).toList.isEmpty = false := (aid_isEmpty2 _).symm.trans c6b0;have c6b1 : ((rdOf ByteArray.empty l0 x8_1).toList != ([] : List UInt8)) = true := bne_iff_ne.mpr c6;(first | rw [c6b0] | (simp only [i64_w, i32_w]; rw [c6b0]) | skip)
      have H' := A_ H;clear H;go_wp2
      all_goals (first | (exfalso; have h_ : (rdOf ByteArray.empty l0 x8_1).toList.isEmpty = true := (by assumption); rw [c6i0] at h_; cases h_; done) | skip)
      go_meet
      case rel => exact ⟨_, (((rdOf ByteArray.empty l0 x8_1).toList == ([46] : List UInt8))), zz5, H', ⟨(zz25 HK1)⟩, ⟨(zz18 HO_3)⟩, ⟨(zz2 HB)⟩⟩
    case rest =>
     clear HC5;obtain ⟨kq, x13_4, rfl, HA, HJ4, HO_3, HB⟩ := hcut;cases kq with
     | zero => exact absurd HA.out (by simp [impl_PathClean.j1])
     | succ kj4 =>
      obtain ⟨H⟩ := HA;simp only [impl_PathClean.j1] at H
      replace H := iteB H;rcases H with ⟨rfl, H⟩ | ⟨rfl, H⟩
      ·have H' := A_ H
       clear H;go_wp2
       go_roundg kj4
       case measure => have := HK1.out; have := HJ4.out; omega
       case rel => exact ⟨(x3_1), (wrap64 (x8_1 + 1)), zz5, H', ⟨(zz33 HK1 HJ4)⟩, ⟨(zz18 HO_3)⟩, ⟨(zz2 HB)⟩⟩
      ·replace H := iteE H
       rcases H with ⟨c8, H⟩ | ⟨c8, H⟩
       ·obtain ⟨c8b0, c8b1⟩ := eqT c8
        clear c8;replace H := iteE H;rcases H with ⟨c9, H⟩ | ⟨c9, H⟩
        ·have c9b0 := gtT c9
         have c9b1 : decide (0 < x3_1.length) = true := dT (by omega);clear c9;obtain ⟨ji10, hji10⟩ : ∃ j_ : Int, (wrap64 ((x3_1.length : Int) - 1)) = j_ := ⟨_, rfl⟩;(first | rw [hji10] at H | simp only [hji10] at H)
         have hji10w : (IntKind.i64.wrap ((x3_1.length : Int) - 1)) = ji10 := (i64_w _).trans hji10;replace H := iteN H;obtain ⟨c11, H⟩ := H;have c11b0 := eq_true c11;have c11b1 := dT c11;clear c11;replace H := iteN H;obtain ⟨c12, H⟩ := H;have c12b0 := eq_true c12;have c12b1 := dT c12;clear c12;obtain ⟨y623, Ny623⟩ := toY (x3_1.take ((ji10) : Int).toNat);(first | with_reducible replace H := bindZ Ny623 H | rw [← Ny623.out] at H | skip)
         have H' := A_ H;clear H;obtain ⟨Ao13, co13, eo13⟩ := Kd.R_slice HO_3.out;subst eo13;have q14 : ((ji10) : Int) ≤ ((x3_1.length : Int) : Int) := ofD;obtain ⟨i014, hi014, _, hsz14, _⟩ := info_parts info9;have hcut14 := cut_to (P := Tryz.prog) 35 9 .i64 Tryz.underlying35 hi014 Ao13 x3_1.length co13 (ji10) ofD q14 (Kd.R_reads' HO_3.out).2.1;have hr14 := Kd.R_take (m := ((ji10) : Int).toNat) HO_3.out (by omega);have hy14 : y623.length = ((ji10) : Int).toNat := (by rw [Ny623.out, List.length_take]; omega);rw [← Ny623.out] at hr14;rw [← hy14] at hr14 hcut14;clear hy14 hi014 hsz14 HO_3;have HO625 := A_ hr14;clear hr14;replace q14 := eq_true q14;go_wp2
         go_roundg kj4
         case measure => have := HK1.out; have := HJ4.out; omega
         case rel => exact ⟨(y623), (wrap64 (x8_1 + 1)), zz5, H', ⟨(zz33 HK1 HJ4)⟩, ⟨(zz18 HO625)⟩, ⟨(zz2 HB)⟩⟩
        ·have c9b0 := gtF c9
         have c9b1 : decide (0 < x3_1.length) = false := dF (by omega);clear c9;have H' := A_ H;clear H;obtain ⟨Ao15, co15, eo15⟩ := Kd.R_slice HO_3.out;subst eo15;go_wp2
         go_roundg kj4
         case measure => have := HK1.out; have := HJ4.out; omega
         case rel => exact ⟨(x3_1), (wrap64 (x8_1 + 1)), zz5, H', ⟨(zz33 HK1 HJ4)⟩, ⟨(zz18 HO_3)⟩, ⟨(zz2 HB)⟩⟩
       ·obtain ⟨c8b0, c8b1⟩ := eqF c8
        replace H := iteN H;obtain ⟨c16, H⟩ := H;have LMc16 := A_ c16;clear c16;obtain ⟨y626, Ny626⟩ := toY (x3_1 ++ [(rdOf ByteArray.empty l0 x8_1)]);(first | with_reducible replace H := bindZ Ny626 H | rw [← Ny626.out] at H | skip)
        have H' := A_ H;clear H;go_wp2_with (first | ((with_reducible refine gate_builtin (b := .append) (xs := #[.tmp 26, .tmp 28]) rfl ?_); at_builtin; refine Kd.R_append Kd.string (w0 := w) w.heap.size rfl (.tmp 26) (.tmp 28) 35 9 (.string ⟨#[]⟩) 16 rfl Tryz.underlying35 info9 rfl (by decide) (by omega) u3 x3_1 (rdOf ByteArray.empty l0 x8_1) [.string (rdOf ByteArray.empty l0 x8_1)] (fun _ => True) (fun _ => False) rfl rfl ?aP (fun _ hk => hk.elim) ?aF ?aO ?aB ?aS ?aL ?_; (case aP => exact rfl); (case aB => exact (zz2 HB)); (case aF => exact (fun _ _ => trivial)); (case aO => exact (zz18 HO_3)); (case aS => exact (below_size (zz2 HB))); (case aL => exact (zz20 LMc16)); intro v627 w17 ho hb hg hat; rw [← Ny626.out] at ho; replace HB := A_ (hb); have HO628 := A_ (ho); clear HO_3; clear ho hb hg hat))
        go_roundg kj4
        case measure => have := HK1.out; have := HJ4.out; omega
        case rel => exact ⟨(y626), (wrap64 (x8_1 + 1)), zz5, H', ⟨(zz33 HK1 HJ4)⟩, ⟨(zz18 HO628)⟩, ⟨(zz2 HB)⟩⟩
   ·obtain rfl := sI H
    go_wp2
    go_ret
    exact ⟨_, zz11, (zz18 HO_3), (zz2 HB)⟩
end Go.Proofs.YtpomhjkbgbociaaGreatDoor.P
end
section
namespace Go.Proofs.YtpomhjkbgbociaaGreatDoor.P
open Go.RowKit Go.Proofs.YtpomhjkbgbociaaGreatDoorW.PrintWords Go.Proofs.YtpomhjkbgbociaaGreatDoorW.PrintLast Go.Proofs.YtpomhjkbgbociaaGreatDoorW.PrintMore Go.Proofs.YtpomhjkbgbociaaGreatDoor.B Go.Proofs.YtpomhjkbgbociaaGreatDoor.Ad
set_option linter.unusedVariables false
set_option linter.unusedSimpArgs false
def slices_Clone_string_string.f (l0 : List ByteArray) : Option (List ByteArray) := if l0.length * 16 ≤ 140737488355328 then some l0 else none
theorem slices_Clone_string_string.calls (A0 : Option Addr) (c0 : Nat) (l0 : List ByteArray) (r : List ByteArray) (w : World) (hr0 : Kd.C Kd.string w A0 l0.length l0) (hc0 : l0.length ≤ c0) (h : slices_Clone_string_string.f l0 = some r) :
  Calls Tryz.prog 62 #[.slice A0 l0.length c0] w fun e w' => ∃ v0_ : Value, e = .returned (v0_) ∧ Kd.R Kd.string 9 w' w.heap.size (fun _ => True) v0_ r ∧ Below w.heap.size w w' := by
 unfold slices_Clone_string_string.f at h
 split at h
 ·rename_i hh
  obtain rfl := Option.some.inj h
  rcases Nat.eq_zero_or_pos l0.length with h0 | h0
  ·obtain rfl : l0 = [] := List.length_eq_zero_iff.1 h0
   cases A0 with
   | none => exact (Tryz.slices_Clone_string_nil 0 c0 w).mono fun e w' ⟨he, hw⟩ => ⟨_, he, Kd.R_nil _ _ _ _ _, hw ▸ Below.refl _ _⟩
   | some a => exact (Tryz.slices_Clone_string_zero a c0 w).mono fun e w' ⟨v, he, ho, _, hb⟩ => ⟨v, he, Kd.R_of_own ho (fun _ _ => trivial), hb⟩
  ·obtain ⟨bk, o, rfl, hb, hcells⟩ := row_at hr0 h0
   refine (Tryz.slices_Clone_string bk o l0.length c0 l0 w (Nat.le_refl _) hh (fun j hj => ?_)).mono fun e w' ⟨v, he, ho, _, hb'⟩ => ⟨v, he, Kd.R_of_own ?_ (fun _ _ => trivial), hb'⟩
   ·rw [List.getD_eq_getElem?_getD, List.getElem?_eq_getElem hj]
    exact hcells j _ (List.getElem?_eq_getElem hj)
   ·rw [List.take_length] at ho
    exact ho
 ·cases h
end Go.Proofs.YtpomhjkbgbociaaGreatDoor.P
end
section
namespace Go.Proofs.YtpomhjkbgbociaaGreatDoor.P
open Go.RowKit Go.Proofs.YtpomhjkbgbociaaGreatDoorW.PrintWords Go.Proofs.YtpomhjkbgbociaaGreatDoorW.PrintLast Go.Proofs.YtpomhjkbgbociaaGreatDoorW.PrintMore
attribute [local go_sem] max2_int min2_int max_two min_two max_three min_three max_four min_four
set_option linter.unusedVariables false
set_option linter.unusedSimpArgs false
set_option maxHeartbeats 8000000
set_option maxRecDepth 100000
def impl_readWay.l0 : Nat → ByteArray → ByteArray → Bool → List ByteArray → List ByteArray → Int → Int → Option (ByteArray × List ByteArray × Bool × ByteArray × Bool)
 | 0, _, _, _, _, _, _, _ => none
 | k + 1, x0, x9, x10, x12, x35, x36, x37 => if x37 < x36 then (if 0 ≤ x37 then (if x37 < (x35.length : Int) then ((impl_EscNorm.f k (rdOf ByteArray.empty x35 x37)).bind fun bt642 => (if bt642.2 = true then (if x12.length < 8796093022208 then (impl_readWay.l0 k x0 x9 x10 (x12 ++ [bt642.1]) x35 x36 (wrap64 (x37 + 1))) else (none)) else (some ((⟨#[]⟩ : ByteArray), ([] : List ByteArray), false, (⟨#[]⟩ : ByteArray), false)))) else (none)) else (none)) else ((impl_PathClean.f k x12).bind fun t647 => ((impl_AddrOk.f k x0 t647 x10 x9).bind fun t651 => (if t651 = true then (some (x0, t647, x10, x9, true)) else (some ((⟨#[]⟩ : ByteArray), ([] : List ByteArray), false, (⟨#[]⟩ : ByteArray), false)))))
def impl_readWay.f (k : Nat) (a0 : ByteArray) (l1 : List ByteArray) (a2 : ByteArray) : Option (ByteArray × List ByteArray × Bool × ByteArray × Bool) := (strings_Cut.f a2 (⟨#[63]⟩ : ByteArray)).bind fun bt630 => ((impl_EscNorm.f k bt630.2.1).bind fun bt633 => (if bt633.2 = true then ((slices_Clone_string_string.f l1).bind fun t635 => ((strings_Split.f k bt630.1 (⟨#[47]⟩ : ByteArray)).bind fun t638 => (impl_readWay.l0 k a0 bt633.1 bt630.2.2 t635 t638 (t638.length : Int) 0))) else (some ((⟨#[]⟩ : ByteArray), ([] : List ByteArray), false, (⟨#[]⟩ : ByteArray), false))))
theorem impl_readWay.mono_l : ∀ k, (∀ y0 y1 y2 y3 y4 y5 y6, LeO (impl_readWay.l0 k y0 y1 y2 y3 y4 y5 y6) (impl_readWay.l0 (k + 1) y0 y1 y2 y3 y4 y5 y6))
 | 0 => by intros; intro r h; simp [impl_readWay.l0] at h
 | k + 1 => by
  have ih0 := impl_readWay.mono_l k; intros; unfold impl_readWay.l0;repeat' first | (with_reducible first | exact ih0 _ _ _ _ _ _ _ | exact impl_AddrOk.mono _ _ _ _ _ | exact impl_EscNorm.mono _ _ | exact impl_PathClean.mono _ _ | exact strings_Split.mono _ _ _ | exact LeO.refl _ | exact LeO.none _ | refine LeO.ite ?_ ?_ | refine LeO.bind ?_ (fun _ => ?_)) | exact LeO.none _ | refine LeO.ite ?_ ?_ | refine LeO.bind ?_ (fun _ => ?_)
theorem impl_readWay.mono : ∀ a0 a1 a2 k, LeO (impl_readWay.f k a0 a1 a2) (impl_readWay.f (k + 1) a0 a1 a2) := by
 intro a0 a1 a2 k;have ih0 := impl_readWay.mono_l k;unfold impl_readWay.f
 repeat' first | (with_reducible first | exact ih0 _ _ _ _ _ _ _ | exact impl_AddrOk.mono _ _ _ _ _ | exact impl_EscNorm.mono _ _ | exact impl_PathClean.mono _ _ | exact strings_Split.mono _ _ _ | exact LeO.refl _ | exact LeO.none _ | refine LeO.ite ?_ ?_ | refine LeO.bind ?_ (fun _ => ?_)) | exact LeO.none _ | refine LeO.ite ?_ ?_ | refine LeO.bind ?_ (fun _ => ?_)
theorem impl_readWay.calls (k : Nat) (a0 : ByteArray) (A1 : Option Addr) (c1 : Nat) (l1 : List ByteArray) (a2 : ByteArray) (r1 : ByteArray) (r2 : List ByteArray) (r3 : Bool) (r4 : ByteArray) (r5 : Bool) (w : World) (hr1 : Kd.C Kd.string w A1 l1.length l1) (hc1 : l1.length ≤ c1) (h : impl_readWay.f k a0 l1 a2 = some (r1, r2, r3, r4, r5)) :
  Calls Tryz.prog 55 #[.string a0, .slice A1 l1.length c1, .string a2] w fun e w' => ∃ v1_ : Value, e = .returned (.tuple #[.agg #[.string r1, v1_, .bool r3, .string r4], .bool r5]) ∧ Kd.R Kd.string 9 w' w.heap.size (fun _ => True) v1_ r2 ∧ Below w.heap.size w w' := by
 have hu39 := Tryz.underlying39;have HR1 := A_ hr1;have HC1 := A_ hc1;clear hr1 hc1;have HB := A_ (Below.refl w.heap.size w);unfold impl_readWay.f at h
 have H := h;clear h;replace H := bindA H;obtain ⟨⟨t630, t631, t632⟩, A4, H⟩ := H;try dsimp only at H
 replace H := bindA H;obtain ⟨⟨t633, t634⟩, A5, H⟩ := H;try dsimp only at H
 have HF6 := A_ H;clear H;go_enter Tryz.func55, Tryz.ntmps55;go_upto_if 30 with (first | (refine boxF 6 #[.string (⟨#[]⟩ : ByteArray), .slice none 0 0, .bool false, .string (⟨#[]⟩ : ByteArray)] 39 ?_; intro gb629 hg w7 BK629 hb; have GE629 := geB hg (zz2 HB); replace HB := A_ (bS (zz2 HB) hb); clear hb hg) | (refine gR 31 (some 20) Tryz.func31 (strings_Cut.calls a2 (⟨#[63]⟩ : ByteArray) t630 t631 t632 _ A4.out) ?_; rintro w8 hb; replace BK629 := A_ (bB (zz3 BK629) hb); replace HB := A_ (bS (zz4 HB GE629) hb); (try clear hb)) | (refine gR 84 (some 26) Tryz.func84 (impl_EscNorm.calls k t631 t633 t634 _ A5.out) ?_; rintro w9 hb; replace BK629 := A_ (bB (zz3 BK629) hb); replace HB := A_ (bS (zz4 HB GE629) hb); (try clear hb)))
 obtain ⟨H⟩ := HF6;replace H := iteB H;rcases H with ⟨rfl, H⟩ | ⟨rfl, H⟩
 ·replace H := Option.bind_eq_some_iff.mp H
  obtain ⟨t635, A110, H⟩ := H;replace H : ((strings_Split.f k t630 (⟨#[47]⟩ : ByteArray)).bind fun t638 => (impl_readWay.l0 k a0 t633 t632 t635 t638 (t638.length : Int) 0)) = some (r1, r2, r3, r4, r5) := H;have A11 := A_ A110;clear A110;replace H := bindA H;obtain ⟨t638, A12, H⟩ := H;have H' := A_ H;clear H;go_wp2_with (first | (refine gV 62 (some 33) Tryz.func62 (slices_Clone_string_string.calls _ _ l1 t635 _ ?side1 ?side2 A11.out) ?_; (case side1 => exact (zz21 HR1 HB)); (case side2 => exact HC1.out); rintro v636 w13 ⟨ho0, hb⟩; have HO637 := A_ (Kd.R_lower ho0 (below_size (zz4 HB GE629))); replace BK629 := A_ (bB (zz3 BK629) hb); replace HB := A_ (bS (zz4 HB GE629) hb); (try clear hb ho0)) | (refine gV 85 (some 35) Tryz.func85 (strings_Split.calls k t630 (⟨#[47]⟩ : ByteArray) t638 _ A12.out) ?_; rintro v639 w14 ⟨ho0, hb⟩; have HO640 := A_ (Kd.R_lower (Kd.R_new' ho0 (Kd.R_lt (zz18 HO637))) (below_size (zz4 HB GE629))); replace HO637 := A_ (Kd.R_elder' (zz18 HO637) (Kd.R_base ho0) hb); replace BK629 := A_ (bB (zz3 BK629) hb); replace HB := A_ (bS (zz4 HB GE629) hb); (try clear hb ho0); obtain ⟨Ao15, co15, eo15⟩ := Kd.R_slice HO640.out; subst eo15))
  go_loopg [12, 37] k (fun kq v12 v37 w' => ∃ (x12_1 : List ByteArray) (x37_1 : Int) (x630000_1 : ByteArray) (x630002_1 : Bool) (x630003_1 : ByteArray), v37 = .int .i64 x37_1 ∧ Aside0 (impl_readWay.l0 kq a0 t633 t632 x12_1 t638 (t638.length : Int) x37_1 = some (r1, r2, r3, r4, r5)) ∧ Aside0 (kq ≤ k) ∧ Aside0 (Kd.R Kd.string 9 w' w.heap.size (fun k_ => some k_ ≠ ((.slice Ao15 t638.length co15) : Value).ownBlock) v12 x12_1) ∧ Aside0 (Kd.R Kd.string 9 w' w.heap.size (fun k_ => some k_ ≠ (v12 : Value).ownBlock) (.slice Ao15 t638.length co15) t638) ∧ Aside0 (w'.heap[gb629]? = some (.cells #[.string x630000_1, (.slice none 0 0), .bool x630002_1, .string x630003_1] 39 (0, 0))) ∧ Aside0 (Below w.heap.size w w'))
  case atStart => exact ⟨(t635), (0), ((⟨#[]⟩ : ByteArray)), (false), ((⟨#[]⟩ : ByteArray)), zz5, H', ⟨Nat.le_refl _⟩, ⟨(zz44 HO637)⟩, ⟨(zz44 HO640)⟩, ⟨(zz3 BK629)⟩, ⟨(zz4 HB GE629)⟩⟩
  case round =>
   clear H';obtain ⟨x12_1, x37_1, x630000_1, x630002_1, x630003_1, rfl, HA, HK1, HO_12, HO_35, BK629, HB⟩ := hrel;cases gk with
   | zero => exact absurd HA.out (by simp [impl_readWay.l0])
   | succ k1 =>
    obtain ⟨H⟩ := HA;simp only [impl_readWay.l0] at H
    replace H := iteEd H;rcases H with ⟨c16b0, H⟩ | ⟨c16b0, H⟩
    ·(first | rw [c16b0] | (simp only [i64_w, i32_w]; rw [c16b0]) | skip)
     replace H := iteNd H;obtain ⟨c17b0, H⟩ := H;replace H := iteNd H;obtain ⟨c18b0, H⟩ := H;replace H := bindA H;obtain ⟨⟨t642, t643⟩, A19, H⟩ := H;try dsimp only at H
     have HF20 := A_ H;clear H;obtain ⟨⟨ad641, e641, hx641_0⟩, p641, q641⟩ := atB (Kd.at_string (Kd.R_reads' HO_35.out).2.2 x37_1);cases e641
     go_upto_if 47 with (first | (refine gR 84 (some 43) Tryz.func84 (impl_EscNorm.calls k1 (rdOf ByteArray.empty t638 x37_1) t642 t643 _ A19.out) ?_; rintro w21 hb; replace HO_12 := A_ (rB (zz18 HO_12) hb); replace HO_35 := A_ (rB (zz18 HO_35) hb); replace BK629 := A_ (bB (zz3 BK629) hb); replace HB := A_ (bS (zz4 HB GE629) hb); (try clear hb)))
     obtain ⟨H⟩ := HF20;replace H := iteB H;rcases H with ⟨rfl, H⟩ | ⟨rfl, H⟩
     ·replace H := iteN H
      obtain ⟨c23, H⟩ := H;have LMc23 := A_ c23;clear c23;obtain ⟨y644, Ny644⟩ := toY (x12_1 ++ [t642]);(first | with_reducible replace H := bindZ Ny644 H | rw [← Ny644.out] at H | skip)
      have H' := A_ H;clear H;go_wp2_with (first | ((with_reducible refine gate_builtin (b := .append) (xs := #[.tmp 49, .tmp 51]) rfl ?_); at_builtin; refine Kd.R_append Kd.string (w0 := w) w.heap.size rfl (.tmp 49) (.tmp 51) 35 9 (.string ⟨#[]⟩) 16 rfl Tryz.underlying35 info9 rfl (by decide) (by omega) u12 x12_1 t642 [.string t642] (fun k_ => some k_ ≠ (.slice (some ad641) t638.length co15 : Value).ownBlock) (fun _ => False) rfl rfl ?aP (fun _ hk => hk.elim) ?aF ?aO ?aB ?aS ?aL ?_; (case aP => exact rfl); (case aB => exact (zz4 HB GE629)); (case aF => exact (fun k_ hk => Kd.fresh' (Kd.R_lt (zz18 HO_35)) k_ hk)); (case aO => exact (zz18 HO_12)); (case aS => exact (below_size (zz4 HB GE629))); (case aL => exact (zz20 LMc23)); intro v645 w24 ho hb hg hat; rw [← Ny644.out] at ho; replace HO_35 := A_ (Kd.R_after (ok := (fun _ => True)) (zz152 HO_35) hg hat); replace BK629 := A_ (blk_grown (zz3 BK629) hg (Kd.R_ne HO_12.out BK629.out (by decide))); replace HB := A_ (hb); have HO646 := A_ (ho); clear HO_12; clear ho hb hg hat))
      go_roundg k1
      case measure => have := HK1.out; omega
      case rel => exact ⟨(y644), (wrap64 (x37_1 + 1)), (x630000_1), (x630002_1), (x630003_1), zz5, H', ⟨(zz20 HK1)⟩, ⟨(zz18 HO646)⟩, ⟨(zz44 HO_35)⟩, ⟨(zz3 BK629)⟩, ⟨(zz4 HB GE629)⟩⟩
     ·simp only [Option.some.injEq, Prod.mk.injEq] at H
      obtain ⟨rfl, rfl, rfl, rfl, rfl⟩ := H;obtain ⟨_, _, _, _, _, _, _, _⟩ := cf4 BK629;go_wp2
      refine pR (results_ct rfl _ _ gb629 39 #[.string (⟨#[]⟩ : ByteArray), .slice none 0 0, .bool false, .string (⟨#[]⟩ : ByteArray)] (0, 0) _ rfl (zz39 BK629) Tryz.underlying39 rfl (by kernel_rfl)) rfl ?_;exact ⟨_, zz11, zz41, (zz4 HB GE629)⟩
    ·(first | rw [c16b0] | (simp only [i64_w, i32_w]; rw [c16b0]) | skip)
     replace H := bindA H;obtain ⟨t647, A26, H⟩ := H;replace H := bindA H;obtain ⟨t651, A27, H⟩ := H;have HF28 := A_ H;clear H;obtain ⟨Ao29, co29, eo29⟩ := Kd.R_slice HO_12.out;subst eo29;go_upto_if 62 with (first | (refine gV 86 (some 56) Tryz.func86 (impl_PathClean.calls k1 _ _ x12_1 t647 _ ?side1 ?side2 A26.out) ?_; (case side1 => exact (zz43 HO_12)); (case side2 => exact (Kd.R_reads' HO_12.out).2.1); rintro v648 w30 ⟨ho0, hb⟩; have HO649 := A_ (Kd.R_lower (Kd.R_new' (Kd.R_new' ho0 (Kd.R_lt (zz18 HO_12))) (Kd.R_lt (zz18 HO_35))) (below_size (zz4 HB GE629))); replace HO_12 := A_ (Kd.R_elder' (zz18 HO_12) (Kd.R_base ho0) hb); replace HO_35 := A_ (Kd.R_elder' (zz18 HO_35) (Kd.R_base ho0) hb); replace BK629 := A_ (bB (zz3 BK629) hb); replace HB := A_ (bS (zz4 HB GE629) hb); (try clear hb ho0); obtain ⟨Ao31, co31, eo31⟩ := Kd.R_slice HO649.out; subst eo31) | (refine boxF 17 #[.string (⟨#[]⟩ : ByteArray), .slice none 0 0, .bool false, .string (⟨#[]⟩ : ByteArray)] 39 ?_; intro gb650 hg w32 BK650 hb; replace HO_12 := A_ (rB (zz18 HO_12) hb); replace HO_35 := A_ (rB (zz18 HO_35) hb); replace HO649 := A_ (rB (zz18 HO649) hb); have GE650 := geB hg (zz4 HB GE629); replace HB := A_ (bS (zz4 HB GE629) hb); have NB629_650 := A_ ((by rw [hg]; exact Nat.ne_of_lt (blk_lt (zz3 BK629)) : gb629 ≠ gb650)); have NB650_629 := A_ ((by rw [hg]; exact Nat.ne_of_gt (blk_lt (zz3 BK629)) : gb650 ≠ gb629)); replace BK629 := A_ (bB (zz3 BK629) hb); clear hb hg; have hnb33 := NB650_629.out; have hnc33 := NB629_650.out; obtain ⟨_, _, _, _, _, _, _, _⟩ := cf4 BK650) | ((with_reducible refine gC (f := 33) rfl ?_); refine gsL (some 61) Tryz.func33 #[.agg #[.string a0, .slice Ao31 t647.length co31, .bool t632, .string t633]] ?_; (with_reducible refine (impl_AddrOk.calls k1 a0 _ _ t647 t632 t633 t651 _ ?side1 ?side2 A27.out).mono ?_); (case side1 => exact (by refine (Kd.R_reads' (e := 9) (base := w.heap.size) (ok := fun k_ => ((True ∧ some k_ ≠ (.slice Ao29 x12_1.length co29 : Value).ownBlock) ∧ some k_ ≠ (.slice Ao15 t638.length co15 : Value).ownBlock)) (n := t647.length) (c := co31) ?_).2.2; exact (zz185 HO649 BK650))); (case side2 => exact (Kd.R_reads' HO649.out).2.1); rintro e w35 ⟨rfl, hb⟩; refine ⟨_, rfl, ?_⟩; replace HO_12 := A_ (rB (zz185 HO_12 BK650) hb); replace HO_35 := A_ (rB (zz185 HO_35 BK650) hb); replace HO649 := A_ (rB (zz185 HO649 BK650) hb); replace BK629 := A_ (bB (g := gb629) (o := .cells #[.string x630000_1, .slice none 0 0, .bool x630002_1, .string x630003_1] 39 (0, 0)) (zz119 BK629 NB629_650) hb); replace BK650 := A_ (bB (g := gb650) (o := .cells #[.string a0, .slice Ao31 t647.length co31, .bool t632, .string t633] 39 (0, 0)) (zz39 BK650) hb); replace HB := A_ (bS (zz150 HB GE629 GE650) hb); (try clear hb)))
     obtain ⟨H⟩ := HF28;replace H := iteB H;rcases H with ⟨rfl, H⟩ | ⟨rfl, H⟩
     ·simp only [Option.some.injEq, Prod.mk.injEq] at H
      obtain ⟨rfl, rfl, rfl, rfl, rfl⟩ := H;have hnb37 := NB650_629.out;have hnc37 := NB629_650.out;obtain ⟨_, _, _, _, _, _, _, _⟩ := cf4 BK650;obtain ⟨_, _, _, _, _, _, _, _⟩ := cf4 BK629;go_wp2
      refine pR (results_ct rfl _ _ gb629 39 #[.string a0, .slice Ao31 t647.length co31, .bool t632, .string t633] (0, 0) _ rfl (zz39 BK629) Tryz.underlying39 rfl (by kernel_rfl)) rfl ?_;exact ⟨_, zz11, (zz45 (rt HO649 BK629)), (zz150 HB GE629 GE650)⟩
     ·simp only [Option.some.injEq, Prod.mk.injEq] at H
      obtain ⟨rfl, rfl, rfl, rfl, rfl⟩ := H;have hnb40 := NB629_650.out;have hnc40 := NB650_629.out;obtain ⟨_, _, _, _, _, _, _, _⟩ := cf4 BK629;go_wp2
      refine pR (results_ct rfl _ _ gb629 39 #[.string (⟨#[]⟩ : ByteArray), .slice none 0 0, .bool false, .string (⟨#[]⟩ : ByteArray)] (0, 0) _ rfl (zz39 BK629) Tryz.underlying39 rfl (by kernel_rfl)) rfl ?_;exact ⟨_, zz11, zz41, (zz150 HB GE629 GE650)⟩
 ·simp only [Option.some.injEq, Prod.mk.injEq] at H
  obtain ⟨rfl, rfl, rfl, rfl, rfl⟩ := H;obtain ⟨_, _, _, _, _, _, _, _⟩ := cf4 BK629;go_wp2
  refine pR (results_ct rfl _ _ gb629 39 #[.string (⟨#[]⟩ : ByteArray), .slice none 0 0, .bool false, .string (⟨#[]⟩ : ByteArray)] (0, 0) _ rfl (zz39 BK629) Tryz.underlying39 rfl (by kernel_rfl)) rfl ?_;exact ⟨_, zz11, zz41, (zz4 HB GE629)⟩
end Go.Proofs.YtpomhjkbgbociaaGreatDoor.P
end
section
namespace Go.Proofs.YtpomhjkbgbociaaGreatDoor.P
open Go.RowKit Go.Proofs.YtpomhjkbgbociaaGreatDoorW.PrintWords Go.Proofs.YtpomhjkbgbociaaGreatDoorW.PrintLast Go.Proofs.YtpomhjkbgbociaaGreatDoorW.PrintMore Go.Proofs.YtpomhjkbgbociaaGreatDoor.B Go.Proofs.YtpomhjkbgbociaaGreatDoor.Ad
set_option linter.unusedVariables false
set_option linter.unusedSimpArgs false
def impl_smallLetters.f (a0 : ByteArray) : Option (ByteArray) := if a0.size ≤ 140737488351232 then some (smallB a0) else none
set_option maxHeartbeats 400000 in
set_option maxRecDepth 100000 in
theorem impl_smallLetters.calls (a0 r : ByteArray) (w : World) (h : impl_smallLetters.f a0 = some r) :
  Calls Tryz.prog 56 #[.string a0] w fun e w' => e = .returned (.string r) ∧ Below w.heap.size w w' := by
 unfold impl_smallLetters.f at h
 by_cases hs : a0.size ≤ 140737488351232
 ·rw [if_pos hs] at h
  obtain rfl := Option.some.inj h
  clear h
  have hcv := Lib.run_convert_string_bytes (P := Tryz.prog) w 9 22 5 a0 Tryz.underlying9 Tryz.underlying22 Tryz.underlying5
  go_enter Tryz.func56, Tryz.ntmps56
  go_wp2_with fail
  clear hcv
  go_loopw [10] (fun i wr => ∃ k : Nat, k ≤ a0.size ∧ i = .int .i64 k ∧ Aside0 (SmRow w.heap.size a0 k wr) ∧ Aside0 (Below w.heap.size w wr))
   (fun i _ => a0.size - (intOf i).toNat)
  case atStart =>
   refine ⟨0, Nat.zero_le _, rfl, ⟨sm_start w 5 a0⟩, ⟨?_⟩⟩
   exact sm_below w 5 a0
  case round =>
   obtain ⟨k, hk, rfl, hI, hB⟩ := hrel
   by_cases hlt : k < a0.size
   ·have hc := (hI.out.2 k hlt).1
    have hf := (hI.out.2 k hlt).2
    rw [if_neg (by omega)] at hc
    have hset := Aside0.mk (sm_set hI.out hlt)
    have hskip := Aside0.mk (sm_skip hI.out hlt)
    clear hI
    generalize (L a0).getD k 0 = b at hc hset hskip
    have hb := b.toNat_lt
    by_cases h1 : 65 ≤ b.toNat
    ·by_cases h2 : b.toNat ≤ 90
     ·have e1 : (sm b).toNat = b.toNat + 32 := by
       unfold sm
       rw [if_pos ⟨h1, h2⟩, UInt8.toNat_add]
       have : (32 : UInt8).toNat = 32 := rfl
       omega
      rw [e1, show ((b.toNat + 32 : Nat) : Int) = (b.toNat : Int) + 32 from by omega] at hset
      clear hskip e1
      go_wp2
      exact ⟨⟨k + 1, by omega, by go_num, hset, ⟨hB.out.setCell (Nat.le_refl _) _⟩⟩, by simp [intOf]; omega⟩
     ·have e1 : sm b = b := by unfold sm; rw [if_neg (by omega)]
      have hS : Aside0 (SmRow w.heap.size a0 (k + 1) wr) := ⟨hskip.out e1⟩
      clear e1 hset hskip
      go_wp2
      exact ⟨⟨k + 1, by omega, by go_num, hS, hB⟩, by simp [intOf]; omega⟩
    ·have e1 : sm b = b := by unfold sm; rw [if_neg (by omega)]
     have hS : Aside0 (SmRow w.heap.size a0 (k + 1) wr) := ⟨hskip.out e1⟩
     clear e1 hset hskip
     go_wp2
     exact ⟨⟨k + 1, by omega, by go_num, hS, hB⟩, by simp [intOf]; omega⟩
   ·have ek : k = a0.size := by omega
    have hcells : ∀ j (hj : j < (L (smallB a0)).length), wr.cell? ((⟨w.heap.size, 0, none⟩ : Addr).add j) = some (.int .u8 ((L (smallB a0))[j].toNat : Int)) := by
     intro j hj
     have hj' : j < a0.size := by rw [L_size, smallB, ofL_size, List.length_map, L_size] at hj; exact hj
     rw [add_plain, (hI.out.2 j hj').1, if_pos (by omega)]
     simp [smallB, L_of, List.getD_eq_getElem?_getD, List.getElem?_eq_getElem (show j < (L a0).length by rw [L_size]; exact hj')]
    have hcv := run_convert_bytes_back (P := Tryz.prog) wr 22 9 5 ⟨w.heap.size, 0, none⟩ (grownCap w a0.size 0 5) (L (smallB a0)) Tryz.underlying22 Tryz.underlying5 Tryz.underlying9 hcells
    have hl : (L (smallB a0)).length = a0.size := by rw [L_size, smallB, ofL_size, List.length_map, L_size]
    rw [hl, show (⟨(L (smallB a0)).toArray⟩ : ByteArray) = smallB a0 from of_L _] at hcv
    have Hk := Aside0.mk ek
    clear ek hcells hl
    go_wp2
    go_ret
    exact ⟨rfl, hB.out⟩
 ·rw [if_neg hs] at h; cases h
end Go.Proofs.YtpomhjkbgbociaaGreatDoor.P
end
section
namespace Go.Proofs.YtpomhjkbgbociaaGreatDoor.P
open Go.RowKit Go.Proofs.YtpomhjkbgbociaaGreatDoorW.PrintWords Go.Proofs.YtpomhjkbgbociaaGreatDoorW.PrintLast Go.Proofs.YtpomhjkbgbociaaGreatDoorW.PrintMore Go.Proofs.YtpomhjkbgbociaaGreatDoor.B Go.Proofs.YtpomhjkbgbociaaGreatDoor.Ad
set_option linter.unusedVariables false
set_option linter.unusedSimpArgs false
def sq : ByteArray := ⟨#[47, 63]⟩
theorem sq_at : sq.size = 2 ∧ (∀ h : 0 < sq.size, (sq[0]'h).toNat = 47) ∧ (∀ h : 1 < sq.size, (sq[1]'h).toNat = 63) := by decide +kernel
theorem valid_same (r : Int) : Utf8.valid r = Lib.validRune r := by
 unfold Utf8.valid Lib.validRune
 rw [Bool.eq_iff_iff]
 simp only [Bool.or_eq_true, Bool.and_eq_true, decide_eq_true_eq]
 omega
theorem decode_skip (s : ByteArray) (pos : Nat) (h : pos < s.size) (ha : 128 ≤ (s[pos]'h).toNat) :
  pos + (Utf8.decode s pos).2 ≤ s.size ∧ ∀ j, pos ≤ j → j < pos + (Utf8.decode s pos).2 → ∀ hj : j < s.size, 128 ≤ (s[j]'hj).toNat := by
 have hn : ¬ (s[pos]'h).toNat < 128 := by omega
 have one : pos + 1 ≤ s.size ∧ ∀ j, pos ≤ j → j < pos + 1 → ∀ hj : j < s.size, 128 ≤ (s[j]'hj).toNat := by
  refine ⟨h, fun j h1 h2 hj => ?_⟩
  obtain rfl : j = pos := by omega
  exact ha
 have cont : ∀ k, (decide (pos + k < s.size) && ((s.get! (pos + k)).toNat / 64 == 2)) = true → pos + k < s.size ∧ ∀ hj : pos + k < s.size, 128 ≤ (s[pos + k]'hj).toNat := by
  intro k hk
  simp only [Bool.and_eq_true, decide_eq_true_eq, beq_iff_eq] at hk
  refine ⟨hk.1, fun hj => ?_⟩
  have e := get_at s (pos + k) hj
  rw [Nat.add_zero] at e
  rw [e] at hk
  omega
 simp only [Utf8.decode, get_at s pos h, hn, if_false]
 split
 ·rename_i h1
  simp only [Bool.and_eq_true] at h1
  obtain ⟨l1, b1⟩ := cont 1 (by simpa using h1.2)
  split
  ·refine ⟨by show pos + 2 ≤ _; omega, fun j h2 h3 hj => ?_⟩
   have h3' : j < pos + 2 := h3
   rcases (by omega : j = pos ∨ j = pos + 1) with e | e
   ·subst e; exact ha
   ·subst e; exact b1 hj
  ·exact one
 ·split
  ·rename_i _ h1
   simp only [Bool.and_eq_true] at h1
   obtain ⟨l1, b1⟩ := cont 1 (by simpa using h1.1.2)
   obtain ⟨l2, b2⟩ := cont 2 (by simpa using h1.2)
   split
   ·refine ⟨by show pos + 3 ≤ _; omega, fun j h2 h3 hj => ?_⟩
    have h3' : j < pos + 3 := h3
    rcases (by omega : j = pos ∨ j = pos + 1 ∨ j = pos + 2) with e | e | e
    ·subst e; exact ha
    ·subst e; exact b1 hj
    ·subst e; exact b2 hj
   ·exact one
  ·split
   ·rename_i _ _ h1
    simp only [Bool.and_eq_true] at h1
    obtain ⟨l1, b1⟩ := cont 1 (by simpa using h1.1.1.2)
    obtain ⟨l2, b2⟩ := cont 2 (by simpa using h1.1.2)
    obtain ⟨l3, b3⟩ := cont 3 (by simpa using h1.2)
    split
    ·refine ⟨by show pos + 4 ≤ _; omega, fun j h2 h3 hj => ?_⟩
     have h3' : j < pos + 4 := h3
     rcases (by omega : j = pos ∨ j = pos + 1 ∨ j = pos + 2 ∨ j = pos + 3) with e | e | e | e
     ·subst e; exact ha
     ·subst e; exact b1 hj
     ·subst e; exact b2 hj
     ·subst e; exact b3 hj
    ·exact one
   ·exact one
theorem noAny_skip {s : ByteArray} {pos n : Nat} (h : Lib.NoAny (L s) (L sq) pos) (hb : ∀ j, pos ≤ j → j < pos + n → ∀ hj : j < s.size, 128 ≤ (s[j]'hj).toNat) : Lib.NoAny (L s) (L sq) (pos + n) := by
 intro j b hj hx
 rcases Nat.lt_or_ge j pos with hlt | hge
 ·exact h j b hlt hx
 ·obtain ⟨hl, he⟩ := List.getElem?_eq_some_iff.1 hx
  have hjs : j < s.size := by rw [← L_size]; exact hl
  have h1 := hb j hge hj hjs
  have h2 : (s[j]'hjs) = b := by rw [← he]; rfl
  rw [h2] at h1
  have : L sq = [47, 63] := rfl
  rw [this]
  simp only [List.contains_cons, List.contains_nil, Bool.or_false, Bool.or_eq_false_iff, beq_eq_false_iff_ne]
  constructor
  ·rintro rfl; exact absurd h1 (by decide)
  ·rintro rfl; exact absurd h1 (by decide)
set_option maxHeartbeats 4000000 in
set_option maxRecDepth 1000000 in
theorem indexRune_far (r : Int) (w : World) (h0 : 128 ≤ r) (h1 : r ≤ 2147483647) :
  Calls Tryz.prog 80 #[.string sq, .int .i32 r] w fun e w' => e = .returned (.int .i64 (-1)) ∧ Below w.heap.size w w' := by
 have g0 : decide (0 ≤ r) = true := decide_eq_true (by omega)
 have g1 : decide (r < 128) = false := decide_eq_false (by omega)
 obtain ⟨hsz, hs0, hs1⟩ := sq_at
 by_cases hr : r = 65533
 ·subst hr
  have n0 := fun ty => run_next_ascii (P := Tryz.prog) w sq 0 ty (by rw [hsz]; decide) (by rw [hs0]; decide)
  have n1 := fun ty => run_next_ascii (P := Tryz.prog) w sq 1 ty (by rw [hsz]; decide) (by rw [hs1]; decide)
  rw [hs0] at n0
  rw [hs1] at n1
  have n2 := fun ty => run_next_end (P := Tryz.prog) w sq 2 ty (by rw [hsz]; decide)
  clear hsz hs0 hs1 h0 h1 g0 g1
  go_enter Tryz.func80, Tryz.ntmps80
  go_wp2
  go_loopg [5, 6] 2 (fun g _ _ wx => ∃ i : Nat, i + g = 2 ∧ wx = w.iter sq i)
  case atStart => exact ⟨0, by omega, rfl⟩
  case round =>
   obtain ⟨i, hig, rfl⟩ := hrel
   cases gk with
   | zero =>
    obtain rfl : i = 2 := by omega
    go_wp2
    go_ret
    exact ⟨rfl, (Below.refl _ _).alloc (Nat.le_refl _) _⟩
   | succ g =>
    rcases (by omega : i = 0 ∨ i = 1) with e | e
    ·subst e
     go_wp2
     go_roundg g
     case measure => omega
     case rel => exact ⟨1, by omega, rfl⟩
    ·subst e
     go_wp2
     go_roundg g
     case measure => omega
     case rel => exact ⟨2, by omega, rfl⟩
 ·have g2 : (r == 65533) = false := by simp [hr]
  cases hv : Lib.validRune r with
  | false =>
   go_enter Tryz.func80, Tryz.ntmps80
   go_wp2_with (go_at_call 109; refine (Tryz.utf8_ValidRune _ _).mono ?_; rintro e w' ⟨rfl, hw⟩; rw [hw, hv])
   go_ret
   exact ⟨rfl, Below.refl _ _⟩
  | true =>
   obtain ⟨e1, e2, e3⟩ := encode_facts r (by rw [valid_same]; exact hv) h0
   go_enter Tryz.func80, Tryz.ntmps80
   go_wp2_with (go_at_call 109; refine (Tryz.utf8_ValidRune _ _).mono ?_; rintro e w' ⟨rfl, hw⟩; rw [hw, hv])
   go_step3
   go_wp2
   generalize Utf8.encode r = nd at e1 e2 e3 ⊢
   refine wp_loop_rounds 1 ?_
   rw [rounds_succ]
   by_cases hn : nd.size = 2
   ·obtain ⟨x, hx⟩ : ∃ x : UInt8, ∀ h : 1 < nd.size, nd[1]'h = x := ⟨nd[1]'(by omega), fun _ => rfl⟩
    have hx1 : 128 ≤ x.toNat := by
     have := e3 (by omega)
     simp only [hn] at this
     rw [← hx (by omega)]; exact this
    clear e3
    have hne : ((63 : Int) != (x.toNat : Int)) = true := by simp; omega
    have hnz : ((nd.size : Nat) : Int) - 1 = 1 := by omega
    rw [hnz]
    have HN := Aside0.mk hn
    have hlt : (1 : Int) < (nd.size : Int) := by omega
    clear hn hnz e1 e2
    have hs1' := hs1 (by rw [hsz]; decide)
    have hi1 : (1 : Int) < (sq.size : Int) := by rw [hsz]; decide
    have hs2 : (2 : Int) ≤ (sq.size : Int) := by rw [hsz]; decide
    go_wp2
    go_step3
    go_wp2
    go_quiet (fail)
    have HB : Aside0 (Below w.heap.size w (w.drewN nq)) := ⟨pw_below_drewN (Below.refl _ _) nq⟩
    generalize w.drewN nq = w1 at HB ⊢
    have hib : Lib.indexByte (sq.extract 2 2).data.toList ((x.toNat : Int)).toNat.toUInt8 = -1 := rfl
    go_wp2
    go_quiet ((go_at_call 108; exact Calls.quiet_of_same (Tryz.strings_IndexByte _ _ _)))
    go_wp2
    rw [Exit.noGoto_ret]
    go_wp2
    rw [Exit.noGoto_ret]
    go_ret
    exact ⟨rfl, pw_below_drewN HB.out _⟩
   ·have hge : decide ((nd.size : Int) - 1 < 2) = false := decide_eq_false (by omega)
    go_wp2
    rw [Exit.noGoto_ret]
    go_ret
    exact ⟨rfl, Below.refl _ _⟩
def strings_IndexAny.f (a0 a1 : ByteArray) : Option Int := if L a1 = [47, 63] ∧ a0.size < 4294967281 then some (Lib.indexAny (L a0) (L a1)) else none
def iterTo (w : World) (b : Nat) (s : ByteArray) (p : Nat) : World := { w with heap := w.heap.setIfInBounds b (.stringIter s p) }
theorem iterTo_at {w : World} {b : Nat} {s : ByteArray} {p q : Nat} (h : w.heap[b]? = some (.stringIter s q)) : (iterTo w b s p).heap[b]? = some (.stringIter s p) := by
 obtain ⟨hl, _⟩ := Array.getElem?_eq_some_iff.1 h
 simp [iterTo, hl]
theorem iterTo_below {w0 w : World} {b : Nat} {s : ByteArray} {p : Nat} (h : Below w0.heap.size w0 w) (hb : w0.heap.size ≤ b) : Below w0.heap.size w0 (iterTo w b s p) :=
 ⟨h.os, h.tape, h.output, by simp [iterTo]; exact h.size, fun i hi => by
  rw [← h.block i hi]
  simp only [iterTo]
  exact Array.getElem?_setIfInBounds_ne (by omega)⟩
theorem run_next_in {P : Program} (w : World) (b : Nat) (s : ByteArray) (pos : Nat) (hb : w.heap[b]? = some (.stringIter s pos)) (h : pos < s.size) (ty : TypeId) :
  (Instr.next (.pointer (some ⟨b, 0, none⟩)) true ty).run P w = .ok (.tuple #[.bool true, .int .i64 pos, .int .i32 (Utf8.decode s pos).1]) (iterTo w b s (pos + (Utf8.decode s pos).2)) := by
 simp only [Instr.next, getObj, setObj, Sem.run_bind, Sem.run, hb, Result.andThen, h, if_true, iterTo]
 simp [goInt]
theorem run_next_out {P : Program} (w : World) (b : Nat) (s : ByteArray) (pos : Nat) (hb : w.heap[b]? = some (.stringIter s pos)) (h : ¬ pos < s.size) (ty : TypeId) :
  (Instr.next (.pointer (some ⟨b, 0, none⟩)) true ty).run P w = .ok (.tuple #[.bool false]) w := by
 simp [Instr.next, getObj, Sem.run, hb, h]
set_option maxHeartbeats 4000000 in
set_option maxRecDepth 1000000 in
theorem indexAny_few (s : ByteArray) (w : World) (h8 : s.size ≤ 8) :
  Calls Tryz.prog 54 #[.string s, .string sq] w fun e w' => e = .returned (.int .i64 (Lib.indexAny (L s) (L sq))) ∧ Below w.heap.size w w' := by
 have hemp : sq.toList.isEmpty = false := by decide +kernel
 have hn1 : ((sq.size : Int) == 1) = false := by decide +kernel
 have h8z : decide ((8 : Int) < (s.size : Int)) = false := decide_eq_false (by omega)
 go_enter Tryz.func54, Tryz.ntmps54
 go_wp2_with (go_at_call 81; refine (Tryz.strings_shouldUseASCIISet _ _).mono ?_; rintro e w' ⟨rfl, hw⟩; rw [hw, h8z])
 go_loopg [9, 10] s.size (fun g _ _ wx => ∃ i : Nat, i + g = s.size ∧ Aside0 (wx.heap[w.heap.size]? = some (.stringIter s i)) ∧ Aside0 (Lib.NoAny (L s) (L sq) i) ∧ Aside0 (Below w.heap.size w wx))
 case atStart => exact ⟨0, by omega, ⟨World.iter_heap w s 0⟩, ⟨Lib.NoAny.zero _ _⟩, ⟨(Below.refl _ _).alloc (Nat.le_refl _) _⟩⟩
 case round =>
  obtain ⟨i, hig, hI, HN, HB⟩ := hrel
  cases gk with
  | zero =>
   obtain rfl : i = s.size := by omega
   have hnx := run_next_out (P := Tryz.prog) wr w.heap.size s s.size hI.out (by omega)
   go_wp2
   go_ret
   exact ⟨by rw [Lib.indexAny_none (by rw [L_size]; exact HN.out)]; rfl, HB.out⟩
  | succ g =>
   have hi : i < s.size := by omega
   have hnx := run_next_in (P := Tryz.prog) wr w.heap.size s i hI.out hi
   obtain ⟨x, hx⟩ : ∃ x : UInt8, s[i]'hi = x := ⟨_, rfl⟩
   have Hx : Aside0 ((L s)[i]? = some x) := ⟨by rw [← hx]; exact Lib.data_getElem? s i hi⟩
   by_cases hlt : x.toNat < 128
   ·have hd := decode_ascii s i hi (by rw [hx]; exact hlt)
    rw [hx] at hd
    rw [hd] at hnx
    clear hd
    have HI2 : Aside0 ((iterTo wr w.heap.size s (i + 1)).heap[w.heap.size]? = some (.stringIter s (i + 1))) := ⟨iterTo_at hI.out⟩
    have HB2 : Aside0 (Below w.heap.size w (iterTo wr w.heap.size s (i + 1))) := ⟨iterTo_below HB.out (Nat.le_refl _)⟩
    simp only at hnx
    have hcon := Lib.contains_iff_indexByte (L sq) x
    have hback : ((x.toNat : Int)).toNat.toUInt8 = x := by simp
    obtain ⟨q, hq⟩ : ∃ q, Lib.indexByte sq.data.toList x = q := ⟨_, rfl⟩
    have hcon : (L sq).contains x = decide (0 ≤ q) := by rw [← hq]; exact hcon
    clear hx HB hI
    generalize iterTo wr w.heap.size s (i + 1) = w2 at hnx HI2 HB2
    cases hin : (L sq).contains x
    ·rw [hin] at hcon
     have hlt0 : ¬ ((0 : Int) ≤ q) := of_decide_eq_false hcon.symm
     clear hcon
     have HS : Aside0 (Lib.NoAny (L s) (L sq) (i + 1)) := ⟨HN.out.succ Hx.out hin⟩
     clear hin
     go_wp2_with (go_at_call 80; refine (Tryz.strings_IndexRune_ascii _ _ _ (by omega) (by omega)).mono ?_; rintro e w' ⟨rfl, hw⟩; rw [hw, hback, hq])
     go_roundg g
     case measure => omega
     case rel => exact ⟨i + 1, by omega, HI2, HS, HB2⟩
    ·rw [hin] at hcon
     have hge : (0 : Int) ≤ q := of_decide_eq_true hcon.symm
     clear hcon
     have HE : Aside0 (Lib.indexAny (L s) (L sq) = i) := ⟨Lib.indexAny_hit HN.out Hx.out hin⟩
     clear hin
     go_wp2_with (go_at_call 80; refine (Tryz.strings_IndexRune_ascii _ _ _ (by omega) (by omega)).mono ?_; rintro e w' ⟨rfl, hw⟩; rw [hw, hback, hq])
     go_ret
     exact ⟨by rw [HE.out]; rfl, HB2.out⟩
   ·obtain ⟨hd1, hd2⟩ := decode_high s i hi (by rw [hx]; omega)
    have hd3 := decode_le s i
    obtain ⟨hk1, hk2⟩ := decode_skip s i hi (by rw [hx]; omega)
    generalize (Utf8.decode s i).2 = n at hnx hd2 hk1 hk2
    generalize (Utf8.decode s i).1 = c at hnx hd1 hd3
    have HI2 : Aside0 ((iterTo wr w.heap.size s (i + n)).heap[w.heap.size]? = some (.stringIter s (i + n))) := ⟨iterTo_at hI.out⟩
    have HB2 : Aside0 (Below w.heap.size w (iterTo wr w.heap.size s (i + n))) := ⟨iterTo_below HB.out (Nat.le_refl _)⟩
    have HS : Aside0 (Lib.NoAny (L s) (L sq) (i + n)) := ⟨noAny_skip HN.out hk2⟩
    have hlo : (128 : Int) ≤ (c : Int) := by omega
    have hhi : (c : Int) ≤ 2147483647 := by omega
    have HK := Aside0.mk hk1
    have HD := Aside0.mk hd2
    clear hx HB hI HN Hx hk1 hk2 hd1 hd2 hd3 hlt
    generalize iterTo wr w.heap.size s (i + n) = w2 at hnx HI2 HB2
    go_wp2_with (go_at_call 80; refine (indexRune_far _ _ hlo hhi).mono ?_; rintro e w' ⟨rfl, hb⟩)
    have HC := Aside0.mk hb
    clear hb
    go_roundg (g + 1 - n)
    case measure => have := HK.out; have := HD.out; omega
    case rel => exact ⟨i + n, by have := HK.out; omega, ⟨(HC.out.block _ (by obtain ⟨hl, _⟩ := Array.getElem?_eq_some_iff.1 HI2.out; exact hl)).trans HI2.out⟩, HS, ⟨HB2.out.trans (HC.out.mono HB2.out.size)⟩⟩
theorem strings_IndexAny.calls (a0 a1 : ByteArray) (r : Int) (w : World) (h : strings_IndexAny.f a0 a1 = some r) :
  Calls Tryz.prog 54 #[.string a0, .string a1] w fun e w' => e = .returned (.int .i64 r) ∧ Below w.heap.size w w' := by
 unfold strings_IndexAny.f at h
 split at h
 ·rename_i hh
  obtain rfl := Option.some.inj h
  obtain rfl : a1 = sq := L_inj (by rw [hh.1]; rfl)
  rcases Nat.lt_or_ge 8 a0.size with h8 | h8
  ·refine (Tryz.strings_IndexAny_long (fun w => by kernel_rfl) a0 sq w (by decide +kernel) h8 hh.2 (by decide +kernel) (fun j b hb => ?_)).mono fun e w' ⟨he, hw⟩ => ⟨he, hw ▸ ((Below.refl _ _).alloc (Nat.le_refl _) _).alloc (by simp) _⟩
   have hb' : ([47, 63] : List UInt8)[j]? = some b := hb
   match j, hb' with
   | 0, hb' => injection hb' with hb'; subst hb'; decide
   | 1, hb' => injection hb' with hb'; subst hb'; decide
  ·exact indexAny_few a0 w h8
 ·cases h
end Go.Proofs.YtpomhjkbgbociaaGreatDoor.P
end
section
namespace Go.Proofs.YtpomhjkbgbociaaGreatDoor.P
open Go.RowKit Go.Proofs.YtpomhjkbgbociaaGreatDoorW.PrintWords Go.Proofs.YtpomhjkbgbociaaGreatDoorW.PrintLast Go.Proofs.YtpomhjkbgbociaaGreatDoorW.PrintMore
attribute [local go_sem] max2_int min2_int max_two min_two max_three min_three max_four min_four
set_option linter.unusedVariables false
set_option linter.unusedSimpArgs false
set_option maxHeartbeats 8000000
set_option maxRecDepth 100000
def impl_readWhole.f (k : Nat) (a0 : ByteArray) : Option (ByteArray × List ByteArray × Bool × ByteArray × Bool) := (strings_CutPrefix.f a0 (⟨#[47, 47]⟩ : ByteArray)).bind fun bt653 => (if bt653.2 = true then ((strings_IndexAny.f bt653.1 (⟨#[47, 63]⟩ : ByteArray)).bind fun t655 => (if t655 < 0 then (if 0 ≤ (bt653.1.size : Int) then (if (bt653.1.size : Int) ≤ (bt653.1.size : Int) then ((impl_smallLetters.f (bt653.1.extract 0 ((bt653.1.size : Int) : Int).toNat)).bind fun t656 => ((impl_readWay.f k t656 ([] : List ByteArray) (bt653.1.extract ((bt653.1.size : Int) : Int).toNat bt653.1.size)).bind fun bt657 => (some (bt657.1, bt657.2.1, bt657.2.2.1, bt657.2.2.2.1, bt657.2.2.2.2)))) else (none)) else (none)) else (if 0 ≤ t655 then (if t655 ≤ (bt653.1.size : Int) then ((impl_smallLetters.f (bt653.1.extract 0 (t655 : Int).toNat)).bind fun t664 => ((impl_readWay.f k t664 ([] : List ByteArray) (bt653.1.extract (t655 : Int).toNat bt653.1.size)).bind fun bt665 => (some (bt665.1, bt665.2.1, bt665.2.2.1, bt665.2.2.2.1, bt665.2.2.2.2)))) else (none)) else (none)))) else (some ((⟨#[]⟩ : ByteArray), ([] : List ByteArray), false, (⟨#[]⟩ : ByteArray), false)))
theorem impl_readWhole.mono : ∀ a0 k, LeO (impl_readWhole.f k a0) (impl_readWhole.f (k + 1) a0) := by
 intro a0 k;unfold impl_readWhole.f
 repeat' first | (with_reducible first | exact impl_readWay.mono _ _ _ _ | exact LeO.refl _ | exact LeO.none _ | refine LeO.ite ?_ ?_ | refine LeO.bind ?_ (fun _ => ?_)) | exact LeO.none _ | refine LeO.ite ?_ ?_ | refine LeO.bind ?_ (fun _ => ?_)
def impl_readWhole.T7 : Bool × List (List Nat × List Nat) := (true, [([], []), ([], []), ([0, 1], [0, 1]), ([2], [2]), ([], []), ([], []), ([4, 5], [4, 5]), ([3, 6, 3], [3, 6]), ([7], [7]), ([7], [7]), ([8, 7, 0, 1, 2, 3, 4, 5, 6, 7, 8, 9], [8]), ([9, 10, 0, 1, 2, 3, 4, 5, 6, 7, 8, 9, 10], [9])])
def impl_readWhole.B7 : List Nat := [0, 0, 3, 7, 0, 0, 48, 127, 255, 255, 1023, 2047]
theorem impl_readWhole.tab7 : rtab .any (opsOf Tryz.f32 7) = impl_readWhole.T7 := by kernel_rfl
theorem impl_readWhole.bits7 : waitsOk impl_readWhole.T7.2 impl_readWhole.B7 = true := by kernel_rfl
theorem impl_readWhole.calls (k : Nat) (a0 : ByteArray) (r1 : ByteArray) (r2 : List ByteArray) (r3 : Bool) (r4 : ByteArray) (r5 : Bool) (w : World) (h : impl_readWhole.f k a0 = some (r1, r2, r3, r4, r5)) :
  Calls Tryz.prog 32 #[.string a0] w fun e w' => ∃ v1_ : Value, e = .returned (.tuple #[.agg #[.string r1, v1_, .bool r3, .string r4], .bool r5]) ∧ Kd.R Kd.string 9 w' w.heap.size (fun _ => True) v1_ r2 ∧ Below w.heap.size w w' := by
 have hu39 := Tryz.underlying39;have HB := A_ (Below.refl w.heap.size w);unfold impl_readWhole.f at h
 have H := h;clear h;replace H := bindA H;obtain ⟨⟨t653, t654⟩, A2, H⟩ := H;try dsimp only at H
 have HF3 := A_ H;clear H;go_enter Tryz.func32, Tryz.ntmps32;go_upto_if 13 with (first | (refine boxF 2 #[.string (⟨#[]⟩ : ByteArray), .slice none 0 0, .bool false, .string (⟨#[]⟩ : ByteArray)] 39 ?_; intro gb652 hg w4 BK652 hb; have GE652 := geB hg (zz2 HB); replace HB := A_ (bS (zz2 HB) hb); clear hb hg) | ((with_reducible refine gC (f := 53) rfl ?_); refine goesL_ (some 9) rfl rfl Tryz.func53 (by kernel_rfl) rfl #[.string a0, .string (⟨#[47, 47]⟩ : ByteArray)] rfl zz187 ?_; (with_reducible refine (strings_CutPrefix.calls a0 (⟨#[47, 47]⟩ : ByteArray) t653 t654 _ A2.out).mono ?_); rintro e w' ⟨rfl, ⟨nd, rfl⟩⟩; refine ⟨_, rfl, ?_⟩))
 obtain ⟨H⟩ := HF3;replace H := iteB H;rcases H with ⟨rfl, H⟩ | ⟨rfl, H⟩
 ·replace H := Option.bind_eq_some_iff.mp H
  obtain ⟨t655, A60, H⟩ := H;replace H : (if t655 < 0 then (if 0 ≤ (t653.size : Int) then (if (t653.size : Int) ≤ (t653.size : Int) then ((impl_smallLetters.f (t653.extract 0 ((t653.size : Int) : Int).toNat)).bind fun t656 => ((impl_readWay.f k t656 ([] : List ByteArray) (t653.extract ((t653.size : Int) : Int).toNat t653.size)).bind fun bt657 => (some (bt657.1, bt657.2.1, bt657.2.2.1, bt657.2.2.2.1, bt657.2.2.2.2)))) else (none)) else (none)) else (if 0 ≤ t655 then (if t655 ≤ (t653.size : Int) then ((impl_smallLetters.f (t653.extract 0 (t655 : Int).toNat)).bind fun t664 => ((impl_readWay.f k t664 ([] : List ByteArray) (t653.extract (t655 : Int).toNat t653.size)).bind fun bt665 => (some (bt665.1, bt665.2.1, bt665.2.2.1, bt665.2.2.2.1, bt665.2.2.2.2)))) else (none)) else (none))) = some (r1, r2, r3, r4, r5) := H;have A6 := A_ A60;clear A60;have HF7 := A_ H;clear H;go_upto_if 18 with (first | ((with_reducible refine gC (f := 54) rfl ?_); refine goesL_ (some 16) rfl rfl Tryz.func54 (by kernel_rfl) rfl #[.string t653, .string (⟨#[47, 63]⟩ : ByteArray)] rfl zz187 ?_; (with_reducible refine mR (strings_IndexAny.calls t653 (⟨#[47, 63]⟩ : ByteArray) t655 _ A6.out) ?_); rintro w8 hb; replace BK652 := A_ (bB (zz3 BK652) hb); replace HB := A_ (bS (zz4 HB GE652) hb); (try clear hb)))
  obtain ⟨H⟩ := HF7;replace H := iteEd H;rcases H with ⟨c9b0, H⟩ | ⟨c9b0, H⟩
  ·(first | rw [c9b0] | (simp only [i64_w, i32_w]; rw [c9b0]) | skip)
   replace H := iteN H;obtain ⟨c10, H⟩ := H;have c10b0 := eq_true c10;have c10b1 := dT c10;clear c10;replace H := iteN H;obtain ⟨c11, H⟩ := H;have c11b0 := eq_true c11;have c11b1 := dT c11;clear c11;replace H := bindA H;obtain ⟨t656, A12, H⟩ := H;have c13b0 := eq_true (ofD : 0 ≤ (t653.size : Int));have c14b0 := eq_true (ofD : (t653.size : Int) ≤ (t653.size : Int));replace H := bindA H;obtain ⟨⟨t657, t658, t661, t662, t663⟩, A15, H⟩ := H;try dsimp only at H
   simp only [Option.some.injEq, Prod.mk.injEq] at H
   obtain ⟨rfl, rfl, rfl, rfl, rfl⟩ := H;try go_wp2
   replace BK652 := A_ (blk_drew BK652.out);replace HB := A_ (below_drew1 HB.out);refine start_ (n := 12) (S := fun w' => True) (ds := []) #[false, false, false, false, false, false, false, false, false, false, false, false] (by kernel_rfl) rfl rfl trivial (fun hHeld => ?_); refine with_tabW impl_readWhole.tab7 impl_readWhole.bits7 (fun HT_ HW_ => ?_);generalize w8.drew = w16 at BK652 HB hHeld ⊢;refine pureZ 0 (some 21) #[true, false, false, false, false, false, false, false, false, false, false, false] ?_;refine pureZ 1 (some 22) #[true, true, false, false, false, false, false, false, false, false, false, false] ?_;refine pureZ 2 (some 23) #[true, true, true, false, false, false, false, false, false, false, false, false] ?_;refine pureZ 4 (some 25) #[true, true, true, false, true, false, false, false, false, false, false, false] ?_;refine pureZ 5 (some 26) #[true, true, true, false, true, true, false, false, false, false, false, false] ?_;refine pureZ 6 (some 27) #[true, true, true, false, true, true, true, false, false, false, false, false] ?_;refine one_ (i := 3) (N := some 24) #[true, true, true, true, true, true, true, false, false, false, false, false] rfl rfl (one_of HT_.out (by kernel_rfl)) (by decide) (fun K hK => ?_);refine goes_ Tryz.func56 (by kernel_rfl) rfl #[.string (t653.extract 0 ((t653.size : Int) : Int).toNat)] (by rfl) rfl rfl zz187 ?_;with_reducible refine (impl_smallLetters.calls (t653.extract 0 ((t653.size : Int) : Int).toNat) t656 _ A12.out).mono ?_
   rintro e w17 ⟨rfl, hb⟩;refine ⟨_, rfl, ?_⟩;replace BK652 := A_ (bB (zz3 BK652) hb);replace HB := A_ (bS (zz4 HB GE652) hb);(try clear hb)
   (try clear hb2)
   (try clear hk)
   (try clear hi)
   refine hK.out _ _ trivial (fun hHeld => ?_);clear hK K;refine norm_ (a' := ?_) ?_ ?_;rotate_left
   ·show Act.put _ (some 24) _ = _
    simp only [Act.put, List.setIfInBounds_toArray, List.set_cons_zero, List.set_cons_succ, i64_w, i32_w]
    rfl
   refine one_ (i := 7) (N := some 28) #[true, true, true, true, true, true, true, true, false, false, false, false] rfl rfl (one_of HT_.out (by kernel_rfl)) (by decide) (fun K hK => ?_);refine goes_ Tryz.func55 (by kernel_rfl) rfl #[.string t656, .slice none 0 0, .string (t653.extract ((t653.size : Int) : Int).toNat t653.size)] (by rfl) rfl rfl zz187 ?_;refine (impl_readWay.calls k t656 _ _ ([] : List ByteArray) (t653.extract ((t653.size : Int) : Int).toNat t653.size) t657 t658 t661 t662 t663 _ ?side1 ?side2 A15.out).mono ?_;(case side1 => exact Kd.C_nil _ _)
   (case side2 => exact Nat.le_refl _)
   rintro e w18 ⟨v659, rfl, ho0, hb⟩;refine ⟨_, rfl, ?_⟩;have HO660 := A_ (Kd.R_lower ho0 (below_size (zz4 HB GE652)));replace BK652 := A_ (bB (zz3 BK652) hb);replace HB := A_ (bS (zz4 HB GE652) hb);(try clear hb)
   (try clear hb2)
   (try clear hk)
   (try clear hi)
   (try clear ho0)
   obtain ⟨Ao20, co20, eo20⟩ := Kd.R_slice HO660.out;(first | subst eo20 | (injection eo20 with f1_ f2_ f3_; have f4_ := f1_.symm; have f5_ := f3_.symm; clear f1_ f2_ f3_; subst f4_; subst f5_))
   refine hK.out _ _ trivial (fun hHeld => ?_);clear hK K;refine norm_ (a' := ?_) ?_ ?_;rotate_left
   ·show Act.put _ (some 28) _ = _
    simp only [Act.put, List.setIfInBounds_toArray, List.set_cons_zero, List.set_cons_succ, i64_w, i32_w]
    rfl
   refine pureZ 8 (some 29) #[true, true, true, true, true, true, true, true, true, false, false, false] ?_;refine pureZ 9 (some 30) #[true, true, true, true, true, true, true, true, true, true, false, false] ?_;refine one_ (i := 10) (N := none) #[true, true, true, true, true, true, true, true, true, true, true, false] rfl rfl (one_of HT_.out (by kernel_rfl)) (by decide) (fun K hK => ?_);have hs19 : w18.cell? ⟨gb652, 0, none⟩ = some (.string (⟨#[]⟩ : ByteArray)) := (blk_cell BK652.out 0).trans rfl;have hfs19 := blk_frozen BK652.out 0;have hs21 : w18.cell? ⟨gb652, 1, none⟩ = some (.slice none 0 0) := (blk_cell BK652.out 1).trans rfl;have hfs21 := blk_frozen BK652.out 1;have hs22 : w18.cell? ⟨gb652, 2, none⟩ = some (.bool false) := (blk_cell BK652.out 2).trans rfl;have hfs22 := blk_frozen BK652.out 2;have hs23 : w18.cell? ⟨gb652, 3, none⟩ = some (.string (⟨#[]⟩ : ByteArray)) := (blk_cell BK652.out 3).trans rfl;have hfs23 := blk_frozen BK652.out 3;refine skip_ (w1 := ?_) (by rfl) rfl ?_ ?_;rotate_left
   ·go_simp
    rfl
   refine hK.out _ _ trivial (fun hHeld => ?_);clear hK K;refine pureZ 11 (some 3) #[true, true, true, true, true, true, true, true, true, true, true, true] ?_;refine done_ (done_of HT_.out (by kernel_rfl)) ?_;try go_wp2
   refine pR (results_ct rfl _ _ gb652 39 #[.string t657, .slice Ao20 t658.length co20, .bool t661, .string t662] (0, 0) _ rfl (zz39 BK652) Tryz.underlying39 rfl (by kernel_rfl)) rfl ?_;exact ⟨_, zz11, (zz45 (rt HO660 BK652)), (zz4 HB GE652)⟩
  ·(first | rw [c9b0] | (simp only [i64_w, i32_w]; rw [c9b0]) | skip)
   replace H := iteN H;obtain ⟨c24, H⟩ := H;have c24b0 := eq_true c24;have c24b1 := dT c24;clear c24;replace H := iteN H;obtain ⟨c25, H⟩ := H;have c25b0 := eq_true c25;have c25b1 := dT c25;clear c25;replace H := bindA H;obtain ⟨t664, A26, H⟩ := H;have c27b0 := eq_true (ofD : 0 ≤ t655);have c28b0 := eq_true (ofD : t655 ≤ (t653.size : Int));replace H := bindA H;obtain ⟨⟨t665, t666, t669, t670, t671⟩, A29, H⟩ := H;try dsimp only at H
   simp only [Option.some.injEq, Prod.mk.injEq] at H
   obtain ⟨rfl, rfl, rfl, rfl, rfl⟩ := H;try go_wp2
   replace BK652 := A_ (blk_drew BK652.out);replace HB := A_ (below_drew1 HB.out);refine start_ (n := 12) (S := fun w' => True) (ds := []) #[false, false, false, false, false, false, false, false, false, false, false, false] (by kernel_rfl) rfl rfl trivial (fun hHeld => ?_); refine with_tabW impl_readWhole.tab7 impl_readWhole.bits7 (fun HT_ HW_ => ?_);generalize w8.drew = w30 at BK652 HB hHeld ⊢;refine pureZ 0 (some 21) #[true, false, false, false, false, false, false, false, false, false, false, false] ?_;refine pureZ 1 (some 22) #[true, true, false, false, false, false, false, false, false, false, false, false] ?_;refine pureZ 2 (some 23) #[true, true, true, false, false, false, false, false, false, false, false, false] ?_;refine pureZ 4 (some 25) #[true, true, true, false, true, false, false, false, false, false, false, false] ?_;refine pureZ 5 (some 26) #[true, true, true, false, true, true, false, false, false, false, false, false] ?_;refine pureZ 6 (some 27) #[true, true, true, false, true, true, true, false, false, false, false, false] ?_;refine one_ (i := 3) (N := some 24) #[true, true, true, true, true, true, true, false, false, false, false, false] rfl rfl (one_of HT_.out (by kernel_rfl)) (by decide) (fun K hK => ?_);refine goes_ Tryz.func56 (by kernel_rfl) rfl #[.string (t653.extract 0 (t655 : Int).toNat)] (by rfl) rfl rfl zz187 ?_;with_reducible refine (impl_smallLetters.calls (t653.extract 0 (t655 : Int).toNat) t664 _ A26.out).mono ?_
   rintro e w31 ⟨rfl, hb⟩;refine ⟨_, rfl, ?_⟩;replace BK652 := A_ (bB (zz3 BK652) hb);replace HB := A_ (bS (zz4 HB GE652) hb);(try clear hb)
   (try clear hb2)
   (try clear hk)
   (try clear hi)
   refine hK.out _ _ trivial (fun hHeld => ?_);clear hK K;refine norm_ (a' := ?_) ?_ ?_;rotate_left
   ·show Act.put _ (some 24) _ = _
    simp only [Act.put, List.setIfInBounds_toArray, List.set_cons_zero, List.set_cons_succ, i64_w, i32_w]
    rfl
   refine one_ (i := 7) (N := some 28) #[true, true, true, true, true, true, true, true, false, false, false, false] rfl rfl (one_of HT_.out (by kernel_rfl)) (by decide) (fun K hK => ?_);refine goes_ Tryz.func55 (by kernel_rfl) rfl #[.string t664, .slice none 0 0, .string (t653.extract (t655 : Int).toNat t653.size)] (by rfl) rfl rfl zz187 ?_;refine (impl_readWay.calls k t664 _ _ ([] : List ByteArray) (t653.extract (t655 : Int).toNat t653.size) t665 t666 t669 t670 t671 _ ?side1 ?side2 A29.out).mono ?_;(case side1 => exact Kd.C_nil _ _)
   (case side2 => exact Nat.le_refl _)
   rintro e w32 ⟨v667, rfl, ho0, hb⟩;refine ⟨_, rfl, ?_⟩;have HO668 := A_ (Kd.R_lower ho0 (below_size (zz4 HB GE652)));replace BK652 := A_ (bB (zz3 BK652) hb);replace HB := A_ (bS (zz4 HB GE652) hb);(try clear hb)
   (try clear hb2)
   (try clear hk)
   (try clear hi)
   (try clear ho0)
   obtain ⟨Ao34, co34, eo34⟩ := Kd.R_slice HO668.out;(first | subst eo34 | (injection eo34 with f1_ f2_ f3_; have f4_ := f1_.symm; have f5_ := f3_.symm; clear f1_ f2_ f3_; subst f4_; subst f5_))
   refine hK.out _ _ trivial (fun hHeld => ?_);clear hK K;refine norm_ (a' := ?_) ?_ ?_;rotate_left
   ·show Act.put _ (some 28) _ = _
    simp only [Act.put, List.setIfInBounds_toArray, List.set_cons_zero, List.set_cons_succ, i64_w, i32_w]
    rfl
   refine pureZ 8 (some 29) #[true, true, true, true, true, true, true, true, true, false, false, false] ?_;refine pureZ 9 (some 30) #[true, true, true, true, true, true, true, true, true, true, false, false] ?_;refine one_ (i := 10) (N := none) #[true, true, true, true, true, true, true, true, true, true, true, false] rfl rfl (one_of HT_.out (by kernel_rfl)) (by decide) (fun K hK => ?_);have hs33 : w32.cell? ⟨gb652, 0, none⟩ = some (.string (⟨#[]⟩ : ByteArray)) := (blk_cell BK652.out 0).trans rfl;have hfs33 := blk_frozen BK652.out 0;have hs35 : w32.cell? ⟨gb652, 1, none⟩ = some (.slice none 0 0) := (blk_cell BK652.out 1).trans rfl;have hfs35 := blk_frozen BK652.out 1;have hs36 : w32.cell? ⟨gb652, 2, none⟩ = some (.bool false) := (blk_cell BK652.out 2).trans rfl;have hfs36 := blk_frozen BK652.out 2;have hs37 : w32.cell? ⟨gb652, 3, none⟩ = some (.string (⟨#[]⟩ : ByteArray)) := (blk_cell BK652.out 3).trans rfl;have hfs37 := blk_frozen BK652.out 3;refine skip_ (w1 := ?_) (by rfl) rfl ?_ ?_;rotate_left
   ·go_simp
    rfl
   refine hK.out _ _ trivial (fun hHeld => ?_);clear hK K;refine pureZ 11 (some 3) #[true, true, true, true, true, true, true, true, true, true, true, true] ?_;refine done_ (done_of HT_.out (by kernel_rfl)) ?_;try go_wp2
   refine pR (results_ct rfl _ _ gb652 39 #[.string t665, .slice Ao34 t666.length co34, .bool t669, .string t670] (0, 0) _ rfl (zz39 BK652) Tryz.underlying39 rfl (by kernel_rfl)) rfl ?_;exact ⟨_, zz11, (zz45 (rt HO668 BK652)), (zz4 HB GE652)⟩
 ·simp only [Option.some.injEq, Prod.mk.injEq] at H
  obtain ⟨rfl, rfl, rfl, rfl, rfl⟩ := H;obtain ⟨_, _, _, _, _, _, _, _⟩ := cf4 BK652;go_wp2
  refine pR (results_ct rfl _ _ gb652 39 #[.string (⟨#[]⟩ : ByteArray), .slice none 0 0, .bool false, .string (⟨#[]⟩ : ByteArray)] (0, 0) _ rfl (zz39 BK652) Tryz.underlying39 rfl (by kernel_rfl)) rfl ?_;exact ⟨_, zz11, zz41, (zz4 HB GE652)⟩
def impl_AddrRead.f (k : Nat) (a0 : ByteArray) : Option (ByteArray × List ByteArray × Bool × ByteArray × Bool) := if (a0.size : Int) > 60 then (some ((⟨#[]⟩ : ByteArray), ([] : List ByteArray), false, (⟨#[]⟩ : ByteArray), false)) else ((strings_Cut.f a0 (⟨#[35]⟩ : ByteArray)).bind fun bt673 => ((impl_readWhole.f k bt673.1).bind fun bt676 => (some (bt676.1, bt676.2.1, bt676.2.2.1, bt676.2.2.2.1, bt676.2.2.2.2))))
theorem impl_AddrRead.mono : ∀ a0 k, LeO (impl_AddrRead.f k a0) (impl_AddrRead.f (k + 1) a0) := by
 intro a0 k;unfold impl_AddrRead.f
 repeat' first | (with_reducible first | exact impl_readWhole.mono _ _ | exact LeO.refl _ | exact LeO.none _ | refine LeO.ite ?_ ?_ | refine LeO.bind ?_ (fun _ => ?_)) | exact LeO.none _ | refine LeO.ite ?_ ?_ | refine LeO.bind ?_ (fun _ => ?_)
theorem impl_AddrRead.calls (k : Nat) (a0 : ByteArray) (r1 : ByteArray) (r2 : List ByteArray) (r3 : Bool) (r4 : ByteArray) (r5 : Bool) (w : World) (h : impl_AddrRead.f k a0 = some (r1, r2, r3, r4, r5)) :
  Calls Tryz.prog 15 #[.string a0] w fun e w' => ∃ v1_ : Value, e = .returned (.tuple #[.agg #[.string r1, v1_, .bool r3, .string r4], .bool r5]) ∧ Kd.R Kd.string 9 w' w.heap.size (fun _ => True) v1_ r2 ∧ Below w.heap.size w w' := by
 have hu39 := Tryz.underlying39;have HB := A_ (Below.refl w.heap.size w);unfold impl_AddrRead.f at h
 have H := h;clear h;have HF2 := A_ H;clear H;go_enter Tryz.func15, Tryz.ntmps15;go_upto_if 9 with (first | (refine boxF 2 #[.string (⟨#[]⟩ : ByteArray), .slice none 0 0, .bool false, .string (⟨#[]⟩ : ByteArray)] 39 ?_; intro gb672 hg w3 BK672 hb; have GE672 := geB hg (zz2 HB); replace HB := A_ (bS (zz2 HB) hb); clear hb hg))
 obtain ⟨H⟩ := HF2;replace H := iteE H;rcases H with ⟨c4, H⟩ | ⟨c4, H⟩
 ·have c4b0 := gtT c4
  have c4b1 : decide (60 < a0.size) = true := dT (by omega);clear c4;(first | rw [c4b0] | (simp only [i64_w, i32_w]; rw [c4b0]) | skip)
  simp only [Option.some.injEq, Prod.mk.injEq] at H
  obtain ⟨rfl, rfl, rfl, rfl, rfl⟩ := H;obtain ⟨_, _, _, _, _, _, _, _⟩ := cf4 BK672;go_wp2
  refine pR (results_ct rfl _ _ gb672 39 #[.string (⟨#[]⟩ : ByteArray), .slice none 0 0, .bool false, .string (⟨#[]⟩ : ByteArray)] (0, 0) _ rfl (zz39 BK672) Tryz.underlying39 rfl (by kernel_rfl)) rfl ?_;exact ⟨_, zz11, zz41, (zz4 HB GE672)⟩
 ·have c4b0 := gtF c4
  have c4b1 : decide (60 < a0.size) = false := dF (by omega);clear c4;(first | rw [c4b0] | (simp only [i64_w, i32_w]; rw [c4b0]) | skip)
  replace H := bindA H;obtain ⟨⟨t673, t674, t675⟩, A6, H⟩ := H;try dsimp only at H
  replace H := bindA H;obtain ⟨⟨t676, t677, t680, t681, t682⟩, A7, H⟩ := H;try dsimp only at H
  simp only [Option.some.injEq, Prod.mk.injEq] at H
  obtain ⟨rfl, rfl, rfl, rfl, rfl⟩ := H;go_wp2_with (first | (refine gR 31 (some 13) Tryz.func31 (strings_Cut.calls a0 (⟨#[35]⟩ : ByteArray) t673 t674 t675 _ A6.out) ?_; rintro w8 hb; replace BK672 := A_ (bB (zz3 BK672) hb); replace HB := A_ (bS (zz4 HB GE672) hb); (try clear hb)) | (refine gV 32 (some 18) Tryz.func32 (impl_readWhole.calls k t673 t676 t677 t680 t681 t682 _ A7.out) ?_; rintro v678 w9 ⟨ho0, hb⟩; have HO679 := A_ (Kd.R_lower ho0 (below_size (zz4 HB GE672))); replace BK672 := A_ (bB (zz3 BK672) hb); replace HB := A_ (bS (zz4 HB GE672) hb); (try clear hb ho0); obtain ⟨_, _, _, _, _, _, _, _⟩ := cf4 BK672; obtain ⟨Ao11, co11, eo11⟩ := Kd.R_slice HO679.out; subst eo11))
  refine pR (results_ct rfl _ _ gb672 39 #[.string t676, .slice Ao11 t677.length co11, .bool t680, .string t681] (0, 0) _ rfl (zz39 BK672) Tryz.underlying39 rfl (by kernel_rfl)) rfl ?_;exact ⟨_, zz11, (zz45 (rt HO679 BK672)), (zz4 HB GE672)⟩
def impl_readAddress.f (k : Nat) (a0 : ByteArray) : Option (ByteArray × List ByteArray × Bool × ByteArray × Bool) := (impl_AddrRead.f k a0).bind fun bt684 => (if bt684.2.2.2.2 = true then ((impl_writeAddr.f bt684.1 bt684.2.1 bt684.2.2.1 bt684.2.2.2.1).bind fun t692 => (if t692.toList = a0.toList then (some (bt684.1, bt684.2.1, bt684.2.2.1, bt684.2.2.2.1, true)) else (some ((⟨#[]⟩ : ByteArray), ([] : List ByteArray), false, (⟨#[]⟩ : ByteArray), false)))) else (some ((⟨#[]⟩ : ByteArray), ([] : List ByteArray), false, (⟨#[]⟩ : ByteArray), false)))
theorem impl_readAddress.mono : ∀ a0 k, LeO (impl_readAddress.f k a0) (impl_readAddress.f (k + 1) a0) := by
 intro a0 k;unfold impl_readAddress.f
 repeat' first | (with_reducible first | exact impl_AddrRead.mono _ _ | exact LeO.refl _ | exact LeO.none _ | refine LeO.ite ?_ ?_ | refine LeO.bind ?_ (fun _ => ?_)) | exact LeO.none _ | refine LeO.ite ?_ ?_ | refine LeO.bind ?_ (fun _ => ?_)
theorem impl_readAddress.calls (k : Nat) (a0 : ByteArray) (r1 : ByteArray) (r2 : List ByteArray) (r3 : Bool) (r4 : ByteArray) (r5 : Bool) (w : World) (h : impl_readAddress.f k a0 = some (r1, r2, r3, r4, r5)) :
  Calls Tryz.prog 48 #[.string a0] w fun e w' => ∃ v1_ : Value, e = .returned (.tuple #[.agg #[.string r1, v1_, .bool r3, .string r4], .bool r5]) ∧ Kd.R Kd.string 9 w' w.heap.size (fun _ => True) v1_ r2 ∧ Below w.heap.size w w' := by
 have hu39 := Tryz.underlying39;have HB := A_ (Below.refl w.heap.size w);unfold impl_readAddress.f at h
 have H := h;clear h;replace H := bindA H;obtain ⟨⟨t684, t685, t688, t689, t690⟩, A2, H⟩ := H;try dsimp only at H
 have HF3 := A_ H;clear H;go_enter Tryz.func48, Tryz.ntmps48;go_wp2_with (first | (refine boxF 2 #[.string (⟨#[]⟩ : ByteArray), .slice none 0 0, .bool false, .string (⟨#[]⟩ : ByteArray)] 39 ?_; intro gb683 hg w4 BK683 hb; have GE683 := geB hg (zz2 HB); replace HB := A_ (bS (zz2 HB) hb); clear hb hg) | (refine gV 15 (some 8) Tryz.func15 (impl_AddrRead.calls k a0 t684 t685 t688 t689 t690 _ A2.out) ?_; rintro v686 w5 ⟨ho0, hb⟩; have HO687 := A_ (Kd.R_lower ho0 (below_size (zz4 HB GE683))); replace BK683 := A_ (bB (zz3 BK683) hb); replace HB := A_ (bS (zz4 HB GE683) hb); (try clear hb ho0)) | (refine boxF 4 #[.string (⟨#[]⟩ : ByteArray), .slice none 0 0, .bool false, .string (⟨#[]⟩ : ByteArray)] 39 ?_; intro gb691 hg w6 BK691 hb; replace HO687 := A_ (rB (zz18 HO687) hb); have GE691 := geB hg (zz4 HB GE683); replace HB := A_ (bS (zz4 HB GE683) hb); have NB683_691 := A_ ((by rw [hg]; exact Nat.ne_of_lt (blk_lt (zz3 BK683)) : gb683 ≠ gb691)); have NB691_683 := A_ ((by rw [hg]; exact Nat.ne_of_gt (blk_lt (zz3 BK683)) : gb691 ≠ gb683)); replace BK683 := A_ (bB (zz3 BK683) hb); clear hb hg; have hnb7 := NB691_683.out; have hnc7 := NB683_691.out; obtain ⟨_, _, _, _, _, _, _, _⟩ := cf4 BK691; obtain ⟨Ao9, co9, eo9⟩ := Kd.R_slice HO687.out; subst eo9) | ((with_reducible refine gate_store (t := 39) (p := 4) rfl ?_); refine store_event (t := 39) (p := 4) (v := ?vo_w10) (w1 := ((((w6.setCell ⟨gb691, 0, none⟩ (.string t684)).setCell ⟨gb691, 1, none⟩ (.slice Ao9 t685.length co9)).setCell ⟨gb691, 2, none⟩ (.bool t688)).setCell ⟨gb691, 3, none⟩ (.string t689))) ?hg ?ho ?hn ?hr ?_; (case ho => rfl); (case hg => rfl); (case hn => rfl); (case hr => exact zz16); intro w10 hw; have n0_ : Aside0 (Kd.R Kd.string 9 w10 w.heap.size (fun _ => True) (.slice Ao9 t685.length co9) t685) := ⟨(by rw [hw]; exact (zz45 (rt HO687 BK691)))⟩; have n1_ : Aside0 (w10.heap[gb683]? = some (.cells #[.string (⟨#[]⟩ : ByteArray), .slice none 0 0, .bool false, .string (⟨#[]⟩ : ByteArray)] 39 (0, 0))) := ⟨(by rw [hw]; exact (zz119 BK683 NB683_691))⟩; have n2_ : Aside0 (w10.heap[gb691]? = some (.cells #[.string t684, .slice Ao9 t685.length co9, .bool t688, .string t689] 39 (0, 0))) := ⟨(by rw [hw]; exact (zz39 BK691))⟩; have n3_ : Aside0 (Below w.heap.size w w10) := ⟨(by rw [hw]; exact (zz150 HB GE683 GE691))⟩; clear hw; clear HO687; clear BK683; clear BK691; clear HB; have HO687 := n0_; have BK683 := n1_; have BK691 := n2_; have HB := n3_; clear n0_ n1_ n2_ n3_) | ((with_reducible refine atG ?_ ?_ fun K_ hK_ => ?_); rfl; exact undecG) | ((with_reducible refine atI ?_ fun K_ hK_ => ?_); exact undecI))
 refine unG hK_ ?_; clear hK_ K_;obtain ⟨H⟩ := HF3;replace H := iteB H;rcases H with ⟨rfl, H⟩ | ⟨rfl, H⟩
 ·(first | refine iteT ?_ | refine iteF ?_ | skip)
  replace H := bindA H;obtain ⟨t692, A12, H⟩ := H;have HF13 := A_ H;clear H;have hnb14 := NB691_683.out;have hnc14 := NB683_691.out;obtain ⟨_, _, _, _, _, _, _, _⟩ := cf4 BK691;(try ((with_reducible refine upS ?_); go_simp))
  go_upto_if 18 with (first | (go_at_call 38; (with_reducible refine (impl_writeAddr.calls t684 _ _ t685 t688 t689 t692 _ ?side1 ?side2 A12.out).mono ?_); (case side1 => exact (zz43 HO687)); (case side2 => exact (Kd.R_reads' HO687.out).2.1); rintro e w16 ⟨rfl, hb⟩; replace HO687 := A_ (rB (zz18 HO687) hb); replace BK683 := A_ (bB (zz3 BK683) hb); replace BK691 := A_ (bB (zz3 BK691) hb); replace HB := A_ (bS (zz150 HB GE683 GE691) hb); (try clear hb)))
  obtain ⟨H⟩ := HF13;replace H := iteEq H;rcases H with ⟨c17b0, c17b1, H⟩ | ⟨c17b0, c17b1, c17, H⟩
  ·(first | rw [c17b0] | (simp only [i64_w, i32_w]; rw [c17b0]) | skip)
   simp only [Option.some.injEq, Prod.mk.injEq] at H
   obtain ⟨rfl, rfl, rfl, rfl, rfl⟩ := H;have hnb18 := NB691_683.out;have hnc18 := NB683_691.out;obtain ⟨_, _, _, _, _, _, _, _⟩ := cf4 BK691;obtain ⟨_, _, _, _, _, _, _, _⟩ := cf4 BK683;go_wp2
   refine pR (results_ct rfl _ _ gb683 39 #[.string t684, .slice Ao9 t685.length co9, .bool t688, .string t689] (0, 0) _ rfl (zz39 BK683) Tryz.underlying39 rfl (by kernel_rfl)) rfl ?_;exact ⟨_, zz11, (zz45 (rt HO687 BK683)), (zz150 HB GE683 GE691)⟩
  ·(first | rw [c17b0] | (simp only [i64_w, i32_w]; rw [c17b0]) | skip)
   simp only [Option.some.injEq, Prod.mk.injEq] at H
   obtain ⟨rfl, rfl, rfl, rfl, rfl⟩ := H;have hnb21 := NB683_691.out;have hnc21 := NB691_683.out;obtain ⟨_, _, _, _, _, _, _, _⟩ := cf4 BK683;go_wp2
   refine pR (results_ct rfl _ _ gb683 39 #[.string (⟨#[]⟩ : ByteArray), .slice none 0 0, .bool false, .string (⟨#[]⟩ : ByteArray)] (0, 0) _ rfl (zz39 BK683) Tryz.underlying39 rfl (by kernel_rfl)) rfl ?_;exact ⟨_, zz11, zz41, (zz150 HB GE683 GE691)⟩
 ·(first | refine iteT ?_ | refine iteF ?_ | skip)
  simp only [Option.some.injEq, Prod.mk.injEq] at H
  obtain ⟨rfl, rfl, rfl, rfl, rfl⟩ := H;have hnb23 := NB683_691.out;have hnc23 := NB691_683.out;obtain ⟨_, _, _, _, _, _, _, _⟩ := cf4 BK683;(try ((with_reducible refine upS ?_); go_simp))
  go_wp2
  refine pR (results_ct rfl _ _ gb683 39 #[.string (⟨#[]⟩ : ByteArray), .slice none 0 0, .bool false, .string (⟨#[]⟩ : ByteArray)] (0, 0) _ rfl (zz39 BK683) Tryz.underlying39 rfl (by kernel_rfl)) rfl ?_;exact ⟨_, zz11, zz41, (zz150 HB GE683 GE691)⟩
def impl_isAddress.f (k : Nat) (a0 : ByteArray) : Option (Bool) := (impl_readAddress.f k a0).bind fun bt693 => (some bt693.2.2.2.2)
theorem impl_isAddress.mono : ∀ a0 k, LeO (impl_isAddress.f k a0) (impl_isAddress.f (k + 1) a0) := by
 intro a0 k;unfold impl_isAddress.f
 repeat' first | (with_reducible first | exact impl_readAddress.mono _ _ | exact LeO.refl _ | exact LeO.none _ | refine LeO.ite ?_ ?_ | refine LeO.bind ?_ (fun _ => ?_)) | exact LeO.none _ | refine LeO.ite ?_ ?_ | refine LeO.bind ?_ (fun _ => ?_)
theorem impl_isAddress.calls (k : Nat) (a0 : ByteArray) (r : Bool) (w : World) (h : impl_isAddress.f k a0 = some r) :
  Calls Tryz.prog 69 #[.string a0] w fun e w' => e = .returned (.bool r) ∧ Below w.heap.size w w' := by
 have hu39 := Tryz.underlying39;have HB := A_ (Below.refl w.heap.size w);unfold impl_isAddress.f at h
 have H := h;clear h;replace H := bindA H;obtain ⟨⟨t693, t694, t697, t698, t699⟩, A2, H⟩ := H;try dsimp only at H
 obtain rfl := sI H;go_enter Tryz.func69, Tryz.ntmps69;go_wp2_with (first | (refine gV 48 (some 7) Tryz.func48 (impl_readAddress.calls k a0 t693 t694 t697 t698 t699 _ A2.out) ?_; rintro v695 w3 ⟨ho0, hb⟩; have HO696 := A_ (Kd.R_lower ho0 (below_size (zz2 HB))); replace HB := A_ (bS (zz2 HB) hb); (try clear hb ho0)) | (refine boxF 3 #[.string (⟨#[]⟩ : ByteArray), .slice none 0 0, .bool false, .string (⟨#[]⟩ : ByteArray)] 39 ?_; intro gb700 hg w4 BK700 hb; replace HO696 := A_ (rB (zz18 HO696) hb); have GE700 := geB hg (zz2 HB); replace HB := A_ (bS (zz2 HB) hb); clear hb hg; obtain ⟨_, _, _, _, _, _, _, _⟩ := cf4 BK700; obtain ⟨Ao6, co6, eo6⟩ := Kd.R_slice HO696.out; subst eo6))
 go_ret
 exact ⟨zz11, (zz4 HB GE700)⟩
def impl_pageOk.f (k : Nat) (a0_0 : ByteArray) (a0_1 : ByteArray) (a0_2 : ByteArray) (a0_3 : Int) : Option (Bool) := (impl_isAddress.f k a0_0).bind fun t702 => (if t702 = true then (if (a0_1.size : Int) > 300 then (some false) else (if a0_3 < 0 then (some false) else (if a0_3 > 9 then (some false) else (if a0_2.toList = ([] : List UInt8) then (some true) else ((impl_isAddress.f k a0_2).bind fun t703 => (if t703 = true then (some (a0_1.toList == ([] : List UInt8))) else (some false))))))) else (some false))
theorem impl_pageOk.mono : ∀ a0 a1 a2 a3 k, LeO (impl_pageOk.f k a0 a1 a2 a3) (impl_pageOk.f (k + 1) a0 a1 a2 a3) := by
 intro a0 a1 a2 a3 k;unfold impl_pageOk.f
 repeat' first | (with_reducible first | exact impl_isAddress.mono _ _ | exact LeO.refl _ | exact LeO.none _ | refine LeO.ite ?_ ?_ | refine LeO.bind ?_ (fun _ => ?_)) | exact LeO.none _ | refine LeO.ite ?_ ?_ | refine LeO.bind ?_ (fun _ => ?_)
theorem impl_pageOk.calls (k : Nat) (a0_0 : ByteArray) (a0_1 : ByteArray) (a0_2 : ByteArray) (a0_3 : Int) (r : Bool) (w : World) (h : impl_pageOk.f k a0_0 a0_1 a0_2 a0_3 = some r) :
  Calls Tryz.prog 45 #[.agg #[.string a0_0, .string a0_1, .string a0_2, .int .i64 a0_3]] w fun e w' => e = .returned (.bool r) ∧ Below w.heap.size w w' := by
 have hu30 := Tryz.underlying30;have HB := A_ (Below.refl w.heap.size w);unfold impl_pageOk.f at h
 have H := h;clear h;replace H := bindA H;obtain ⟨t702, A2, H⟩ := H;have HF3 := A_ H;clear H;go_enter Tryz.func45, Tryz.ntmps45;go_wp2_with (first | ((with_reducible refine gD (N := 1) rfl ?_); (try (refine gate_guard (by rfl) ?_; dsimp only)); refine boxE 1 #[.string a0_0, .string a0_1, .string a0_2, .int .i64 a0_3] 30 ?_; intro gb701 hg w4 hbox hb; have BK701 := A_ (hbox); have GE701 := geB hg (zz2 HB); replace HB := A_ (bS (zz2 HB) hb); clear hb hbox hg; obtain ⟨_, _, _, _, _, _, _, _⟩ := cf4 BK701) | (refine gR 69 (some 5) Tryz.func69 (impl_isAddress.calls k a0_0 t702 _ A2.out) ?_; rintro w6 hb; replace BK701 := A_ (bB (zz3 BK701) hb); replace HB := A_ (bS (zz4 HB GE701) hb); (try clear hb)) | ((with_reducible refine atG ?_ ?_ fun K_ hK_ => ?_); rfl; exact undecG) | ((with_reducible refine atI ?_ fun K_ hK_ => ?_); exact undecI))
 refine unG hK_ ?_; clear hK_ K_;obtain ⟨H⟩ := HF3;replace H := iteB H;rcases H with ⟨rfl, H⟩ | ⟨rfl, H⟩
 ·(first | refine iteT ?_ | refine iteF ?_ | skip)
  replace H := iteE H;rcases H with ⟨c8, H⟩ | ⟨c8, H⟩
  ·have c8b0 := gtT c8
   have c8b1 : decide (300 < a0_1.size) = true := dT (by omega);clear c8;obtain rfl := sI H;obtain ⟨_, _, _, _, _, _, _, _⟩ := cf4 BK701;go_wp2
   go_ret
   exact ⟨zz11, (zz4 HB GE701)⟩
  ·have c8b0 := gtF c8
   have c8b1 : decide (300 < a0_1.size) = false := dF (by omega);clear c8;replace H := iteEd H;rcases H with ⟨c10b0, H⟩ | ⟨c10b0, H⟩
   ·obtain rfl := sI H
    obtain ⟨_, _, _, _, _, _, _, _⟩ := cf4 BK701;go_wp2
    go_ret
    exact ⟨zz11, (zz4 HB GE701)⟩
   ·replace H := iteEg H
    rcases H with ⟨c12b0, H⟩ | ⟨c12b0, H⟩
    ·obtain rfl := sI H
     obtain ⟨_, _, _, _, _, _, _, _⟩ := cf4 BK701;go_wp2
     go_ret
     exact ⟨zz11, (zz4 HB GE701)⟩
    ·replace H := iteEq H
     rcases H with ⟨c14b0, c14b1, H⟩ | ⟨c14b0, c14b1, c14, H⟩
     ·obtain rfl := sI H
      obtain ⟨_, _, _, _, _, _, _, _⟩ := cf4 BK701;go_wp2
      go_ret
      exact ⟨zz11, (zz4 HB GE701)⟩
     ·replace H := Option.bind_eq_some_iff.mp H
      obtain ⟨t703, A160, H⟩ := H;replace H : (if t703 = true then (some (a0_1.toList == ([] : List UInt8))) else (some false)) = some r := H;have A16 := A_ A160;clear A160;have HF17 := A_ H;clear H;obtain ⟨_, _, _, _, _, _, _, _⟩ := cf4 BK701;go_wp2_with (first | (go_at_call 69; (with_reducible refine (impl_isAddress.calls k a0_2 t703 _ A16.out).mono ?_); rintro e w19 ⟨rfl, hb⟩; replace BK701 := A_ (bB (zz3 BK701) hb); replace HB := A_ (bS (zz4 HB GE701) hb); (try clear hb)) | ((with_reducible refine atG ?_ ?_ fun K_ hK_ => ?_); rfl; exact undecG) | ((with_reducible refine atI ?_ fun K_ hK_ => ?_); exact undecI))
      refine unG hK_ ?_; clear hK_ K_;obtain ⟨H⟩ := HF17;replace H := iteB H;rcases H with ⟨rfl, H⟩ | ⟨rfl, H⟩
      ·(first | refine iteT ?_ | refine iteF ?_ | skip)
       obtain rfl := sI H;obtain ⟨_, _, _, _, _, _, _, _⟩ := cf4 BK701;(try ((with_reducible refine upS ?_); go_simp))
       go_wp2
       go_ret
       exact ⟨zz11, (zz4 HB GE701)⟩
      ·(first | refine iteT ?_ | refine iteF ?_ | skip)
       obtain rfl := sI H;(try ((with_reducible refine upS ?_); go_simp))
       go_wp2
       go_ret
       exact ⟨zz11, (zz4 HB GE701)⟩
 ·(first | refine iteT ?_ | refine iteF ?_ | skip)
  obtain rfl := sI H;(try ((with_reducible refine upS ?_); go_simp))
  go_wp2
  go_ret
  exact ⟨zz11, (zz4 HB GE701)⟩
end Go.Proofs.YtpomhjkbgbociaaGreatDoor.P
end
section
namespace Go.Proofs.YtpomhjkbgbociaaGreatDoor.P
open Go.RowKit Go.Proofs.YtpomhjkbgbociaaGreatDoorW.PrintWords Go.Proofs.YtpomhjkbgbociaaGreatDoorW.PrintLast Go.Proofs.YtpomhjkbgbociaaGreatDoorW.PrintMore Go.Maps Go.ChangeMaps
set_option linter.unusedVariables false
set_option linter.unusedSimpArgs false
def pageD (p : S30) : DataW Unit := .agg [.lit (.string p.f0.data.toList), .lit (.string p.f1.data.toList), .lit (.string p.f2.data.toList), .lit (.int .i64 p.f3)]
def pageV (p : S30) : Value := .agg #[.string p.f0, .string p.f1, .string p.f2, .int .i64 p.f3]
def pageR (v : Value) : Option (DataW Unit × List MemPlace) :=
 match v with
 | .agg ⟨[.string a, .string b, .string c, .int .i64 d]⟩ => some (pageD ⟨a, b, c, d⟩, [])
 | _ => none
theorem pageR_mk (p : S30) : pageR (pageV p) = some (pageD p, []) := rfl
theorem pageR_inv {v : Value} {z : DataW Unit × List MemPlace} (h : pageR v = some z) : ∃ p, v = pageV p ∧ z = (pageD p, []) := by
 unfold pageR at h
 split at h
 ·exact ⟨⟨_, _, _, _⟩, rfl, (Option.some.inj h).symm⟩
 ·cases h
theorem pageD_inj {p q : S30} (h : pageD p = pageD q) : p = q := by
 obtain ⟨⟨⟨p0⟩⟩, ⟨⟨p1⟩⟩, ⟨⟨p2⟩⟩, p3⟩ := p
 obtain ⟨⟨⟨q0⟩⟩, ⟨⟨q1⟩⟩, ⟨⟨q2⟩⟩, q3⟩ := q
 simp [pageD] at h
 obtain ⟨rfl, rfl, rfl, rfl⟩ := h
 rfl
def keyL (s : ByteArray) : Lit := .string s.data.toList
def mapR : List S30 → DataW Unit
 | [] => .map []
 | p :: r => (mapR r).put (keyL p.f0) (pageD p)
def mapD (l : List S30) : DataW Unit := mapR l.reverse
theorem mapD_snoc (l : List S30) (p : S30) : mapD (l ++ [p]) = (mapD l).put (keyL p.f0) (pageD p) := by simp [mapD, mapR]
theorem keyL_lit (a : ByteArray) : WideAt.IsKeyLit (keyL a) := trivial
theorem keyL_inj {a b : ByteArray} (h : keyL a = keyL b) : a = b := by
 obtain ⟨⟨a⟩⟩ := a
 obtain ⟨⟨b⟩⟩ := b
 simp [keyL] at h
 rw [h]
theorem mapR_is : ∀ l, IsMap (mapR l)
 | [] => isMap_empty
 | p :: r => (mapR_is r).put _ _
theorem mapR_tidy : ∀ l, Tidy (mapR l)
 | [] => tidy_empty
 | p :: r => (mapR_tidy r).put (keyL_lit _) _
def pageAtR (a : ByteArray) : List S30 → Option S30
 | [] => none
 | p :: r => if p.f0 = a then some p else pageAtR a r
theorem mapR_at (a : ByteArray) : ∀ l, (mapR l).atKey (keyL a) (pageD z30) = pageD ((pageAtR a l).getD z30)
 | [] => rfl
 | p :: r => by
  unfold mapR pageAtR
  by_cases h : p.f0 = a
  ·rw [if_pos h, ← h, atKey_put_same (mapR_is r) (keyL_lit _)]; rfl
  ·rw [if_neg h, atKey_put_other (fun e => h (keyL_inj e).symm)]
   exact mapR_at a r
theorem mapR_has (a : ByteArray) : ∀ l, has (mapR l) (keyL a) = (pageAtR a l).isSome
 | [] => rfl
 | p :: r => by
  unfold mapR pageAtR
  by_cases h : p.f0 = a
  ·rw [if_pos h, ← h, has_put_same (mapR_is r) (keyL_lit _)]; rfl
  ·rw [if_neg h, has_put_other (fun e => h (keyL_inj e).symm)]
   exact mapR_has a r
theorem mapR_size (p : S30) (r : List S30) : size (mapR (p :: r)) = if (pageAtR p.f0 r).isSome then size (mapR r) else size (mapR r) + 1 := by
 show size ((mapR r).put _ _) = _
 rw [size_put (mapR_tidy r), mapR_has]
def getF (l : List S30) (a : ByteArray) (t : Int) : Int × ByteArray :=
 match pageAtR a l.reverse with
 | none => (0, ⟨#[]⟩)
 | some p => if t < 0 then (0, ⟨#[]⟩) else if t < p.f3 then (3, ⟨#[]⟩) else if p.f2.toList = ([] : List UInt8) then (1, p.f1) else (2, p.f2)
def pagesOk (k : Nat) : List S30 → Option Bool
 | [] => some true
 | p :: r => if p.f0.size ≤ 9223372036854775807 then (impl_pageOk.f k p.f0 p.f1 p.f2 p.f3).bind fun t => if t = true then pagesOk k r else some false else none
theorem map_below {w w' : World} {P : Program} {k : TypeId} {R : Value → Option (DataW Unit × List MemPlace)} {b n : Nat} {D : DataW Unit} (h : w.ownsMap P k R b n D) (hb : Below w.heap.size w w') : w'.ownsMap P k R b n D := by
 have hlt := h.lt
 obtain ⟨es, clock, h1, F, h2, h3⟩ := h
 exact ⟨es, clock, (hb.block b hlt).trans h1, F, h2, h3⟩
theorem grown_below {w W W' : World} (h : Below w.heap.size w W) (g : W.grownBy W' (some w.heap.size)) : Below w.heap.size w W' :=
 ⟨g.os.trans h.os, g.tape.trans h.tape, g.output.trans h.output, Nat.le_trans h.size g.size, fun i hi => (g.block i (Nat.lt_of_lt_of_le hi h.size) (by intro e; injection e with e; omega)).trans (h.block i hi)⟩
abbrev Pages (w : World) (b n : Nat) (D : DataW Unit) : Prop := w.ownsMap Tryz.prog 9 pageR b n D
set_option maxHeartbeats 8000000 in
set_option maxRecDepth 100000 in
theorem worldOf_walk (k : Nat) (A0 : Option Addr) (c0 : Nat) (l0 : List S30) (r : Bool) (w : World) (hr0 : Kd.C k30 w A0 l0.length l0) (hc0 : l0.length ≤ c0) (h12 : l0.length ≤ 12) (h : pagesOk k l0 = some r) :
  Calls Tryz.prog 24 #[.slice A0 l0.length c0] w fun e w' => Below w.heap.size w w' ∧
   (r = false → e = .returned (.tuple #[.map none, .bool false])) ∧ (r = true → ∃ b, w.heap.size ≤ b ∧ Pages w' b l0.length (mapD l0) ∧ e = .returned (.tuple #[.map (some b), .bool ((Maps.size (mapD l0) : Int) == (l0.length : Int))])) := by
 have hu := Tryz.underlying30
 have hle : decide ((12 : Int) < (l0.length : Int)) = false := decide_eq_false (by omega)
 have hmm := @run_makeMap Tryz.prog
 have H0 := Aside0.mk h
 clear h
 go_enter Tryz.func24, Tryz.ntmps24
 go_wp2
 go_loopg [13] l0.length (fun g v wx => ∃ i : Nat, v = .int .i64 i ∧ i + g = l0.length ∧ Aside0 (pagesOk k (l0.drop i) = some r) ∧ Aside0 (Pages wx w.heap.size i (mapD (l0.take i))) ∧ Aside0 (Below w.heap.size w wx))
 case atStart => exact ⟨0, rfl, by omega, ⟨by simpa using H0.out⟩, ⟨by simpa [mapD, mapR] using World.ownsMap_made w Tryz.prog 9 pageR⟩, ⟨(Below.refl _ _).alloc (Nat.le_refl _) _⟩⟩
 case round =>
  clear H0 hmm
  obtain ⟨i, rfl, hig, H, HM, HB⟩ := hrel
  cases gk with
  | zero =>
   obtain rfl : i = l0.length := by omega
   have hr : r = true := by
    have := H.out
    rw [List.drop_length] at this
    exact (Option.some.inj this).symm
   subst hr
   have hlt : decide ((l0.length : Int) < (l0.length : Int)) = false := decide_eq_false (by omega)
   have hlen := fun ty => HM.out.len Tryz.underlying51 ty
   go_wp2
   go_ret2
   refine ⟨HB.out, w.heap.size, Nat.le_refl _, ?_, ?_⟩
   ·have := HM.out
    rw [List.take_length] at this
    exact this
   ·rfl
  | succ g =>
   have hi : i < l0.length := by omega
   have hlt : decide ((i : Int) < (l0.length : Int)) = true := decide_eq_true (by omega)
   obtain ⟨ad, ea, hx0, hx1, hx2, hx3⟩ := at_T30 hr0 (i : Int) (by omega) (by omega)
   subst ea
   replace hx0 := (HB.out.cell (World.block_lt_of_cell? w _ hx0)).trans hx0
   replace hx1 := (HB.out.cell (World.block_lt_of_cell? w _ hx1)).trans hx1
   replace hx2 := (HB.out.cell (World.block_lt_of_cell? w _ hx2)).trans hx2
   replace hx3 := (HB.out.cell (World.block_lt_of_cell? w _ hx3)).trans hx3
   have p0 : (0 ≤ (i : Int)) = True := eq_true (by omega)
   have q0 : ((i : Int) < (l0.length : Int)) = True := eq_true (by omega)
   obtain ⟨p, hp⟩ : ∃ p, rd_T30 l0 (i : Int) = p := ⟨_, rfl⟩
   rw [hp] at hx0 hx1 hx2 hx3
   simp only [Int.toNat_natCast] at hx0 hx1 hx2 hx3
   have hd : l0.drop i = p :: l0.drop (i + 1) := by
    rw [List.drop_eq_getElem_cons hi]
    congr 1
    rw [← hp]
    simp [rd_T30, List.getD, List.getElem?_eq_getElem hi]
   have ht : l0.take (i + 1) = l0.take i ++ [p] := by
    rw [List.take_succ_eq_append_getElem hi]
    congr 2
    rw [← hp]
    simp [rd_T30, List.getD, List.getElem?_eq_getElem hi]
   have H1 := H.out
   rw [hd] at H1
   simp only [pagesOk] at H1
   by_cases hz : p.f0.size ≤ 9223372036854775807
   case neg => rw [if_neg hz] at H1; cases H1
   rw [if_pos hz] at H1
   have HK := Aside0.mk (Go.WideMaps.keyOf_string_mk (P := Tryz.prog) Tryz.underlying9 (s := p.f0) (by have : maxLen = 2 ^ 63 - 1 := rfl; omega))
   clear hz
   obtain ⟨t, A0', H2⟩ := Option.bind_eq_some_iff.mp H1
   have A := Aside0.mk A0'
   have HT := Aside0.mk ht
   clear H1 A0' H hd ht hp
   by_cases ct : t = true
   ·subst ct
    rw [if_pos rfl] at H2
    have H' := Aside0.mk H2
    clear H2
    go_wp2_with (first | ((with_reducible refine gate_dst (N := 6) rfl ?_); refine box_event ?hg (N := 6) ?hd (cs := #[.string (⟨#[]⟩ : ByteArray), .string (⟨#[]⟩ : ByteArray), .string (⟨#[]⟩ : ByteArray), .int .i64 0]) (t := 30) ?hr ?_; (case hd => rfl); (case hg => rfl); (case hr => first | (go_simp; done) | (go_simp; rfl)); intro gb hg w6 hbox hb; have BK := Aside0.mk hbox; have NB := Aside0.mk (show gb ≠ w.heap.size from by rw [hg]; exact Nat.ne_of_gt HM.out.lt); have GE := Aside0.mk (show w.heap.size ≤ gb from by rw [hg]; exact below_size HB.out); replace HM := Aside0.mk (map_below HM.out hb); replace HB := Aside0.mk (below_step HB.out hb); replace hx0 := (hb.cell (World.block_lt_of_cell? _ _ hx0)).trans hx0; replace hx1 := (hb.cell (World.block_lt_of_cell? _ _ hx1)).trans hx1; replace hx2 := (hb.cell (World.block_lt_of_cell? _ _ hx2)).trans hx2; replace hx3 := (hb.cell (World.block_lt_of_cell? _ _ hx3)).trans hx3; clear hb hg hbox; obtain ⟨hc0, hc1, hc2, hc3⟩ : w6.cell? ⟨gb, 0, none⟩ = some (.string (⟨#[]⟩ : ByteArray)) ∧ w6.cell? ⟨gb, 1, none⟩ = some (.string (⟨#[]⟩ : ByteArray)) ∧ w6.cell? ⟨gb, 2, none⟩ = some (.string (⟨#[]⟩ : ByteArray)) ∧ w6.cell? ⟨gb, 3, none⟩ = some (.int .i64 0) := ⟨(blk_cell BK.out 0).trans rfl, (blk_cell BK.out 1).trans rfl, (blk_cell BK.out 2).trans rfl, (blk_cell BK.out 3).trans rfl⟩; have hf0 := blk_frozen BK.out 0; have hf1 := blk_frozen BK.out 1; have hf2 := blk_frozen BK.out 2; have hf3 := blk_frozen BK.out 3) | (go_at_call 45; (with_reducible refine (impl_pageOk.calls k p.f0 p.f1 p.f2 p.f3 true _ A.out).mono ?_); rintro e w8 ⟨rfl, hb⟩; replace HM := Aside0.mk (map_below ((((HM.out.setCell (a := ⟨gb, 0, none⟩) NB.out.symm _).setCell (a := ⟨gb, 1, none⟩) NB.out.symm _).setCell (a := ⟨gb, 2, none⟩) NB.out.symm _).setCell (a := ⟨gb, 3, none⟩) NB.out.symm _) hb); replace BK := Aside0.mk (blk_below (g := gb) (o := .cells #[.string p.f0, .string p.f1, .string p.f2, .int .i64 p.f3] 30 (0, 0)) (by refine blk_put (cs := #[.string p.f0, .string p.f1, .string p.f2, .int .i64 0]) ?_ 3 _ rfl; refine blk_put (cs := #[.string p.f0, .string p.f1, .string (⟨#[]⟩ : ByteArray), .int .i64 0]) ?_ 2 _ rfl; refine blk_put (cs := #[.string p.f0, .string (⟨#[]⟩ : ByteArray), .string (⟨#[]⟩ : ByteArray), .int .i64 0]) ?_ 1 _ rfl; refine blk_put (cs := #[.string (⟨#[]⟩ : ByteArray), .string (⟨#[]⟩ : ByteArray), .string (⟨#[]⟩ : ByteArray), .int .i64 0]) ?_ 0 _ rfl; exact BK.out) hb); replace HB := Aside0.mk (below_step (below_set (below_set (below_set (below_set HB.out GE.out) GE.out) GE.out) GE.out) hb); clear hb hx0 hx1 hx2 hx3 hc0 hc1 hc2 hc3 hf0 hf1 hf2 hf3; obtain ⟨hc0, hc1, hc2, hc3⟩ : w8.cell? ⟨gb, 0, none⟩ = some (.string p.f0) ∧ w8.cell? ⟨gb, 1, none⟩ = some (.string p.f1) ∧ w8.cell? ⟨gb, 2, none⟩ = some (.string p.f2) ∧ w8.cell? ⟨gb, 3, none⟩ = some (.int .i64 p.f3) := ⟨(blk_cell BK.out 0).trans rfl, (blk_cell BK.out 1).trans rfl, (blk_cell BK.out 2).trans rfl, (blk_cell BK.out 3).trans rfl⟩) | (at_mapUpdate; refine wpList_mapUpdate_own _ rfl _ _ _ 51 rfl 9 30 (string_keyed Tryz.underlying9) Tryz.underlying51 pageR w.heap.size i (mapD (l0.take i)) rfl HM.out (by have : maxLen = 2 ^ 63 - 1 := rfl; omega) _ _ (keyL p.f0) rfl rfl HK.out (pageD p) [] (pageR_mk p) ?_; intro w9 hown hgrow))
    go_roundg g
    case measure => omega
    case rel => exact ⟨i + 1, by simp, by omega, H', ⟨by rw [HT.out, mapD_snoc]; exact hown⟩, ⟨grown_below HB.out hgrow⟩⟩
   ·obtain rfl : t = false := by simpa using ct
    rw [if_neg (by decide)] at H2
    obtain rfl := Option.some.inj H2
    go_wp2_with (first | ((with_reducible refine gate_dst (N := 6) rfl ?_); refine box_event ?hg (N := 6) ?hd (cs := #[.string (⟨#[]⟩ : ByteArray), .string (⟨#[]⟩ : ByteArray), .string (⟨#[]⟩ : ByteArray), .int .i64 0]) (t := 30) ?hr ?_; (case hd => rfl); (case hg => rfl); (case hr => first | (go_simp; done) | (go_simp; rfl)); intro gb hg w6 hbox hb; have BK := Aside0.mk hbox; have NB := Aside0.mk (show gb ≠ w.heap.size from by rw [hg]; exact Nat.ne_of_gt HM.out.lt); have GE := Aside0.mk (show w.heap.size ≤ gb from by rw [hg]; exact below_size HB.out); replace HM := Aside0.mk (map_below HM.out hb); replace HB := Aside0.mk (below_step HB.out hb); replace hx0 := (hb.cell (World.block_lt_of_cell? _ _ hx0)).trans hx0; replace hx1 := (hb.cell (World.block_lt_of_cell? _ _ hx1)).trans hx1; replace hx2 := (hb.cell (World.block_lt_of_cell? _ _ hx2)).trans hx2; replace hx3 := (hb.cell (World.block_lt_of_cell? _ _ hx3)).trans hx3; clear hb hg hbox; obtain ⟨hc0, hc1, hc2, hc3⟩ : w6.cell? ⟨gb, 0, none⟩ = some (.string (⟨#[]⟩ : ByteArray)) ∧ w6.cell? ⟨gb, 1, none⟩ = some (.string (⟨#[]⟩ : ByteArray)) ∧ w6.cell? ⟨gb, 2, none⟩ = some (.string (⟨#[]⟩ : ByteArray)) ∧ w6.cell? ⟨gb, 3, none⟩ = some (.int .i64 0) := ⟨(blk_cell BK.out 0).trans rfl, (blk_cell BK.out 1).trans rfl, (blk_cell BK.out 2).trans rfl, (blk_cell BK.out 3).trans rfl⟩; have hf0 := blk_frozen BK.out 0; have hf1 := blk_frozen BK.out 1; have hf2 := blk_frozen BK.out 2; have hf3 := blk_frozen BK.out 3) | (go_at_call 45; (with_reducible refine (impl_pageOk.calls k p.f0 p.f1 p.f2 p.f3 false _ A.out).mono ?_); rintro e w8 ⟨rfl, hb⟩; replace HM := Aside0.mk (map_below ((((HM.out.setCell (a := ⟨gb, 0, none⟩) NB.out.symm _).setCell (a := ⟨gb, 1, none⟩) NB.out.symm _).setCell (a := ⟨gb, 2, none⟩) NB.out.symm _).setCell (a := ⟨gb, 3, none⟩) NB.out.symm _) hb); replace BK := Aside0.mk (blk_below (g := gb) (o := .cells #[.string p.f0, .string p.f1, .string p.f2, .int .i64 p.f3] 30 (0, 0)) (by refine blk_put (cs := #[.string p.f0, .string p.f1, .string p.f2, .int .i64 0]) ?_ 3 _ rfl; refine blk_put (cs := #[.string p.f0, .string p.f1, .string (⟨#[]⟩ : ByteArray), .int .i64 0]) ?_ 2 _ rfl; refine blk_put (cs := #[.string p.f0, .string (⟨#[]⟩ : ByteArray), .string (⟨#[]⟩ : ByteArray), .int .i64 0]) ?_ 1 _ rfl; refine blk_put (cs := #[.string (⟨#[]⟩ : ByteArray), .string (⟨#[]⟩ : ByteArray), .string (⟨#[]⟩ : ByteArray), .int .i64 0]) ?_ 0 _ rfl; exact BK.out) hb); replace HB := Aside0.mk (below_step (below_set (below_set (below_set (below_set HB.out GE.out) GE.out) GE.out) GE.out) hb); clear hb hx0 hx1 hx2 hx3 hc0 hc1 hc2 hc3 hf0 hf1 hf2 hf3; obtain ⟨hc0, hc1, hc2, hc3⟩ : w8.cell? ⟨gb, 0, none⟩ = some (.string p.f0) ∧ w8.cell? ⟨gb, 1, none⟩ = some (.string p.f1) ∧ w8.cell? ⟨gb, 2, none⟩ = some (.string p.f2) ∧ w8.cell? ⟨gb, 3, none⟩ = some (.int .i64 p.f3) := ⟨(blk_cell BK.out 0).trans rfl, (blk_cell BK.out 1).trans rfl, (blk_cell BK.out 2).trans rfl, (blk_cell BK.out 3).trans rfl⟩))
    go_ret2
    exact ⟨HB.out, rfl⟩
def impl_worldOf.f (k : Nat) (l0 : List S30) : Option Bool := if 12 < l0.length then some false else pagesOk k l0
set_option maxRecDepth 100000 in
theorem impl_worldOf.calls (k : Nat) (A0 : Option Addr) (c0 : Nat) (l0 : List S30) (r : Bool) (w : World) (hr0 : Kd.C k30 w A0 l0.length l0) (hc0 : l0.length ≤ c0) (h : impl_worldOf.f k l0 = some r) :
  Calls Tryz.prog 24 #[.slice A0 l0.length c0] w fun e w' => Below w.heap.size w w' ∧
   (r = false → e = .returned (.tuple #[.map none, .bool false])) ∧ (r = true → ∃ b, w.heap.size ≤ b ∧ Pages w' b l0.length (mapD l0) ∧ e = .returned (.tuple #[.map (some b), .bool ((Maps.size (mapD l0) : Int) == (l0.length : Int))])) := by
 unfold impl_worldOf.f at h
 by_cases h12 : 12 < l0.length
 ·rw [if_pos h12] at h
  obtain rfl := Option.some.inj h
  have hle : decide ((12 : Int) < (l0.length : Int)) = true := decide_eq_true (by omega)
  clear h
  go_enter Tryz.func24, Tryz.ntmps24
  go_wp2
  go_ret2
  exact ⟨Below.refl _ _, fun _ => rfl, fun h => by cases h⟩
 ·rw [if_neg h12] at h
  exact worldOf_walk k A0 c0 l0 r w hr0 hc0 (by omega) h
set_option maxHeartbeats 4000000 in
set_option maxRecDepth 100000 in
theorem get_walk (b n : Nat) (l : List S30) (a : ByteArray) (t : Int) (w : World) (ha : a.size ≤ 9223372036854775807) (hm : Pages w b n (mapD l)) :
  Calls Tryz.prog 25 #[.map (some b), .string a, .int .i64 t] w fun e w' => e = .returned (.tuple #[.int .i64 (getF l a t).1, .string (getF l a t).2]) ∧ Below w.heap.size w w' := by
 have hu := Tryz.underlying30
 have HB := Aside0.mk (Below.refl w.heap.size w)
 have hz : (zeroValue 30).run Tryz.prog w = .ok (pageV z30) w := by kernel_rfl
 obtain ⟨v, ps, hrun, hv⟩ := hm.look_ok (string_keyed Tryz.underlying9) Tryz.underlying51 hz (pageR_mk z30) (Go.WideMaps.keyOf_string_mk (P := Tryz.prog) Tryz.underlying9 (s := a) (by have : maxLen = 2 ^ 63 - 1 := rfl; omega))
 have e1 := mapR_at a l.reverse
 have e2 := mapR_has a l.reverse
 rw [show (.string a.data.toList : Lit) = keyL a from rfl] at hv hrun
 unfold mapD at hv hrun
 rw [e1] at hv
 rw [e2] at hrun
 obtain ⟨q, rfl, hq⟩ := pageR_inv hv
 obtain rfl := pageD_inj (Prod.mk.inj hq).1
 unfold getF
 clear hv hq e1 e2 hm hz
 cases hp : pageAtR a l.reverse with
 | none =>
  rw [hp] at hrun
  simp only [Option.getD_none, Option.isSome_none, pageV] at hrun
  go_enter Tryz.func25, Tryz.ntmps25
  go_wp2
  go_ret2
  exact ⟨rfl, (Below.refl _ _).alloc (Nat.le_refl _) _⟩
 | some p =>
  rw [hp] at hrun
  simp only [Option.getD_some, Option.isSome_some, pageV] at hrun
  simp only
  by_cases c1 : t < 0
  ·rw [if_pos c1]
   have d1 : decide (t < 0) = true := decide_eq_true c1
   clear c1
   go_enter Tryz.func25, Tryz.ntmps25
   go_wp2
   go_ret2
   exact ⟨rfl, (Below.refl _ _).alloc (Nat.le_refl _) _⟩
  ·rw [if_neg c1]
   have d1 : decide (t < 0) = false := decide_eq_false c1
   clear c1
   by_cases c2 : t < p.f3
   ·rw [if_pos c2]
    have d2 : decide (t < p.f3) = true := decide_eq_true c2
    clear c2
    go_enter Tryz.func25, Tryz.ntmps25
    go_wp2
    go_ret2
    exact ⟨rfl, (Below.refl _ _).alloc (Nat.le_refl _) _⟩
   ·rw [if_neg c2]
    have d2 : decide (t < p.f3) = false := decide_eq_false c2
    clear c2
    by_cases c3 : p.f2.toList = ([] : List UInt8)
    ·rw [if_pos c3]
     have d3 : (p.f2.toList == ([] : List UInt8)) = true := beq_iff_eq.mpr c3
     have d4 : (p.f2.toList != ([] : List UInt8)) = false := bne_eq_false_iff_eq.mpr c3
     clear c3
     go_enter Tryz.func25, Tryz.ntmps25
     go_wp2
     go_quiet (fail)
     go_wp2
     go_ret2
     exact ⟨rfl, pw_below_drewN (below_alloc (Below.refl _ _) _) _⟩
    ·rw [if_neg c3]
     have d3 : (p.f2.toList == ([] : List UInt8)) = false := beq_eq_false_iff_ne.mpr c3
     have d4 : (p.f2.toList != ([] : List UInt8)) = true := bne_iff_ne.mpr c3
     clear c3
     go_enter Tryz.func25, Tryz.ntmps25
     go_wp2
     go_quiet (fail)
     go_wp2
     go_ret2
     exact ⟨rfl, pw_below_drewN (below_alloc (Below.refl _ _) _) _⟩
theorem pagesOk_mono (k : Nat) : ∀ l, LeO (pagesOk k l) (pagesOk (k + 1) l)
 | [] => LeO.refl _
 | p :: r => by
  unfold pagesOk
  exact LeO.ite (LeO.bind (impl_pageOk.mono _ _ _ _ _) (fun _ => LeO.ite (pagesOk_mono k r) (LeO.refl _))) (LeO.refl _)
theorem impl_worldOf.mono : ∀ a0 k, LeO (impl_worldOf.f k a0) (impl_worldOf.f (k + 1) a0) := fun a0 k => LeO.ite (LeO.refl _) (pagesOk_mono k a0)
end Go.Proofs.YtpomhjkbgbociaaGreatDoor.P
end
section
namespace Go.Proofs.YtpomhjkbgbociaaGreatDoor.P
open Go.RowKit Go.Proofs.YtpomhjkbgbociaaGreatDoorW.PrintWords Go.Proofs.YtpomhjkbgbociaaGreatDoorW.PrintLast Go.Proofs.YtpomhjkbgbociaaGreatDoorW.PrintMore Go.Maps Go.ChangeMaps
set_option linter.unusedVariables false
set_option linter.unusedSimpArgs false
def impl_WorldGet.f (k : Nat) (l0 : List S30) (a1 : ByteArray) (a2 : Int) : Option (Int × ByteArray) :=
 if a1.size ≤ 9223372036854775807 then (impl_worldOf.f k l0).bind fun t => if t = true then (if ((Maps.size (mapD l0) : Int) == (l0.length : Int)) = true then some (getF l0 a1 a2) else some (0, (⟨#[]⟩ : ByteArray))) else some (0, (⟨#[]⟩ : ByteArray)) else none
set_option maxRecDepth 100000 in
theorem impl_WorldGet.calls (k : Nat) (A0 : Option Addr) (c0 : Nat) (l0 : List (S30)) (a1 : ByteArray) (a2 : Int) (r1 : Int) (r2 : ByteArray) (w : World) (hr0 : Kd.C k30 w A0 l0.length l0) (hc0 : l0.length ≤ c0) (h : impl_WorldGet.f k l0 a1 a2 = some (r1, r2)) :
  Calls Tryz.prog 9 #[.slice A0 l0.length c0, .string a1, .int .i64 a2] w fun e w' => e = .returned (.tuple #[.int .i64 r1, .string r2]) ∧ Below w.heap.size w w' := by
 unfold impl_WorldGet.f at h
 by_cases hz : a1.size ≤ 9223372036854775807
 case neg => rw [if_neg hz] at h; cases h
 rw [if_pos hz] at h
 obtain ⟨t, A, H⟩ := Option.bind_eq_some_iff.mp h
 clear h
 cases t with
 | false =>
  rw [if_neg (by decide)] at H
  obtain ⟨rfl, rfl⟩ := Prod.mk.inj (Option.some.inj H)
  go_enter Tryz.func9, Tryz.ntmps9
  go_wp2_with (first | (go_at_call 24; refine (impl_worldOf.calls k A0 c0 l0 false _ hr0 hc0 A).mono ?_; rintro e w1 ⟨hb, h0, h1⟩; obtain rfl := h0 rfl; clear h0 h1; have HB := Aside0.mk hb; clear hb))
  go_ret2
  exact ⟨rfl, HB.out⟩
 | true =>
  rw [if_pos rfl] at H
  obtain ⟨q, hq⟩ : ∃ q, ((Maps.size (mapD l0) : Int) == (l0.length : Int)) = q := ⟨_, rfl⟩
  rw [hq] at H
  cases q with
  | false =>
   rw [if_neg (by decide)] at H
   obtain ⟨rfl, rfl⟩ := Prod.mk.inj (Option.some.inj H)
   go_enter Tryz.func9, Tryz.ntmps9
   go_wp2_with (first | (go_at_call 24; refine (impl_worldOf.calls k A0 c0 l0 true _ hr0 hc0 A).mono ?_; rintro e w1 ⟨hb, h0, h1⟩; obtain ⟨b, _, _, rfl⟩ := h1 rfl; rw [hq]; clear h0 h1; have HB := Aside0.mk hb; clear hb))
   go_ret2
   exact ⟨rfl, HB.out⟩
  | true =>
   rw [if_pos rfl] at H
   have H' := Option.some.inj H
   clear H
   go_enter Tryz.func9, Tryz.ntmps9
   go_wp2_with (first | (go_at_call 24; refine (impl_worldOf.calls k A0 c0 l0 true _ hr0 hc0 A).mono ?_; rintro e w1 ⟨hb, h0, h1⟩; obtain ⟨b, _, hM, rfl⟩ := h1 rfl; rw [hq]; clear h0 h1; have HM := Aside0.mk hM; have HB := Aside0.mk hb; clear hb hM) | (go_at_call 25; refine (get_walk b _ l0 a1 a2 _ hz HM.out).mono ?_; rintro e w2 ⟨rfl, hb⟩; rw [H']; replace HB := Aside0.mk (below_step HB.out hb); clear hb))
   go_ret2
   exact ⟨rfl, HB.out⟩
end Go.Proofs.YtpomhjkbgbociaaGreatDoor.P
end
section
namespace Go.Proofs.YtpomhjkbgbociaaGreatDoor.P
open Go.RowKit Go.Proofs.YtpomhjkbgbociaaGreatDoorW.PrintWords Go.Proofs.YtpomhjkbgbociaaGreatDoorW.PrintLast Go.Proofs.YtpomhjkbgbociaaGreatDoorW.PrintMore
attribute [local go_sem] max2_int min2_int max_two min_two max_three min_three max_four min_four
set_option linter.unusedVariables false
set_option linter.unusedSimpArgs false
set_option maxHeartbeats 8000000
set_option maxRecDepth 100000
def laws_FnWorldGetOn.j0 : Nat → List Int → List Int → Bool → Option (Bool)
 | 0, _, _, _ => none
 | k + 1, x0, x1, x21 => if x21 = true then (some true) else ((spec_DrawWorldGet.f k x0).bind fun bt719 => ((spec_WorldGet.f k bt719.1 bt719.2.1 bt719.2.2).bind fun bt724 => ((impl_WorldGet.f k bt719.1 bt719.2.1 bt719.2.2).bind fun bt726 => (if bt726.1 = bt724.1 then (if bt726.2.toList = bt724.2.toList then ((spec_WorldOk.f k bt719.1).bind fun t728 => (if t728 = true then (if bt719.2.2 < 0 then (some (bt726.2.toList == bt724.2.toList)) else (if bt726.1 = 3 then (some (bt726.2.toList == bt724.2.toList)) else ((impl_WorldGet.f k bt719.1 bt719.2.1 (wrap64 (bt719.2.2 + ((x1.length : Int) % 9)))).bind fun bt729 => (if bt729.1 = bt726.1 then (some (bt729.2.toList == bt726.2.toList)) else (some false))))) else (some (bt726.2.toList == bt724.2.toList)))) else (some (bt726.2.toList == bt724.2.toList))) else (some false)))))
def laws_FnWorldGetOn.f (k : Nat) (l0 : List Int) (l1 : List Int) : Option (Bool) := if (l0.length : Int) > 1048576 then (laws_FnWorldGetOn.j0 k l0 l1 true) else (laws_FnWorldGetOn.j0 k l0 l1 (decide ((l1.length : Int) > 1048576)))
theorem laws_FnWorldGetOn.calls (k : Nat) (A0 : Option Addr) (c0 : Nat) (l0 : List Int) (A1 : Option Addr) (c1 : Nat) (l1 : List Int) (r : Bool) (w : World) (hr0 : Kd.C (Kd.int .u8) w A0 l0.length l0) (hc0 : l0.length ≤ c0) (hr1 : Kd.C (Kd.int .u8) w A1 l1.length l1) (hc1 : l1.length ≤ c1) (h : laws_FnWorldGetOn.f k l0 l1 = some r) :
  Calls Tryz.prog 4 #[.slice A0 l0.length c0, .slice A1 l1.length c1] w fun e w' => e = .returned (.bool r) ∧ Below w.heap.size w w' := by
 have HR0 := A_ hr0;have HC0 := A_ hc0;clear hr0 hc0;have HR1 := A_ hr1;have HC1 := A_ hc1;clear hr1 hc1;have HB := A_ (Below.refl w.heap.size w);unfold laws_FnWorldGetOn.f at h
 have H := h;clear h;have HC3 := A_ H;clear H;go_enter Tryz.func4, Tryz.ntmps4;go_upto_region 1 with (fail)
 go_cut [21] (fun v21 wc => ∃ (kq : Nat) (x21_2 : Bool), v21 = .bool x21_2 ∧ Aside0 (laws_FnWorldGetOn.j0 kq l0 l1 x21_2 = some r) ∧ Aside0 (kq ≤ k) ∧ Aside0 (Below w.heap.size w wc))
 case first =>
  obtain ⟨H⟩ := HC3;replace H := iteE H;rcases H with ⟨c4, H⟩ | ⟨c4, H⟩
  ·have c4b0 := gtT c4
   have c4b1 : decide (1048576 < l0.length) = true := dT (by omega);clear c4;(first | rw [c4b0] | (simp only [i64_w, i32_w]; rw [c4b0]) | skip)
   have H' := A_ H;clear H;go_wp2
   go_meet
   case rel => exact ⟨_, (true), zz5, H', ⟨zz6⟩, ⟨(zz2 HB)⟩⟩
  ·have c4b0 := gtF c4
   have c4b1 : decide (1048576 < l0.length) = false := dF (by omega);clear c4;(first | rw [c4b0] | (simp only [i64_w, i32_w]; rw [c4b0]) | skip)
   have H' := A_ H;clear H;go_wp2
   go_meet
   case rel => exact ⟨_, (decide ((l1.length : Int) > 1048576)), zz5, H', ⟨zz6⟩, ⟨(zz2 HB)⟩⟩
 case rest =>
  clear HC3;obtain ⟨kq, x21_2, rfl, HA, HJ2, HB⟩ := hcut;cases kq with
  | zero => exact absurd HA.out (by simp [laws_FnWorldGetOn.j0])
  | succ kj2 =>
   obtain ⟨H⟩ := HA;simp only [laws_FnWorldGetOn.j0] at H
   replace H := iteB H;rcases H with ⟨rfl, H⟩ | ⟨rfl, H⟩
   ·obtain rfl := sI H
    go_wp2
    go_ret
    exact ⟨zz11, (zz2 HB)⟩
   ·replace H := Option.bind_eq_some_iff.mp H
    obtain ⟨⟨t719, t720, t721⟩, A60, H⟩ := H;replace H : ((spec_WorldGet.f kj2 t719 t720 t721).bind fun bt724 => ((impl_WorldGet.f kj2 t719 t720 t721).bind fun bt726 => (if bt726.1 = bt724.1 then (if bt726.2.toList = bt724.2.toList then ((spec_WorldOk.f kj2 t719).bind fun t728 => (if t728 = true then (if t721 < 0 then (some (bt726.2.toList == bt724.2.toList)) else (if bt726.1 = 3 then (some (bt726.2.toList == bt724.2.toList)) else ((impl_WorldGet.f kj2 t719 t720 (wrap64 (t721 + ((l1.length : Int) % 9)))).bind fun bt729 => (if bt729.1 = bt726.1 then (some (bt729.2.toList == bt726.2.toList)) else (some false))))) else (some (bt726.2.toList == bt724.2.toList)))) else (some (bt726.2.toList == bt724.2.toList))) else (some false)))) = some r := H;have A6 := A_ A60;clear A60;replace H := bindA H;obtain ⟨⟨t724, t725⟩, A7, H⟩ := H;try dsimp only at H
    replace H := bindA H;obtain ⟨⟨t726, t727⟩, A8, H⟩ := H;try dsimp only at H
    have HF9 := A_ H;clear H;go_wp2_with (first | (refine gV 7 (some 24) Tryz.func7 (spec_DrawWorldGet.calls kj2 _ _ l0 t719 t720 t721 _ ?side1 ?side2 A6.out) ?_; (case side1 => exact (zz21 HR0 HB)); (case side2 => exact HC0.out); rintro v722 w10 ⟨ho0, hb⟩; have HO723 := A_ (Kd.R_lower ho0 (below_size (zz2 HB))); replace HB := A_ (bS (zz2 HB) hb); (try clear hb ho0); obtain ⟨Ao11, co11, eo11⟩ := Kd.R_slice HO723.out; subst eo11) | (refine gR 8 (some 32) Tryz.func8 (spec_WorldGet.calls kj2 _ _ t719 t720 t721 t724 t725 _ ?side1 ?side2 A7.out) ?_; (case side1 => exact (zz43 HO723)); (case side2 => exact (Kd.R_reads' HO723.out).2.1); rintro w12 hb; replace HO723 := A_ (rB (zz18 HO723) hb); replace HB := A_ (bS (zz2 HB) hb); (try clear hb)) | (refine gR 9 (some 39) Tryz.func9 (impl_WorldGet.calls kj2 _ _ t719 t720 t721 t726 t727 _ ?side1 ?side2 A8.out) ?_; (case side1 => exact (zz43 HO723)); (case side2 => exact (Kd.R_reads' HO723.out).2.1); rintro w13 hb; replace HO723 := A_ (rB (zz18 HO723) hb); replace HB := A_ (bS (zz2 HB) hb); (try clear hb)) | ((with_reducible refine atG ?_ ?_ fun K_ hK_ => ?_); rfl; exact undecG) | ((with_reducible refine atI ?_ fun K_ hK_ => ?_); exact undecI))
    refine unG hK_ ?_; clear hK_ K_;obtain ⟨H⟩ := HF9;replace H := iteE H;rcases H with ⟨c14, H⟩ | ⟨c14, H⟩
    ·obtain ⟨c14b0, c14b1⟩ := eqT c14
     (first | refine iteT ?_ | refine iteF ?_ | skip)
     clear c14;(first | rw [c14b0] | (simp only [i64_w, i32_w]; rw [c14b0]) | skip)
     replace H := iteEq H;rcases H with ⟨c15b0, c15b1, H⟩ | ⟨c15b0, c15b1, c15, H⟩
     ·replace H := Option.bind_eq_some_iff.mp H
      obtain ⟨t728, A160, H⟩ := H;replace H : (if t728 = true then (if t721 < 0 then (some (t727.toList == t725.toList)) else (if t726 = 3 then (some (t727.toList == t725.toList)) else ((impl_WorldGet.f kj2 t719 t720 (wrap64 (t721 + ((l1.length : Int) % 9)))).bind fun bt729 => (if bt729.1 = t726 then (some (bt729.2.toList == t727.toList)) else (some false))))) else (some (t727.toList == t725.toList))) = some r := H;have A16 := A_ A160;clear A160;have HF17 := A_ H;clear H;go_wp2_with (first | (go_at_call 10; (with_reducible refine (spec_WorldOk.calls kj2 _ _ t719 t728 _ ?side1 ?side2 A16.out).mono ?_); (case side1 => exact (zz43 HO723)); (case side2 => exact (Kd.R_reads' HO723.out).2.1); rintro e w18 ⟨rfl, hb⟩; replace HO723 := A_ (rB (zz18 HO723) hb); replace HB := A_ (bS (zz2 HB) hb); (try clear hb)) | ((with_reducible refine atG ?_ ?_ fun K_ hK_ => ?_); rfl; exact undecG) | ((with_reducible refine atI ?_ fun K_ hK_ => ?_); exact undecI))
      refine unG hK_ ?_; clear hK_ K_;obtain ⟨H⟩ := HF17;replace H := iteB H;rcases H with ⟨rfl, H⟩ | ⟨rfl, H⟩
      ·(first | refine iteT ?_ | refine iteF ?_ | skip)
       replace H := iteEd H;rcases H with ⟨c20b0, H⟩ | ⟨c20b0, H⟩
       ·obtain rfl := sI H
        go_wp2
        go_ret
        exact ⟨zz11, (zz2 HB)⟩
       ·replace H := iteEq H
        rcases H with ⟨c21b0, c21b1, H⟩ | ⟨c21b0, c21b1, c21, H⟩
        ·obtain rfl := sI H
         go_wp2
         go_ret
         exact ⟨zz11, (zz2 HB)⟩
        ·replace H := Option.bind_eq_some_iff.mp H
         obtain ⟨⟨t729, t730⟩, A220, H⟩ := H;replace H : (if t729 = t726 then (some (t730.toList == t727.toList)) else (some false)) = some r := H;have A22 := A_ A220;clear A220;have HF23 := A_ H;clear H;go_wp2_with (first | (refine gR 9 (some 79) Tryz.func9 (impl_WorldGet.calls kj2 _ _ t719 t720 (wrap64 (t721 + ((l1.length : Int) % 9))) t729 t730 _ ?side1 ?side2 A22.out) ?_; (case side1 => exact (zz43 HO723)); (case side2 => exact (Kd.R_reads' HO723.out).2.1); rintro w24 hb; replace HO723 := A_ (rB (zz18 HO723) hb); replace HB := A_ (bS (zz2 HB) hb); (try clear hb)) | ((with_reducible refine atG ?_ ?_ fun K_ hK_ => ?_); rfl; exact undecG) | ((with_reducible refine atI ?_ fun K_ hK_ => ?_); exact undecI))
         refine unG hK_ ?_; clear hK_ K_;obtain ⟨H⟩ := HF23;replace H := iteE H;rcases H with ⟨c25, H⟩ | ⟨c25, H⟩
         ·obtain ⟨c25b0, c25b1⟩ := eqT c25
          (first | refine iteT ?_ | refine iteF ?_ | skip)
          clear c25;(first | rw [c25b0] | (simp only [i64_w, i32_w]; rw [c25b0]) | skip)
          obtain rfl := sI H;(try ((with_reducible refine upS ?_); go_simp))
          go_wp2
          go_ret
          exact ⟨zz11, (zz2 HB)⟩
         ·obtain ⟨c25b0, c25b1⟩ := eqF c25
          (first | refine iteT ?_ | refine iteF ?_ | skip)
          (first | rw [c25b0] | (simp only [i64_w, i32_w]; rw [c25b0]) | skip)
          obtain rfl := sI H;(try ((with_reducible refine upS ?_); go_simp))
          go_wp2
          go_ret
          exact ⟨zz11, (zz2 HB)⟩
      ·(first | refine iteT ?_ | refine iteF ?_ | skip)
       obtain rfl := sI H;(try ((with_reducible refine upS ?_); go_simp))
       go_wp2
       go_ret
       exact ⟨zz11, (zz2 HB)⟩
     ·obtain rfl := sI H
      go_wp2
      go_ret
      exact ⟨zz11, (zz2 HB)⟩
    ·obtain ⟨c14b0, c14b1⟩ := eqF c14
     (first | refine iteT ?_ | refine iteF ?_ | skip)
     (first | rw [c14b0] | (simp only [i64_w, i32_w]; rw [c14b0]) | skip)
     obtain rfl := sI H;(try ((with_reducible refine upS ?_); go_simp))
     go_wp2
     go_ret
     exact ⟨zz11, (zz2 HB)⟩
def laws_FnWorldGetOn.Pure : Prop := ∀ (l0 : List Int) (l1 : List Int), l0.length ≤ maxLen → l0.length * 1 ≤ 140737488351232 → (∀ x ∈ l0, (Lit.int .u8 x).wf = true) → l1.length ≤ maxLen → l1.length * 1 ≤ 140737488351232 → (∀ x ∈ l1, (Lit.int .u8 x).wf = true) → ∃ k, laws_FnWorldGetOn.f k l0 l1 = some true
theorem laws_FnWorldGetOn.walk (P : laws_FnWorldGetOn.Pure) (a0 : Option Addr) (len0 cap0 : Nat) (z0 : List Int) (a1 : Option Addr) (len1 cap1 : Nat) (z1 : List Int) (w : World) (w0 : (a0 = none ∧ len0 = 0 ∧ cap0 = 0 ∧ z0 = []) ∨ ∃ x, a0 = some x ∧ len0 ≤ cap0 ∧ cap0 ≤ maxLen ∧ z0.length = cap0 ∧ (∀ i, i < z0.length → w.cell? (x.add i) = some (.int .u8 (z0.getD i 0))) ∧ ∀ n ∈ z0, (Lit.int .u8 n).wf = true) (y0 : len0 * 1 ≤ 140737488351232) (w1 : (a1 = none ∧ len1 = 0 ∧ cap1 = 0 ∧ z1 = []) ∨ ∃ x, a1 = some x ∧ len1 ≤ cap1 ∧ cap1 ≤ maxLen ∧ z1.length = cap1 ∧ (∀ i, i < z1.length → w.cell? (x.add i) = some (.int .u8 (z1.getD i 0))) ∧ ∀ n ∈ z1, (Lit.int .u8 n).wf = true) (y1 : len1 * 1 ≤ 140737488351232) :
  Calls Tryz.prog 4 #[.slice a0 len0 cap0, .slice a1 len1 cap1] w fun e w' => e = .returned (.bool true) ∧ Below w.heap.size w w' := by
 obtain ⟨l0, rfl, hr0, hm0, hw0, hc0⟩ := ReadsInt.ofRowC w0;obtain ⟨l1, rfl, hr1, hm1, hw1, hc1⟩ := ReadsInt.ofRowC w1;obtain ⟨k, h⟩ := P l0 l1 hm0 y0 hw0 hm1 y1 hw1;refine (laws_FnWorldGetOn.calls k _ _ l0 _ _ l1 true w (Kd.C_of_reads (d := (0 : Int)) (h1 := fun _ => rfl) hr0) hc0 (Kd.C_of_reads (d := (0 : Int)) (h1 := fun _ => rfl) hr1) hc1 h).mono ?_;rintro e w' ⟨rfl, hd⟩;exact ⟨rfl, hd⟩
end Go.Proofs.YtpomhjkbgbociaaGreatDoor.P
end
section
namespace Go.Proofs.YtpomhjkbgbociaaGreatDoor.Draw
open Go.RowKit Go.Proofs.YtpomhjkbgbociaaGreatDoor.P Go.Proofs.YtpomhjkbgbociaaGreatDoorW.PrintWords Go.Proofs.YtpomhjkbgbociaaGreatDoorW.PrintLast Go.Proofs.YtpomhjkbgbociaaGreatDoorW.PrintMore Go.Proofs.YtpomhjkbgbociaaGreatDoor.B
set_option linter.unusedVariables false
set_option linter.unusedSimpArgs false
structure Code (b : List Int) : Prop where
 byte : ∀ x ∈ b, 0 ≤ x ∧ x ≤ 255
 short : b.length ≤ 2000
theorem open_some (l0 : List Int) (hw : ∀ x ∈ l0, (Lit.int .u8 x).wf = true) : ∃ b, spec_l6Open.f l0 = some (b, 0) ∧ Code b := by
 unfold spec_l6Open.f
 by_cases h : (l0.length : Int) > 2000
 ·rw [if_pos h, if_pos (by omega)]
  exact ⟨_, rfl, fun x hx => wf_u8 (hw x (List.mem_of_mem_take hx)), by rw [List.length_take]; omega⟩
 ·rw [if_neg h]
  exact ⟨_, rfl, fun x hx => wf_u8 (hw x hx), by omega⟩
theorem pick_one {b : List Int} (hc : Code b) (k : Nat) (p n : Int) (hp : 0 ≤ p) (hp2 : p ≤ 1000000000000) :
  ∃ v, spec_l6Rd_pick.f (k + 1) b p n = some (v, p + 1) ∧ 0 ≤ v ∧ (1 ≤ n → v < n) := by
 have hl := hc.short
 have e1 : wrap64 (p + 1) = p + 1 := w64 (by omega) (by omega)
 have e2 : wrap64 (p + 1 - 1) = p := by rw [w64 (by omega) (by omega)]; omega
 unfold spec_l6Rd_pick.f
 rw [e1]
 by_cases h1 : n < 1
 ·rw [if_pos h1]
  exact ⟨0, by simp [spec_l6Rd_pick.j0], by omega, by omega⟩
 ·rw [if_neg h1]
  simp only [spec_l6Rd_pick.j0, e2]
  by_cases h2 : (b.length : Int) = 0
  ·rw [if_pos (by simpa using h2)]
   exact ⟨0, rfl, by omega, by omega⟩
  ·rw [if_neg (by simpa using h2)]
   by_cases h3 : p < (b.length : Int)
   ·rw [if_pos h3, if_pos hp, if_neg (by omega)]
    have hr := rd_byte hc.byte p
    rw [w64 (by omega) (by omega)]
    exact ⟨_, rfl, (tmod_nn hr.1 (by omega)).1, fun _ => (tmod_nn hr.1 (by omega)).2⟩
   ·rw [if_neg h3, if_neg h2]
    have hq := tmod_nn (a := p) (b := (b.length : Int)) hp (by omega)
    have ew1 : wrap64 (p * 7) = p * 7 := w64 (by omega) (by omega)
    have ew2 : wrap64 (p * 7 + 3) = p * 7 + 3 := w64 (by omega) (by omega)
    have hq2 := tmod_nn (a := p * 7 + 3) (b := (b.length : Int)) (by omega) (by omega)
    rw [if_pos hq.1, if_pos hq.2, ew1, ew2, if_pos hq2.1, if_pos hq2.2, if_neg (by omega)]
    have r1 := rd_byte hc.byte (Int.tmod p (b.length : Int))
    have r2 := rd_byte hc.byte (Int.tmod (p * 7 + 3) (b.length : Int))
    generalize rd b (Int.tmod p (b.length : Int)) = a1 at r1 ⊢
    generalize rd b (Int.tmod (p * 7 + 3) (b.length : Int)) = a2 at r2 ⊢
    have r3 := tdiv_nn (a := p) (b := (b.length : Int)) hp (by omega)
    generalize Int.tdiv p (b.length : Int) = q at r3 ⊢
    have s1 : wrap64 a1 = a1 := w64 (by omega) (by omega)
    have s2 : wrap64 a2 = a2 := w64 (by omega) (by omega)
    have s3 : wrap64 (a1 * 131) = a1 * 131 := w64 (by omega) (by omega)
    have s4 : wrap64 (a2 * 1117) = a2 * 1117 := w64 (by omega) (by omega)
    have s5 : wrap64 (p * 29) = p * 29 := w64 (by omega) (by omega)
    have s6 : wrap64 q = q := w64 (by omega) (by omega)
    have s7 : wrap64 (q * 53) = q * 53 := w64 (by omega) (by omega)
    have s8 : wrap64 (a1 * 131 + a2 * 1117) = a1 * 131 + a2 * 1117 := w64 (by omega) (by omega)
    have s9 : wrap64 (a1 * 131 + a2 * 1117 + p * 29) = a1 * 131 + a2 * 1117 + p * 29 := w64 (by omega) (by omega)
    have s10 : wrap64 (a1 * 131 + a2 * 1117 + p * 29 + q * 53) = a1 * 131 + a2 * 1117 + p * 29 + q * 53 := w64 (by omega) (by omega)
    simp only [s1, s2, s3, s4, s5, s6, s7, s8, s9, s10]
    have hX0 : 0 ≤ a1 * 131 + a2 * 1117 + p * 29 + q * 53 := by omega
    have hX1 : a1 * 131 + a2 * 1117 + p * 29 + q * 53 < 2 ^ 62 := by omega
    generalize a1 * 131 + a2 * 1117 + p * 29 + q * 53 = X at hX0 hX1 ⊢
    have d := tdiv_nn (a := X) (b := 64) hX0 (by omega)
    have s11 : wrap64 (Int.tdiv X 64) = Int.tdiv X 64 := w64 (by omega) (by omega)
    rw [s11]
    have z := xor_nn hX0 hX1 d.1 (by omega)
    exact ⟨_, rfl, (tmod_nn z.1 (by omega)).1, fun _ => (tmod_nn z.1 (by omega)).2⟩
theorem pick_ev {b : List Int} (hc : Code b) (p n : Int) (hp : 0 ≤ p) (hp2 : p ≤ 1000000000000) :
  ∃ v, Ev (fun k => spec_l6Rd_pick.f k b p n) (v, p + 1) ∧ 0 ≤ v ∧ (1 ≤ n → v < n) := by
 obtain ⟨v, h, h0, h1⟩ := pick_one hc 0 p n hp hp2
 exact ⟨v, Ev.of (fun k => spec_l6Rd_pick.mono _ _ _ k) h, h0, h1⟩
end Go.Proofs.YtpomhjkbgbociaaGreatDoor.Draw
end
section
namespace Go.Proofs.YtpomhjkbgbociaaGreatDoor.Draw
open Go.RowKit Go.Proofs.YtpomhjkbgbociaaGreatDoor.P Go.Proofs.YtpomhjkbgbociaaGreatDoorW.PrintWords Go.Proofs.YtpomhjkbgbociaaGreatDoorW.PrintLast Go.Proofs.YtpomhjkbgbociaaGreatDoorW.PrintMore Go.Proofs.YtpomhjkbgbociaaGreatDoor.B
set_option linter.unusedVariables false
set_option linter.unusedSimpArgs false
theorem of_ev {b : List Int} (hc : Code b) (p : Int) (l : List ByteArray) (hl : l ≠ []) (hl2 : (l.length : Int) < 1000000) (hp : 0 ≤ p) (hp2 : p ≤ 1000000000000) :
  ∃ s, Ev (fun k => spec_l6Rd_of.f k b p l) (s, p + 1) ∧ s ∈ l := by
 have hpos : 0 < l.length := List.length_pos_iff.2 hl
 obtain ⟨v, h, h0, h1⟩ := pick_ev hc p (l.length : Int) hp hp2
 have hv := h1 (by omega)
 refine ⟨rdOf ByteArray.empty l v, Ev.bind h ?_, ?_⟩
 ·simp only [h0, hv, if_true]
  exact Ev.now _
 ·unfold rdOf
  have hlt : v.toNat < l.length := by omega
  rw [List.getD_eq_getElem?_getD, List.getElem?_eq_getElem hlt]
  exact List.getElem_mem hlt
end Go.Proofs.YtpomhjkbgbociaaGreatDoor.Draw
end
section
namespace Go.Proofs.YtpomhjkbgbociaaGreatDoor.Ad
open Go.RowKit Go.Proofs.YtpomhjkbgbociaaGreatDoor.P Go.Proofs.YtpomhjkbgbociaaGreatDoorW.PrintWords Go.Proofs.YtpomhjkbgbociaaGreatDoorW.PrintLast Go.Proofs.YtpomhjkbgbociaaGreatDoorW.PrintMore Go.Proofs.YtpomhjkbgbociaaGreatDoor.B
set_option linter.unusedVariables false
set_option linter.unusedSimpArgs false
theorem hex_all : ∀ n : Nat, n < 256 → spec_l1Hex.f 2 (n : Int) = some (match hexN (UInt8.ofNat n) with | some x => (x : Int) | none => -1) := by decide +kernel
theorem plain_all : ∀ n : Nat, n < 256 → spec_l1Plain.f (n : Int) = some (plainB (UInt8.ofNat n)) := by decide +kernel
theorem sign_all : ∀ n : Nat, n < 256 → (spec_l1Sign.f (n : Int)).map L = some [37, fig (n / 16), fig (n % 16)] := by decide +kernel
theorem of_toNat (c : UInt8) : UInt8.ofNat c.toNat = c := UInt8.ofNat_toNat
theorem hex_ev (c : UInt8) : Ev (fun k => spec_l1Hex.f k (c.toNat : Int)) (match hexN c with | some x => (x : Int) | none => -1) := by
 refine Ev.of (fun k => spec_l1Hex.mono _ k) (k := 2) ?_
 have := hex_all c.toNat c.toNat_lt
 rwa [of_toNat] at this
theorem sign_f (n : Nat) (h : n < 256) : spec_l1Sign.f (n : Int) = some (ofL [37, fig (n / 16), fig (n % 16)]) := by
 have := sign_all n h
 obtain ⟨s, hs, e⟩ := Option.map_eq_some_iff.1 this
 rw [hs, ← e, of_L]
theorem nums_one (n : Nat) (h : n < 256) : strOfNums [(n : Int) % 256] = ofL [UInt8.ofNat n] := by
 unfold strOfNums ofL
 simp only [List.map_cons, List.map_nil, ByteArray.mk.injEq]
 congr 2
 rw [show ((n : Int) % 256) = (n : Int) from by omega]
 simp
theorem enc_ev (s acc : ByteArray) (i n : Nat) (h : n < 256) (hi : i < 1000000) (ha : acc.size ≤ 1000000) {r : ByteArray × Bool}
  (H : Ev (fun k => spec_EscNorm.l0 k s (acc ++ ofL (encN n)) (i + 1 : Nat)) r) : Ev (fun k => spec_EscNorm.j2 k s acc (i : Int) (n : Int)) r := by
 refine Ev.step (fun k => ?_) H
 have hw : wrap64 ((i : Int) + 1) = ((i + 1 : Nat) : Int) := by rw [w64 (by omega) (by omega)]; omega
 simp only [spec_EscNorm.j2]
 rw [show ((n : Int) % 256) = (n : Int) from by omega, plain_all n h]
 simp only [Option.bind_some]
 by_cases hp : plainB (UInt8.ofNat n) = true
 ·have e := nums_one n h
  rw [show ((n : Int) % 256) = (n : Int) from by omega] at e
  have he : encN n = [UInt8.ofNat n] := by unfold encN; rw [if_pos hp]
  have hz := ofL_size [UInt8.ofNat n]
  rw [if_pos hp, e, if_pos (by simp at hz; omega), hw, he]
 ·have he : encN n = [37, fig (n / 16), fig (n % 16)] := by unfold encN; rw [if_neg hp]
  rw [if_neg hp, sign_f n h]
  simp only [Option.bind_some]
  have hz := ofL_size [37, fig (n / 16), fig (n % 16)]
  rw [if_pos (by simp at hz; omega), hw, he]
theorem drop_at {l : List UInt8} {i : Nat} (h : i < l.length) : l.drop i = l[i] :: l.drop (i + 1) := List.drop_eq_getElem_cons h
theorem bt_get (s : ByteArray) (i : Nat) (h : i < (L s).length) : bt s i = (((L s)[i]).toNat : Int) := by
 rw [bt_L, List.getD_eq_getElem?_getD, List.getElem?_eq_getElem h]; rfl
theorem app_nil (a : ByteArray) : a ++ ofL [] = a := by apply L_inj; rw [L_app, L_of, List.append_nil]
def escR (acc : ByteArray) (o : Option (List UInt8)) : ByteArray × Bool := match o with
 | some r => (acc ++ ofL r, true)
 | none => (⟨#[]⟩, false)
theorem escR_map (acc : ByteArray) (x : List UInt8) (o : Option (List UInt8)) : escR acc (o.map (x ++ ·)) = escR (acc ++ ofL x) o := by
 cases o with
 | none => rfl
 | some r => simp only [escR, Option.map_some, ofL_app, ByteArray.append_assoc]
theorem esc_l (s : ByteArray) (hs : s.size ≤ 60) (n : Nat) : ∀ (i : Nat) (acc : ByteArray), i ≤ s.size → s.size - i ≤ n → acc.size ≤ 3 * i →
  Ev (fun k => spec_EscNorm.l0 k s acc (i : Int)) (escR acc (esc ((L s).drop i))) := by
 have hL := L_size s
 induction n with
 | zero =>
  intro i acc hi hn ha
  refine Ev.of (fun k => spec_EscNorm.mono_l k |>.1 _ _ _) (k := 1) ?_
  simp only [spec_EscNorm.l0]
  rw [if_neg (by omega), List.drop_eq_nil_of_le (by omega)]
  simp only [esc, escR]
  rw [app_nil]
 | succ n ih =>
  intro i acc hi hn ha
  by_cases hlt : i < s.size
  ·have hlt' : i < (L s).length := by omega
   rw [drop_at hlt']
   have hb := bt_get s i hlt'
   by_cases hc : (L s)[i] = 37
   ·have hb37 : bt s i = 37 := by rw [hb, hc]; rfl
    have w2 : wrap64 ((i : Int) + 2) = ((i + 2 : Nat) : Int) := by rw [w64 (by omega) (by omega)]; omega
    have w1 : wrap64 ((i : Int) + 1) = ((i + 1 : Nat) : Int) := by rw [w64 (by omega) (by omega)]; omega
    rw [hc]
    by_cases h2 : i + 2 < s.size
    ·have g1 : i + 1 < (L s).length := by omega
     have g2 : i + 2 < (L s).length := by omega
     rw [drop_at g1, drop_at g2]
     have b1 := bt_get s (i + 1) g1
     have b2 := bt_get s (i + 2) g2
     have q1 := hex_ev (L s)[i + 1]
     have q2 := hex_ev (L s)[i + 2]
     have l1 := @hexN_lt (L s)[i + 1]
     have l2 := @hexN_lt (L s)[i + 2]
     generalize (L s)[i + 1] = ca at b1 q1 l1 ⊢
     generalize (L s)[i + 2] = cb at b2 q2 l2 ⊢
     have e3 : i + 2 + 1 = i + 3 := rfl
     have bad : Ev (fun k => spec_EscNorm.j1 k s acc (i : Int) true) ((⟨#[]⟩ : ByteArray), false) :=
      Ev.of (fun k => spec_EscNorm.mono_l k |>.2.2 _ _ _ _) (k := 1) (by simp [spec_EscNorm.j1])
     refine Ev.step (f := fun k => (spec_l1Hex.f k (ca.toNat : Int)).bind fun t => if t < 0 then spec_EscNorm.j1 k s acc (i : Int) true else (spec_l1Hex.f k (cb.toNat : Int)).bind fun t2 => spec_EscNorm.j1 k s acc (i : Int) (decide (t2 < 0))) (fun k => ?_) ?_
     ·simp only [spec_EscNorm.l0]
      rw [if_pos (by omega), if_pos (by omega), if_pos hb37, w2, w1, if_neg (by omega), if_pos (by omega), if_pos (by omega), b1]
      congr 1
      funext t
      by_cases ht : t < 0
      ·rw [if_pos ht, if_pos ht]
      ·rw [if_neg ht, if_neg ht, if_pos (by omega), if_pos (by omega), b2]
     ·refine Ev.bind q1 ?_
      cases ha' : hexN ca with
      | none =>
       rw [esc_bad1 _ _ ha']
       simp only [show ((-1 : Int) < 0) from by omega, if_true]
       exact bad
      | some x =>
       have hx := l1 ha'
       simp only [show ¬ ((x : Int) < 0) from by omega, if_false]
       refine Ev.bind q2 ?_
       cases hb' : hexN cb with
       | none =>
        rw [esc_bad2 _ _ hb']
        simp only [show decide ((-1 : Int) < 0) = true from by decide]
        exact bad
       | some y =>
        have hy := l2 hb'
        simp only [show decide ((y : Int) < 0) = false from by simp]
        rw [ha'] at q1
        rw [hb'] at q2
        refine Ev.step (f := fun k => (spec_l1Hex.f k (ca.toNat : Int)).bind fun t => (spec_l1Hex.f k (cb.toNat : Int)).bind fun t2 => spec_EscNorm.j2 k s acc ((i + 2 : Nat) : Int) (wrap64 (wrap64 (t * 16) + t2))) (fun k => ?_) ?_
        ·simp only [spec_EscNorm.j1]
         rw [if_neg (by simp), w1, w2, if_pos (by omega), if_pos (by omega), b1]
         congr 1
         funext t
         rw [if_pos (by omega), if_pos (by omega), b2]
        ·refine Ev.bind q1 (Ev.bind q2 ?_)
         rw [esc_sign _ ha' hb']
         rw [show wrap64 (wrap64 ((x : Int) * 16) + (y : Int)) = ((x * 16 + y : Nat) : Int) from by rw [w64 (n := (x : Int) * 16) (by omega) (by omega), w64 (by omega) (by omega)]; omega]
         refine enc_ev s acc (i + 2) (x * 16 + y) (by omega) (by omega) (by omega) ?_
         rw [escR_map]
         exact ih (i + 2 + 1) _ (by omega) (by omega) (by have z := ofL_size (encN (x * 16 + y)); have := encN_len (x * 16 + y); rw [ByteArray.size_append]; omega)
    ·rw [esc_short (by rw [List.length_drop]; omega)]
     refine Ev.of (fun k => spec_EscNorm.mono_l k |>.1 _ _ _) (k := 2) ?_
     simp only [spec_EscNorm.l0, spec_EscNorm.j1]
     rw [if_pos (by omega), if_pos (by omega), if_pos hb37, w2, if_pos (by omega)]
     rfl
   ·have hb37 : ¬ bt s i = 37 := by
     rw [hb]
     intro e
     exact hc (UInt8.toNat_inj.1 (by have : (37 : UInt8).toNat = 37 := rfl; omega))
    rw [esc_plain _ hc]
    have hlt8 := (L s)[i].toNat_lt
    refine Ev.step (f := fun k => spec_EscNorm.j2 k s acc (i : Int) (((L s)[i].toNat : Nat) : Int)) (fun k => ?_) ?_
    ·simp only [spec_EscNorm.l0]
     rw [if_pos (by omega), if_pos (by omega), if_neg hb37, hb, w64 (by omega) (by omega)]
    ·refine enc_ev s acc i _ (by omega) (by omega) (by omega) ?_
     rw [escR_map]
     exact ih (i + 1) _ (by omega) (by omega) (by have z := ofL_size (encN (L s)[i].toNat); have := encN_len (L s)[i].toNat; rw [ByteArray.size_append]; omega)
  ·refine Ev.of (fun k => spec_EscNorm.mono_l k |>.1 _ _ _) (k := 1) ?_
   simp only [spec_EscNorm.l0]
   rw [if_neg (by omega), List.drop_eq_nil_of_le (by omega)]
   simp only [esc, escR]
   rw [app_nil]
theorem escNorm_ev (s : ByteArray) : Ev (fun k => spec_EscNorm.f k s) (escNorm s) := by
 unfold spec_EscNorm.f escNorm
 by_cases h : s.size > 60
 ·simp only [show ((s.size : Int) > 60) from by omega, if_true, h]
  exact Ev.now _
 ·simp only [show ¬ ((s.size : Int) > 60) from by omega, if_false, h]
  have := esc_l s (by omega) s.size 0 ⟨#[]⟩ (by omega) (by omega) (Nat.le_refl 0)
  simp only [List.drop_zero] at this
  have e : escR (⟨#[]⟩ : ByteArray) (esc (L s)) = escO (esc (L s)) := by
   unfold escR escO
   cases esc (L s) with
   | none => rfl
   | some r => simp only [Prod.mk.injEq, and_true]; apply L_inj; rw [L_app]; rfl
  rw [← e]
  exact this
theorem norm_ev (s : ByteArray) : Ev (fun k => spec_l1Norm.f k s) (isNorm s) := by
 unfold spec_l1Norm.f isNorm
 refine Ev.bind (escNorm_ev s) ?_
 by_cases h : (escNorm s).2 = true
 ·simp only [h, if_true, Bool.true_and]
  exact Ev.now _
 ·simp only [h, if_false, Bool.false_and]
  exact Ev.now _
end Go.Proofs.YtpomhjkbgbociaaGreatDoor.Ad
end
section
namespace Go.Proofs.YtpomhjkbgbociaaGreatDoor.Ad
open Go.RowKit Go.Proofs.YtpomhjkbgbociaaGreatDoor.P Go.Proofs.YtpomhjkbgbociaaGreatDoorW.PrintWords Go.Proofs.YtpomhjkbgbociaaGreatDoorW.PrintLast Go.Proofs.YtpomhjkbgbociaaGreatDoorW.PrintMore Go.Proofs.YtpomhjkbgbociaaGreatDoor.B
set_option linter.unusedVariables false
set_option linter.unusedSimpArgs false
theorem spec_house_l (s : ByteArray) (hs : s.size ≤ 140737488351232) (d : Nat) : ∀ (k : Nat) (i : Nat), i + d = s.size → d < k →
  spec_l1House.l0 k s (i : Int) = some (smallFrom s d i && (decide (1 ≤ s.size) && decide (s.size ≤ 5))) := by
 induction d with
 | zero =>
  intro k i h hk
  obtain ⟨k, rfl⟩ : ∃ m, k = m + 1 := ⟨k - 1, by omega⟩
  simp only [spec_l1House.l0, smallFrom, spec_l6In.f]
  rw [if_neg (by omega)]
  by_cases h1 : 1 ≤ s.size
  ·rw [if_pos (by omega)]; simp [h1]; omega
  ·rw [if_neg (by omega)]; simp [h1]
 | succ d ih =>
  intro k i h hk
  obtain ⟨k, rfl⟩ : ∃ m, k = m + 1 := ⟨k - 1, by omega⟩
  simp only [spec_l1House.l0, smallFrom]
  rw [if_pos (by omega), if_pos (by omega)]
  by_cases h1 : bt s i < 97
  ·rw [if_pos h1, if_pos h1]; rfl
  ·rw [if_neg h1, if_neg h1]
   by_cases h2 : bt s i > 122
   ·rw [if_pos h2, if_pos h2]; rfl
   ·rw [if_neg h2, if_neg h2, w64 (by omega) (by omega)]
    exact ih k (i + 1) (by omega) (by omega)
theorem house_ev (s : ByteArray) (hs : s.size ≤ 140737488351232) : Ev (fun k => spec_l1House.f k s) (isHouse s) := by
 refine Ev.of (fun k => spec_l1House.mono _ k) (k := s.size + 1) ?_
 unfold spec_l1House.f
 have := spec_house_l s hs s.size (s.size + 1) 0 (by omega) (by omega)
 rw [show ((0 : Nat) : Int) = 0 from rfl] at this
 rw [this]
 unfold isHouse isSmall
 cases smallFrom s s.size 0 <;> simp
theorem rd_at {l : List ByteArray} {i : Nat} (h : i < l.length) : rdOf ByteArray.empty l (i : Int) = l[i] := by
 unfold rdOf
 rw [List.getD_eq_getElem?_getD, Int.toNat_natCast, List.getElem?_eq_getElem h]
 rfl
structure Parts (ps : List ByteArray) : Prop where
 few : ps.length ≤ 1000
 short : ∀ p ∈ ps, p.size ≤ 1048576
def fin (asks : Bool) (ask b : ByteArray) : ByteArray := if asks = true then (b ++ ⟨#[63]⟩) ++ ask else b
theorem path_end (acc house : ByteArray) (parts : List ByteArray) (asks : Bool) (ask : ByteArray) (i : Nat) (hi : i = parts.length) (ha : acc.size ≤ 2000000000) (hq : ask.size ≤ 1048576) :
  Ev (fun k => spec_l1Path.l0 k acc (i : Int) house parts asks ask) (fin asks ask acc) := by
 refine Ev.of (fun k => spec_l1Path.mono_l k _ _ _ _ _ _) (k := 1) ?_
 simp only [spec_l1Path.l0, fin]
 rw [if_neg (by omega)]
 by_cases h : asks = true
 ·rw [if_pos h, if_pos h, if_pos (by omega), if_pos (by omega)]
 ·rw [if_neg h, if_neg h]
theorem path_l (house : ByteArray) (parts : List ByteArray) (asks : Bool) (ask : ByteArray) (hP : Parts parts) (hq : ask.size ≤ 1048576) (d : Nat) : ∀ (i : Nat) (acc : ByteArray), i + d = parts.length → 1 ≤ i → (acc.size : Int) ≤ 1 + (i : Int) * 1048577 →
  Ev (fun k => spec_l1Path.l0 k acc (i : Int) house parts asks ask) (fin asks ask ((parts.drop i).foldl (fun a q => (a ++ ⟨#[47]⟩) ++ q) acc)) := by
 have hf := hP.few
 induction d with
 | zero =>
  intro i acc hi _ ha
  rw [List.drop_eq_nil_of_le (by omega)]
  exact path_end acc house parts asks ask i (by omega) (by omega) hq
 | succ d ih =>
  intro i acc hi h1 ha
  have hlt : i < parts.length := by omega
  have hz := hP.short parts[i] (List.getElem_mem hlt)
  rw [List.drop_eq_getElem_cons hlt, List.foldl_cons]
  have h47 : (⟨#[47]⟩ : ByteArray).size = 1 := rfl
  have hsz : ((acc ++ (⟨#[47]⟩ : ByteArray)) ++ parts[i]).size = acc.size + 1 + parts[i].size := by rw [ByteArray.size_append, ByteArray.size_append, h47]
  have f1 : (i : Int) < (parts.length : Int) := by omega
  have f2 : (i : Int) > 0 := by omega
  have f3 : acc.size + 1 ≤ 9223372036854775807 := by omega
  have f4 : 0 ≤ (i : Int) := by omega
  have f5 : acc.size + 1 + parts[i].size ≤ 9223372036854775807 := by omega
  have hw : wrap64 ((i : Int) + 1) = ((i + 1 : Nat) : Int) := by rw [w64 (by omega) (by omega)]; omega
  have h := ih (i + 1) ((acc ++ (⟨#[47]⟩ : ByteArray)) ++ parts[i]) (by omega) (by omega) (by rw [hsz]; omega)
  refine Ev.step (fun k => ?_) h
  simp only [spec_l1Path.l0]
  rw [if_pos f1, if_pos f2, if_pos f3, if_pos f4, rd_at hlt, if_pos f5, hw]
theorem path_ev (house : ByteArray) (parts : List ByteArray) (asks : Bool) (ask : ByteArray) (hP : Parts parts) (hq : ask.size ≤ 1048576) :
  Ev (fun k => spec_l1Path.f k house parts asks ask) (pathB parts asks ask) := by
 unfold spec_l1Path.f
 match parts, hP with
 | [], hP =>
  have := path_end ⟨#[47]⟩ house [] asks ask 0 rfl (by decide) hq
  exact this
 | p :: r, hP =>
  have hz := hP.short p List.mem_cons_self
  have hs : ((⟨#[47]⟩ : ByteArray) ++ p).size = 1 + p.size := by rw [ByteArray.size_append]; rfl
  refine Ev.step (fun k => ?_) (path_l house (p :: r) asks ask hP hq r.length 1 ((⟨#[47]⟩ : ByteArray) ++ p) (by simp; omega) (by omega) (by omega))
  have h47 : (⟨#[47]⟩ : ByteArray).size = 1 := rfl
  have hr0 : rdOf ByteArray.empty (p :: r) 0 = p := rfl
  simp only [spec_l1Path.l0]
  have f1 : (0 : Int) < ((p :: r).length : Int) := by simp only [List.length_cons]; omega
  have f5 : (⟨#[47]⟩ : ByteArray).size + p.size ≤ 9223372036854775807 := by omega
  rw [if_pos f1, if_neg (by omega), if_pos (by omega), hr0, if_pos f5, w64 (by omega) (by omega)]
  rfl
theorem path_size (parts : List ByteArray) (asks : Bool) (ask : ByteArray) (hP : Parts parts) (hq : ask.size ≤ 1048576) : (pathB parts asks ask).size ≤ 2000000000 := by
 have hf := hP.few
 have hb : ((body parts).size : Int) ≤ 1 + (parts.length : Int) * 1048577 := by
  match parts, hP with
  | [], _ => simp [body]; decide
  | p :: r, hP =>
   have key : ∀ (r : List ByteArray) (acc : ByteArray), (∀ q ∈ r, q.size ≤ 1048576) → ((r.foldl (fun a q => (a ++ ⟨#[47]⟩) ++ q) acc).size : Int) ≤ (acc.size : Int) + (r.length : Int) * 1048577 := by
    intro r
    induction r with
    | nil => intro acc _; simp
    | cons q r ih =>
     intro acc h
     have := ih ((acc ++ ⟨#[47]⟩) ++ q) (fun x hx => h x (List.mem_cons_of_mem _ hx))
     have hq := h q List.mem_cons_self
     have h47 : (⟨#[47]⟩ : ByteArray).size = 1 := rfl
     rw [List.foldl_cons]
     rw [ByteArray.size_append, ByteArray.size_append] at this
     simp only [List.length_cons]
     omega
   have := key r ((⟨#[47]⟩ : ByteArray) ++ p) (fun x hx => hP.short x (List.mem_cons_of_mem _ hx))
   have hz := hP.short p List.mem_cons_self
   have hs : ((⟨#[47]⟩ : ByteArray) ++ p).size = 1 + p.size := by rw [ByteArray.size_append]; rfl
   simp only [body, List.length_cons]
   omega
 unfold pathB
 have h63 : (⟨#[63]⟩ : ByteArray).size = 1 := rfl
 split
 ·rw [ByteArray.size_append, ByteArray.size_append]; omega
 ·omega
theorem text_ev (house : ByteArray) (parts : List ByteArray) (asks : Bool) (ask : ByteArray) (hP : Parts parts) (hq : ask.size ≤ 1048576) (hh : house.size ≤ 1048576) :
  Ev (fun k => spec_l1Text.f k house parts asks ask) (textB house parts asks ask) := by
 unfold spec_l1Text.f
 have hz := path_size parts asks ask hP hq
 simp only [show 2 + house.size ≤ 9223372036854775807 from by omega, if_true]
 refine Ev.bind (path_ev house parts asks ask hP hq) ?_
 simp only [show 2 + house.size + (pathB parts asks ask).size ≤ 9223372036854775807 from by omega, if_true]
 exact Ev.now _
theorem ok_l (house : ByteArray) (parts : List ByteArray) (asks : Bool) (ask : ByteArray) (hP : Parts parts) (hq : ask.size ≤ 1048576) (hh : house.size ≤ 1048576) (d : Nat) : ∀ (i : Nat), i + d = parts.length →
  Ev (fun k => spec_AddrOk.l0 k (i : Int) house parts asks ask) ((parts.drop i).all partOk && decide ((textB house parts asks ask).size ≤ 60)) := by
 have hf := hP.few
 induction d with
 | zero =>
  intro i hi
  rw [List.drop_eq_nil_of_le (by omega)]
  simp only [List.all_nil, Bool.true_and]
  refine Ev.step (f := fun k => (spec_l1Text.f k house parts asks ask).bind fun t => some (decide ((t.size : Int) ≤ 60))) (fun k => ?_) (Ev.bind (text_ev house parts asks ask hP hq hh) ?_)
  ·simp only [spec_AddrOk.l0]
   rw [if_neg (by omega)]
  ·have e : decide (((textB house parts asks ask).size : Int) ≤ 60) = decide ((textB house parts asks ask).size ≤ 60) := by rw [Bool.eq_iff_iff]; simp; omega
   rw [e]
   exact Ev.now _
 | succ d ih =>
  intro i hi
  have hlt : i < parts.length := by omega
  rw [List.drop_eq_getElem_cons hlt, List.all_cons]
  refine Ev.step (f := fun k => (spec_l1Norm.f k parts[i]).bind fun t => if t = true then (if parts[i].toList = [] then some false else if parts[i].toList = [46] then some false else if parts[i].toList = [46, 46] then some false else spec_AddrOk.l0 k ((i + 1 : Nat) : Int) house parts asks ask) else some false) (fun k => ?_) (Ev.bind (norm_ev parts[i]) ?_)
  ·simp only [spec_AddrOk.l0]
   rw [if_pos (by omega), if_pos (by omega), rd_at hlt, w64 (by omega) (by omega)]
   rfl
  ·by_cases h1 : isNorm parts[i] = true
   ·by_cases h2 : parts[i].toList = []
    ·simp only [h1, h2, if_true]
     rw [show partOk parts[i] = false from by simp [partOk, h2]]
     exact Ev.now _
    ·by_cases h3 : parts[i].toList = [46]
     ·simp only [h1, h3, if_true]
      rw [show partOk parts[i] = false from by simp [partOk, h3]]
      exact Ev.now _
     ·by_cases h4 : parts[i].toList = [46, 46]
      ·simp only [h1, h4, if_true]
       rw [show partOk parts[i] = false from by simp [partOk, h4]]
       exact Ev.now _
      ·simp only [h1, h2, h3, h4, if_true, if_false]
       rw [show partOk parts[i] = true from by simp [partOk, h1, h2, h3, h4], Bool.true_and]
       exact ih (i + 1) (by omega)
   ·simp only [h1, if_false]
    rw [show partOk parts[i] = false from by simp [partOk, h1]]
    exact Ev.now _
theorem addrOk_ev (house : ByteArray) (parts : List ByteArray) (asks : Bool) (ask : ByteArray) (hP : Parts parts) (hq : ask.size ≤ 1048576) (hh : house.size ≤ 1048576) :
  Ev (fun k => spec_AddrOk.f k house parts asks ask) (addrOk house parts asks ask) := by
 have hf := hP.few
 have bad : ∀ r, r = false → Ev (fun k => spec_AddrOk.j0 k true house parts asks ask) r := fun r hr => by
  subst hr
  exact Ev.of (fun k => spec_AddrOk.mono_l k |>.1 _ _ _ _ _) (k := 1) (by simp [spec_AddrOk.j0])
 have good : Ev (fun k => spec_AddrOk.j0 k false house parts asks ask) (parts.all partOk && decide ((textB house parts asks ask).size ≤ 60)) := by
  refine Ev.step (fun k => ?_) (by simpa using ok_l house parts asks ask hP hq hh parts.length 0 (by omega))
  simp [spec_AddrOk.j0]
 unfold spec_AddrOk.f
 refine Ev.bind (house_ev house (by omega)) ?_
 by_cases h1 : isHouse house = true
 ·simp only [h1, if_true]
  by_cases h2 : parts.length ≤ 5
  ·simp only [show ¬ ((parts.length : Int) > 5) from by omega, if_false]
   refine Ev.bind (norm_ev ask) ?_
   by_cases h3 : isNorm ask = true
   ·simp only [h3, if_true]
    by_cases h4 : asks = true
    ·simp only [h4, if_true]
     rw [h4] at good
     rw [show addrOk house parts true ask = (parts.all partOk && decide ((textB house parts true ask).size ≤ 60)) from by simp [addrOk, h1, h2, h3]]
     exact good
    ·rw [show (fun k => if asks = true then spec_AddrOk.j0 k false house parts asks ask else spec_AddrOk.j0 k (ask.toList != []) house parts asks ask) = (fun k => spec_AddrOk.j0 k (ask.toList != []) house parts asks ask) from by funext k; rw [if_neg h4]]
     by_cases h5 : ask.toList = []
     ·obtain rfl : asks = false := by simpa using h4
      simp only [h5, bne_self_eq_false, Bool.false_eq_true, if_false]
      rw [show addrOk house parts false ask = (parts.all partOk && decide ((textB house parts false ask).size ≤ 60)) from by simp [addrOk, h1, h2, h3, h5]]
      exact good
     ·rw [show (ask.toList != ([] : List UInt8)) = true from by simp [h5]]
      exact bad _ (by simp [addrOk, h4, h5])
   ·simp only [h3, if_false]
    exact bad _ (by simp [addrOk, h3])
  ·simp only [show (parts.length : Int) > 5 from by omega, if_true]
   exact bad _ (by simp [addrOk, h2])
 ·simp only [h1, if_false]
  exact bad _ (by simp [addrOk, h1])
theorem addrText_ev (house : ByteArray) (parts : List ByteArray) (asks : Bool) (ask : ByteArray) (hP : Parts parts) (hq : ask.size ≤ 1048576) (hh : house.size ≤ 1048576) :
  Ev (fun k => spec_AddrText.f k house parts asks ask) (addrText house parts asks ask) := by
 unfold spec_AddrText.f addrText
 refine Ev.bind (addrOk_ev house parts asks ask hP hq hh) ?_
 by_cases h : addrOk house parts asks ask = true
 ·simp only [h, if_true]
  exact Ev.bind (text_ev house parts asks ask hP hq hh) (Ev.now _)
 ·simp only [h, if_false]
  exact Ev.now _
end Go.Proofs.YtpomhjkbgbociaaGreatDoor.Ad
end
section
namespace Go.Proofs.YtpomhjkbgbociaaGreatDoor.Draw
open Go.RowKit Go.Proofs.YtpomhjkbgbociaaGreatDoor.P Go.Proofs.YtpomhjkbgbociaaGreatDoorW.PrintWords Go.Proofs.YtpomhjkbgbociaaGreatDoorW.PrintLast Go.Proofs.YtpomhjkbgbociaaGreatDoorW.PrintMore Go.Proofs.YtpomhjkbgbociaaGreatDoor.B Go.Proofs.YtpomhjkbgbociaaGreatDoor.Ad
set_option linter.unusedVariables false
set_option linter.unusedSimpArgs false
theorem of_sz {b : List Int} (hc : Code b) (p : Int) (l : List ByteArray) (N : Nat) (hp : 0 ≤ p) (hp2 : p ≤ 1000000000000)
  (hl : decide (0 < l.length ∧ l.length < 1000000) = true) (hN : (l.all fun s => decide (s.size ≤ N)) = true) :
  ∃ s, Ev (fun k => spec_l6Rd_of.f k b p l) (s, p + 1) ∧ s.size ≤ N := by
 have h := of_decide_eq_true hl
 obtain ⟨s, h1, h2⟩ := of_ev hc p l (List.length_pos_iff.1 h.1) (by omega) hp hp2
 exact ⟨s, h1, of_decide_eq_true (List.all_eq_true.1 hN s h2)⟩
theorem body_small {ps : List ByteArray} (h : ∀ q ∈ ps, q.size ≤ 6) : (body ps).size ≤ 7 * ps.length + 1 := by
 match ps, h with
 | [], _ => decide
 | p :: r, h =>
  have key : ∀ (r : List ByteArray) (acc : ByteArray), (∀ q ∈ r, q.size ≤ 6) → (r.foldl (fun a q => (a ++ ⟨#[47]⟩) ++ q) acc).size ≤ acc.size + 7 * r.length := by
   intro r
   induction r with
   | nil => intro acc _; simp
   | cons q r ih =>
    intro acc h
    have := ih ((acc ++ ⟨#[47]⟩) ++ q) (fun x hx => h x (List.mem_cons_of_mem _ hx))
    have hq := h q List.mem_cons_self
    have h47 : (⟨#[47]⟩ : ByteArray).size = 1 := rfl
    rw [List.foldl_cons]
    rw [ByteArray.size_append, ByteArray.size_append] at this
    simp only [List.length_cons]
    omega
  have := key r ((⟨#[47]⟩ : ByteArray) ++ p) (fun x hx => h x (List.mem_cons_of_mem _ hx))
  have hz := h p List.mem_cons_self
  have hs : ((⟨#[47]⟩ : ByteArray) ++ p).size = 1 + p.size := by rw [ByteArray.size_append]; rfl
  simp only [body, List.length_cons]
  omega
theorem addrText_small {house : ByteArray} {ps : List ByteArray} (asks : Bool) {ask : ByteArray} (hh : house.size ≤ 3) (hs : ∀ q ∈ ps, q.size ≤ 6) (hl : ps.length ≤ 2) (ha : ask.size ≤ 4) : (addrText house ps asks ask).size ≤ 25 := by
 have hb := body_small hs
 have h63 : (⟨#[63]⟩ : ByteArray).size = 1 := rfl
 have h47 : (⟨#[47, 47]⟩ : ByteArray).size = 2 := rfl
 unfold addrText textB pathB
 split
 ·split
  ·simp only [ByteArray.size_append]; omega
  ·simp only [ByteArray.size_append]; omega
 ·exact Nat.zero_le _
theorem addr_l {b : List Int} (hc : Code b) (house : ByteArray) (hh : house.size ≤ 3) (d : Nat) : ∀ (p : Int) (parts : List ByteArray), 0 ≤ p → p + d ≤ 100000000000 → (∀ q ∈ parts, q.size ≤ 6) → parts.length + d ≤ 2 →
  ∃ s p', Ev (fun k => spec_l71Addr.l0 k (d : Int) b p house parts false ⟨#[]⟩) (s, p') ∧ s.size ≤ 25 ∧ p ≤ p' ∧ p' ≤ p + d + 2 := by
 induction d with
 | zero =>
  intro p parts h0 h1 hs hl
  have hP : Parts parts := ⟨by omega, fun q hq => by have := hs q hq; omega⟩
  obtain ⟨v, hv, _, _⟩ := pick_ev hc p 8 h0 (by omega)
  by_cases hv0 : v = 0
  ·obtain ⟨ask, ha, hz⟩ := of_sz hc (p + 1) ([(⟨#[]⟩ : ByteArray), (⟨#[97]⟩ : ByteArray), (⟨#[98, 37, 51, 68]⟩ : ByteArray)] : List ByteArray) 4 (by omega) (by omega) (by decide) (by decide)
   refine ⟨addrText house parts true ask, p + 1 + 1, Ev.step (f := fun k => (spec_l6Rd_pick.f k b p 8).bind fun bt => if bt.1 = 0 then ((spec_l6Rd_of.f k b bt.2 ([(⟨#[]⟩ : ByteArray), (⟨#[97]⟩ : ByteArray), (⟨#[98, 37, 51, 68]⟩ : ByteArray)] : List ByteArray)).bind fun b2 => (spec_AddrText.f k house parts true b2.1).bind fun t => some (t, b2.2)) else (spec_AddrText.f k house parts false ⟨#[]⟩).bind fun t => some (t, bt.2)) (fun k => ?_) (Ev.bind hv ?_), addrText_small true hh hs (by omega) hz, by omega, by omega⟩
   ·simp only [spec_l71Addr.l0]
    rw [if_neg (by omega)]
   ·simp only [hv0, if_true]
    exact Ev.bind ha (Ev.bind (addrText_ev house parts true ask hP (by omega) (by omega)) (Ev.now _))
  ·refine ⟨addrText house parts false ⟨#[]⟩, p + 1, Ev.step (f := fun k => (spec_l6Rd_pick.f k b p 8).bind fun bt => if bt.1 = 0 then ((spec_l6Rd_of.f k b bt.2 ([(⟨#[]⟩ : ByteArray), (⟨#[97]⟩ : ByteArray), (⟨#[98, 37, 51, 68]⟩ : ByteArray)] : List ByteArray)).bind fun b2 => (spec_AddrText.f k house parts true b2.1).bind fun t => some (t, b2.2)) else (spec_AddrText.f k house parts false ⟨#[]⟩).bind fun t => some (t, bt.2)) (fun k => ?_) (Ev.bind hv ?_), addrText_small false hh hs (by omega) (by decide), by omega, by omega⟩
   ·simp only [spec_l71Addr.l0]
    rw [if_neg (by omega)]
   ·simp only [hv0, if_false]
    exact Ev.bind (addrText_ev house parts false ⟨#[]⟩ hP (by decide) (by omega)) (Ev.now _)
 | succ d ih =>
  intro p parts h0 h1 hs hl
  obtain ⟨q, hq, hz⟩ := of_sz hc p ([(⟨#[97]⟩ : ByteArray), (⟨#[98]⟩ : ByteArray), (⟨#[99]⟩ : ByteArray), (⟨#[110, 111, 116, 105, 99, 101]⟩ : ByteArray)] : List ByteArray) 6 h0 (by omega) (by decide) (by decide)
  obtain ⟨s, p', h, h2, h3, h4⟩ := ih (p + 1) (parts ++ [q]) (by omega) (by omega) (fun x hx => by
   rcases List.mem_append.1 hx with hx | hx
   ·exact hs x hx
   ·rw [List.mem_singleton.1 hx]; exact hz) (by simp; omega)
  refine ⟨s, p', Ev.step (f := fun k => (spec_l6Rd_of.f k b p ([(⟨#[97]⟩ : ByteArray), (⟨#[98]⟩ : ByteArray), (⟨#[99]⟩ : ByteArray), (⟨#[110, 111, 116, 105, 99, 101]⟩ : ByteArray)] : List ByteArray)).bind fun bt => spec_l71Addr.l0 k (d : Int) b bt.2 house (parts ++ [bt.1]) false ⟨#[]⟩) (fun k => ?_) (Ev.bind hq h), h2, by omega, by omega⟩
  simp only [spec_l71Addr.l0]
  rw [if_pos (by omega), show wrap64 (((d + 1 : Nat) : Int) - 1) = (d : Int) from by rw [w64 (by omega) (by omega)]; omega]
  congr 1
  funext bt
  rw [if_pos (by omega)]
theorem addr_ev {b : List Int} (hc : Code b) (p : Int) (h0 : 0 ≤ p) (h1 : p ≤ 10000000000) : ∃ s p', Ev (fun k => spec_l71Addr.f k b p) (s, p') ∧ s.size ≤ 25 ∧ p ≤ p' ∧ p' ≤ p + 10 := by
 obtain ⟨v, hv, v0, v1⟩ := pick_ev hc p 4 h0 (by omega)
 have v2 := v1 (by omega)
 obtain ⟨n, hn, n0, n1⟩ := pick_ev hc (p + 1) 3 (by omega) (by omega)
 have n2 := n1 (by omega)
 obtain ⟨m, rfl⟩ := Int.eq_ofNat_of_zero_le n0
 have hh : (rdOf ByteArray.empty ([(⟨#[97, 98]⟩ : ByteArray), (⟨#[99, 100]⟩ : ByteArray), (⟨#[101]⟩ : ByteArray), (⟨#[102, 111, 120]⟩ : ByteArray)] : List ByteArray) v).size ≤ 3 := by
  obtain rfl | rfl | rfl | rfl : v = 0 ∨ v = 1 ∨ v = 2 ∨ v = 3 := by omega
  all_goals decide
 obtain ⟨s, p', h, h2, h3, h4⟩ := addr_l hc _ hh m (p + 1 + 1) [] (by omega) (by omega) (by simp) (by simp; omega)
 refine ⟨s, p', ?_, h2, by omega, by omega⟩
 unfold spec_l71Addr.f spec_l71Houses.f
 simp only [Option.bind_some]
 refine Ev.bind hv ?_
 simp only [v0, show v < (([(⟨#[97, 98]⟩ : ByteArray), (⟨#[99, 100]⟩ : ByteArray), (⟨#[101]⟩ : ByteArray), (⟨#[102, 111, 120]⟩ : ByteArray)] : List ByteArray).length : Int) from by simp; omega, if_true]
 exact Ev.bind hn h
end Go.Proofs.YtpomhjkbgbociaaGreatDoor.Draw
end
section
namespace Go.Proofs.YtpomhjkbgbociaaGreatDoor.Draw
open Go.RowKit Go.Proofs.YtpomhjkbgbociaaGreatDoor.P Go.Proofs.YtpomhjkbgbociaaGreatDoorW.PrintWords Go.Proofs.YtpomhjkbgbociaaGreatDoorW.PrintLast Go.Proofs.YtpomhjkbgbociaaGreatDoorW.PrintMore Go.Proofs.YtpomhjkbgbociaaGreatDoor.B Go.Proofs.YtpomhjkbgbociaaGreatDoor.Ad
set_option linter.unusedVariables false
set_option linter.unusedSimpArgs false
theorem ref_j {b : List Int} (hc : Code b) (x : Int) (y : Bool) (p : Int) (h0 : 0 ≤ p) (h1 : p ≤ 10000000000) : ∃ s p', Ev (fun k => spec_l71Ref.j0 k x y b p) (s, p') ∧ s.size ≤ 25 ∧ p ≤ p' ∧ p' ≤ p + 10 := by
 by_cases hy : y = true
 ·obtain ⟨s, p', h, h2, h3, h4⟩ := addr_ev hc p h0 h1
  refine ⟨s, p', Ev.step (f := fun k => (spec_l71Addr.f k b p).bind fun bt => some (bt.1, bt.2)) (fun k => ?_) (Ev.bind h (Ev.now _)), h2, h3, h4⟩
  simp only [spec_l71Ref.j0]
  rw [if_pos hy]
 by_cases x2 : x = 2
 ·obtain ⟨s, h, hz⟩ := of_sz hc p (([(⟨#[97]⟩ : ByteArray), (⟨#[98]⟩ : ByteArray), (⟨#[97, 47, 98]⟩ : ByteArray), (⟨#[99, 47, 46, 46, 47, 98]⟩ : ByteArray), (⟨#[]⟩ : ByteArray), (⟨#[120, 47, 46, 47, 99]⟩ : ByteArray)] : List ByteArray)) 9 h0 (by omega) (by decide) (by decide)
  have h47 : (⟨#[47]⟩ : ByteArray).size = 1 := rfl
  refine ⟨(⟨#[47]⟩ : ByteArray) ++ s, p + 1, Ev.step (f := fun k => (spec_l6Rd_of.f k b p (([(⟨#[97]⟩ : ByteArray), (⟨#[98]⟩ : ByteArray), (⟨#[97, 47, 98]⟩ : ByteArray), (⟨#[99, 47, 46, 46, 47, 98]⟩ : ByteArray), (⟨#[]⟩ : ByteArray), (⟨#[120, 47, 46, 47, 99]⟩ : ByteArray)] : List ByteArray))).bind fun bt => if 1 + bt.1.size ≤ 9223372036854775807 then some ((⟨#[47]⟩ : ByteArray) ++ bt.1, bt.2) else none) (fun k => ?_) (Ev.bind h ?_), by rw [ByteArray.size_append]; omega, by omega, by omega⟩
  ·simp only [spec_l71Ref.j0]
   rw [if_neg hy, if_pos x2]
  ·simp only [show 1 + s.size ≤ 9223372036854775807 from by omega, if_true]
   exact Ev.now _
 by_cases x3 : x = 3
 ·obtain ⟨s, h, hz⟩ := of_sz hc p (([(⟨#[46, 46]⟩ : ByteArray), (⟨#[46, 46, 47, 99]⟩ : ByteArray), (⟨#[46, 46, 47, 46, 46, 47, 46, 46]⟩ : ByteArray), (⟨#[46]⟩ : ByteArray), (⟨#[46, 47, 97]⟩ : ByteArray)] : List ByteArray)) 9 h0 (by omega) (by decide) (by decide)
  refine ⟨s, p + 1, Ev.step (fun k => ?_) (Ev.bind (f := fun k bt => some (bt.1, bt.2)) h (Ev.now _)), by omega, by omega, by omega⟩
  simp only [spec_l71Ref.j0]
  rw [if_neg hy, if_neg x2, if_pos x3]
 by_cases x4 : x = 4
 ·obtain ⟨s, h, hz⟩ := of_sz hc p (([(⟨#[63, 97]⟩ : ByteArray), (⟨#[63]⟩ : ByteArray), (⟨#[35, 116, 111, 112]⟩ : ByteArray), (⟨#[]⟩ : ByteArray), (⟨#[97, 35, 98]⟩ : ByteArray), (⟨#[98, 63, 97]⟩ : ByteArray)] : List ByteArray)) 9 h0 (by omega) (by decide) (by decide)
  refine ⟨s, p + 1, Ev.step (fun k => ?_) (Ev.bind (f := fun k bt => some (bt.1, bt.2)) h (Ev.now _)), by omega, by omega, by omega⟩
  simp only [spec_l71Ref.j0]
  rw [if_neg hy, if_neg x2, if_neg x3, if_pos x4]
 by_cases x5 : x = 5
 ·obtain ⟨s, h, hz⟩ := of_sz hc p (([(⟨#[47, 47, 65, 66, 47, 97]⟩ : ByteArray), (⟨#[47, 47, 99, 100]⟩ : ByteArray), (⟨#[47, 47, 99, 100, 63, 120]⟩ : ByteArray), (⟨#[47, 47, 97, 98, 47, 37, 54, 49]⟩ : ByteArray), (⟨#[47, 47, 116, 111, 111, 108, 111, 110, 103, 47, 97]⟩ : ByteArray), (⟨#[47, 47, 97, 49, 47, 98]⟩ : ByteArray), (⟨#[47, 47, 47, 97]⟩ : ByteArray)] : List ByteArray)) 20 h0 (by omega) (by decide) (by decide)
  refine ⟨s, p + 1, Ev.step (fun k => ?_) (Ev.bind (f := fun k bt => some (bt.1, bt.2)) h (Ev.now _)), by omega, by omega, by omega⟩
  simp only [spec_l71Ref.j0]
  rw [if_neg hy, if_neg x2, if_neg x3, if_neg x4, if_pos x5]
 ·obtain ⟨s, h, hz⟩ := of_sz hc p (([(⟨#[97]⟩ : ByteArray), (⟨#[98]⟩ : ByteArray), (⟨#[99]⟩ : ByteArray), (⟨#[97, 47, 98]⟩ : ByteArray)] : List ByteArray)) 9 h0 (by omega) (by decide) (by decide)
  refine ⟨s, p + 1, Ev.step (fun k => ?_) (Ev.bind (f := fun k bt => some (bt.1, bt.2)) h (Ev.now _)), by omega, by omega, by omega⟩
  simp only [spec_l71Ref.j0]
  rw [if_neg hy, if_neg x2, if_neg x3, if_neg x4, if_neg x5]
theorem ref_ev {b : List Int} (hc : Code b) (p : Int) (h0 : 0 ≤ p) (h1 : p ≤ 1000000000) : ∃ s p', Ev (fun k => spec_l71Ref.f k b p) (s, p') ∧ s.size ≤ 25 ∧ p ≤ p' ∧ p' ≤ p + 20 := by
 obtain ⟨v, hv, v0, v1⟩ := pick_ev hc p 8 h0 (by omega)
 by_cases hv0 : v = 0
 ·obtain ⟨s, p', h, h2, h3, h4⟩ := ref_j hc v (v == 0) (p + 1) (by omega) (by omega)
  refine ⟨s, p', ?_, h2, by omega, by omega⟩
  unfold spec_l71Ref.f
  refine Ev.bind hv ?_
  simp only [if_pos hv0]
  exact h
 ·obtain ⟨s, p', h, h2, h3, h4⟩ := ref_j hc v (v == 1) (p + 1) (by omega) (by omega)
  refine ⟨s, p', ?_, h2, by omega, by omega⟩
  unfold spec_l71Ref.f
  refine Ev.bind hv ?_
  simp only [if_neg hv0]
  exact h
theorem page_l {b : List Int} (hc : Code b) (d : Nat) : ∀ (p : Int) (t : ByteArray), 0 ≤ p → p + 50 * d ≤ 1000000000 → t.size + 60 * d ≤ 300 →
  ∃ s p', Ev (fun k => spec_l71Page.l0 k t (d : Int) b p) (s, p') ∧ s.size ≤ 300 ∧ p ≤ p' ∧ p' ≤ p + 50 * d := by
 induction d with
 | zero =>
  intro p t h0 h1 ht
  refine ⟨t, p, Ev.of (fun k => spec_l71Page.mono_l k _ _ _ _) (k := 1) ?_, by omega, by omega, by omega⟩
  simp only [spec_l71Page.l0]
  rw [if_neg (by omega)]
 | succ d ih =>
  intro p t h0 h1 ht
  have hw : wrap64 (((d + 1 : Nat) : Int) - 1) = (d : Int) := by rw [w64 (by omega) (by omega)]; omega
  have hpos : ((d + 1 : Nat) : Int) > 0 := by omega
  obtain ⟨v, hv, v0, v1⟩ := pick_ev hc p 9 h0 (by omega)
  obtain ⟨r1, p1, hr1, z1, a1, b1⟩ := ref_ev hc (p + 1) (by omega) (by omega)
  obtain ⟨r2, p2, hr2, z2, a2, b2⟩ := ref_ev hc p1 (by omega) (by omega)
  have s40 : (⟨#[40]⟩ : ByteArray).size = 1 := rfl
  have s60 : (⟨#[60]⟩ : ByteArray).size = 1 := rfl
  have s62 : (⟨#[62]⟩ : ByteArray).size = 1 := rfl
  have s6241 : (⟨#[62, 41]⟩ : ByteArray).size = 2 := rfl
  have s6033 : (⟨#[60, 33]⟩ : ByteArray).size = 2 := rfl
  have s6064 : (⟨#[60, 64]⟩ : ByteArray).size = 2 := rfl
  by_cases c0 : v = 0
  ·obtain ⟨s, p', h, h2, h3, h4⟩ := ih p2 (((((t ++ (⟨#[40]⟩ : ByteArray)) ++ r1) ++ (⟨#[60]⟩ : ByteArray)) ++ r2) ++ (⟨#[62, 41]⟩ : ByteArray)) (by omega) (by omega) (by simp only [ByteArray.size_append]; omega)
   refine ⟨s, p', Ev_succ ?_, h2, by omega, by omega⟩
   simp only [spec_l71Page.l0, hpos, hw, if_true]
   refine Ev.bind hv ?_
   simp only [c0, if_true, show t.size + 1 ≤ 9223372036854775807 from by omega]
   refine Ev.bind hr1 ?_
   simp only [show t.size + 1 + r1.size ≤ 9223372036854775807 from by omega, show t.size + 1 + r1.size + 1 ≤ 9223372036854775807 from by omega, if_true]
   refine Ev.bind hr2 ?_
   simp only [show t.size + 1 + r1.size + 1 + r2.size ≤ 9223372036854775807 from by omega, show t.size + 1 + r1.size + 1 + r2.size + 2 ≤ 9223372036854775807 from by omega, if_true]
   exact h
  by_cases c1 : v = 1
  ·obtain ⟨s, p', h, h2, h3, h4⟩ := ih p1 (((t ++ (⟨#[60, 33]⟩ : ByteArray)) ++ r1) ++ (⟨#[62]⟩ : ByteArray)) (by omega) (by omega) (by simp only [ByteArray.size_append]; omega)
   refine ⟨s, p', Ev_succ ?_, h2, by omega, by omega⟩
   simp only [spec_l71Page.l0, hpos, hw, if_true]
   refine Ev.bind hv ?_
   simp only [c0, c1, if_true, if_false, show t.size + 2 ≤ 9223372036854775807 from by omega]
   refine Ev.bind hr1 ?_
   simp only [show t.size + 2 + r1.size ≤ 9223372036854775807 from by omega, show t.size + 2 + r1.size + 1 ≤ 9223372036854775807 from by omega, if_true]
   exact h
  by_cases c2 : v = 2
  ·obtain ⟨s, p', h, h2, h3, h4⟩ := ih p1 (((t ++ (⟨#[60, 64]⟩ : ByteArray)) ++ r1) ++ (⟨#[62]⟩ : ByteArray)) (by omega) (by omega) (by simp only [ByteArray.size_append]; omega)
   refine ⟨s, p', Ev_succ ?_, h2, by omega, by omega⟩
   simp only [spec_l71Page.l0, hpos, hw, if_true]
   refine Ev.bind hv ?_
   simp only [c0, c1, c2, if_true, if_false, show t.size + 2 ≤ 9223372036854775807 from by omega]
   refine Ev.bind hr1 ?_
   simp only [show t.size + 2 + r1.size ≤ 9223372036854775807 from by omega, show t.size + 2 + r1.size + 1 ≤ 9223372036854775807 from by omega, if_true]
   exact h
  by_cases c3 : v = 3
  ·obtain ⟨q, hq, hz⟩ := of_sz hc (p + 1) (([(⟨#[116, 101, 120, 116, 32]⟩ : ByteArray), (⟨#[60]⟩ : ByteArray), (⟨#[62]⟩ : ByteArray), (⟨#[40]⟩ : ByteArray), (⟨#[41]⟩ : ByteArray), (⟨#[60, 97]⟩ : ByteArray)] : List ByteArray)) 5 (by omega) (by omega) (by decide) (by decide)
   obtain ⟨s, p', h, h2, h3, h4⟩ := ih (p + 1 + 1) (t ++ q) (by omega) (by omega) (by simp only [ByteArray.size_append]; omega)
   refine ⟨s, p', Ev_succ ?_, h2, by omega, by omega⟩
   simp only [spec_l71Page.l0, hpos, hw, if_true]
   refine Ev.bind hv ?_
   simp only [c0, c1, c2, c3, if_true, if_false]
   refine Ev.bind hq ?_
   simp only [show t.size + q.size ≤ 9223372036854775807 from by omega, if_true]
   exact h
  ·obtain ⟨s, p', h, h2, h3, h4⟩ := ih p1 (((t ++ (⟨#[60]⟩ : ByteArray)) ++ r1) ++ (⟨#[62]⟩ : ByteArray)) (by omega) (by omega) (by simp only [ByteArray.size_append]; omega)
   refine ⟨s, p', Ev_succ ?_, h2, by omega, by omega⟩
   simp only [spec_l71Page.l0, hpos, hw, if_true]
   refine Ev.bind hv ?_
   simp only [c0, c1, c2, c3, if_true, if_false, show t.size + 1 ≤ 9223372036854775807 from by omega]
   refine Ev.bind hr1 ?_
   simp only [show t.size + 1 + r1.size ≤ 9223372036854775807 from by omega, show t.size + 1 + r1.size + 1 ≤ 9223372036854775807 from by omega, if_true]
   exact h
theorem page_ev {b : List Int} (hc : Code b) (p : Int) (h0 : 0 ≤ p) (h1 : p ≤ 100000000) : ∃ s p', Ev (fun k => spec_l71Page.f k b p) (s, p') ∧ s.size ≤ 300 ∧ p ≤ p' ∧ p' ≤ p + 300 := by
 obtain ⟨v, hv, v0, v1⟩ := pick_ev hc p 5 h0 (by omega)
 have v2 := v1 (by omega)
 obtain ⟨n, rfl⟩ := Int.eq_ofNat_of_zero_le v0
 obtain ⟨s, p', h, h2, h3, h4⟩ := page_l hc n (p + 1) ⟨#[]⟩ (by omega) (by omega) (by have : (⟨#[]⟩ : ByteArray).size = 0 := rfl; omega)
 refine ⟨s, p', ?_, h2, by omega, by omega⟩
 unfold spec_l71Page.f
 exact Ev.bind hv h
end Go.Proofs.YtpomhjkbgbociaaGreatDoor.Draw
end
section
namespace Go.Proofs.YtpomhjkbgbociaaGreatDoor.Draw
open Go.RowKit Go.Proofs.YtpomhjkbgbociaaGreatDoor.P Go.Proofs.YtpomhjkbgbociaaGreatDoorW.PrintWords Go.Proofs.YtpomhjkbgbociaaGreatDoorW.PrintLast Go.Proofs.YtpomhjkbgbociaaGreatDoorW.PrintMore Go.Proofs.YtpomhjkbgbociaaGreatDoor.B Go.Proofs.YtpomhjkbgbociaaGreatDoor.Ad
set_option linter.unusedVariables false
set_option linter.unusedSimpArgs false
abbrev SRd := S108
theorem rule_ev {b : List Int} (hc : Code b) (p : Int) (h0 : 0 ≤ p) (h1 : p ≤ 10000000000) : ∃ s, Ev (fun k => spec_l71Rule.f k b p) (s, p + 1) ∧ s.size ≤ 7 := by
 obtain ⟨s, hs, hz⟩ := of_sz hc p (([(⟨#[47]⟩ : ByteArray), (⟨#[47, 97]⟩ : ByteArray), (⟨#[47, 98]⟩ : ByteArray), (⟨#[47, 97, 47]⟩ : ByteArray), (⟨#[47, 42, 98]⟩ : ByteArray), (⟨#[47, 97, 36]⟩ : ByteArray), (⟨#[47, 99]⟩ : ByteArray), (⟨#[47, 42, 63]⟩ : ByteArray), (⟨#[47, 97, 47, 98]⟩ : ByteArray), (⟨#[47, 42, 47, 98, 36]⟩ : ByteArray), (⟨#[47, 36]⟩ : ByteArray), (⟨#[47, 98, 42, 99]⟩ : ByteArray), (⟨#[47, 110, 111, 116, 105, 99, 101]⟩ : ByteArray), (⟨#[47, 42]⟩ : ByteArray)] : List ByteArray)) 7 h0 (by omega) (by decide) (by decide)
 exact ⟨s, Ev.bind hs (Ev.now _), hz⟩
theorem rules_l {b : List Int} (hc : Code b) (d : Nat) : ∀ (p : Int) (rs : List SRd), 0 ≤ p → p + 2 * d ≤ 10000000000 → rs.length + d ≤ 1000 → (∀ r ∈ rs, r.f1.size ≤ 7) →
  ∃ x p', Ev (fun k => spec_l71Rules.l0 k rs (d : Int) b p) (x, p') ∧ x.length ≤ rs.length + d ∧ (∀ r ∈ x, r.f1.size ≤ 7) ∧ p ≤ p' ∧ p' ≤ p + 2 * d := by
 induction d with
 | zero =>
  intro p rs h0 h1 h2 h3
  refine ⟨rs, p, Ev_succ ?_, by omega, h3, by omega, by omega⟩
  have n1 : ¬ (((0 : Nat) : Int) > 0) := by omega
  simp only [spec_l71Rules.l0, n1, if_false]
  exact Ev.now _
 | succ d ih =>
  intro p rs h0 h1 h2 h3
  obtain ⟨v, hv, _, _⟩ := pick_ev hc p 2 h0 (by omega)
  obtain ⟨s, hs, hz⟩ := rule_ev hc (p + 1) (by omega) (by omega)
  obtain ⟨x, p', hx, g1, g2, g3, g4⟩ := ih (p + 1 + 1) (rs ++ [⟨(v == 0), s⟩]) (by omega) (by omega) (by simp; omega) (fun r hr => by
   rcases List.mem_append.1 hr with h | h
   ·exact h3 r h
   ·rw [List.mem_singleton.1 h]; exact hz)
  refine ⟨x, p', Ev_succ ?_, by simp only [List.length_append, List.length_singleton] at g1; omega, g2, by omega, by omega⟩
  have n1 : (((d + 1 : Nat) : Int) > 0) := by omega
  have e1 : wrap64 (((d + 1 : Nat) : Int) - 1) = (d : Int) := by rw [w64 (by omega) (by omega)]; omega
  have n2 : rs.length < 5864062014805 := by omega
  simp only [spec_l71Rules.l0, n1, if_true, e1, n2]
  exact Ev.bind hv (Ev.bind hs hx)
theorem rules_ev {b : List Int} (hc : Code b) (p : Int) (h0 : 0 ≤ p) (h1 : p ≤ 1000000000) : ∃ x p', Ev (fun k => spec_l71Rules.f k b p) (x, p') ∧ x.length ≤ 4 ∧ (∀ r ∈ x, r.f1.size ≤ 7) ∧ p ≤ p' ∧ p' ≤ p + 20 := by
 obtain ⟨v, hv, v0, v1⟩ := pick_ev hc p 5 h0 (by omega)
 have v2 := v1 (by omega)
 obtain ⟨m, rfl⟩ := Int.eq_ofNat_of_zero_le v0
 obtain ⟨x, p', hx, g1, g2, g3, g4⟩ := rules_l hc m (p + 1) [] (by omega) (by omega) (by simp; omega) (by simp)
 exact ⟨x, p', Ev.bind hv hx, by simp only [List.length_nil] at g1; omega, g2, by omega, by omega⟩
end Go.Proofs.YtpomhjkbgbociaaGreatDoor.Draw
end
section
namespace Go.Proofs.YtpomhjkbgbociaaGreatDoor.Draw
open Go.RowKit Go.Proofs.YtpomhjkbgbociaaGreatDoor.P Go.Proofs.YtpomhjkbgbociaaGreatDoorW.PrintWords Go.Proofs.YtpomhjkbgbociaaGreatDoorW.PrintLast Go.Proofs.YtpomhjkbgbociaaGreatDoorW.PrintMore Go.Proofs.YtpomhjkbgbociaaGreatDoor.B Go.Proofs.YtpomhjkbgbociaaGreatDoor.Ad
set_option linter.unusedVariables false
set_option linter.unusedSimpArgs false
abbrev SGd := S106
def Gd (g : SGd) : Prop := g.f0.length ≤ 2 ∧ (∀ n ∈ g.f0, n.size ≤ 6) ∧ g.f1.length ≤ 4 ∧ (∀ r ∈ g.f1, r.f1.size ≤ 7) ∧ 0 ≤ g.f2 ∧ g.f2 ≤ 6
theorem gd_app {x : List SGd} {g : SGd} (h : ∀ q ∈ x, Gd q) (hg : Gd g) : ∀ q ∈ x ++ [g], Gd q := by
 intro q hq
 rcases List.mem_append.1 hq with hq | hq
 ·exact h q hq
 ·rw [List.mem_singleton.1 hq]; exact hg
theorem groups_l {b : List Int} (hc : Code b) (d : Nat) : ∀ (p : Int) (x : List SGd), 0 ≤ p → p + 100 * d + 10 ≤ 100000000 → x.length + d ≤ 10 → (∀ g ∈ x, Gd g) →
  ∃ y p', Ev (fun k => spec_l71Groups.l0 k x (d : Int) b p) (y, p') ∧ y.length ≤ x.length + d + 1 ∧ (∀ g ∈ y, Gd g) ∧ p ≤ p' ∧ p' ≤ p + 100 * d + 10 := by
 induction d with
 | zero =>
  intro p x h0 h1 hl hx
  obtain ⟨v, hv, v0, v1⟩ := pick_ev hc p 24 h0 (by omega)
  have hl' : x.length < 2513169434916 := by omega
  have n0 : ¬ (((0 : Nat) : Int) > 0) := by omega
  by_cases c0 : v = 0
  ·refine ⟨x ++ [⟨[(⟨#[120]⟩ : ByteArray)], [], 0⟩], p + 1, Ev_succ ?_, by simp, gd_app hx ⟨by decide, by decide, by decide, by simp, by decide, by decide⟩, by omega, by omega⟩
   simp only [spec_l71Groups.l0, n0, if_false]
   refine Ev.bind hv ?_
   simp only [c0, if_true, hl']
   exact Ev.now _
  by_cases c1 : v = 1
  ·refine ⟨x ++ [⟨[], [], 2⟩], p + 1, Ev_succ ?_, by simp, gd_app hx ⟨by decide, by simp, by decide, by simp, by decide, by decide⟩, by omega, by omega⟩
   simp only [spec_l71Groups.l0, n0, if_false]
   refine Ev.bind hv ?_
   simp only [c0, c1, if_true, if_false, hl']
   exact Ev.now _
  by_cases c2 : v = 2
  ·refine ⟨x ++ [⟨[(⟨#[88]⟩ : ByteArray)], [], 2⟩], p + 1, Ev_succ ?_, by simp, gd_app hx ⟨by decide, by decide, by decide, by simp, by decide, by decide⟩, by omega, by omega⟩
   simp only [spec_l71Groups.l0, n0, if_false]
   refine Ev.bind hv ?_
   simp only [c0, c1, c2, if_true, if_false, hl']
   exact Ev.now _
  ·refine ⟨x, p + 1, Ev_succ ?_, by omega, hx, by omega, by omega⟩
   simp only [spec_l71Groups.l0, n0, if_false]
   refine Ev.bind hv ?_
   simp only [c0, c1, c2, if_false]
   exact Ev.now _
 | succ d ih =>
  intro p x h0 h1 hl hx
  have hl' : x.length < 2513169434916 := by omega
  have n1 : (((d + 1 : Nat) : Int) > 0) := by omega
  have e1 : wrap64 (((d + 1 : Nat) : Int) - 1) = (d : Int) := by rw [w64 (by omega) (by omega)]; omega
  obtain ⟨s, hs, hz⟩ := of_sz hc p ([(⟨#[42]⟩ : ByteArray), (⟨#[114, 111, 118, 101, 114]⟩ : ByteArray), (⟨#[115, 99, 111, 117, 116]⟩ : ByteArray)] : List ByteArray) 6 h0 (by omega) (by decide) (by decide)
  obtain ⟨rs, p1, hr, r1, r2, a1, b1⟩ := rules_ev hc (p + 1) (by omega) (by omega)
  obtain ⟨v, hv, v0, v1⟩ := pick_ev hc p1 4 (by omega) (by omega)
  obtain ⟨u, hu, u0, u1⟩ := pick_ev hc (p1 + 1) 3 (by omega) (by omega)
  obtain ⟨t, ht, t0, t1⟩ := pick_ev hc (p1 + 1 + 1) 4 (by omega) (by omega)
  have v2 := v1 (by omega)
  have u2 := u1 (by omega)
  have hm : 0 ≤ v * u ∧ v * u ≤ 6 := by
   obtain rfl | rfl | rfl : u = 0 ∨ u = 1 ∨ u = 2 := by omega
   all_goals omega
  have hw : wrap64 (v * u) = v * u := w64 (by omega) (by omega)
  have tail : ∀ (ns : List ByteArray) (q : Int), ns.length ≤ 2 → (∀ n ∈ ns, n.size ≤ 6) → 0 ≤ q → q ≤ p + 40 →
    ∃ y p', Ev (fun k => if (rs.length : Int) > 0 then (if x.length < 2513169434916 then (spec_l71Groups.l0 k (x ++ [(⟨ns, rs, wrap64 (v * u)⟩ : SGd)]) (wrap64 (((d + 1 : Nat) : Int) - 1)) b q) else none) else (if wrap64 (v * u) > 0 then (if x.length < 2513169434916 then (spec_l71Groups.l0 k (x ++ [(⟨ns, rs, wrap64 (v * u)⟩ : SGd)]) (wrap64 (((d + 1 : Nat) : Int) - 1)) b q) else none) else (spec_l71Groups.l0 k x (wrap64 (((d + 1 : Nat) : Int) - 1)) b q))) (y, p') ∧ y.length ≤ x.length + (d + 1) + 1 ∧ (∀ g ∈ y, Gd g) ∧ q ≤ p' ∧ p' ≤ q + 100 * d + 10 := by
   intro ns q k1 k2 q0 q1
   rw [hw, e1]
   have hg : Gd ⟨ns, rs, v * u⟩ := ⟨k1, k2, r1, r2, hm.1, hm.2⟩
   obtain ⟨y, p', g1, g2, g3, g4, g5⟩ := ih q (x ++ [⟨ns, rs, v * u⟩]) q0 (by omega) (by simp; omega) (gd_app hx hg)
   obtain ⟨y2, p2', f1, f2, f3, f4, f5⟩ := ih q x q0 (by omega) (by omega) hx
   rw [List.length_append, List.length_singleton] at g2
   by_cases c : (rs.length : Int) > 0
   ·refine ⟨y, p', ?_, by omega, g3, g4, g5⟩
    simp only [c, if_true, hl']
    exact g1
   ·by_cases c2 : v * u > 0
    ·refine ⟨y, p', ?_, by omega, g3, g4, g5⟩
     simp only [c, c2, if_true, if_false, hl']
     exact g1
    ·refine ⟨y2, p2', ?_, by omega, f3, f4, f5⟩
     simp only [c, c2, if_false]
     exact f1
  by_cases c : t = 0
  ·obtain ⟨s2, hs2, hz2⟩ := of_sz hc (p1 + 1 + 1 + 1) ([(⟨#[42]⟩ : ByteArray), (⟨#[114, 111, 118, 101, 114]⟩ : ByteArray), (⟨#[120]⟩ : ByteArray)] : List ByteArray) 6 (by omega) (by omega) (by decide) (by decide)
   obtain ⟨y, p', g1, g2, g3, g4, g5⟩ := tail [s, s2] (p1 + 1 + 1 + 1 + 1) (by simp) (by simp [hz, hz2]) (by omega) (by omega)
   refine ⟨y, p', Ev_succ ?_, g2, g3, by omega, by omega⟩
   simp only [spec_l71Groups.l0, n1, if_true]
   refine Ev.bind hs ?_
   simp only [Option.bind_some]
   refine Ev.bind hr (Ev.bind hv (Ev.bind hu (Ev.bind ht ?_)))
   simp only [c, if_true]
   refine Ev.bind hs2 ?_
   simp only [List.length_singleton, show (1 : Nat) < 8796093022208 from by omega, if_true, Option.bind_some, List.singleton_append]
   exact g1
  ·obtain ⟨y, p', g1, g2, g3, g4, g5⟩ := tail [s] (p1 + 1 + 1 + 1) (by simp) (by simp [hz]) (by omega) (by omega)
   refine ⟨y, p', Ev_succ ?_, g2, g3, by omega, by omega⟩
   simp only [spec_l71Groups.l0, n1, if_true]
   refine Ev.bind hs ?_
   simp only [Option.bind_some]
   refine Ev.bind hr (Ev.bind hv (Ev.bind hu (Ev.bind ht ?_)))
   simp only [c, if_false]
   exact g1
theorem groups_ev {b : List Int} (hc : Code b) (p : Int) (h0 : 0 ≤ p) (h1 : p ≤ 10000000) : ∃ y p', Ev (fun k => spec_l71Groups.f k b p) (y, p') ∧ y.length ≤ 4 ∧ (∀ g ∈ y, Gd g) ∧ p ≤ p' ∧ p' ≤ p + 400 := by
 obtain ⟨v, hv, v0, v1⟩ := pick_ev hc p 4 h0 (by omega)
 have v2 := v1 (by omega)
 obtain ⟨m, rfl⟩ := Int.eq_ofNat_of_zero_le v0
 obtain ⟨y, p', g1, g2, g3, g4, g5⟩ := groups_l hc m (p + 1) [] (by omega) (by omega) (by simp; omega) (by simp)
 exact ⟨y, p', Ev.bind hv g1, by simp only [List.length_nil] at g2; omega, g3, by omega, by omega⟩
end Go.Proofs.YtpomhjkbgbociaaGreatDoor.Draw
end
section
namespace Go.Proofs.YtpomhjkbgbociaaGreatDoor.Ad
open Go.RowKit Go.Proofs.YtpomhjkbgbociaaGreatDoor.P Go.Proofs.YtpomhjkbgbociaaGreatDoorW.PrintWords Go.Proofs.YtpomhjkbgbociaaGreatDoorW.PrintLast Go.Proofs.YtpomhjkbgbociaaGreatDoorW.PrintMore Go.Proofs.YtpomhjkbgbociaaGreatDoor.B
set_option linter.unusedVariables false
set_option linter.unusedSimpArgs false
def isName (s : ByteArray) : Bool := decide (1 ≤ s.size) && decide (s.size ≤ 8) && isSmall s
theorem spec_name_l (s : ByteArray) (hs : s.size ≤ 140737488351232) (d : Nat) : ∀ (k : Nat) (i : Nat), i + d = s.size → d < k →
  spec_l2Name.l0 k s (i : Int) = some (smallFrom s d i && (decide (1 ≤ s.size) && decide (s.size ≤ 8))) := by
 induction d with
 | zero =>
  intro k i h hk
  obtain ⟨k, rfl⟩ : ∃ m, k = m + 1 := ⟨k - 1, by omega⟩
  simp only [spec_l2Name.l0, smallFrom, spec_l6In.f]
  rw [if_neg (by omega)]
  by_cases h1 : 1 ≤ s.size
  ·rw [if_pos (by omega)]; simp [h1]; omega
  ·rw [if_neg (by omega)]; simp [h1]
 | succ d ih =>
  intro k i h hk
  obtain ⟨k, rfl⟩ : ∃ m, k = m + 1 := ⟨k - 1, by omega⟩
  simp only [spec_l2Name.l0, smallFrom]
  rw [if_pos (by omega), if_pos (by omega)]
  by_cases h1 : bt s i < 97
  ·rw [if_pos h1, if_pos h1]; rfl
  ·rw [if_neg h1, if_neg h1]
   by_cases h2 : bt s i > 122
   ·rw [if_pos h2, if_pos h2]; rfl
   ·rw [if_neg h2, if_neg h2, w64 (by omega) (by omega)]
    exact ih k (i + 1) (by omega) (by omega)
theorem name_ev (s : ByteArray) (hs : s.size ≤ 140737488351232) : Ev (fun k => spec_l2Name.f k s) (isName s) := by
 refine Ev.of (fun k => spec_l2Name.mono _ k) (k := s.size + 1) ?_
 unfold spec_l2Name.f
 have := spec_name_l s hs s.size (s.size + 1) 0 (by omega) (by omega)
 rw [show ((0 : Nat) : Int) = 0 from rfl] at this
 rw [this]
 unfold isName isSmall
 cases smallFrom s s.size 0 <;> simp
end Go.Proofs.YtpomhjkbgbociaaGreatDoor.Ad
end
section
namespace Go.Proofs.YtpomhjkbgbociaaGreatDoor.Ad
open Go.RowKit Go.Proofs.YtpomhjkbgbociaaGreatDoor.P Go.Proofs.YtpomhjkbgbociaaGreatDoorW.PrintWords Go.Proofs.YtpomhjkbgbociaaGreatDoorW.PrintLast Go.Proofs.YtpomhjkbgbociaaGreatDoorW.PrintMore Go.Proofs.YtpomhjkbgbociaaGreatDoor.B
set_option linter.unusedVariables false
set_option linter.unusedSimpArgs false
def cutL (c : UInt8) : List UInt8 → List UInt8 × List UInt8 × Bool
 | [] => ([], [], false)
 | x :: xs => if x = c then ([], xs, true) else (x :: (cutL c xs).1, (cutL c xs).2)
theorem cutL_false {c : UInt8} : ∀ {l : List UInt8}, (cutL c l).2.2 = false → (cutL c l).1 = l ∧ (cutL c l).2.1 = []
 | [], _ => by simp [cutL]
 | x :: xs, h => by
  unfold cutL at h ⊢
  by_cases e : x = c
  ·rw [if_pos e] at h; cases h
  ·rw [if_neg e] at h ⊢
   have := cutL_false (l := xs) h
   exact ⟨by rw [this.1], this.2⟩
theorem cutL_true {c : UInt8} : ∀ {l : List UInt8}, (cutL c l).2.2 = true → l = (cutL c l).1 ++ c :: (cutL c l).2.1
 | [], h => by simp [cutL] at h
 | x :: xs, h => by
  unfold cutL at h ⊢
  by_cases e : x = c
  ·rw [if_pos e, e]; rfl
  ·rw [if_neg e] at h ⊢
   have := cutL_true (l := xs) h
   show x :: xs = x :: ((cutL c xs).1 ++ c :: (cutL c xs).2.1)
   rw [← this]
theorem cutL_len {c : UInt8} : ∀ (l : List UInt8), (cutL c l).1.length + (cutL c l).2.1.length ≤ l.length ∧ ((cutL c l).2.2 = true → (cutL c l).1.length + (cutL c l).2.1.length + 1 = l.length)
 | [] => by simp [cutL]
 | x :: xs => by
  unfold cutL
  by_cases e : x = c
  ·rw [if_pos e]; simp
  ·rw [if_neg e]
   have := cutL_len (c := c) xs
   simp only [List.length_cons]
   exact ⟨by omega, fun h => by have := this.2 h; omega⟩
theorem bt_at {s : ByteArray} {i : Nat} {c : UInt8} {l : List UInt8} (h : (L s).drop i = c :: l) : i < s.size ∧ bt s i = (c.toNat : Int) ∧ (L s).drop (i + 1) = l := by
 have hl : i < (L s).length := by
  rcases Nat.lt_or_ge i (L s).length with h' | h'
  ·exact h'
  ·rw [List.drop_eq_nil_of_le h'] at h; cases h
 have hd : (L s).drop i = (L s)[i] :: (L s).drop (i + 1) := List.drop_eq_getElem_cons hl
 rw [h] at hd
 injection hd with h1 h2
 refine ⟨by rw [← L_size]; exact hl, ?_, h2.symm⟩
 rw [bt_L, List.getD_eq_getElem?_getD, List.getElem?_eq_getElem hl, ← h1]
 rfl
theorem bt_end {s : ByteArray} {i : Nat} (h : (L s).drop i = []) : s.size ≤ i := by
 rw [← L_size]; exact List.drop_eq_nil_iff.1 h
theorem u8_eq {a b : UInt8} : ((a.toNat : Int) = (b.toNat : Int)) ↔ a = b := by
 constructor
 ·intro h; exact UInt8.toNat_inj.1 (by omega)
 ·intro h; rw [h]
def cutB (c : UInt8) (s : ByteArray) : ByteArray × ByteArray × Bool := (ofL (cutL c (L s)).1, ofL (cutL c (L s)).2.1, (cutL c (L s)).2.2)
theorem cut_l (s : ByteArray) (c : UInt8) (hs : s.size ≤ 140737488351232) : ∀ (l : List UInt8) (i : Nat), (L s).drop i = l →
  Ev (fun k => spec_l1Cut.l0 k s (c.toNat : Int) (i : Int)) (ofL ((L s).take i ++ (cutL c l).1), ofL (cutL c l).2.1, (cutL c l).2.2)
 | [], i, h => by
  have := bt_end h
  have n1 : ¬ ((i : Int) < (s.size : Int)) := by omega
  refine Ev_succ ?_
  simp only [spec_l1Cut.l0, n1, if_false]
  have e : (L s).take i = L s := List.take_of_length_le (by rw [L_size]; omega)
  simp only [cutL, e, List.append_nil, of_L]
  exact Ev.now _
 | x :: xs, i, h => by
  obtain ⟨hi, hb, hd⟩ := bt_at h
  refine Ev_succ ?_
  have e1 : wrap64 ((i : Int) + 1) = ((i + 1 : Nat) : Int) := by rw [w64 (by omega) (by omega)]; rfl
  have f1 : (i : Int) < (s.size : Int) := by omega
  have f2 : (0 : Int) ≤ (i : Int) := by omega
  have f3 : (i : Int) ≤ (s.size : Int) := by omega
  have f4 : (0 : Int) ≤ ((i + 1 : Nat) : Int) := by omega
  have f5 : ((i + 1 : Nat) : Int) ≤ (s.size : Int) := by omega
  simp only [spec_l1Cut.l0, e1, f1, f2, f3, f4, f5, if_true, hb, u8_eq]
  unfold cutL
  by_cases e : x = c
  ·simp only [e, if_true]
   have a1 : s.extract 0 ((i : Int)).toNat = ofL ((L s).take i ++ []) := by
    apply L_inj; rw [L_ext, L_of]; simp
   have a2 : s.extract ((((i + 1 : Nat) : Int))).toNat s.size = ofL xs := by
    apply L_inj; rw [L_ext, L_of, Int.toNat_natCast, hd, List.take_of_length_le]
    rw [← hd, List.length_drop, L_size]; omega
   rw [a1, a2]
   exact Ev.now _
  ·simp only [e, if_false]
   have := cut_l s c hs xs (i + 1) hd
   have ht : (L s).take (i + 1) ++ (cutL c xs).1 = (L s).take i ++ (x :: (cutL c xs).1) := by
    have hl : i < (L s).length := by rw [L_size]; exact hi
    have : (L s)[i] = x := by
     have hd2 : (L s).drop i = (L s)[i] :: (L s).drop (i + 1) := List.drop_eq_getElem_cons hl
     rw [h] at hd2
     injection hd2 with h1 h2
     exact h1.symm
    rw [List.take_succ_eq_append_getElem hl, this]
    simp
   rw [ht] at this
   exact this
theorem cut_ev (s : ByteArray) (c : UInt8) (hs : s.size ≤ 140737488351232) : Ev (fun k => spec_l1Cut.f k s (c.toNat : Int)) (cutB c s) := by
 have := cut_l s c hs (L s) 0 rfl
 simp only [List.take_zero, List.nil_append] at this
 exact this
def splitN (c : UInt8) : Nat → List UInt8 → List (List UInt8)
 | 0, l => [l]
 | n + 1, l => (cutL c l).1 :: (if (cutL c l).2.2 = true then splitN c n (cutL c l).2.1 else [])
def splitL (c : UInt8) (l : List UInt8) : List (List UInt8) := splitN c (l.length + 1) l
theorem splitN_eq (c : UInt8) : ∀ (n m : Nat) (l : List UInt8), l.length < n → l.length < m → splitN c n l = splitN c m l
 | 0, _, l, h, _ => absurd h (by omega)
 | _ + 1, 0, l, _, h => absurd h (by omega)
 | n + 1, m + 1, l, h1, h2 => by
  simp only [splitN]
  by_cases e : (cutL c l).2.2 = true
  ·have := (cutL_len (c := c) l).2 e
   rw [if_pos e, if_pos e, splitN_eq c n m _ (by omega) (by omega)]
  ·rw [if_neg e, if_neg e]
theorem splitL_eq (c : UInt8) (l : List UInt8) : splitL c l = (cutL c l).1 :: (if (cutL c l).2.2 = true then splitL c (cutL c l).2.1 else []) := by
 unfold splitL
 rw [splitN]
 by_cases e : (cutL c l).2.2 = true
 ·have := (cutL_len (c := c) l).2 e
  rw [if_pos e, if_pos e, splitN_eq c _ ((cutL c l).2.1.length + 1) _ (by omega) (by omega)]
 ·rw [if_neg e, if_neg e]
theorem splitN_len (c : UInt8) : ∀ (n : Nat) (l : List UInt8), (splitN c n l).length ≤ l.length + 1
 | 0, l => by simp [splitN]
 | n + 1, l => by
  simp only [splitN]
  by_cases e : (cutL c l).2.2 = true
  ·have := (cutL_len (c := c) l).2 e
   have ih := splitN_len c n (cutL c l).2.1
   rw [if_pos e]; simp only [List.length_cons]; omega
  ·rw [if_neg e]; simp
theorem splitL_len (c : UInt8) (l : List UInt8) : (splitL c l).length ≤ l.length + 1 := splitN_len c _ l
theorem split_l (c : UInt8) (n : Nat) : ∀ (s : ByteArray) (acc : List ByteArray), s.size < n → s.size ≤ 1000000000 → acc.length + s.size ≤ 2000000000 →
  Ev (fun k => spec_l1Split.l0 k (c.toNat : Int) acc s true) (acc ++ (splitL c (L s)).map ofL) := by
 induction n with
 | zero => intro s acc h; exact absurd h (by omega)
 | succ n ih =>
  intro s acc h h1 h2
  refine Ev_succ ?_
  simp only [spec_l1Split.l0, if_true]
  refine Ev.bind (cut_ev s c (by omega)) ?_
  have g1 : acc.length < 8796093022208 := by omega
  simp only [g1, if_true]
  rw [splitL_eq]
  have hl := cutL_len (c := c) (L s)
  rw [L_size] at hl
  by_cases e : (cutL c (L s)).2.2 = true
  ·have e' : (cutB c s).2.2 = true := e
   have hz : (ofL (cutL c (L s)).2.1).size = (cutL c (L s)).2.1.length := ofL_size _
   have := hl.2 e
   have ih' := ih (ofL (cutL c (L s)).2.1) (acc ++ [ofL (cutL c (L s)).1]) (by omega) (by omega) (by simp only [List.length_append, List.length_singleton]; omega)
   rw [if_pos e]
   simp only [cutB, e]
   rw [L_of] at ih'
   simpa using ih'
  ·have e' : (cutL c (L s)).2.2 = false := by simpa using e
   rw [if_neg e]
   simp only [cutB, e']
   refine Ev_succ ?_
   simp only [spec_l1Split.l0]
   simp
   exact Ev.now _
theorem split_ev (s : ByteArray) (c : UInt8) (hs : s.size ≤ 1000000000) : Ev (fun k => spec_l1Split.f k s (c.toNat : Int)) ((splitL c (L s)).map ofL) := by
 have := split_l c (s.size + 1) s [] (by omega) hs (by simp; omega)
 rw [List.nil_append] at this
 exact this
end Go.Proofs.YtpomhjkbgbociaaGreatDoor.Ad
end
section
namespace Go.Proofs.YtpomhjkbgbociaaGreatDoor.Ad
open Go.RowKit Go.Proofs.YtpomhjkbgbociaaGreatDoor.P Go.Proofs.YtpomhjkbgbociaaGreatDoorW.PrintWords Go.Proofs.YtpomhjkbgbociaaGreatDoorW.PrintLast Go.Proofs.YtpomhjkbgbociaaGreatDoorW.PrintMore Go.Proofs.YtpomhjkbgbociaaGreatDoor.B
set_option linter.unusedVariables false
set_option linter.unusedSimpArgs false
def patB (c : UInt8) : Bool := plainB c || c == 47 || c == 42 || c == 63 || c == 37 || (decide (65 ≤ c.toNat) && decide (c.toNat ≤ 70))
def okL : List UInt8 → Bool
 | [] => true
 | c :: r => (patB c || (c == 36 && r.isEmpty)) && okL r
def ruleOk (p : ByteArray) : Bool := decide (1 ≤ p.size) && decide (p.size ≤ 16) && (bt p 0 == 47) && okL (L p)
theorem plain_f (c : UInt8) : spec_l1Plain.f (c.toNat : Int) = some (plainB c) := by
 have := plain_all c.toNat c.toNat_lt
 rwa [of_toNat] at this
theorem ok_spec_l (s : ByteArray) (hs : s.size ≤ 1000000) : ∀ (l : List UInt8) (i : Nat), (L s).drop i = l → Ev (fun k => spec_RuleOk.l0 k s (i : Int)) (okL l)
 | [], i, h => by
  have := bt_end h
  have n1 : ¬ ((i : Int) < (s.size : Int)) := by omega
  refine Ev_succ ?_
  simp only [spec_RuleOk.l0, n1, if_false]
  exact Ev.now _
 | x :: xs, i, h => by
  obtain ⟨hi, hb, hd⟩ := bt_at h
  have e1 : wrap64 ((i : Int) + 1) = ((i + 1 : Nat) : Int) := by rw [w64 (by omega) (by omega)]; rfl
  have e2 : wrap64 ((s.size : Int) - 1) = (s.size : Int) - 1 := w64 (by omega) (by omega)
  have f1 : (i : Int) < (s.size : Int) := by omega
  have f2 : (0 : Int) ≤ (i : Int) := by omega
  have hx : xs.length + (i + 1) = s.size := by rw [← L_size, ← hd, List.length_drop]; rw [L_size]; omega
  have hE : xs.isEmpty = decide ((i : Int) = (s.size : Int) - 1) := by
   cases xs with
   | nil => simp at hx ⊢; omega
   | cons y ys => simp at hx ⊢; omega
  have ih := ok_spec_l s hs xs (i + 1) hd
  have c1 : ((x.toNat : Int) = 47) ↔ (x == 47) = true := by rw [beq_iff_eq]; exact u8_eq (b := 47)
  have c2 : ((x.toNat : Int) = 42) ↔ (x == 42) = true := by rw [beq_iff_eq]; exact u8_eq (b := 42)
  have c3 : ((x.toNat : Int) = 63) ↔ (x == 63) = true := by rw [beq_iff_eq]; exact u8_eq (b := 63)
  have c4 : ((x.toNat : Int) = 37) ↔ (x == 37) = true := by rw [beq_iff_eq]; exact u8_eq (b := 37)
  have c5 : ((x.toNat : Int) = 36) ↔ (x == 36) = true := by rw [beq_iff_eq]; exact u8_eq (b := 36)
  have c6 : ((x.toNat : Int) ≥ 65) ↔ (decide (65 ≤ x.toNat)) = true := by rw [decide_eq_true_eq]; omega
  have c7 : ((x.toNat : Int) ≤ 70) ↔ (decide (x.toNat ≤ 70)) = true := by rw [decide_eq_true_eq]; omega
  have c8 : ((i : Int) = (s.size : Int) - 1) ↔ xs.isEmpty = true := by rw [hE, decide_eq_true_eq]
  refine Ev_succ ?_
  simp only [spec_RuleOk.l0, e1, e2, f1, f2, if_true, hb, plain_f, Option.bind_some, okL, patB, c1, c2, c3, c4, c5, c6, c7, c8]
  have yes : Ev (fun k => spec_RuleOk.l0 k s ((i + 1 : Nat) : Int)) (true && okL xs) := by rw [Bool.true_and]; exact ih
  have no : Ev (fun k => some false) (false && okL xs) := by rw [Bool.false_and]; exact Ev.now _
  cases plainB x
  ·cases (x == 47)
   ·cases (x == 42)
    ·cases (x == 63)
     ·cases (x == 37)
      ·cases (x == 36) <;> cases xs.isEmpty <;> cases decide (65 ≤ x.toNat) <;> cases decide (x.toNat ≤ 70) <;> first | exact yes | exact no
      ·exact yes
     ·exact yes
    ·exact yes
   ·exact yes
  ·exact yes
theorem ruleOk_spec (p : ByteArray) : Ev (fun k => spec_RuleOk.f k p) (ruleOk p) := by
 unfold spec_RuleOk.f ruleOk
 by_cases h2 : p.size ≤ 16
 ·have n2 : ¬ (p.size : Int) > 16 := by omega
  by_cases h1 : p.size = 0
  ·have z := toList_nil.2 h1
   have n1 : ¬ 1 ≤ p.size := by omega
   simp only [n2, if_false, z, if_true, n1, decide_false, Bool.false_and]
   refine Ev_succ ?_
   simp only [spec_RuleOk.j0, if_true]
   exact Ev.now _
  ·have z : ¬ p.toList = [] := fun e => h1 (toList_nil.1 e)
   have n1 : 1 ≤ p.size := by omega
   have n3 : (0 : Int) < (p.size : Int) := by omega
   simp only [n2, n1, n3, z, h2, if_true, if_false, decide_true, Bool.true_and]
   refine Ev_succ ?_
   by_cases h3 : bt p 0 = 47
   ·simp only [spec_RuleOk.j0, h3, bne_self_eq_false, Bool.false_eq_true, if_false, beq_self_eq_true, Bool.true_and]
    have := ok_spec_l p (by omega) _ 0 rfl
    rw [List.drop_zero] at this
    exact this
   ·have h4 : (bt p 0 != 47) = true := by simpa using h3
    have h5 : (bt p 0 == 47) = false := by simpa using h3
    simp only [spec_RuleOk.j0, h4, h5, if_true, Bool.false_and]
    exact Ev.now _
 ·have n2 : (p.size : Int) > 16 := by omega
  simp only [n2, h2, if_true, decide_false, Bool.and_false, Bool.false_and]
  refine Ev_succ ?_
  simp only [spec_RuleOk.j0, if_true]
  exact Ev.now _
end Go.Proofs.YtpomhjkbgbociaaGreatDoor.Ad
end
section
namespace Go.Proofs.YtpomhjkbgbociaaGreatDoor.Nt
open Go.RowKit Go.Proofs.YtpomhjkbgbociaaGreatDoor.P Go.Proofs.YtpomhjkbgbociaaGreatDoorW.PrintWords Go.Proofs.YtpomhjkbgbociaaGreatDoorW.PrintLast Go.Proofs.YtpomhjkbgbociaaGreatDoorW.PrintMore Go.Proofs.YtpomhjkbgbociaaGreatDoor.B Go.Proofs.YtpomhjkbgbociaaGreatDoor.Ad
set_option linter.unusedVariables false
set_option linter.unusedSimpArgs false
abbrev Gp := S106
abbrev Ru := S108
structure Sm (n : List Gp) : Prop where
 few : n.length ≤ 1048576
 names : ∀ g ∈ n, g.f0.length ≤ 1048576 ∧ ∀ s ∈ g.f0, s.size ≤ 1048576
 rules : ∀ g ∈ n, g.f1.length ≤ 1048576
def gname (s : ByteArray) : Bool := s.toList == [42] || isName s
def groupOk (g : Gp) : Bool := decide (g.f0.length ≠ 0) && (decide (g.f1.length ≠ 0) || decide (g.f2 ≠ 0)) && decide (g.f1.length ≤ 6) && (decide (0 ≤ g.f2) && decide (g.f2 ≤ 20)) && g.f0.all gname && g.f1.all fun r => ruleOk r.f1
def linesOf (n : List Gp) : Nat := (n.map fun g => g.f0.length + g.f1.length + 1).sum
def noticeOk (n : List Gp) : Bool := n.all groupOk && decide (linesOf n ≤ 40)
theorem rd_gp {l : List Gp} {i : Nat} (h : i < l.length) : rd_T106 l (i : Int) = l[i] := by
 simp [rd_T106, List.getD, List.getElem?_eq_getElem h]
theorem rd_ru {l : List Ru} {i : Nat} (h : i < l.length) : rd_T108 l (i : Int) = l[i] := by
 simp [rd_T108, List.getD, List.getElem?_eq_getElem h]
theorem Sm.get {n : List Gp} (h : Sm n) {i : Nat} (hi : i < n.length) : n[i].f0.length ≤ 1048576 ∧ (∀ s ∈ n[i].f0, s.size ≤ 1048576) ∧ n[i].f1.length ≤ 1048576 :=
 ⟨(h.names _ (List.getElem_mem hi)).1, (h.names _ (List.getElem_mem hi)).2, h.rules _ (List.getElem_mem hi)⟩
theorem ok_rules (n : List Gp) (ns : List ByteArray) (rs : List Ru) (wt : Int) (hn : ns.length ≤ 1048576) (hr : rs.length ≤ 1048576) (c i : Nat) (hc : c ≤ 1000000000000000) (hi : i ≤ 1048576) (R : Bool)
  (hR : Ev (fun k => spec_NoticeOk.l0 k n ((c + (ns.length + rs.length + 1) : Nat) : Int) ((i + 1 : Nat) : Int)) R) (d : Nat) : ∀ j, j + d = rs.length →
  Ev (fun k => spec_NoticeOk.l2 k n (c : Int) (i : Int) (j : Int) ns rs wt) (((rs.drop j).all fun r => ruleOk r.f1) && R) := by
 induction d with
 | zero =>
  intro j hj
  have e1 : wrap64 ((c : Int) + (ns.length : Int)) = ((c + ns.length : Nat) : Int) := by rw [w64 (by omega) (by omega)]; omega
  have e2 : wrap64 (((c + ns.length : Nat) : Int) + (rs.length : Int)) = ((c + ns.length + rs.length : Nat) : Int) := by rw [w64 (by omega) (by omega)]; omega
  have e3 : wrap64 (((c + ns.length + rs.length : Nat) : Int) + 1) = ((c + (ns.length + rs.length + 1) : Nat) : Int) := by rw [w64 (by omega) (by omega)]; omega
  have e4 : wrap64 ((i : Int) + 1) = ((i + 1 : Nat) : Int) := by rw [w64 (by omega) (by omega)]; rfl
  refine Ev_succ ?_
  simp only [spec_NoticeOk.l2, show ¬ ((j : Int) < (rs.length : Int)) from by omega, if_false]
  rw [e1, e2, e3, e4, List.drop_of_length_le (by omega)]
  simpa using hR
 | succ d ih =>
  intro j hj
  have hlt : j < rs.length := by omega
  have e4 : wrap64 ((j : Int) + 1) = ((j + 1 : Nat) : Int) := by rw [w64 (by omega) (by omega)]; rfl
  refine Ev_succ ?_
  simp only [spec_NoticeOk.l2, show (j : Int) < (rs.length : Int) from by omega, show (0 : Int) ≤ (j : Int) from by omega, if_true]
  rw [rd_ru hlt, e4, List.drop_eq_getElem_cons hlt, List.all_cons]
  refine Ev.bind (ruleOk_spec _) ?_
  cases ruleOk rs[j].f1 with
  | true => simp only [if_true, Bool.true_and]; exact ih (j + 1) (by omega)
  | false => simp only [Bool.false_eq_true, if_false, Bool.false_and]; exact Ev.now _
theorem ok_names (n : List Gp) (ns : List ByteArray) (rs : List Ru) (wt : Int) (hn : ns.length ≤ 1048576) (hs : ∀ s ∈ ns, s.size ≤ 1048576) (c i : Nat) (R : Bool)
  (hR : Ev (fun k => spec_NoticeOk.l2 k n (c : Int) (i : Int) 0 ns rs wt) R) (d : Nat) : ∀ j, j + d = ns.length →
  Ev (fun k => spec_NoticeOk.l1 k n (c : Int) (i : Int) (j : Int) ns rs wt) ((ns.drop j).all gname && R) := by
 induction d with
 | zero =>
  intro j hj
  refine Ev_succ ?_
  simp only [spec_NoticeOk.l1, show ¬ ((j : Int) < (ns.length : Int)) from by omega, if_false]
  rw [List.drop_of_length_le (by omega)]
  simpa using hR
 | succ d ih =>
  intro j hj
  have hlt : j < ns.length := by omega
  have e4 : wrap64 ((j : Int) + 1) = ((j + 1 : Nat) : Int) := by rw [w64 (by omega) (by omega)]; rfl
  refine Ev_succ ?_
  simp only [spec_NoticeOk.l1, show (j : Int) < (ns.length : Int) from by omega, show (0 : Int) ≤ (j : Int) from by omega, if_true]
  rw [rd_at hlt, e4, List.drop_eq_getElem_cons hlt, List.all_cons]
  have next := ih (j + 1) (by omega)
  have hz := hs _ (List.getElem_mem hlt)
  unfold gname at next ⊢
  by_cases h42 : ns[j].toList = ([42] : List UInt8)
  ·simp only [h42, if_true, beq_self_eq_true, Bool.true_or, Bool.true_and]; exact next
  ·simp only [h42, if_false, beq_eq_false_iff_ne.mpr h42, Bool.false_or]
   refine Ev.bind (name_ev _ (by omega)) ?_
   cases isName ns[j] with
   | true => simp only [if_true, Bool.true_and]; exact next
   | false => simp only [Bool.false_eq_true, if_false, Bool.false_and]; exact Ev.now _
theorem l6In_some (x lo hi : Int) : spec_l6In.f x lo hi = some (decide (lo ≤ x) && decide (x ≤ hi)) := by
 unfold spec_l6In.f
 by_cases h : x ≥ lo
 ·simp [h]
 ·simp [h]
theorem ok_outer (n : List Gp) (hn : Sm n) (d : Nat) : ∀ (i c : Nat), i + d = n.length → c ≤ 2097153 * i →
  Ev (fun k => spec_NoticeOk.l0 k n (c : Int) (i : Int)) ((n.drop i).all groupOk && decide (c + linesOf (n.drop i) ≤ 40)) := by
 have hf := hn.few
 induction d with
 | zero =>
  intro i c hi hc
  refine Ev_succ ?_
  simp only [spec_NoticeOk.l0, show ¬ ((i : Int) < (n.length : Int)) from by omega, if_false]
  rw [List.drop_of_length_le (by omega)]
  simp only [List.all_nil, Bool.true_and, linesOf, List.map_nil, List.sum_nil, Nat.add_zero]
  rw [show (decide (c ≤ 40)) = decide ((c : Int) ≤ 40) from by simp; omega]
  exact Ev.now _
 | succ d ih =>
  intro i c hi hc
  have hlt : i < n.length := by omega
  obtain ⟨s1, s2, s3⟩ := hn.get hlt
  have next := ih (i + 1) (c + (n[i].f0.length + n[i].f1.length + 1)) (by omega) (by omega)
  rw [List.drop_eq_getElem_cons hlt, List.all_cons]
  have hL : linesOf (n[i] :: n.drop (i + 1)) = (n[i].f0.length + n[i].f1.length + 1) + linesOf (n.drop (i + 1)) := by unfold linesOf; rw [List.map_cons, List.sum_cons]
  rw [hL]
  rw [show c + (n[i].f0.length + n[i].f1.length + 1) + linesOf (n.drop (i + 1)) = c + ((n[i].f0.length + n[i].f1.length + 1) + linesOf (n.drop (i + 1))) from by omega] at next
  generalize decide (c + ((n[i].f0.length + n[i].f1.length + 1) + linesOf (n.drop (i + 1))) ≤ 40) = D at next ⊢
  generalize (n.drop (i + 1)).all groupOk = E at next ⊢
  refine Ev_succ ?_
  simp only [spec_NoticeOk.l0, show (i : Int) < (n.length : Int) from by omega, show (0 : Int) ≤ (i : Int) from by omega, if_true]
  rw [rd_gp hlt]
  generalize n[i] = g at *
  obtain ⟨ns, rs, wt⟩ := g
  simp only at s1 s2 s3 next ⊢
  have go : Ev (fun k => spec_NoticeOk.j1 k n (c : Int) (i : Int) false ns rs wt) (ns.all gname && ((rs.all fun r => ruleOk r.f1) && (E && D))) := by
   refine Ev_succ ?_
   simp only [spec_NoticeOk.j1, Bool.false_eq_true, if_false]
   have h2 := ok_rules n ns rs wt s1 s3 c i (by omega) (by omega) _ next rs.length 0 (by omega)
   rw [List.drop_zero] at h2
   have h1 := ok_names n ns rs wt s1 s2 c i _ h2 ns.length 0 (by omega)
   rw [List.drop_zero] at h1
   exact h1
  have stop : Ev (fun k => spec_NoticeOk.j1 k n (c : Int) (i : Int) true ns rs wt) false := Ev_succ (by simp only [spec_NoticeOk.j1, if_true]; exact Ev.now _)
  unfold groupOk
  simp only
  by_cases h0 : ns.length = 0
  ·simp only [show ((ns.length : Int) = 0) from by omega, if_true, h0, ne_eq, not_true, decide_false, Bool.false_and]; exact stop
  ·simp only [show ¬ ((ns.length : Int) = 0) from by omega, if_false, h0, ne_eq, not_false_iff, decide_true, Bool.true_and]
   have tail : Ev (fun k => if (rs.length : Int) > 6 then (spec_NoticeOk.j1 k n (c : Int) (i : Int) true ns rs wt) else ((spec_l6In.f wt 0 20).bind fun t => (spec_NoticeOk.j1 k n (c : Int) (i : Int) (!t) ns rs wt)))
     ((decide (rs.length ≤ 6) && (decide (0 ≤ wt) && decide (wt ≤ 20)) && ns.all gname && rs.all fun r => ruleOk r.f1) && E && D) := by
    by_cases h6 : rs.length ≤ 6
    ·simp only [show ¬ ((rs.length : Int) > 6) from by omega, if_false, h6, decide_true, Bool.true_and, l6In_some, Option.bind_some]
     cases (decide (0 ≤ wt) && decide (wt ≤ 20)) with
     | true => simp only [Bool.not_true, Bool.true_and]; simpa [Bool.and_assoc] using go
     | false => simp only [Bool.not_false, Bool.false_and]; exact stop
    ·simp only [show ((rs.length : Int) > 6) from by omega, if_true, h6, decide_false, Bool.false_and]; exact stop
   by_cases h1 : rs.length = 0
   ·have b1 : decide (rs.length ≠ 0) = false := by simp [h1]
    have i1 : (rs.length : Int) = 0 := by omega
    rw [show decide (¬ rs.length = 0) = false from b1]
    by_cases hw : wt = 0
    ·subst hw
     simp only [i1, if_true, not_true, decide_false, Bool.or_self, Bool.false_and]
     exact stop
    ·simp only [if_pos i1, if_neg hw, hw, not_false_iff, decide_true, Bool.or_true, Bool.true_and]; exact tail
   ·have i1 : ¬ (rs.length : Int) = 0 := by omega
    simp only [if_neg i1, h1, not_false_iff, decide_true, Bool.true_or, Bool.true_and]; exact tail
theorem noticeOk_ev (n : List Gp) (hn : Sm n) : Ev (fun k => spec_NoticeOk.f k n) (noticeOk n) := by
 have h := ok_outer n hn n.length 0 0 (by omega) (by omega)
 rw [List.drop_zero, Nat.zero_add] at h
 exact h
def decB (n : Nat) : ByteArray := if n < 10 then ofL [UInt8.ofNat (48 + n)] else ofL [UInt8.ofNat (48 + n / 10), UInt8.ofNat (48 + n % 10)]
theorem dec_all : ∀ n : Nat, n < 100 → (spec_l6Dec.f 3 (n : Int)).map L = some (L (decB n)) := by decide +kernel
theorem dec_ev (n : Nat) (h : n < 100) : Ev (fun k => spec_l6Dec.f k (n : Int)) (decB n) := by
 have := dec_all n h
 cases hq : spec_l6Dec.f 3 (n : Int) with
 | none => rw [hq] at this; cases this
 | some v =>
  rw [hq] at this
  simp only [Option.map_some, Option.some.injEq] at this
  rw [L_inj this] at hq
  exact Ev.of (fun k => spec_l6Dec.mono _ k) hq
theorem dec_size (n : Nat) : (decB n).size ≤ 2 := by
 unfold decB
 split
 ·exact Nat.le_succ 1
 ·exact Nat.le_refl 2
def nameT (a s : ByteArray) : ByteArray := ((a ++ (⟨#[99, 97, 108, 108, 101, 114, 32]⟩ : ByteArray)) ++ s) ++ (⟨#[10]⟩ : ByteArray)
def ruleT (a : ByteArray) (r : Ru) : ByteArray := ((a ++ (if r.f0 = true then (⟨#[108, 101, 116, 32]⟩ : ByteArray) else (⟨#[98, 97, 114, 32]⟩ : ByteArray))) ++ r.f1) ++ (⟨#[10]⟩ : ByteArray)
def waitT (a : ByteArray) (w : Int) : ByteArray := if w > 0 then ((a ++ (⟨#[119, 97, 105, 116, 32]⟩ : ByteArray)) ++ decB w.toNat) ++ (⟨#[10]⟩ : ByteArray) else a
def groupT (a : ByteArray) (g : Gp) : ByteArray := waitT (g.f1.foldl ruleT (g.f0.foldl nameT a)) g.f2
def noticeT (n : List Gp) : ByteArray := if noticeOk n = true then n.foldl groupT (⟨#[]⟩ : ByteArray) else (⟨#[]⟩ : ByteArray)
theorem sz10 : (⟨#[10]⟩ : ByteArray).size = 1 := rfl
theorem nameT_size (a s : ByteArray) : (nameT a s).size = a.size + 7 + s.size + 1 := by
 have : (⟨#[99, 97, 108, 108, 101, 114, 32]⟩ : ByteArray).size = 7 := rfl
 unfold nameT; simp only [ByteArray.size_append, sz10]; omega
theorem ruleT_size (a : ByteArray) (r : Ru) : (ruleT a r).size = a.size + 4 + r.f1.size + 1 := by
 have h1 : (⟨#[108, 101, 116, 32]⟩ : ByteArray).size = 4 := rfl
 have h2 : (⟨#[98, 97, 114, 32]⟩ : ByteArray).size = 4 := rfl
 unfold ruleT; split <;> (simp only [ByteArray.size_append, sz10]; omega)
theorem gname_size {s : ByteArray} (h : gname s = true) : s.size ≤ 8 := by
 unfold gname at h
 rcases (Bool.or_eq_true _ _).mp h with h | h
 ·have := (beq_iff_eq.1 h)
  rw [Lib.toList_data] at this
  have h2 := L_size s
  rw [show L s = [42] from this] at h2
  simp at h2; omega
 ·unfold isName at h
  simp only [Bool.and_eq_true, decide_eq_true_eq] at h
  omega
theorem ruleOk_size {s : ByteArray} (h : ruleOk s = true) : s.size ≤ 16 := by
 unfold ruleOk at h
 simp only [Bool.and_eq_true, decide_eq_true_eq] at h
 omega
theorem names_size : ∀ (ns : List ByteArray) (a : ByteArray), ns.all gname = true → (ns.foldl nameT a).size ≤ a.size + 24 * ns.length
 | [], a, _ => by simp
 | s :: r, a, h => by
  rw [List.all_cons, Bool.and_eq_true] at h
  have := names_size r (nameT a s) h.2
  have h1 := gname_size h.1
  rw [nameT_size] at this
  rw [List.foldl_cons, List.length_cons]; omega
theorem rules_size : ∀ (rs : List Ru) (a : ByteArray), (rs.all fun r => ruleOk r.f1) = true → (rs.foldl ruleT a).size ≤ a.size + 24 * rs.length
 | [], a, _ => by simp
 | s :: r, a, h => by
  rw [List.all_cons, Bool.and_eq_true] at h
  have := rules_size r (ruleT a s) h.2
  have h1 := ruleOk_size h.1
  rw [ruleT_size] at this
  rw [List.foldl_cons, List.length_cons]; omega
theorem waitT_size (a : ByteArray) (w : Int) : (waitT a w).size ≤ a.size + 8 := by
 unfold waitT
 have h5 : (⟨#[119, 97, 105, 116, 32]⟩ : ByteArray).size = 5 := rfl
 have := dec_size w.toNat
 split
 ·simp only [ByteArray.size_append, sz10]; omega
 ·omega
theorem groupOk_parts {g : Gp} (h : groupOk g = true) : (g.f0.all gname = true) ∧ ((g.f1.all fun r => ruleOk r.f1) = true) ∧ 0 ≤ g.f2 ∧ g.f2 ≤ 20 ∧ g.f0.length ≠ 0 ∧ (g.f1.length ≠ 0 ∨ g.f2 ≠ 0) ∧ g.f1.length ≤ 6 := by
 unfold groupOk at h
 simp only [Bool.and_eq_true, Bool.or_eq_true, decide_eq_true_eq] at h
 obtain ⟨⟨⟨⟨⟨h1, h2⟩, h3⟩, h4⟩, h5⟩, h6⟩ := h
 exact ⟨h5, h6, h4.1, h4.2, h1, h2, h3⟩
theorem group_size {g : Gp} (a : ByteArray) (h : groupOk g = true) : (groupT a g).size ≤ a.size + 24 * (g.f0.length + g.f1.length + 1) := by
 obtain ⟨h1, h2, _⟩ := groupOk_parts h
 have e1 := names_size g.f0 a h1
 have e2 := rules_size g.f1 (g.f0.foldl nameT a) h2
 have e3 := waitT_size (g.f1.foldl ruleT (g.f0.foldl nameT a)) g.f2
 unfold groupT; omega
theorem text_names (n : List Gp) (i : Nat) (hi : i < n.length) (hok : n[i].f0.all gname = true) (hl : n[i].f0.length ≤ 1048576) (R : ByteArray) (d : Nat) : ∀ (j : Nat) (a : ByteArray), j + d = n[i].f0.length → a.size + 24 * d ≤ 1000000000000000 →
  Ev (fun k => spec_NoticeText.l2 k n ((n[i].f0.drop j).foldl nameT a) (i : Int) 0) R → Ev (fun k => spec_NoticeText.l1 k n a (i : Int) (j : Int)) R := by
 induction d with
 | zero =>
  intro j a hj ha hR
  rw [List.drop_of_length_le (by omega)] at hR
  refine Ev_succ ?_
  simp only [spec_NoticeText.l1, show (0 : Int) ≤ (i : Int) from by omega, show (i : Int) < (n.length : Int) from by omega, if_true]
  rw [rd_gp hi]
  simp only [show ¬ ((j : Int) < (n[i].f0.length : Int)) from by omega, if_false]
  exact hR
 | succ d ih =>
  intro j a hj ha hR
  have hlt : j < n[i].f0.length := by omega
  have e4 : wrap64 ((j : Int) + 1) = ((j + 1 : Nat) : Int) := by rw [w64 (by omega) (by omega)]; rfl
  rw [List.drop_eq_getElem_cons hlt, List.foldl_cons] at hR
  have hz := gname_size (List.all_eq_true.1 hok _ (List.getElem_mem hlt))
  refine Ev_succ ?_
  simp only [spec_NoticeText.l1, show (0 : Int) ≤ (i : Int) from by omega, show (i : Int) < (n.length : Int) from by omega, if_true]
  rw [rd_gp hi]
  simp only [show ((j : Int) < (n[i].f0.length : Int)) from by omega, show (0 : Int) ≤ (j : Int) from by omega, if_true]
  rw [rd_at hlt, e4]
  simp only [show a.size + 7 ≤ 9223372036854775807 from by omega, show a.size + 7 + n[i].f0[j].size ≤ 9223372036854775807 from by omega, show a.size + 7 + n[i].f0[j].size + 1 ≤ 9223372036854775807 from by omega, if_true]
  exact ih (j + 1) (nameT a n[i].f0[j]) (by omega) (by rw [nameT_size]; omega) hR
theorem text_rules (n : List Gp) (i : Nat) (hi : i < n.length) (hok : groupOk n[i] = true) (hl : n[i].f1.length ≤ 1048576) (hq : n.length ≤ 1048576) (R : ByteArray) (d : Nat) : ∀ (j : Nat) (a : ByteArray), j + d = n[i].f1.length → a.size + 24 * (d + 1) ≤ 1000000000000000 →
  Ev (fun k => spec_NoticeText.l0 k n (waitT ((n[i].f1.drop j).foldl ruleT a) n[i].f2) ((i + 1 : Nat) : Int)) R → Ev (fun k => spec_NoticeText.l2 k n a (i : Int) (j : Int)) R := by
 obtain ⟨_, hrs, w0, w1, _⟩ := groupOk_parts hok
 have ei : wrap64 ((i : Int) + 1) = ((i + 1 : Nat) : Int) := by rw [w64 (by omega) (by omega)]; rfl
 induction d with
 | zero =>
  intro j a hj ha hR
  rw [List.drop_of_length_le (by omega)] at hR
  refine Ev_succ ?_
  simp only [spec_NoticeText.l2, show (0 : Int) ≤ (i : Int) from by omega, show (i : Int) < (n.length : Int) from by omega, if_true]
  rw [rd_gp hi]
  simp only [show ¬ ((j : Int) < (n[i].f1.length : Int)) from by omega, if_false]
  rw [ei]
  rw [List.foldl_nil] at hR
  unfold waitT at hR
  by_cases hw : n[i].f2 > 0
  ·simp only [hw, if_true] at hR ⊢
   obtain ⟨m, hm⟩ := Int.eq_ofNat_of_zero_le w0
   have hd := dec_ev m (by omega)
   have hds := dec_size m
   rw [hm, Int.toNat_natCast] at hR
   rw [hm]
   simp only [show a.size + 5 ≤ 9223372036854775807 from by omega, if_true]
   refine Ev.bind hd ?_
   simp only [show a.size + 5 + (decB m).size ≤ 9223372036854775807 from by omega, show a.size + 5 + (decB m).size + 1 ≤ 9223372036854775807 from by omega, if_true]
   exact hR
  ·simp only [hw, if_false] at hR ⊢
   exact hR
 | succ d ih =>
  intro j a hj ha hR
  have hlt : j < n[i].f1.length := by omega
  have e4 : wrap64 ((j : Int) + 1) = ((j + 1 : Nat) : Int) := by rw [w64 (by omega) (by omega)]; rfl
  rw [List.drop_eq_getElem_cons hlt, List.foldl_cons] at hR
  have hz := ruleOk_size (List.all_eq_true.1 hrs _ (List.getElem_mem hlt))
  have next := ih (j + 1) (ruleT a n[i].f1[j]) (by omega) (by rw [ruleT_size]; omega) hR
  refine Ev_succ ?_
  simp only [spec_NoticeText.l2, show (0 : Int) ≤ (i : Int) from by omega, show (i : Int) < (n.length : Int) from by omega, if_true]
  rw [rd_gp hi]
  simp only [show ((j : Int) < (n[i].f1.length : Int)) from by omega, show (0 : Int) ≤ (j : Int) from by omega, if_true]
  rw [rd_ru hlt, e4]
  unfold ruleT at next
  simp only [show a.size + 4 ≤ 9223372036854775807 from by omega, show a.size + 4 + n[i].f1[j].f1.size ≤ 9223372036854775807 from by omega, show a.size + 4 + n[i].f1[j].f1.size + 1 ≤ 9223372036854775807 from by omega, if_true]
  by_cases hb : n[i].f1[j].f0 = true
  ·simp only [hb, if_true] at next ⊢; exact next
  ·simp only [hb, Bool.false_eq_true, if_false] at next ⊢; exact next
theorem text_outer (n : List Gp) (hn : Sm n) (d : Nat) : ∀ (i : Nat) (a : ByteArray), i + d = n.length → a.size ≤ 24 * 2097153 * i → ((n.drop i).all groupOk) = true →
  Ev (fun k => spec_NoticeText.l0 k n a (i : Int)) ((n.drop i).foldl groupT a) := by
 have hf := hn.few
 induction d with
 | zero =>
  intro i a hi ha hk
  refine Ev_succ ?_
  simp only [spec_NoticeText.l0, show ¬ ((i : Int) < (n.length : Int)) from by omega, if_false]
  rw [List.drop_of_length_le (by omega)]
  exact Ev.now _
 | succ d ih =>
  intro i a hi ha hk
  have hlt : i < n.length := by omega
  obtain ⟨s1, s2, s3⟩ := hn.get hlt
  rw [List.drop_eq_getElem_cons hlt, List.all_cons, Bool.and_eq_true] at hk
  rw [List.drop_eq_getElem_cons hlt, List.foldl_cons]
  have hg := group_size a hk.1
  have next := ih (i + 1) (groupT a n[i]) (by omega) (by omega) hk.2
  have e1 := names_size n[i].f0 a (groupOk_parts hk.1).1
  refine Ev_succ ?_
  simp only [spec_NoticeText.l0, show (i : Int) < (n.length : Int) from by omega, if_true]
  refine text_names n i hlt (groupOk_parts hk.1).1 s1 _ n[i].f0.length 0 a (by omega) (by omega) ?_
  rw [List.drop_zero]
  refine text_rules n i hlt hk.1 s3 hf _ n[i].f1.length 0 _ (by omega) (by omega) ?_
  rw [List.drop_zero]
  exact next
theorem noticeT_ev (n : List Gp) (hn : Sm n) : Ev (fun k => spec_NoticeText.f k n) (noticeT n) := by
 unfold spec_NoticeText.f noticeT
 refine Ev.bind (noticeOk_ev n hn) ?_
 by_cases h : noticeOk n = true
 ·simp only [h, if_true]
  have hk : n.all groupOk = true := by
   unfold noticeOk at h
   rw [Bool.and_eq_true] at h
   exact h.1
  have := text_outer n hn n.length 0 ⟨#[]⟩ (by omega) (by have : (⟨#[]⟩ : ByteArray).size = 0 := rfl; omega) (by rw [List.drop_zero]; exact hk)
  rw [List.drop_zero] at this
  exact this
 ·simp only [h, Bool.false_eq_true, if_false]; exact Ev.now _
end Go.Proofs.YtpomhjkbgbociaaGreatDoor.Nt
end
section
namespace Go.Proofs.YtpomhjkbgbociaaGreatDoor.Ad
open Go.RowKit Go.Proofs.YtpomhjkbgbociaaGreatDoor.P Go.Proofs.YtpomhjkbgbociaaGreatDoorW.PrintWords Go.Proofs.YtpomhjkbgbociaaGreatDoorW.PrintLast Go.Proofs.YtpomhjkbgbociaaGreatDoorW.PrintMore Go.Proofs.YtpomhjkbgbociaaGreatDoor.B
set_option linter.unusedVariables false
set_option linter.unusedSimpArgs false
def ints (l : List UInt8) : List Int := l.map fun c => (c.toNat : Int)
theorem ints_app (a b : List UInt8) : ints (a ++ b) = ints a ++ ints b := by simp [ints]
theorem ints_len (a : List UInt8) : (ints a).length = a.length := by simp [ints]
theorem nums_ints (l : List UInt8) : strOfNums (ints l) = ofL l := by
 unfold strOfNums ofL ints
 rw [List.map_map]
 congr 2
 have h : ((fun n : Int => UInt8.ofNat n.toNat) ∘ fun c : UInt8 => (c.toNat : Int)) = id := by funext c; simp
 exact (congrArg (fun f => List.map f l) h).trans (List.map_id l)
theorem figv_all : ∀ n : Nat, n < 256 → impl_figureValue.f (n : Int) = some (match hexN (UInt8.ofNat n) with | some x => ((x : Int), true) | none => (0, false)) := by decide +kernel
theorem figv (c : UInt8) : impl_figureValue.f (c.toNat : Int) = some (match hexN c with | some x => ((x : Int), true) | none => (0, false)) := by
 have := figv_all c.toNat c.toNat_lt
 rwa [of_toNat] at this
theorem stands_all : ∀ n : Nat, n < 256 → impl_standsForItself.f (n : Int) = some (plainB (UInt8.ofNat n)) := by decide +kernel
def hexT : ByteArray := ⟨#[48, 49, 50, 51, 52, 53, 54, 55, 56, 57, 65, 66, 67, 68, 69, 70]⟩
theorem put_all : ∀ n : Nat, n < 256 → (plainB (UInt8.ofNat n) = true → [(n : Int)] = ints (encN n)) ∧ (plainB (UInt8.ofNat n) = false → 0 ≤ (n : Int) / 16 ∧ (n : Int) / 16 < 16 ∧ 0 ≤ Go.bits .and .u8 (n : Int) 15 ∧ Go.bits .and .u8 (n : Int) 15 < 16 ∧
  ([37, bt hexT ((n : Int) / 16), bt hexT (Go.bits .and .u8 (n : Int) 15)] : List Int) = ints (encN n)) := by decide +kernel
theorem sign_i (s : ByteArray) (i : Nat) (hs : s.size ≤ 60) (hi : i < s.size) :
  impl_signByte.f s (i : Int) = some (if h : i + 2 < (L s).length then (match hexN ((L s)[i + 1]'(by omega)), hexN ((L s)[i + 2]'h) with | some x, some y => (((x * 16 + y : Nat) : Int), true) | _, _ => (0, false)) else (0, false)) := by
 have hL := L_size s
 unfold impl_signByte.f
 rw [w64 (n := (s.size : Int) - i) (by omega) (by omega)]
 by_cases h : i + 2 < (L s).length
 ·rw [dif_pos h, if_neg (by omega), w64 (n := (i : Int) + 1) (by omega) (by omega), w64 (n := (i : Int) + 2) (by omega) (by omega), if_pos (by omega), if_pos (by omega)]
  have b1 := bt_get s (i + 1) (by omega)
  have b2 := bt_get s (i + 2) h
  have l1 := @hexN_lt ((L s)[i + 1]'(by omega))
  have l2 := @hexN_lt ((L s)[i + 2]'h)
  rw [show ((i : Int) + 1) = ((i + 1 : Nat) : Int) from by omega, show ((i : Int) + 2) = ((i + 2 : Nat) : Int) from by omega, b1, b2]
  generalize (L s)[i + 1]'(by omega) = ca at l1 ⊢
  generalize (L s)[i + 2]'h = cb at l2 ⊢
  rw [figv ca, figv cb]
  simp only [Option.bind_some]
  rw [if_pos (by omega), if_pos (by omega)]
  cases ha : hexN ca with
  | none => simp
  | some x =>
   cases hb : hexN cb with
   | none => simp
   | some y =>
    have := l1 ha
    have := l2 hb
    simp only [if_true]
    rw [w64 (n := (x : Int) * 16) (by omega) (by omega), w64 (by omega) (by omega)]
    congr 2
    omega
 ·rw [dif_neg h, if_pos (by omega)]
theorem enc_i (s : ByteArray) (acc : List UInt8) (n : Nat) (j : Int) (h : n < 256) (ha : acc.length ≤ 1000000) (k : Nat) :
  ((impl_standsForItself.f (n : Int)).bind fun t => (if t = true then (if (ints acc).length < 140737488355328 then (impl_EscNorm.l0 k s (ints acc ++ [(n : Int)]) j) else (none)) else (if 0 ≤ ((n : Int) / 16) then (if ((n : Int) / 16) < 16 then (if 0 ≤ (Go.bits .and .u8 (n : Int) 15) then (if (Go.bits .and .u8 (n : Int) 15) < 16 then ((some (([37, bt (⟨#[48, 49, 50, 51, 52, 53, 54, 55, 56, 57, 65, 66, 67, 68, 69, 70]⟩ : ByteArray) ((n : Int) / 16), bt (⟨#[48, 49, 50, 51, 52, 53, 54, 55, 56, 57, 65, 66, 67, 68, 69, 70]⟩ : ByteArray) (Go.bits .and .u8 (n : Int) 15)] : List Int) : List Int)).bind fun y => (if (ints acc).length + y.length < 140737488355328 then (impl_EscNorm.l0 k s (ints acc ++ y) j) else (none))) else (none)) else (none)) else (none)) else (none)))) = impl_EscNorm.l0 k s (ints (acc ++ encN n)) j := by
 obtain ⟨p1, p2⟩ := put_all n h
 rw [stands_all n h]
 simp only [Option.bind_some]
 have hl := ints_len acc
 cases hp : plainB (UInt8.ofNat n) with
 | true => rw [if_pos rfl, if_pos (by omega), ints_app, p1 hp]
 | false =>
  obtain ⟨q1, q2, q3, q4, q5⟩ := p2 hp
  rw [if_neg (by simp), if_pos q1, if_pos q2, if_pos q3, if_pos q4]
  unfold hexT at q5
  rw [q5]
  have := encN_len n
  have := ints_len (encN n)
  rw [if_pos (by omega), ints_app]
theorem esc_i (s : ByteArray) (hs : s.size ≤ 60) (n : Nat) : ∀ (i : Nat) (acc : List UInt8), i ≤ s.size → s.size - i ≤ n → acc.length ≤ 3 * i →
  Ev (fun k => impl_EscNorm.l0 k s (ints acc) (i : Int)) (escR (ofL acc) (esc ((L s).drop i))) := by
 have hL := L_size s
 induction n with
 | zero =>
  intro i acc hi hn ha
  refine Ev.of (fun k => impl_EscNorm.mono_l k |> fun h => h _ _ _) (k := 1) ?_
  simp only [impl_EscNorm.l0]
  rw [if_neg (by omega), List.drop_eq_nil_of_le (by omega)]
  simp only [esc, escR]
  rw [app_nil, nums_ints]
 | succ n ih =>
  intro i acc hi hn ha
  by_cases hlt : i < s.size
  ·have hlt' : i < (L s).length := by omega
   rw [drop_at hlt']
   have hb := bt_get s i hlt'
   by_cases hc : (L s)[i] = 37
   ·have hb37 : bt s i = 37 := by rw [hb, hc]; rfl
    have w3 : wrap64 (wrap64 ((i : Int) + 2) + 1) = ((i + 2 + 1 : Nat) : Int) := by rw [w64 (n := (i : Int) + 2) (by omega) (by omega), w64 (by omega) (by omega)]; omega
    rw [hc]
    have sg := sign_i s i hs hlt
    refine Ev_succ ?_
    simp only [impl_EscNorm.l0]
    simp only [show ((i : Int) < (s.size : Int)) from by omega, show ((0 : Int) ≤ (i : Int)) from by omega, hb37, if_true, sg, Option.bind_some, w3]
    by_cases h2 : i + 2 < (L s).length
    ·have g1 : i + 1 < (L s).length := by omega
     rw [drop_at g1, drop_at h2]
     simp only [h2, dif_pos]
     generalize (L s)[i + 1]'g1 = ca
     generalize (L s)[i + 2]'h2 = cb
     cases ha' : hexN ca with
     | none =>
      rw [esc_bad1 _ _ ha']
      simp only [Bool.false_eq_true, if_false]
      exact Ev.now _
     | some x =>
      cases hb' : hexN cb with
      | none =>
       rw [esc_bad2 _ _ hb']
       simp only [Bool.false_eq_true, if_false]
       exact Ev.now _
      | some y =>
       have hx := hexN_lt ha'
       have hy := hexN_lt hb'
       rw [esc_sign _ ha' hb', escR_map]
       simp only [if_true]
       refine Ev.congr (fun k => enc_i s acc (x * 16 + y) _ (by omega) (by omega) k) ?_
       have := encN_len (x * 16 + y)
       rw [← ofL_app]
       exact ih (i + 2 + 1) _ (by omega) (by omega) (by rw [List.length_append]; omega)
    ·rw [esc_short (by rw [List.length_drop]; omega)]
     simp only [h2, dif_neg, not_false_eq_true, Bool.false_eq_true, if_false]
     exact Ev.now _
   ·have hb37 : ¬ bt s i = 37 := by
     rw [hb]
     intro e
     exact hc (UInt8.toNat_inj.1 (by have : (37 : UInt8).toNat = 37 := rfl; omega))
    rw [esc_plain _ hc]
    have hlt8 := (L s)[i].toNat_lt
    have w1 : wrap64 ((i : Int) + 1) = ((i + 1 : Nat) : Int) := by rw [w64 (by omega) (by omega)]; omega
    refine Ev_succ ?_
    simp only [impl_EscNorm.l0]
    simp only [show ((i : Int) < (s.size : Int)) from by omega, show ((0 : Int) ≤ (i : Int)) from by omega, hb37, if_true, if_false, w1]
    rw [escR_map]
    simp only [hb]
    refine Ev.congr (fun k => enc_i s acc (L s)[i].toNat _ (by omega) (by omega) k) ?_
    have hz := encN_len (L s)[i].toNat
    rw [← ofL_app]
    refine ih (i + 1) _ (by omega) (by omega) ?_
    rw [List.length_append]; omega
  ·refine Ev.of (fun k => impl_EscNorm.mono_l k |> fun h => h _ _ _) (k := 1) ?_
   simp only [impl_EscNorm.l0]
   rw [if_neg (by omega), List.drop_eq_nil_of_le (by omega)]
   simp only [esc, escR]
   rw [app_nil, nums_ints]
theorem escNorm_i (s : ByteArray) : Ev (fun k => impl_EscNorm.f k s) (escNorm s) := by
 unfold impl_EscNorm.f escNorm
 by_cases h : s.size > 60
 ·simp only [show ((s.size : Int) > 60) from by omega, if_true, h]
  exact Ev.now _
 ·simp only [show ¬ ((s.size : Int) > 60) from by omega, if_false, h]
  have := esc_i s (by omega) s.size 0 [] (by omega) (by omega) (Nat.le_refl 0)
  simp only [List.drop_zero] at this
  have e : escR (ofL []) (esc (L s)) = escO (esc (L s)) := by
   unfold escR escO
   cases esc (L s) with
   | none => rfl
   | some r => simp only [Prod.mk.injEq, and_true]; apply L_inj; rw [L_app]; rfl
  rw [← e]
  exact this
theorem norm_i (s : ByteArray) : Ev (fun k => impl_isNormal.f k s) (isNorm s) := by
 unfold impl_isNormal.f isNorm
 refine Ev.bind (escNorm_i s) ?_
 by_cases h : (escNorm s).2 = true
 ·simp only [h, if_true, Bool.true_and]
  exact Ev.now _
 ·simp only [h, if_false, Bool.false_and]
  exact Ev.now _
end Go.Proofs.YtpomhjkbgbociaaGreatDoor.Ad
end
section
namespace Go.Proofs.YtpomhjkbgbociaaGreatDoor.Ad
open Go.RowKit Go.Proofs.YtpomhjkbgbociaaGreatDoor.P Go.Proofs.YtpomhjkbgbociaaGreatDoorW.PrintWords Go.Proofs.YtpomhjkbgbociaaGreatDoorW.PrintLast Go.Proofs.YtpomhjkbgbociaaGreatDoorW.PrintMore Go.Proofs.YtpomhjkbgbociaaGreatDoor.B
set_option linter.unusedVariables false
set_option linter.unusedSimpArgs false
theorem small_i (s : ByteArray) (hs : s.size ≤ 140737488351232) (d : Nat) : ∀ (k : Nat) (i : Nat), i + d = s.size → d < k →
  impl_allSmallLetters.l0 k s (i : Int) = some (smallFrom s d i) := by
 induction d with
 | zero =>
  intro k i h hk
  obtain ⟨k, rfl⟩ : ∃ m, k = m + 1 := ⟨k - 1, by omega⟩
  simp only [impl_allSmallLetters.l0, smallFrom]
  rw [if_neg (by omega)]
 | succ d ih =>
  intro k i h hk
  obtain ⟨k, rfl⟩ : ∃ m, k = m + 1 := ⟨k - 1, by omega⟩
  simp only [impl_allSmallLetters.l0, smallFrom]
  rw [if_pos (by omega), if_pos (by omega)]
  by_cases h1 : bt s i < 97
  ·rw [if_pos h1, if_pos h1]
  ·rw [if_neg h1, if_neg h1]
   by_cases h2 : bt s i > 122
   ·rw [if_pos h2, if_pos h2]
   ·rw [if_neg h2, if_neg h2, w64 (by omega) (by omega)]
    exact ih k (i + 1) (by omega) (by omega)
theorem smalls_i (s : ByteArray) (hs : s.size ≤ 140737488351232) : Ev (fun k => impl_allSmallLetters.f k s) (isSmall s) := by
 refine Ev.of (fun k => impl_allSmallLetters.mono _ k) (k := s.size + 1) ?_
 exact small_i s hs s.size (s.size + 1) 0 (by omega) (by omega)
theorem house_i (s : ByteArray) (hs : s.size ≤ 140737488351232) : Ev (fun k => impl_isHouse.f k s) (isHouse s) := by
 unfold impl_isHouse.f isHouse
 by_cases h1 : 1 ≤ s.size
 ·simp only [show ((s.size : Int) ≥ 1) from by omega, if_true, h1, decide_true, Bool.true_and]
  by_cases h2 : s.size ≤ 5
  ·simp only [show ((s.size : Int) ≤ 5) from by omega, if_true, h2, decide_true, Bool.true_and]
   exact Ev.bind (smalls_i s hs) (Ev.now _)
  ·simp only [show ¬ ((s.size : Int) ≤ 5) from by omega, if_false, h2, decide_false, Bool.false_and]
   exact Ev.now _
 ·simp only [show ¬ ((s.size : Int) ≥ 1) from by omega, if_false, h1, decide_false, Bool.false_and]
  exact Ev.now _
theorem L_fold : ∀ (r : List ByteArray) (acc : ByteArray), L (r.foldl (fun a q => (a ++ ⟨#[47]⟩) ++ q) acc) = L acc ++ Lib.joinTail [47] (r.map L)
 | [], acc => by simp [Lib.joinTail]
 | q :: r, acc => by
  rw [List.foldl_cons, L_fold r, L_app, L_app]
  simp [Lib.joinTail, L]
theorem L_body (ps : List ByteArray) : L (body ps) = 47 :: Lib.join (ps.map L) [47] := by
 cases ps with
 | nil => rfl
 | cons p r =>
  unfold body
  rw [L_fold, List.map_cons, Lib.join_cons, L_app]
  rfl
theorem body_join (ps : List ByteArray) : (⟨#[47]⟩ : ByteArray) ++ ofL (Lib.join (ps.map L) [47]) = body ps := by
 apply L_inj
 rw [L_app, L_of, L_body]
 rfl
theorem join_len (ps : List ByteArray) : (Lib.join (ps.map L) [47]).length + 1 = (body ps).size := by
 rw [← L_size, L_body]; simp
theorem path_i (parts : List ByteArray) (asks : Bool) (ask house : ByteArray) (hP : Parts parts) (hq : ask.size ≤ 1048576) : impl_writePath.f house parts asks ask = some (pathB parts asks ask) := by
 have hz := path_size parts false ask hP hq
 have hb : pathB parts false ask = body parts := rfl
 rw [hb] at hz
 have hj := join_len parts
 have hf := hP.few
 unfold impl_writePath.f strings_Join.f
 have e47 : L (⟨#[47]⟩ : ByteArray) = [47] := rfl
 rw [e47, if_pos ⟨by omega, by omega⟩]
 simp only [Option.bind_some]
 have hs := ofL_size (Lib.join (parts.map L) [47])
 rw [if_pos (by omega), body_join]
 by_cases h : asks = true
 ·rw [if_pos h, if_pos (by omega), if_pos (by omega)]
  unfold pathB
  rw [if_pos h, ByteArray.append_assoc]
 ·rw [if_neg h]
  unfold pathB
  rw [if_neg h]
theorem text_i (house : ByteArray) (parts : List ByteArray) (asks : Bool) (ask : ByteArray) (hP : Parts parts) (hq : ask.size ≤ 1048576) (hh : house.size ≤ 1048576) :
  impl_writeAddr.f house parts asks ask = some (textB house parts asks ask) := by
 have hz := path_size parts asks ask hP hq
 unfold impl_writeAddr.f
 rw [if_pos (by omega), path_i parts asks ask house hP hq]
 simp only [Option.bind_some]
 rw [if_pos (by omega)]
 rfl
def okEnd (house : ByteArray) (parts : List ByteArray) (asks : Bool) (ask : ByteArray) : Bool := isNorm ask && (asks || ask.toList == []) && decide ((textB house parts asks ask).size ≤ 60)
theorem ok_i (house : ByteArray) (parts : List ByteArray) (asks : Bool) (ask : ByteArray) (hP : Parts parts) (hq : ask.size ≤ 1048576) (hh : house.size ≤ 1048576) (d : Nat) : ∀ (i : Nat), i + d = parts.length →
  Ev (fun k => impl_AddrOk.l0 k parts (parts.length : Int) (i : Int) house parts asks ask) ((parts.drop i).all partOk && okEnd house parts asks ask) := by
 have hf := hP.few
 induction d with
 | zero =>
  intro i hi
  rw [List.drop_eq_nil_of_le (by omega)]
  simp only [List.all_nil, Bool.true_and]
  refine Ev_succ ?_
  simp only [impl_AddrOk.l0]
  simp only [show ¬ ((i : Int) < (parts.length : Int)) from by omega, if_false, text_i house parts asks ask hP hq hh, Option.bind_some]
  refine Ev.bind (norm_i ask) ?_
  unfold okEnd
  have e : decide (((textB house parts asks ask).size : Int) ≤ 60) = decide ((textB house parts asks ask).size ≤ 60) := by rw [Bool.eq_iff_iff]; simp; omega
  by_cases h3 : isNorm ask = true
  ·simp only [h3, if_true, Bool.true_and, e]
   by_cases h4 : asks = true
   ·simp only [h4, if_true, Bool.true_or, Bool.true_and]
    exact Ev.now _
   ·by_cases h5 : ask.toList = []
    ·simp only [h4, if_false, h5, if_true, beq_self_eq_true, Bool.or_true, Bool.true_and]
     exact Ev.now _
    ·simp only [h4, if_false, h5, show (ask.toList == ([] : List UInt8)) = false from by simp [h5], Bool.or_false, Bool.false_and]
     exact Ev.now _
  ·simp only [h3, if_false, Bool.false_and]
   exact Ev.now _
 | succ d ih =>
  intro i hi
  have hlt : i < parts.length := by omega
  rw [List.drop_eq_getElem_cons hlt, List.all_cons]
  refine Ev_succ ?_
  simp only [impl_AddrOk.l0]
  have w1 : wrap64 ((i : Int) + 1) = ((i + 1 : Nat) : Int) := by rw [w64 (by omega) (by omega)]; omega
  simp only [show ((i : Int) < (parts.length : Int)) from by omega, show ((0 : Int) ≤ (i : Int)) from by omega, if_true, rd_at hlt, w1]
  by_cases h2 : parts[i].toList = []
  ·simp only [h2, if_true]
   rw [show partOk parts[i] = false from by simp [partOk, h2]]
   exact Ev.now _
  ·by_cases h3 : parts[i].toList = [46]
   ·simp only [h2, h3, if_true, if_false]
    rw [show partOk parts[i] = false from by simp [partOk, h3]]
    first | exact Ev.now _ | simpa using Ev.now _
   ·by_cases h4 : parts[i].toList = [46, 46]
    ·simp only [h2, h3, h4, if_true, if_false]
     rw [show partOk parts[i] = false from by simp [partOk, h4]]
     first | exact Ev.now _ | simpa using Ev.now _
    ·simp only [h2, h3, h4, if_false]
     refine Ev.bind (norm_i parts[i]) ?_
     by_cases h1 : isNorm parts[i] = true
     ·simp only [h1, if_true]
      rw [show partOk parts[i] = true from by simp [partOk, h1, h2, h3, h4], Bool.true_and]
      exact ih (i + 1) (by omega)
     ·simp only [h1, if_false]
      rw [show partOk parts[i] = false from by simp [partOk, h1]]
      exact Ev.now _
theorem okEnd_is (house : ByteArray) (parts : List ByteArray) (asks : Bool) (ask : ByteArray) : addrOk house parts asks ask = (isHouse house && decide (parts.length ≤ 5) && (parts.all partOk && okEnd house parts asks ask)) := by
 unfold addrOk okEnd
 cases isHouse house <;> cases decide (parts.length ≤ 5) <;> cases isNorm ask <;> cases (asks || ask.toList == []) <;> cases parts.all partOk <;> rfl
theorem addrOk_i (house : ByteArray) (parts : List ByteArray) (asks : Bool) (ask : ByteArray) (hP : Parts parts) (hq : ask.size ≤ 1048576) (hh : house.size ≤ 1048576) :
  Ev (fun k => impl_AddrOk.f k house parts asks ask) (addrOk house parts asks ask) := by
 have hf := hP.few
 have bad : Ev (fun k => impl_AddrOk.j0 k true house parts asks ask) false := Ev_succ (by simp only [impl_AddrOk.j0, if_true]; exact Ev.now _)
 unfold impl_AddrOk.f
 rw [okEnd_is]
 refine Ev.bind (house_i house (by omega)) ?_
 by_cases h1 : isHouse house = true
 ·simp only [h1, if_true, Bool.true_and]
  by_cases h2 : parts.length ≤ 5
  ·rw [show decide ((parts.length : Int) > 5) = false from by simp; omega]
   simp only [h2, decide_true, Bool.true_and]
   refine Ev_succ ?_
   simp only [impl_AddrOk.j0, Bool.false_eq_true, if_false]
   have := ok_i house parts asks ask hP hq hh parts.length 0 (by omega)
   simpa using this
  ·rw [show decide ((parts.length : Int) > 5) = true from by simp; omega]
   simp only [h2, decide_false, Bool.false_and]
   exact bad
 ·simp only [h1, if_false, Bool.false_and]
  exact bad
end Go.Proofs.YtpomhjkbgbociaaGreatDoor.Ad
end
section
namespace Go.Proofs.YtpomhjkbgbociaaGreatDoor.Ad
open Go.RowKit Go.Proofs.YtpomhjkbgbociaaGreatDoorW.PrintWords Go.Proofs.YtpomhjkbgbociaaGreatDoor.B
set_option linter.unusedVariables false
set_option linter.unusedSimpArgs false
abbrev A5 := ByteArray × List ByteArray × Bool × ByteArray × Bool
def none5 : A5 := ((⟨#[]⟩ : ByteArray), ([] : List ByteArray), false, (⟨#[]⟩ : ByteArray), false)
def escAll : List ByteArray → Option (List ByteArray)
 | [] => some []
 | q :: qs => if (escNorm q).2 = true then (escAll qs).map ((escNorm q).1 :: ·) else none
def clean1 (acc : List ByteArray) (p : ByteArray) : List ByteArray :=
 if p.toList = [] then acc else if p.toList = [46] then acc else if p.toList = [46, 46] then acc.take (acc.length - 1) else acc ++ [p]
def pathClean (ps : List ByteArray) : List ByteArray := ps.foldl clean1 []
def wayO (house : ByteArray) (base : List ByteArray) (way : ByteArray) : A5 :=
 match escAll ((splitL 47 (L (cutB 63 way).1)).map ofL) with
 | none => none5
 | some ps => if (escNorm (cutB 63 way).2.1).2 = true then (if addrOk house (pathClean (base ++ ps)) (cutB 63 way).2.2 (escNorm (cutB 63 way).2.1).1 = true then (house, pathClean (base ++ ps), (cutB 63 way).2.2, (escNorm (cutB 63 way).2.1).1, true) else none5) else none5
def houseL : List UInt8 → List UInt8 × List UInt8
 | [] => ([], [])
 | x :: xs => if x = 47 ∨ x = 63 then ([], x :: xs) else (x :: (houseL xs).1, (houseL xs).2)
def wholeO (rest : ByteArray) : A5 := wayO (smallB (ofL (houseL (L rest)).1)) [] (ofL (houseL (L rest)).2)
def readO (raw : ByteArray) : A5 :=
 if raw.size > 60 then none5 else if (cutB 35 raw).1.size < 2 then none5 else if (L (cutB 35 raw).1).take 2 = [47, 47] then wholeO ((cutB 35 raw).1.extract 2 (cutB 35 raw).1.size) else none5
def Fine (a : A5) : Prop := a = none5 ∨ (a.2.2.2.2 = true ∧ addrOk a.1 a.2.1 a.2.2.1 a.2.2.2.1 = true)
theorem fine_none : Fine none5 := Or.inl rfl
theorem fine_way (h : ByteArray) (b : List ByteArray) (w : ByteArray) : Fine (wayO h b w) := by
 unfold wayO
 split
 ·exact fine_none
 ·split
  ·split
   ·rename_i hh
    exact Or.inr ⟨rfl, hh⟩
   ·exact fine_none
  ·exact fine_none
theorem fine_read (raw : ByteArray) : Fine (readO raw) := by
 unfold readO
 split
 ·exact fine_none
 ·split
  ·exact fine_none
  ·split
   ·exact fine_way _ _ _
   ·exact fine_none
theorem isHouse_size {s : ByteArray} (h : isHouse s = true) : s.size ≤ 5 := by
 unfold isHouse at h
 simp only [Bool.and_eq_true, decide_eq_true_eq] at h
 exact h.1.2
theorem clean1_mem {acc : List ByteArray} {p x : ByteArray} (h : x ∈ clean1 acc p) : x ∈ acc ∨ x = p := by
 unfold clean1 at h
 split at h
 ·exact Or.inl h
 ·split at h
  ·exact Or.inl h
  ·split at h
   ·exact Or.inl (List.mem_of_mem_take h)
   ·rcases List.mem_append.1 h with h | h
    ·exact Or.inl h
    ·exact Or.inr (List.mem_singleton.1 h)
theorem clean1_len (acc : List ByteArray) (p : ByteArray) : (clean1 acc p).length ≤ acc.length + 1 := by
 unfold clean1
 split
 ·omega
 ·split
  ·omega
  ·split
   ·rw [List.length_take]; omega
   ·simp
theorem cleanF_mem : ∀ {ps acc : List ByteArray} {x : ByteArray}, x ∈ ps.foldl clean1 acc → x ∈ acc ∨ x ∈ ps
 | [], acc, x, h => Or.inl h
 | p :: ps, acc, x, h => by
  rw [List.foldl_cons] at h
  rcases cleanF_mem h with h | h
  ·rcases clean1_mem h with h | h
   ·exact Or.inl h
   ·exact Or.inr (by rw [h]; exact List.mem_cons_self)
  ·exact Or.inr (List.mem_cons_of_mem _ h)
theorem cleanF_len : ∀ (ps acc : List ByteArray), (ps.foldl clean1 acc).length ≤ acc.length + ps.length
 | [], acc => by simp
 | p :: ps, acc => by
  rw [List.foldl_cons]
  have := cleanF_len ps (clean1 acc p)
  have := clean1_len acc p
  simp only [List.length_cons]; omega
end Go.Proofs.YtpomhjkbgbociaaGreatDoor.Ad
end
section
namespace Go.Proofs.YtpomhjkbgbociaaGreatDoor.Ad
open Go.RowKit Go.Proofs.YtpomhjkbgbociaaGreatDoor.P Go.Proofs.YtpomhjkbgbociaaGreatDoorW.PrintWords Go.Proofs.YtpomhjkbgbociaaGreatDoorW.PrintLast Go.Proofs.YtpomhjkbgbociaaGreatDoorW.PrintMore Go.Proofs.YtpomhjkbgbociaaGreatDoor.B
set_option linter.unusedVariables false
set_option linter.unusedSimpArgs false
theorem index_cut (c : UInt8) : ∀ l : List UInt8, Lib.indexByte l c = if (cutL c l).2.2 = true then (((cutL c l).1.length : Nat) : Int) else -1
 | [] => rfl
 | x :: xs => by
  unfold Lib.indexByte cutL
  by_cases h : x = c
  ·subst h; simp
  ·have hb : (x == c) = false := by simp [h]
   simp only [hb, h, if_false, Bool.false_eq_true, index_cut c xs]
   by_cases h2 : (cutL c xs).2.2 = true
   ·simp only [h2, if_true]
    have : ((((cutL c xs).1.length : Nat) : Int) == -1) = false := by simp
    rw [this]
    simp
   ·simp only [h2, if_false, Bool.false_eq_true]
    rfl
theorem cut_parts {c : UInt8} {s : ByteArray} (h : (cutL c (L s)).2.2 = true) :
  s.extract 0 (cutL c (L s)).1.length = ofL (cutL c (L s)).1 ∧ s.extract ((cutL c (L s)).1.length + 1) s.size = ofL (cutL c (L s)).2.1 ∧ (cutL c (L s)).1.length + 1 ≤ s.size := by
 have e := cutL_true h
 have hn := (cutL_len (c := c) (L s)).2 h
 rw [L_size] at hn
 generalize (cutL c (L s)).1 = a at *
 generalize (cutL c (L s)).2.1 = b at *
 have e' : s.data.toList = a ++ c :: b := e
 refine ⟨?_, ?_, by omega⟩
 ·apply L_inj
  rw [L_ext, L_of, e']
  simp
 ·apply L_inj
  have : (a ++ c :: b).drop (a.length + 1) = b := by rw [List.drop_append]; simp
  rw [L_ext, L_of, e', this, List.take_of_length_le (by omega)]
theorem cut_i (s : ByteArray) (c : UInt8) (hs : s.size ≤ 140737488351232) : strings_Cut.f s ⟨#[c]⟩ = some (cutB c s) := by
 have e1 : L (⟨#[c]⟩ : ByteArray) = [c] := rfl
 have e2 : (⟨#[c]⟩ : ByteArray).size = 1 := rfl
 unfold strings_Cut.f stringslite_Cut.f stringslite_Index.f cutB
 rw [e1]
 simp only [Option.bind_some, index_cut, e2]
 by_cases h : (cutL c (L s)).2.2 = true
 ·obtain ⟨h1, h2, h3⟩ := cut_parts h
  simp only [h, if_true]
  rw [if_pos (by omega), if_pos (by omega), if_pos (by omega), w64 (by omega) (by omega), if_pos (by omega), if_pos (by omega)]
  simp only [Option.bind_some, Int.toNat_natCast]
  rw [h1, show (((cutL c (L s)).1.length : Int) + ((1 : Nat) : Int)).toNat = (cutL c (L s)).1.length + 1 from by omega, h2]
 ·simp only [h, if_false, Bool.false_eq_true]
  rw [if_neg (by decide)]
  obtain ⟨g1, g2⟩ := cutL_false (c := c) (l := L s) (by simpa using h)
  simp only [Option.bind_some, g1, g2, of_L]
  first | done | rfl
theorem count_cut_false {c : UInt8} : ∀ {l : List UInt8}, Lib.countByte l c = 0 → (cutL c l).2.2 = false
 | [], _ => rfl
 | x :: xs, h => by
  unfold Lib.countByte at h
  unfold cutL
  by_cases e : x = c
  ·subst e; simp at h
  ·rw [if_neg e]
   have h' : Lib.countByte xs c = 0 := by unfold Lib.countByte; rw [List.count_cons] at h; omega
   exact count_cut_false h'
theorem count_cut_true {c : UInt8} {m : Nat} : ∀ {l : List UInt8}, Lib.countByte l c = m + 1 → (cutL c l).2.2 = true ∧ Lib.countByte (cutL c l).2.1 c = m
 | [], h => by simp [Lib.countByte] at h
 | x :: xs, h => by
  unfold Lib.countByte at h
  unfold cutL
  by_cases e : x = c
  ·subst e
   rw [if_pos rfl]
   refine ⟨rfl, ?_⟩
   unfold Lib.countByte
   rw [List.count_cons_self] at h
   exact Nat.succ.inj h
  ·rw [if_neg e]
   have h' : Lib.countByte xs c = m + 1 := by
    unfold Lib.countByte
    rw [List.count_cons_of_ne e] at h
    exact h
   exact count_cut_true h'
theorem w64n0 (a : Nat) (h : a < 4611686018427387904) : wrap64 ((a : Int) + 0) = (a : Int) := by rw [w64 (by omega) (by omega)]; omega
theorem w64n1 (a : Nat) (h : a < 4611686018427387904) : wrap64 ((a : Int) + 1) = ((a + 1 : Nat) : Int) := by rw [w64 (by omega) (by omega)]; omega
theorem w64n2 (a : Nat) (h : a < 4611686018427387904) : wrap64 ((a : Int) + ((1 : Nat) : Int)) = ((a + 1 : Nat) : Int) := by rw [w64 (by omega) (by omega)]; omega
theorem w64b {n m : Nat} (h : n + 1 ≤ m) (hm : m ≤ 1000000000) : n < 4611686018427387904 := by omega
theorem w64d {n m : Nat} (h : n + m ≤ 2000000000) : n < 4611686018427387904 := by omega
theorem ci_lt (a m : Nat) : (a : Int) < ((a + (m + 1) : Nat) : Int) := by omega
theorem ci_neg (n : Nat) : ¬ ((n : Int) < 0) := by omega
theorem ci_nn (n : Nat) : (0 : Int) ≤ (n : Int) := by omega
theorem ci_le {n s : Nat} (h : n + 1 ≤ s) : (n : Int) ≤ (s : Int) := by omega
theorem ci_le1 {n s : Nat} (h : n + 1 ≤ s) : ((n + 1 : Nat) : Int) ≤ (s : Int) := by omega
theorem ci_l6 {a m l : Nat} (h : l = a + (m + 2)) : (a : Int) < (l : Int) := by omega
theorem set_mid (a : List ByteArray) (m : Nat) (p e : ByteArray) : (a ++ List.replicate (m + 1) e).set a.length p = (a ++ [p]) ++ List.replicate m e := by
 rw [List.set_append_right _ _ (Nat.le_refl _), Nat.sub_self, List.replicate_succ, List.set_cons_zero, List.append_assoc]
 rfl
theorem take_mid (a b : List ByteArray) (p : ByteArray) : ((a ++ [p]) ++ b).take (a.length + 1) = a ++ [p] := by
 rw [List.take_append_of_le_length (by simp)]
 exact List.take_of_length_le (by simp)
theorem split_li (c : UInt8) : ∀ (m : Nat) (s : ByteArray) (a : List ByteArray), Lib.countByte (L s) c = m → s.size ≤ 1000000000 → a.length + m ≤ 2000000000 →
  Ev (fun k => strings_genSplit.l0 k s ⟨#[c]⟩ 0 ((a.length + m : Nat) : Int) (a ++ List.replicate (m + 1) (⟨#[]⟩ : ByteArray)) (a.length : Int)) (a ++ (splitL c (L s)).map ofL) := by
 intro m
 have e1 : L (⟨#[c]⟩ : ByteArray) = [c] := rfl
 have e2 : (⟨#[c]⟩ : ByteArray).size = 1 := rfl
 induction m with
 | zero =>
  intro s a hc hs ha
  have hf := count_cut_false hc
  obtain ⟨g1, g2⟩ := cutL_false hf
  rw [splitL_eq, hf]
  refine Ev_succ ?_
  simp only [strings_genSplit.l0]
  have hl : (a ++ List.replicate (0 + 1) (⟨#[]⟩ : ByteArray)).length = a.length + 1 := by simp
  have hw : wrap64 ((a.length : Int) + 1) = ((a.length + 1 : Nat) : Int) := by rw [w64 (by omega) (by omega)]; omega
  simp only [show ¬ ((a.length : Int) < ((a.length + 0 : Nat) : Int)) from by omega, if_false, hl, show ((0 : Int) ≤ (a.length : Int)) from by omega, show ((a.length : Int) < ((a.length + 1 : Nat) : Int)) from by omega, if_true, hw,
   show ((0 : Int) ≤ ((a.length + 1 : Nat) : Int)) from by omega, Int.toNat_natCast, Int.le_refl]
  rw [set_mid, take_mid]
  simp only [Bool.false_eq_true, if_false, List.map_cons, List.map_nil, g1, of_L]
  exact Ev.now _
 | succ m ih =>
  intro s a hc hs ha
  obtain ⟨ht, hc'⟩ := count_cut_true hc
  obtain ⟨h1, h2, h3⟩ := cut_parts ht
  have hix : Lib.indexByte (L s) c = (((cutL c (L s)).1.length : Nat) : Int) := by rw [index_cut, if_pos ht]
  rw [splitL_eq, if_pos ht]
  have hz : (ofL (cutL c (L s)).2.1).size ≤ 1000000000 := by
   have := (cutL_len (c := c) (L s)).1
   rw [L_size] at this
   rw [ofL_size]; omega
  have key := ih (ofL (cutL c (L s)).2.1) (a ++ [ofL (cutL c (L s)).1]) (by rw [L_of]; exact hc') hz (by simp; omega)
  rw [L_of] at key
  rw [List.map_cons, show a ++ ofL (cutL c (L s)).1 :: List.map ofL (splitL c (cutL c (L s)).2.1) = a ++ [ofL (cutL c (L s)).1] ++ List.map ofL (splitL c (cutL c (L s)).2.1) from by simp]
  generalize (cutL c (L s)).1.length = n at h1 h2 h3 hix
  rw [show (cutL c (L s)).2.1 = L (s.extract (n + 1) s.size) from by rw [h2, L_of]]
  rw [← h1] at key ⊢
  rw [← h2] at key
  clear hz h1 h2 hc' ht hc
  have hl : (a ++ List.replicate (m + 1 + 1) (⟨#[]⟩ : ByteArray)).length = a.length + (m + 2) := by simp
  have hl2 : (a ++ [s.extract 0 n]).length = a.length + 1 := by simp
  rw [hl2] at key
  refine Ev.step (fun k => ?_) key
  have c1 := ci_lt a.length m
  have c2 := ci_neg n
  have c3 := ci_nn n
  have c4 := ci_le h3
  have c5 := ci_nn a.length
  have c6 := ci_l6 hl
  have c7 := ci_nn (n + 1)
  have c8 := ci_le1 h3
  have hw : wrap64 ((a.length : Int) + 1) = ((a.length + 1 : Nat) : Int) := w64n1 a.length (w64d ha)
  have hw0 : wrap64 ((n : Int) + 0) = (n : Int) := w64n0 n (w64b h3 hs)
  have hw1 : wrap64 ((n : Int) + ((1 : Nat) : Int)) = ((n + 1 : Nat) : Int) := w64n2 n (w64b h3 hs)
  simp only [strings_genSplit.l0, strings_Index.f, stringslite_Index.f]
  rw [if_pos c1, hix, Option.bind_some, Option.bind_some]
  rw [if_neg c2, hw0, if_pos c3, if_pos c4, if_pos c5, if_pos c6, e2, hw1, if_pos c7, if_pos c8, hw]
  simp only [Int.toNat_natCast]
  rw [set_mid, show a.length + 1 + m = a.length + (m + 1) from by rw [Nat.add_assoc, Nat.add_comm 1 m]]
theorem split_i (s : ByteArray) (c : UInt8) (hs : s.size ≤ 1000000000) : Ev (fun k => strings_Split.f k s ⟨#[c]⟩) ((splitL c (L s)).map ofL) := by
 have e1 : L (⟨#[c]⟩ : ByteArray) = [c] := rfl
 have hcnt : Lib.countByte (L s) c ≤ s.size := by rw [← L_size]; exact List.count_le_length
 unfold strings_Split.f strings_genSplit.f strings_Count.f
 have en : ¬ ((⟨#[c]⟩ : ByteArray).toList = ([] : List UInt8)) := by rw [toList_nil]; show ¬ (1 = 0); omega
 rw [e1]
 simp only [show ¬ ((-1 : Int) = 0) from by omega, if_false, en, show ((-1 : Int) < 0) from by omega, if_true, Option.bind_some]
 refine Ev.bind (a := (splitL c (L s)).map ofL) ?_ (Ev.now _)
 refine Ev_succ ?_
 have hw : wrap64 (((Lib.countByte (L s) c : Nat) : Int) + 1) = ((Lib.countByte (L s) c + 1 : Nat) : Int) := by rw [w64 (by omega) (by omega)]; omega
 have hw2 : wrap64 ((s.size : Int) + 1) = ((s.size + 1 : Nat) : Int) := by rw [w64 (by omega) (by omega)]; omega
 have hm : mn ((Lib.countByte (L s) c + 1 : Nat) : Int) ((s.size + 1 : Nat) : Int) = ((Lib.countByte (L s) c + 1 : Nat) : Int) := by unfold mn; split <;> omega
 have hw3 : wrap64 (((Lib.countByte (L s) c + 1 : Nat) : Int) - 1) = ((0 + Lib.countByte (L s) c : Nat) : Int) := by rw [w64 (by omega) (by omega)]; omega
 simp only [strings_genSplit.j0, hw, hw2, hm, show ((0 : Int) ≤ ((Lib.countByte (L s) c + 1 : Nat) : Int)) from by omega, if_true, Int.toNat_natCast, show Lib.countByte (L s) c + 1 ≤ 17592186044416 from by omega, hw3]
 have := split_li c (Lib.countByte (L s) c) s [] rfl hs (by simp; omega)
 simpa using this
end Go.Proofs.YtpomhjkbgbociaaGreatDoor.Ad
end
section
namespace Go.Proofs.YtpomhjkbgbociaaGreatDoor.Ad
open Go.RowKit Go.Proofs.YtpomhjkbgbociaaGreatDoor.P Go.Proofs.YtpomhjkbgbociaaGreatDoorW.PrintWords Go.Proofs.YtpomhjkbgbociaaGreatDoorW.PrintLast Go.Proofs.YtpomhjkbgbociaaGreatDoorW.PrintMore Go.Proofs.YtpomhjkbgbociaaGreatDoor.B
set_option linter.unusedVariables false
set_option linter.unusedSimpArgs false
theorem fine_parts {a : A5} (h : Fine a) : Parts a.2.1 ∧ a.1.size ≤ 60 ∧ a.2.2.2.1.size ≤ 60 := by
 rcases h with rfl | ⟨_, h⟩
 ·exact ⟨⟨by simp [none5], by simp [none5]⟩, Nat.zero_le _, Nat.zero_le _⟩
 ·unfold addrOk at h
  simp only [Bool.and_eq_true, decide_eq_true_eq] at h
  obtain ⟨⟨⟨⟨⟨h1, h2⟩, h3⟩, h4⟩, h5⟩, h6⟩ := h
  refine ⟨⟨by omega, fun p hp => ?_⟩, ?_, ?_⟩
  ·have := List.all_eq_true.1 h5 p hp
   unfold partOk at this
   simp only [Bool.and_eq_true] at this
   have := isNorm_size this.1.1.1
   omega
  ·have := isHouse_size h1; omega
  ·exact isNorm_size h3
theorem clean_l (ps : List ByteArray) (hl : ps.length ≤ 1000000) (d : Nat) : ∀ (i : Nat) (acc : List ByteArray), i + d = ps.length → acc.length ≤ i →
  Ev (fun k => spec_PathClean.l0 k ps acc (i : Int)) ((ps.drop i).foldl clean1 acc) := by
 induction d with
 | zero =>
  intro i acc hi ha
  have n1 : ¬ ((i : Int) < (ps.length : Int)) := by omega
  rw [List.drop_eq_nil_of_le (by omega)]
  refine Ev_succ ?_
  simp only [spec_PathClean.l0, n1, if_false]
  exact Ev.now _
 | succ d ih =>
  intro i acc hi ha
  have hi' : i < ps.length := by omega
  have f1 : (i : Int) < (ps.length : Int) := by omega
  have f2 : (0 : Int) ≤ (i : Int) := by omega
  have e1 : wrap64 ((i : Int) + 1) = ((i + 1 : Nat) : Int) := by rw [w64 (by omega) (by omega)]; rfl
  have hr := rd_at hi'
  rw [List.drop_eq_getElem_cons hi', List.foldl_cons]
  generalize ps[i] = p at hr ⊢
  have hc := clean1_len acc p
  have ih' := ih (i + 1) (clean1 acc p) (by omega) (by omega)
  refine Ev_succ ?_
  simp only [spec_PathClean.l0, f1, f2, if_true, hr]
  unfold clean1 at ih' ⊢
  by_cases h1 : p.toList = []
  ·simp only [h1, if_true] at ih' ⊢
   refine Ev_succ ?_
   simp only [spec_PathClean.j1, if_true, e1]
   exact ih'
  ·simp only [h1, if_false] at ih' ⊢
   refine Ev_succ ?_
   by_cases h2 : p.toList = [46]
   ·simp only [h2, if_true] at ih' ⊢
    simp only [spec_PathClean.j1, beq_self_eq_true, if_true, e1]
    exact ih'
   ·have h2' : (p.toList == [46]) = false := by simpa using h2
    simp only [h2, if_false] at ih' ⊢
    simp only [spec_PathClean.j1, h2', Bool.false_eq_true, if_false, f1, f2, if_true, hr, e1]
    by_cases h3 : p.toList = [46, 46]
    ·have m : mx (wrap64 ((acc.length : Int) - 1)) 0 = ((acc.length - 1 : Nat) : Int) := by
      rw [w64 (by omega) (by omega)]; unfold mx; split <;> omega
     have g1 : (0 : Int) ≤ ((acc.length - 1 : Nat) : Int) := by omega
     have g2 : ((acc.length - 1 : Nat) : Int) ≤ (acc.length : Int) := by omega
     simp only [h3, if_true] at ih' ⊢
     simp only [m, g1, g2, if_true, Int.toNat_natCast]
     exact ih'
    ·have g3 : acc.length < 8796093022208 := by omega
     simp only [h3, if_false] at ih' ⊢
     simp only [g3, if_true]
     exact ih'
theorem clean_ev (ps : List ByteArray) (hl : ps.length ≤ 1000000) : Ev (fun k => spec_PathClean.f k ps) (pathClean ps) :=
 clean_l ps hl ps.length 0 [] (by omega) (by simp)
def wayE (house : ByteArray) (asks : Bool) (ask : ByteArray) (ps : List ByteArray) : A5 :=
 if (escNorm ask).2 = true then (if addrOk house (pathClean ps) asks (escNorm ask).1 = true then (house, pathClean ps, asks, (escNorm ask).1, true) else none5) else none5
theorem way_l (house ask : ByteArray) (asks : Bool) (base : List ByteArray) (b0 : Bool) (a0 : ByteArray) (hh : house.size ≤ 100000) (ls : List ByteArray) (hl : ls.length ≤ 900) (d : Nat) :
  ∀ (i : Nat) (acc : List ByteArray), i + d = ls.length → acc.length ≤ i + 50 → (∀ p ∈ acc, p.size ≤ 1048576) →
  Ev (fun k => spec_l1Way.l0 k ask asks acc ls (i : Int) house base b0 a0) (match escAll (ls.drop i) with | none => none5 | some ps => wayE house asks ask (acc ++ ps)) := by
 induction d with
 | zero =>
  intro i acc hi ha hp
  have n1 : ¬ ((i : Int) < (ls.length : Int)) := by omega
  rw [List.drop_eq_nil_of_le (by omega)]
  refine Ev_succ ?_
  simp only [spec_l1Way.l0, n1, if_false, escAll, List.append_nil]
  refine Ev.bind (escNorm_ev ask) (Ev.bind (clean_ev acc (by omega)) ?_)
  have hz := escNorm_size ask
  unfold wayE
  by_cases h1 : (escNorm ask).2 = true
  ·simp only [h1, if_true]
   have hP : Parts (pathClean acc) := ⟨by have := cleanF_len acc []; unfold pathClean; simp only [List.length_nil] at this; omega, fun p hq => by
    rcases cleanF_mem hq with h | h
    ·cases h
    ·exact hp p h⟩
   refine Ev.bind (addrOk_ev house (pathClean acc) asks (escNorm ask).1 hP (by omega) (by omega)) ?_
   by_cases h2 : addrOk house (pathClean acc) asks (escNorm ask).1 = true
   ·simp only [h2, if_true]; exact Ev.now _
   ·simp only [h2, if_false]; exact Ev.now _
  ·simp only [h1, if_false]; exact Ev.now _
 | succ d ih =>
  intro i acc hi ha hp
  have hi' : i < ls.length := by omega
  have f1 : (i : Int) < (ls.length : Int) := by omega
  have f2 : (0 : Int) ≤ (i : Int) := by omega
  have e1 : wrap64 ((i : Int) + 1) = ((i + 1 : Nat) : Int) := by rw [w64 (by omega) (by omega)]; rfl
  have hr := rd_at hi'
  rw [List.drop_eq_getElem_cons hi']
  generalize ls[i] = p at hr ⊢
  have hz := escNorm_size p
  refine Ev_succ ?_
  simp only [spec_l1Way.l0, f1, f2, if_true, hr, e1]
  refine Ev.bind (escNorm_ev p) ?_
  unfold escAll
  by_cases h1 : (escNorm p).2 = true
  ·have g3 : acc.length < 8796093022208 := by omega
   simp only [h1, if_true, g3]
   have ih' := ih (i + 1) (acc ++ [(escNorm p).1]) (by omega) (by simp; omega) (fun x hx => by
    rcases List.mem_append.1 hx with h | h
    ·exact hp x h
    ·rw [List.mem_singleton.1 h]; omega)
   cases he : escAll (ls.drop (i + 1)) with
   | none => rw [he] at ih'; exact ih'
   | some ps =>
    rw [he] at ih'
    simp only [Option.map_some]
    simpa using ih'
  ·simp only [h1, if_false]; exact Ev.now _
theorem cutB_size (c : UInt8) (s : ByteArray) : (cutB c s).1.size ≤ s.size ∧ (cutB c s).2.1.size ≤ s.size := by
 have := (cutL_len (c := c) (L s)).1
 rw [L_size] at this
 unfold cutB
 constructor
 ·show (ofL _).size ≤ _; rw [ofL_size]; omega
 ·show (ofL _).size ≤ _; rw [ofL_size]; omega
theorem way_ev (house : ByteArray) (base : List ByteArray) (b0 : Bool) (a0 way : ByteArray) (hh : house.size ≤ 100000) (hb : base.length ≤ 50) (hp : ∀ p ∈ base, p.size ≤ 1048576) (hw : way.size ≤ 800) :
  Ev (fun k => spec_l1Way.f k house base b0 a0 way) (wayO house base way) := by
 unfold spec_l1Way.f wayO
 refine Ev.bind (cut_ev way 63 (by omega)) ?_
 have hc := cutB_size 63 way
 have g : ([] : List ByteArray).length + base.length < 8796093022208 := by simp; omega
 simp only [Option.bind_some, g, if_true, List.nil_append]
 refine Ev.bind (split_ev (cutB 63 way).1 47 (by omega)) ?_
 have hl := splitL_len 47 (L (cutB 63 way).1)
 rw [L_size] at hl
 have := way_l house (cutB 63 way).2.1 (cutB 63 way).2.2 base b0 a0 hh ((splitL 47 (L (cutB 63 way).1)).map ofL) (by rw [List.length_map]; omega) _ 0 base (Nat.zero_add _) (by omega) hp
 rw [List.drop_zero] at this
 exact this
theorem house_l (s h : ByteArray) (hs : s.size ≤ 800) : ∀ (l : List UInt8) (i : Nat), (L s).drop i = l → h = s →
  Ev (fun k => spec_l1Whole.l0 k s h (⟨#[]⟩ : ByteArray) (i : Int)) (wayO (smallB (ofL ((L s).take i ++ (houseL l).1))) [] (ofL (houseL l).2))
 | [], i, h', e => by
  have := bt_end h'
  have n1 : ¬ ((i : Int) < (s.size : Int)) := by omega
  have eq : (L s).take i = L s := List.take_of_length_le (by rw [L_size]; omega)
  subst e
  refine Ev_succ ?_
  simp only [spec_l1Whole.l0, n1, if_false, houseL, eq, List.append_nil, of_L, spec_l1Small.f, show h.size ≤ 140737488351232 from by omega, if_true, Option.bind_some]
  refine Ev.bind (way_ev (smallB h) [] false _ _ (by unfold smallB; rw [ofL_size, List.length_map, L_size]; omega) (by simp) (by simp) (by decide)) ?_
  exact Ev.now _
 | x :: xs, i, h', e => by
  obtain ⟨hi, hb, hd⟩ := bt_at h'
  have e1 : wrap64 ((i : Int) + 1) = ((i + 1 : Nat) : Int) := by rw [w64 (by omega) (by omega)]; rfl
  have f1 : (i : Int) < (s.size : Int) := by omega
  have f2 : (0 : Int) ≤ (i : Int) := by omega
  have f3 : (i : Int) ≤ (s.size : Int) := by omega
  have c1 : ((x.toNat : Int) = 47) ↔ x = 47 := u8_eq (b := 47)
  have c2 : ((x.toNat : Int) = 63) ↔ x = 63 := u8_eq (b := 63)
  have x1 : s.extract 0 i = ofL ((L s).take i) := by apply L_inj; rw [L_ext, L_of]; simp
  have x2 : s.extract i s.size = ofL (x :: xs) := by
   apply L_inj; rw [L_ext, L_of, h', List.take_of_length_le]
   rw [← h', List.length_drop, L_size]; omega
  have z1 : (ofL ((L s).take i)).size ≤ 800 := by rw [ofL_size, List.length_take, L_size]; omega
  have z2 : (ofL (x :: xs)).size ≤ 800 := by rw [ofL_size, ← h', List.length_drop, L_size]; omega
  have fin : Ev (fun k => (spec_l1Way.f k (smallB (ofL ((L s).take i))) ([] : List ByteArray) false (⟨#[]⟩ : ByteArray) (ofL (x :: xs))).bind fun bt204 => (some (bt204.1, bt204.2.1, bt204.2.2.1, bt204.2.2.2.1, bt204.2.2.2.2))) (wayO (smallB (ofL ((L s).take i ++ []))) [] (ofL (x :: xs))) := by
   rw [List.append_nil]
   refine Ev.bind (way_ev _ [] false _ _ (by unfold smallB; rw [ofL_size, List.length_map, L_size]; omega) (by simp) (by simp) z2) ?_
   exact Ev.now _
  refine Ev_succ ?_
  simp only [spec_l1Whole.l0, f1, f2, f3, if_true, hb, c1, c2, e1, Int.toNat_natCast, x1, x2, spec_l1Small.f, show (ofL ((L s).take i)).size ≤ 140737488351232 from by omega, Option.bind_some]
  unfold houseL
  by_cases h1 : x = 47
  ·simp only [h1, if_true, true_or]
   rw [h1] at fin
   exact fin
  ·by_cases h2 : x = 63
   ·simp only [h1, h2, if_true, if_false, or_true, show ¬ ((63 : UInt8) = 47) from by decide]
    rw [h2] at fin
    exact fin
   ·simp only [h1, h2, if_false, or_self]
    have := house_l s h hs xs (i + 1) hd e
    have ht : (L s).take (i + 1) ++ (houseL xs).1 = (L s).take i ++ (x :: (houseL xs).1) := by
     have hl : i < (L s).length := by rw [L_size]; exact hi
     have : (L s)[i] = x := by
      have hd2 : (L s).drop i = (L s)[i] :: (L s).drop (i + 1) := List.drop_eq_getElem_cons hl
      rw [h'] at hd2
      injection hd2 with h1 h2
      exact h1.symm
     rw [List.take_succ_eq_append_getElem hl, this]
     simp
    rw [ht] at this
    exact this
theorem whole_ev (s : ByteArray) (hs : s.size ≤ 800) : Ev (fun k => spec_l1Whole.f k s) (wholeO s) := by
 have := house_l s s hs (L s) 0 rfl rfl
 simp only [List.take_zero, List.nil_append] at this
 exact this
theorem read_ev (raw : ByteArray) (hs : raw.size ≤ 140737488351232) : Ev (fun k => spec_AddrRead.f k raw) (readO raw) := by
 unfold spec_AddrRead.f readO
 refine Ev.bind (cut_ev raw 35 hs) ?_
 have hc := (cutB_size 35 raw).1
 generalize (cutB 35 raw).1 = c at hc ⊢
 by_cases h1 : raw.size > 60
 ·have n1 : (raw.size : Int) > 60 := by omega
  simp only [n1, h1, if_true]; exact Ev.now _
 ·have n1 : ¬ (raw.size : Int) > 60 := by omega
  simp only [n1, h1, if_false]
  by_cases h2 : c.size < 2
  ·have n2 : (c.size : Int) < 2 := by omega
   simp only [n2, h2, if_true]; exact Ev.now _
  ·have n2 : ¬ (c.size : Int) < 2 := by omega
   have n3 : (2 : Int) ≤ (c.size : Int) := by omega
   have hx : ((c.extract 0 2).toList = [47, 47]) ↔ ((L c).take 2 = [47, 47]) := by
    rw [Lib.toList_data]
    show L (c.extract 0 2) = _ ↔ _
    rw [L_ext]; simp
   simp only [n2, h2, n3, if_true, if_false, show (0 : Int) ≤ 2 from by omega, hx]
   by_cases h3 : (L c).take 2 = [47, 47]
   ·simp only [h3, if_true]
    have hz : (c.extract 2 c.size).size ≤ 800 := by rw [ByteArray.size_extract]; omega
    generalize c.extract 2 c.size = z at hz ⊢
    exact Ev.bind (whole_ev z hz) (Ev.now _)
   ·simp only [h3, if_false]; exact Ev.now _
end Go.Proofs.YtpomhjkbgbociaaGreatDoor.Ad
end
