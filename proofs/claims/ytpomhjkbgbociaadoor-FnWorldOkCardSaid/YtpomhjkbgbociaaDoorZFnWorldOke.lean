/- Part 5 of the proof of FnWorldOk: the plain functions of what it reaches, that Go comes to just their answers, what they answer, and the words that the walks use; conditions: each theorem's own. -/
import Derived.Test.YtpomhjkbgbociaaDoorZFnWorldOkb
import Derived.Test.YtpomhjkbgbociaaDoorZFnWorldOkd
import Derived.Test.YtpomhjkbgbociaaDoorZFnWorldOkc
import Derived.Maps.Own
import Derived.Maps.OwnSet
import Derived.Carry

section
namespace Go.Proofs.YtpomhjkbgbociaaDoor.P
open Go.RowKit Go.Proofs.YtpomhjkbgbociaaDoorW.PrintWords Go.Proofs.YtpomhjkbgbociaaDoorW.PrintLast Go.Proofs.YtpomhjkbgbociaaDoorW.PrintMore
attribute [local go_sem] max2_int min2_int max_two min_two max_three min_three max_four min_four
set_option linter.unusedVariables false
set_option linter.unusedSimpArgs false
set_option maxHeartbeats 8000000
set_option maxRecDepth 100000
mutual
def spec_PathClean.l0 : Nat → List ByteArray → List ByteArray → Int → Option (List ByteArray)
 | 0, _, _, _ => none
 | k + 1, x0, x3, x4 => if x4 < (x0.length : Int) then (if 0 ≤ x4 then (if (rdOf ByteArray.empty x0 x4).toList = ([] : List UInt8) then (spec_PathClean.j1 k x0 x3 x4 true) else (spec_PathClean.j1 k x0 x3 x4 ((rdOf ByteArray.empty x0 x4).toList == ([46] : List UInt8)))) else (none)) else (some x3)
def spec_PathClean.j1 : Nat → List ByteArray → List ByteArray → Int → Bool → Option (List ByteArray)
 | 0, _, _, _, _ => none
 | k + 1, x0, x3, x4, x19 => if x19 = true then (spec_PathClean.l0 k x0 x3 (wrap64 (x4 + 1))) else (if 0 ≤ x4 then (if x4 < (x0.length : Int) then (if (rdOf ByteArray.empty x0 x4).toList = ([46, 46] : List UInt8) then (if 0 ≤ (mx (wrap64 ((x3.length : Int) - 1)) 0) then (if (mx (wrap64 ((x3.length : Int) - 1)) 0) ≤ (x3.length : Int) then (spec_PathClean.l0 k x0 (x3.take ((mx (wrap64 ((x3.length : Int) - 1)) 0) : Int).toNat) (wrap64 (x4 + 1))) else (none)) else (none)) else (if x3.length < 8796093022208 then (spec_PathClean.l0 k x0 (x3 ++ [rdOf ByteArray.empty x0 x4]) (wrap64 (x4 + 1))) else (none))) else (none)) else (none))
end
def spec_PathClean.f (k : Nat) (l0 : List ByteArray) : Option (List ByteArray) := spec_PathClean.l0 k l0 (([] : List ByteArray)) 0
theorem spec_PathClean.calls (k : Nat) (A0 : Option Addr) (c0 : Nat) (l0 : List ByteArray) (r : List ByteArray) (w : World) (hr0 : Kd.C Kd.string w A0 l0.length l0) (hc0 : l0.length ≤ c0) (h : spec_PathClean.f k l0 = some r) :
  Calls Tryd.prog 83 #[.slice A0 l0.length c0] w fun e w' => ∃ v0_ : Value, e = .returned (v0_) ∧ Kd.R Kd.string 9 w' w.heap.size (fun _ => True) v0_ r ∧ Below w.heap.size w w' := by
 have HR0 := A_ hr0;have HC0 := A_ hc0;clear hr0 hc0;have HB := A_ (Below.refl w.heap.size w);unfold spec_PathClean.f at h
 have H := h;clear h;obtain ⟨y594, Ny594⟩ := toY (([] : List ByteArray));(first | with_reducible replace H := bindZ Ny594 H | rw [← Ny594.out] at H | skip)
 have H' := A_ H;clear H;go_enter Tryd.func83, Tryd.ntmps83;go_wp2_with (first | ((with_reducible refine gD (N := 5) rfl ?_); refine Kd.R_lit Kd.string _ 9 ?hg (N := 5) ?hd (xs := ([] : List ByteArray)) (inner := []) (ok := fun _ => True) (okp := fun _ => True) ?hr ?hp (fun _ hk => hk) trivial (Below.refl _ _) (Nat.le_refl _) (by simp) ?_; (case hd => rfl); (case hg => rfl); (case hr => exact zz16); (case hp => exact (Reps.none _ _)); intro v595 w2 ho3 hb hg_ hnew_; clear hg_ hnew_; (first | rw [← Ny594.out] at ho3 | (simp only [Int.reduceToNat] at ho3; rw [← Ny594.out] at ho3)); have HO596 := A_ (Kd.R_lower ho3 (below_size (zz2 HB))); replace HB := A_ (bS (zz2 HB) hb); clear hb ho3))
 go_loopg [3, 4] k (fun kq v3 v4 w' => ∃ (x3_1 : List ByteArray) (x4_1 : Int), v4 = .int .i64 x4_1 ∧ Aside0 (spec_PathClean.l0 kq l0 x3_1 x4_1 = some r) ∧ Aside0 (kq ≤ k) ∧ Aside0 (Kd.R Kd.string 9 w' w.heap.size (fun _ => True) v3 x3_1) ∧ Aside0 (Below w.heap.size w w'))
 case atStart => exact ⟨(y594), (0), zz5, H', ⟨Nat.le_refl _⟩, ⟨(zz18 HO596)⟩, ⟨(zz2 HB)⟩⟩
 case round =>
  clear H';obtain ⟨x3_1, x4_1, rfl, HA, HK1, HO_3, HB⟩ := hrel;cases gk with
  | zero => exact absurd HA.out (by simp [spec_PathClean.l0])
  | succ k1 =>
   obtain ⟨H⟩ := HA;simp only [spec_PathClean.l0] at H
   replace H := iteEd H;rcases H with ⟨c4b0, H⟩ | ⟨c4b0, H⟩
   ·have HC5 := A_ H
    clear H;go_upto_region 6 with (fail)
    go_cut [19] (fun v19 wc => ∃ (kq : Nat) (x19_4 : Bool), v19 = .bool x19_4 ∧ Aside0 (spec_PathClean.j1 kq l0 x3_1 x4_1 x19_4 = some r) ∧ Aside0 (kq ≤ k1) ∧ Aside0 (Kd.R Kd.string 9 wc w.heap.size (fun _ => True) u3 x3_1) ∧ Aside0 (Below w.heap.size w wc))
    case first =>
     obtain ⟨H⟩ := HC5;replace H := iteNd H;obtain ⟨c6b0, H⟩ := H;(first | rw [c6b0] | (simp only [i64_w, i32_w]; rw [c6b0]) | skip)
     replace H := iteEq H;rcases H with ⟨c7b0, c7b1, H⟩ | ⟨c7b0, c7b1, c7, H⟩
     ·have H' := A_ H
      clear H;obtain ⟨⟨ad597, e597, hx597_0⟩, p597, q597⟩ := atB (Kd.at_string HR0.out x4_1);cases e597
      replace hx597_0 := cbl HB hx597_0;go_wp2
      go_meet
      case rel => exact ⟨_, (true), zz5, H', ⟨(zz26 HK1)⟩, ⟨(zz18 HO_3)⟩, ⟨(zz2 HB)⟩⟩
     ·have H' := A_ H
      clear H;obtain ⟨⟨ad597, e597, hx597_0⟩, p597, q597⟩ := atB (Kd.at_string HR0.out x4_1);cases e597
      replace hx597_0 := cbl HB hx597_0;obtain ⟨⟨ad598, e598, hx598_0⟩, p598, q598⟩ := atB (Kd.at_string HR0.out x4_1);obtain rfl : ad597 = ad598 := (by injection e598);replace hx598_0 := cbl HB hx598_0;go_wp2
      go_meet
      case rel => exact ⟨_, (((rdOf ByteArray.empty l0 x4_1).toList == ([46] : List UInt8))), zz5, H', ⟨(zz26 HK1)⟩, ⟨(zz18 HO_3)⟩, ⟨(zz2 HB)⟩⟩
    case rest =>
     clear HC5;obtain ⟨kq, x19_4, rfl, HA, HJ4, HO_3, HB⟩ := hcut;cases kq with
     | zero => exact absurd HA.out (by simp [spec_PathClean.j1])
     | succ kj4 =>
      obtain ⟨H⟩ := HA;simp only [spec_PathClean.j1] at H
      replace H := iteB H;rcases H with ⟨rfl, H⟩ | ⟨rfl, H⟩
      ·have H' := A_ H
       clear H;go_wp2
       go_roundg kj4
       case measure => have := HK1.out; have := HJ4.out; omega
       case rel => exact ⟨(x3_1), (wrap64 (x4_1 + 1)), zz5, H', ⟨(zz24 HK1 HJ4)⟩, ⟨(zz18 HO_3)⟩, ⟨(zz2 HB)⟩⟩
      ·replace H := iteN H
       obtain ⟨c9, H⟩ := H;have c9b0 := dT c9;clear c9;replace H := iteNd H;obtain ⟨c10b0, H⟩ := H;replace H := iteEq H;rcases H with ⟨c11b0, c11b1, H⟩ | ⟨c11b0, c11b1, c11, H⟩
       ·obtain ⟨ji12, hji12⟩ : ∃ j_ : Int, (mx (wrap64 ((x3_1.length : Int) - 1)) 0) = j_ := ⟨_, rfl⟩
        (first | rw [hji12] at H | simp only [hji12] at H)
        have hji12_ : (if (wrap64 ((x3_1.length : Int) - 1)) < 0 then 0 else (wrap64 ((x3_1.length : Int) - 1))) = ji12 := hji12;replace H := iteN H;obtain ⟨c13, H⟩ := H;have c13b0 := eq_true c13;have c13b1 := dT c13;clear c13;replace H := iteN H;obtain ⟨c14, H⟩ := H;have c14b0 := eq_true c14;have c14b1 := dT c14;clear c14;obtain ⟨y600, Ny600⟩ := toY (x3_1.take ((ji12) : Int).toNat);(first | with_reducible replace H := bindZ Ny600 H | rw [← Ny600.out] at H | skip)
        have H' := A_ H;clear H;obtain ⟨⟨ad599, e599, hx599_0⟩, p599, q599⟩ := atB (Kd.at_string HR0.out x4_1);cases e599
        replace hx599_0 := cbl HB hx599_0;obtain ⟨Ao15, co15, eo15⟩ := Kd.R_slice HO_3.out;subst eo15;have q16 : ((ji12) : Int) ≤ ((x3_1.length : Int) : Int) := ofD;obtain ⟨i016, hi016, _, hsz16, _⟩ := info_parts info9;have hcut16 := cut_to (P := Tryd.prog) 26 9 .i64 Tryd.underlying26 hi016 Ao15 x3_1.length co15 (ji12) ofD q16 (Kd.R_reads' HO_3.out).2.1;have hr16 := Kd.R_take (m := ((ji12) : Int).toNat) HO_3.out (by omega);have hy16 : y600.length = ((ji12) : Int).toNat := (zz157 Ny600);rw [← Ny600.out] at hr16;rw [← hy16] at hr16 hcut16;clear hy16 hi016 hsz16 HO_3;have HO602 := A_ hr16;clear hr16;replace q16 := eq_true q16;go_wp2
        go_roundg kj4
        case measure => have := HK1.out; have := HJ4.out; omega
        case rel => exact ⟨(y600), (wrap64 (x4_1 + 1)), zz5, H', ⟨(zz24 HK1 HJ4)⟩, ⟨(zz18 HO602)⟩, ⟨(zz2 HB)⟩⟩
       ·replace H := iteN H
        obtain ⟨c17, H⟩ := H;have LMc17 := A_ c17;clear c17;obtain ⟨y604, Ny604⟩ := toY (x3_1 ++ [rdOf ByteArray.empty l0 x4_1]);(first | with_reducible replace H := bindZ Ny604 H | rw [← Ny604.out] at H | skip)
        have H' := A_ H;clear H;obtain ⟨⟨ad599, e599, hx599_0⟩, p599, q599⟩ := atB (Kd.at_string HR0.out x4_1);cases e599
        replace hx599_0 := cbl HB hx599_0;obtain ⟨⟨ad603, e603, hx603_0⟩, p603, q603⟩ := atB (Kd.at_string HR0.out x4_1);obtain rfl : ad599 = ad603 := (by injection e603);replace hx603_0 := cbl HB hx603_0;go_wp2_with (first | ((with_reducible refine gate_builtin (b := .append) (xs := #[.tmp 12, .tmp 17]) rfl ?_); at_builtin; refine Kd.R_append Kd.string (w0 := w) w.heap.size rfl (.tmp 12) (.tmp 17) 26 9 (.string ⟨#[]⟩) 16 rfl Tryd.underlying26 info9 rfl (by decide) (by omega) u3 x3_1 (rdOf ByteArray.empty l0 x4_1) [.string (rdOf ByteArray.empty l0 x4_1)] (fun _ => True) (fun _ => False) rfl rfl ?aP (fun _ hk => hk.elim) ?aF ?aO ?aB ?aS ?aL ?_; (case aP => exact rfl); (case aB => exact (zz2 HB)); (case aF => exact (fun _ _ => trivial)); (case aO => exact (zz18 HO_3)); (case aS => exact (below_size (zz2 HB))); (case aL => exact (zz21 LMc17)); intro v605 w18 ho hb hg hat; rw [← Ny604.out] at ho; replace HB := A_ (hb); have HO606 := A_ (ho); clear HO_3; clear ho hb hg hat))
        go_roundg kj4
        case measure => have := HK1.out; have := HJ4.out; omega
        case rel => exact ⟨(y604), (wrap64 (x4_1 + 1)), zz5, H', ⟨(zz24 HK1 HJ4)⟩, ⟨(zz18 HO606)⟩, ⟨(zz2 HB)⟩⟩
   ·obtain rfl := sI H
    go_wp2
    go_ret
    exact ⟨_, zz11, (zz18 HO_3), (zz2 HB)⟩
def spec_l1Way.l0 : Nat → ByteArray → Bool → List ByteArray → List ByteArray → Int → ByteArray → List ByteArray → Bool → ByteArray → Option (ByteArray × List ByteArray × Bool × ByteArray × Bool)
 | 0, _, _, _, _, _, _, _, _, _ => none
 | k + 1, x6, x7, x8, x9, x10, x608000, x608001, x608002, x608003 => if x10 < (x9.length : Int) then (if 0 ≤ x10 then ((spec_EscNorm.f k (rdOf ByteArray.empty x9 x10)).bind fun bt622 => (if bt622.2 = true then (if x8.length < 8796093022208 then (spec_l1Way.l0 k x6 x7 (x8 ++ [bt622.1]) x9 (wrap64 (x10 + 1)) x608000 x608001 x608002 x608003) else (none)) else (some ((⟨#[]⟩ : ByteArray), ([] : List ByteArray), false, (⟨#[]⟩ : ByteArray), false)))) else (none)) else ((spec_EscNorm.f k x6).bind fun bt627 => ((spec_PathClean.f k x8).bind fun t629 => (if bt627.2 = true then ((spec_AddrOk.f k x608000 t629 x7 bt627.1).bind fun t633 => (if t633 = true then (some (x608000, t629, x7, bt627.1, true)) else (some ((⟨#[]⟩ : ByteArray), ([] : List ByteArray), false, (⟨#[]⟩ : ByteArray), false)))) else (some ((⟨#[]⟩ : ByteArray), ([] : List ByteArray), false, (⟨#[]⟩ : ByteArray), false)))))
def spec_l1Way.f (k : Nat) (a0_0 : ByteArray) (l0_1 : List ByteArray) (a0_2 : Bool) (a0_3 : ByteArray) (a1 : ByteArray) : Option (ByteArray × List ByteArray × Bool × ByteArray × Bool) := (spec_l1Cut.f k a1 63).bind fun bt609 => ((some (([] : List ByteArray) : List ByteArray)).bind fun y612 => (if y612.length + l0_1.length < 8796093022208 then ((spec_l1Split.f k bt609.1 47).bind fun t618 => (spec_l1Way.l0 k bt609.2.1 bt609.2.2 (y612 ++ l0_1) t618 0 a0_0 l0_1 a0_2 a0_3)) else (none)))
def spec_l1Way.T12 : Bool × List (List Nat × List Nat) := (true, [([], []), ([0], [0]), ([], []), ([2], [2]), ([], []), ([], []), ([1, 3, 4, 5], [1, 3, 4, 5]), ([], []), ([7, 6, 3, 0, 1, 2, 3, 4, 5, 6, 7], [6, 7])])
def spec_l1Way.B12 : List Nat := [0, 1, 0, 4, 0, 0, 63, 0, 255]
theorem spec_l1Way.tab12 : rtab .any (opsOf Tryd.f60 12) = spec_l1Way.T12 := by kernel_rfl
theorem spec_l1Way.bits12 : waitsOk spec_l1Way.T12.2 spec_l1Way.B12 = true := by kernel_rfl
theorem spec_l1Way.calls (k : Nat) (a0_0 : ByteArray) (A0_1 : Option Addr) (c0_1 : Nat) (l0_1 : List ByteArray) (a0_2 : Bool) (a0_3 : ByteArray) (a1 : ByteArray) (r1 : ByteArray) (r2 : List ByteArray) (r3 : Bool) (r4 : ByteArray) (r5 : Bool) (w : World) (hr0_1 : Kd.C Kd.string w A0_1 l0_1.length l0_1) (hc0_1 : l0_1.length ≤ c0_1) (h : spec_l1Way.f k a0_0 l0_1 a0_2 a0_3 a1 = some (r1, r2, r3, r4, r5)) :
  Calls Tryd.prog 60 #[.agg #[.string a0_0, .slice A0_1 l0_1.length c0_1, .bool a0_2, .string a0_3], .string a1] w fun e w' => ∃ v1_ : Value, e = .returned (.tuple #[.agg #[.string r1, v1_, .bool r3, .string r4], .bool r5]) ∧ Kd.R Kd.string 9 w' w.heap.size (fun _ => True) v1_ r2 ∧ Below w.heap.size w w' := by
 have hu28 := Tryd.underlying28;have HR0_1 := A_ hr0_1;have HC0_1 := A_ hc0_1;clear hr0_1 hc0_1;have HB := A_ (Below.refl w.heap.size w);unfold spec_l1Way.f at h
 have H := h;clear h;replace H := bindA H;obtain ⟨⟨t609, t610, t611⟩, A3, H⟩ := H;try dsimp only at H
 obtain ⟨y612, Ny612⟩ := toY (([] : List ByteArray));(first | with_reducible replace H := bindZ Ny612 H | rw [← Ny612.out] at H | skip)
 replace H := iteE H;rcases H with ⟨c4, H⟩ | ⟨c4, H⟩
 ·have LMc4 := A_ c4
  clear c4;obtain ⟨y615, Ny615⟩ := toY (y612 ++ l0_1);(first | with_reducible replace H := bindZ Ny615 H | rw [← Ny615.out] at H | skip)
  replace H := bindA H;obtain ⟨t618, A5, H⟩ := H;have H' := A_ H;clear H;go_enter Tryd.func60, Tryd.ntmps60;go_wp2_with (first | ((with_reducible refine gD (N := 2) rfl ?_); refine boxE 2 #[.string a0_0, .slice A0_1 l0_1.length c0_1, .bool a0_2, .string a0_3] 28 ?_; intro gb607 hg w6 hbox hb; have BK607 := A_ (hbox); have GE607 := geB hg (zz2 HB); replace HB := A_ (bS (zz2 HB) hb); clear hb hbox hg) | ((with_reducible refine gD (N := 4) rfl ?_); refine boxE 4 #[.string (⟨#[]⟩ : ByteArray), .slice none 0 0, .bool false, .string (⟨#[]⟩ : ByteArray)] 28 ?_; intro gb608 hg w7 hbox hb; have BK608 := A_ (hbox); have GE608 := geB hg (zz4 HB GE607); replace HB := A_ (bS (zz4 HB GE607) hb); have NB607_608 := A_ ((by rw [hg]; exact Nat.ne_of_lt (blk_lt (zz3 BK607)) : gb607 ≠ gb608)); have NB608_607 := A_ ((by rw [hg]; exact Nat.ne_of_gt (blk_lt (zz3 BK607)) : gb608 ≠ gb607)); replace BK607 := A_ (bB (zz3 BK607) hb); clear hb hbox hg) | ((with_reducible refine gC (f := 40) rfl ?_); refine gsL (some 18) Tryd.func40 #[.string a1, .int .u8 63] ?_; (with_reducible refine (spec_l1Cut.calls k a1 63 t609 t610 t611 _ A3.out).mono ?_); rintro e w' ⟨rfl, ⟨nd, rfl⟩⟩; refine ⟨_, rfl, ?_⟩) | ((with_reducible refine gD (N := 22) rfl ?_); refine Kd.R_lit Kd.string _ 9 ?hg (N := 22) ?hd (xs := ([] : List ByteArray)) (inner := []) (ok := fun _ => True) (okp := fun _ => True) ?hr ?hp (fun _ hk => hk) trivial (Below.refl _ _) (Nat.le_refl _) (by simp) ?_; (case hd => rfl); (case hg => rfl); (case hr => exact zz16); (case hp => exact (Reps.none _ _)); intro v613 w8 ho9 hb hg_ hnew_; clear hg_ hnew_; (first | rw [← Ny612.out] at ho9 | (simp only [Int.reduceToNat] at ho9; rw [← Ny612.out] at ho9)); have HO614 := A_ (Kd.R_lower ho9 (below_size (zz171 HB GE607 GE608))); replace BK607 := A_ (bB (zz3 BK607) hb); replace BK608 := A_ (bB (zz3 BK608) hb); replace HB := A_ (bS (zz171 HB GE607 GE608) hb); clear hb ho9; have hnb10 := NB607_608.out; have hnc10 := NB608_607.out; obtain ⟨_, _, _, _, _, _, _, _⟩ := cf4 BK607) | ((with_reducible refine gate_builtin (b := .append) (xs := #[.tmp 22, .tmp 24]) rfl ?_); at_builtin; refine Kd.R_append_rows Kd.string (w0 := w) w.heap.size rfl (.tmp 22) (.tmp 24) 26 9 (.string ⟨#[]⟩) 16 rfl Tryd.underlying26 info9 rfl (by decide) (by omega) v613 y612 l0_1 _ _ _ (fun _ => True) (fun _ => False) rfl rfl ?aO ?aR (fun _ _ h => h) (fun _ h => h.elim) ?aF ?aB ?aS ?aL ?_; (case aR => exact (zz58 HR0_1 HB)); (case aB => exact (zz171 HB GE607 GE608)); (case aF => exact (fun _ _ => trivial)); (case aO => exact (zz18 HO614)); (case aS => exact (below_size (zz171 HB GE607 GE608))); (case aL => exact (zz21 LMc4)); intro v616 w12 ho hb hg hat; rw [← Ny615.out] at ho; replace BK607 := A_ (blk_grown (zz3 BK607) hg (Kd.R_ne HO614.out BK607.out (by decide))); replace BK608 := A_ (blk_grown (zz3 BK608) hg (Kd.R_ne HO614.out BK608.out (by decide))); replace HB := A_ (hb); have HO617 := A_ (ho); clear HO614; clear ho hb hg hat) | ((with_reducible refine gC (f := 81) rfl ?_); refine gsL (some 27) Tryd.func81 #[.string t609, .int .u8 47] ?_; (with_reducible refine mV (spec_l1Split.calls k t609 47 t618 _ A5.out) ?_); rintro v619 w13 ⟨ho0, hb⟩; have HO620 := A_ (Kd.R_lower (Kd.R_new' ho0 (Kd.R_lt (zz18 HO617))) (below_size (zz171 HB GE607 GE608))); replace HO617 := A_ (Kd.R_elder' (zz18 HO617) (Kd.R_base ho0) hb); replace BK607 := A_ (bB (zz3 BK607) hb); replace BK608 := A_ (bB (zz3 BK608) hb); replace HB := A_ (bS (zz171 HB GE607 GE608) hb); (try clear hb ho0)))
  go_loopg [8, 10] k (fun kq v8 v10 w' => ∃ (x8_1 : List ByteArray) (x10_1 : Int) (x609000_1 : ByteArray) (x609002_1 : Bool) (x609003_1 : ByteArray), v10 = .int .i64 x10_1 ∧ Aside0 (spec_l1Way.l0 kq t610 t611 x8_1 t618 x10_1 a0_0 l0_1 a0_2 a0_3 = some (r1, r2, r3, r4, r5)) ∧ Aside0 (kq ≤ k) ∧ Aside0 (Kd.R Kd.string 9 w' w.heap.size (fun k_ => some k_ ≠ (v619 : Value).ownBlock) v8 x8_1) ∧ Aside0 (Kd.R Kd.string 9 w' w.heap.size (fun k_ => some k_ ≠ (v8 : Value).ownBlock) v619 t618) ∧ Aside0 (w'.heap[gb607]? = some (.cells #[.string a0_0, (.slice A0_1 l0_1.length c0_1), .bool a0_2, .string a0_3] 28 (0, 0))) ∧ Aside0 (w'.heap[gb608]? = some (.cells #[.string x609000_1, (.slice none 0 0), .bool x609002_1, .string x609003_1] 28 (0, 0))) ∧ Aside0 (Below w.heap.size w w'))
  case atStart => exact ⟨(y615), (0), ((⟨#[]⟩ : ByteArray)), (false), ((⟨#[]⟩ : ByteArray)), zz5, H', ⟨Nat.le_refl _⟩, ⟨(zz74 HO617)⟩, ⟨(zz74 HO620)⟩, ⟨(zz3 BK607)⟩, ⟨(zz3 BK608)⟩, ⟨(zz171 HB GE607 GE608)⟩⟩
  case round =>
   clear H';obtain ⟨x8_1, x10_1, x609000_1, x609002_1, x609003_1, rfl, HA, HK1, HO_8, HO_9, BK607, BK608, HB⟩ := hrel;cases gk with
   | zero => exact absurd HA.out (by simp [spec_l1Way.l0])
   | succ k1 =>
    obtain ⟨H⟩ := HA;simp only [spec_l1Way.l0] at H
    replace H := iteEd H;rcases H with ⟨c14b0, H⟩ | ⟨c14b0, H⟩
    ·replace H := iteNd H
     obtain ⟨c15b0, H⟩ := H;replace H := bindA H;obtain ⟨⟨t622, t623⟩, A16, H⟩ := H;try dsimp only at H
     have HF17 := A_ H;clear H;obtain ⟨Ao18, co18, eo18⟩ := Kd.R_slice HO_9.out;subst eo18;obtain ⟨⟨ad621, e621, hx621_0⟩, p621, q621⟩ := atB (Kd.at_string (Kd.R_reads' HO_9.out).2.2 x10_1);cases e621
     go_upto_if 43 with (first | ((with_reducible refine gC (f := 82) rfl ?_); refine gsL (some 39) Tryd.func82 #[.string (rdOf ByteArray.empty t618 x10_1)] ?_; (with_reducible refine mR (spec_EscNorm.calls k1 (rdOf ByteArray.empty t618 x10_1) t622 t623 _ A16.out) ?_); rintro w19 hb; replace HO_8 := A_ (rB (zz18 HO_8) hb); replace HO_9 := A_ (rB (zz18 HO_9) hb); replace BK607 := A_ (bB (zz3 BK607) hb); replace BK608 := A_ (bB (zz3 BK608) hb); replace HB := A_ (bS (zz171 HB GE607 GE608) hb); (try clear hb)))
     obtain ⟨H⟩ := HF17;replace H := iteB H;rcases H with ⟨rfl, H⟩ | ⟨rfl, H⟩
     ·replace H := iteN H
      obtain ⟨c21, H⟩ := H;have LMc21 := A_ c21;clear c21;obtain ⟨y624, Ny624⟩ := toY (x8_1 ++ [t622]);(first | with_reducible replace H := bindZ Ny624 H | rw [← Ny624.out] at H | skip)
      have H' := A_ H;clear H;go_wp2_with (first | ((with_reducible refine gate_builtin (b := .append) (xs := #[.tmp 45, .tmp 47]) rfl ?_); at_builtin; refine Kd.R_append Kd.string (w0 := w) w.heap.size rfl (.tmp 45) (.tmp 47) 26 9 (.string ⟨#[]⟩) 16 rfl Tryd.underlying26 info9 rfl (by decide) (by omega) u8 x8_1 t622 [.string t622] (fun k_ => some k_ ≠ (.slice (some ad621) t618.length co18 : Value).ownBlock) (fun _ => False) rfl rfl ?aP (fun _ hk => hk.elim) ?aF ?aO ?aB ?aS ?aL ?_; (case aP => exact rfl); (case aB => exact (zz171 HB GE607 GE608)); (case aF => exact (fun k_ hk => Kd.fresh' (Kd.R_lt (zz18 HO_9)) k_ hk)); (case aO => exact (zz18 HO_8)); (case aS => exact (below_size (zz171 HB GE607 GE608))); (case aL => exact (zz21 LMc21)); intro v625 w22 ho hb hg hat; rw [← Ny624.out] at ho; replace HO_9 := A_ (Kd.R_after (ok := (fun _ => True)) (zz168 HO_9) hg hat); replace BK607 := A_ (blk_grown (zz3 BK607) hg (Kd.R_ne HO_8.out BK607.out (by decide))); replace BK608 := A_ (blk_grown (zz3 BK608) hg (Kd.R_ne HO_8.out BK608.out (by decide))); replace HB := A_ (hb); have HO626 := A_ (ho); clear HO_8; clear ho hb hg hat))
      go_roundg k1
      case measure => have := HK1.out; omega
      case rel => exact ⟨(y624), (wrap64 (x10_1 + 1)), (x609000_1), (x609002_1), (x609003_1), zz5, H', ⟨(zz21 HK1)⟩, ⟨(zz18 HO626)⟩, ⟨(zz74 HO_9)⟩, ⟨(zz3 BK607)⟩, ⟨(zz3 BK608)⟩, ⟨(zz171 HB GE607 GE608)⟩⟩
     ·simp only [Option.some.injEq, Prod.mk.injEq] at H
      obtain ⟨rfl, rfl, rfl, rfl, rfl⟩ := H;have hnb23 := NB608_607.out;have hnc23 := NB607_608.out;obtain ⟨_, _, _, _, _, _, _, _⟩ := cf4 BK608;go_wp2
      refine pR (results_ct rfl _ _ gb608 28 #[.string (⟨#[]⟩ : ByteArray), .slice none 0 0, .bool false, .string (⟨#[]⟩ : ByteArray)] (0, 0) _ rfl (zz71 BK608) Tryd.underlying28 rfl (by kernel_rfl)) rfl ?_;exact ⟨_, zz11, zz72, (zz171 HB GE607 GE608)⟩
    ·replace H := Option.bind_eq_some_iff.mp H
     obtain ⟨⟨t627, t628⟩, A250, H⟩ := H;replace H : ((spec_PathClean.f k1 x8_1).bind fun t629 => (if t628 = true then ((spec_AddrOk.f k1 a0_0 t629 t611 t627).bind fun t633 => (if t633 = true then (some (a0_0, t629, t611, t627, true)) else (some ((⟨#[]⟩ : ByteArray), ([] : List ByteArray), false, (⟨#[]⟩ : ByteArray), false)))) else (some ((⟨#[]⟩ : ByteArray), ([] : List ByteArray), false, (⟨#[]⟩ : ByteArray), false)))) = some (r1, r2, r3, r4, r5) := H;have A25 := A_ A250;clear A250;replace H := bindA H;obtain ⟨t629, A26, H⟩ := H;have HF27 := A_ H;clear H;obtain ⟨Ao28, co28, eo28⟩ := Kd.R_slice HO_9.out;subst eo28;try go_wp2_with (first | ((with_reducible refine gC (f := 82) rfl ?_); refine gsL (some 51) Tryd.func82 #[.string t610] ?_; (with_reducible refine mR (spec_EscNorm.calls k1 t610 t627 t628 _ A25.out) ?_); rintro w29 hb; replace HO_8 := A_ (rB (zz18 HO_8) hb); replace HO_9 := A_ (rB (zz18 HO_9) hb); replace BK607 := A_ (bB (zz3 BK607) hb); replace BK608 := A_ (bB (zz3 BK608) hb); replace HB := A_ (bS (zz171 HB GE607 GE608) hb); (try clear hb); obtain ⟨Ao30, co30, eo30⟩ := Kd.R_slice HO_8.out; subst eo30))
     replace HO_8 := A_ (Kd.R_drew HO_8.out);replace HO_9 := A_ (Kd.R_drew HO_9.out);replace BK607 := A_ (blk_drew BK607.out);replace BK608 := A_ (blk_drew BK608.out);replace HB := A_ (below_drew1 HB.out);refine start_ (n := 9) (S := fun w' => w'.cell? ⟨gb607, 0, none⟩ = some (.string a0_0) ∧ w'.cell? ⟨gb607, 1, none⟩ = some (.slice A0_1 l0_1.length c0_1) ∧ w'.cell? ⟨gb607, 2, none⟩ = some (.bool a0_2) ∧ w'.cell? ⟨gb607, 3, none⟩ = some (.string a0_3)) (ds := []) #[false, false, false, false, false, false, false, false, false] (by kernel_rfl) rfl rfl ⟨(blk_cell BK607.out 0).trans rfl, (blk_cell BK607.out 1).trans rfl, (blk_cell BK607.out 2).trans rfl, (blk_cell BK607.out 3).trans rfl⟩ (fun hHeld => ?_); refine with_tabW spec_l1Way.tab12 spec_l1Way.bits12 (fun HT_ HW_ => ?_);generalize w29.drew = w31 at HO_8 HO_9 BK607 BK608 HB hHeld ⊢;refine pureZ 0 (some 54) #[true, false, false, false, false, false, false, false, false] ?_;refine pureZ 2 (some 56) #[true, false, true, false, false, false, false, false, false] ?_;refine pureZ 4 (some 58) #[true, false, true, false, true, false, false, false, false] ?_;refine pureZ 5 (some 59) #[true, false, true, false, true, true, false, false, false] ?_;refine takeZ4 1 (some 55) #[true, true, true, false, true, true, false, false, false] hHeld ?_;refine join_ (σ := Value × Nat) 1 #[true, true, true, true, true, true, true, true, false] (fun s_ => [(57, s_.1), (15, .pointer (some ⟨s_.2, 0, none⟩)), (60, .agg #[.string a0_0, s_.1, .bool t611, .string t627])]) (fun s_ w' => (w'.cell? ⟨gb607, 0, none⟩ = some (.string a0_0) ∧ w'.cell? ⟨gb607, 1, none⟩ = some (.slice A0_1 l0_1.length c0_1) ∧ w'.cell? ⟨gb607, 2, none⟩ = some (.bool a0_2) ∧ w'.cell? ⟨gb607, 3, none⟩ = some (.string a0_3)) ∧ (Kd.R Kd.string 9 w' w.heap.size (fun k_ => some k_ ≠ (.slice Ao30 x8_1.length co30 : Value).ownBlock ∧ some k_ ≠ (.slice Ao28 t618.length co28 : Value).ownBlock) s_.1 t629) ∧ (Kd.R Kd.string 9 w' w.heap.size (fun k_ => some k_ ≠ (s_.1 : Value).ownBlock ∧ some k_ ≠ (.slice Ao28 t618.length co28 : Value).ownBlock) (.slice Ao30 x8_1.length co30) x8_1) ∧ (Kd.R Kd.string 9 w' w.heap.size (fun k_ => some k_ ≠ (s_.1 : Value).ownBlock ∧ some k_ ≠ (.slice Ao30 x8_1.length co30 : Value).ownBlock) (.slice Ao28 t618.length co28) t618) ∧ (w'.heap[gb607]? = some (.cells #[.string a0_0, .slice A0_1 l0_1.length c0_1, .bool a0_2, .string a0_3] 28 (0, 0))) ∧ (w'.heap[gb608]? = some (.cells #[.string x609000_1, .slice none 0 0, .bool x609002_1, .string x609003_1] 28 (0, 0))) ∧ (w'.heap[s_.2]? = some (.cells #[.string (⟨#[]⟩ : ByteArray), .slice none 0 0, .bool false, .string (⟨#[]⟩ : ByteArray)] 28 (0, 0))) ∧ (w.heap.size ≤ s_.2) ∧ (w.heap.size ≤ s_.2) ∧ (gb607 ≠ s_.2) ∧ (s_.2 ≠ gb607) ∧ (gb608 ≠ s_.2) ∧ (s_.2 ≠ gb608) ∧ (Below w.heap.size w w')) ?_ ?_;rotate_left
     ·intro hCont
      refine two_ (i := 3) (j := 7) (Ni := some 57) (Nj := some 15) #[true, true, true, true, true, true, false, false, false] #[true, true, true, false, true, true, false, true, false] rfl rfl rfl rfl (two_of HT_.out (by kernel_rfl)) (by decide) (by decide) (fun K hK => ?_) (fun K hK => ?_)
      ·skip
       refine goes_ Tryd.func83 (by kernel_rfl) rfl #[.slice Ao30 x8_1.length co30] (by rfl) rfl rfl zz17 ?_;with_reducible refine (spec_PathClean.calls k1 _ _ x8_1 t629 _ ?side1 ?side2 A26.out).mono ?_
       (case side1 => exact (zz37 HO_8))
       (case side2 => exact (Kd.R_reads' HO_8.out).2.1)
       rintro e w32 ⟨v630, rfl, ho0, hb⟩;refine ⟨_, rfl, ?_⟩;have HO631 := A_ (Kd.R_lower (Kd.R_new' (Kd.R_new' ho0 (Kd.R_lt (zz18 HO_8))) (Kd.R_lt (zz18 HO_9))) (below_size (zz171 HB GE607 GE608)));replace HO_8 := A_ (Kd.R_elder' (zz18 HO_8) (Kd.R_base ho0) hb);replace HO_9 := A_ (Kd.R_elder' (zz18 HO_9) (Kd.R_base ho0) hb);replace BK607 := A_ (bB (zz3 BK607) hb);replace BK608 := A_ (bB (zz3 BK608) hb);replace HB := A_ (bS (zz171 HB GE607 GE608) hb);(try clear hb)
       (try clear hb2)
       (try clear hk)
       (try clear hi)
       (try clear ho0)
       obtain ⟨Ao33, co33, eo33⟩ := Kd.R_slice HO631.out;(first | subst eo33 | (injection eo33 with f1_ f2_ f3_; have f4_ := f1_.symm; have f5_ := f3_.symm; clear f1_ f2_ f3_; subst f4_; subst f5_))
       refine hK.out _ _ ⟨(blk_cell BK607.out 0).trans rfl, (blk_cell BK607.out 1).trans rfl, (blk_cell BK607.out 2).trans rfl, (blk_cell BK607.out 3).trans rfl⟩ (fun hHeld => ?_);clear hK K;refine norm_ (a' := ?_) ?_ ?_;rotate_left
       ·show Act.put _ (some 57) _ = _
        simp only [Act.put, List.setIfInBounds_toArray, List.set_cons_zero, List.set_cons_succ, i64_w, i32_w]
        rfl
       refine pureZ 6 (some 60) #[true, true, true, true, true, true, true, false, false] ?_;refine one_ (i := 7) (N := some 15) #[true, true, true, true, true, true, true, true, false] rfl rfl (one_of HT_.out (by kernel_rfl)) (by decide) (fun K hK => ?_);refine box_step ?hg (N := 15) ?hd (cs := #[.string (⟨#[]⟩ : ByteArray), .slice none 0 0, .bool false, .string (⟨#[]⟩ : ByteArray)]) (t := 28) ?hr ?_; (case hd => rfl); (case hg => rfl); (case hr => exact zz16);intro gb632 hg w34 hbox hb;replace HO_8 := A_ (rB (zz18 HO_8) hb);replace HO_9 := A_ (rB (zz18 HO_9) hb);replace HO631 := A_ (rB (zz18 HO631) hb);have BK632 := A_ (hbox);have GW632 := A_ ((by rw [hg]; exact (below_size (zz171 HB GE607 GE608)) : w.heap.size ≤ gb632));have GE632 := A_ ((by rw [hg]; exact (below_size (zz171 HB GE607 GE608)) : w.heap.size ≤ gb632));replace HB := A_ (bS (zz171 HB GE607 GE608) hb);have NB607_632 := A_ ((by rw [hg]; exact Nat.ne_of_lt (blk_lt (zz3 BK607)) : gb607 ≠ gb632));have NB632_607 := A_ ((by rw [hg]; exact Nat.ne_of_gt (blk_lt (zz3 BK607)) : gb632 ≠ gb607));replace BK607 := A_ (bB (zz3 BK607) hb);have NB608_632 := A_ ((by rw [hg]; exact Nat.ne_of_lt (blk_lt (zz3 BK608)) : gb608 ≠ gb632));have NB632_608 := A_ ((by rw [hg]; exact Nat.ne_of_gt (blk_lt (zz3 BK608)) : gb632 ≠ gb608));replace BK608 := A_ (bB (zz3 BK608) hb);clear hb hbox hg;refine hK.out _ _ ⟨(blk_cell BK607.out 0).trans rfl, (blk_cell BK607.out 1).trans rfl, (blk_cell BK607.out 2).trans rfl, (blk_cell BK607.out 3).trans rfl⟩ (fun hHeld => ?_);clear hK K;refine norm_ (a' := ?_) ?_ ?_;rotate_left
       ·show Act.put _ (some 15) _ = _
        simp only [Act.put, List.setIfInBounds_toArray, List.set_cons_zero, List.set_cons_succ, i64_w, i32_w]
        rfl
       exact norm_ viaP (hCont (.slice Ao33 t629.length co33, gb632) _ ⟨hHeld, (zz46 HO631), (zz179 HO_8), (zz179 HO_9), (zz3 BK607), (zz3 BK608), (zz3 BK632), GW632.out, GE632.out, NB607_632.out, NB632_607.out, NB608_632.out, NB632_608.out, (zz180 HB GE607 GE608 GE632)⟩)
      ·skip
       refine box_step ?hg (N := 15) ?hd (cs := #[.string (⟨#[]⟩ : ByteArray), .slice none 0 0, .bool false, .string (⟨#[]⟩ : ByteArray)]) (t := 28) ?hr ?_; (case hd => rfl); (case hg => rfl); (case hr => exact zz16);intro gb632 hg w32 hbox hb;replace HO_8 := A_ (rB (zz18 HO_8) hb);replace HO_9 := A_ (rB (zz18 HO_9) hb);have BK632 := A_ (hbox);have GW632 := A_ ((by rw [hg]; exact (below_size (zz171 HB GE607 GE608)) : w.heap.size ≤ gb632));have GE632 := A_ ((by rw [hg]; exact (below_size (zz171 HB GE607 GE608)) : w.heap.size ≤ gb632));replace HB := A_ (bS (zz171 HB GE607 GE608) hb);have NB607_632 := A_ ((by rw [hg]; exact Nat.ne_of_lt (blk_lt (zz3 BK607)) : gb607 ≠ gb632));have NB632_607 := A_ ((by rw [hg]; exact Nat.ne_of_gt (blk_lt (zz3 BK607)) : gb632 ≠ gb607));replace BK607 := A_ (bB (zz3 BK607) hb);have NB608_632 := A_ ((by rw [hg]; exact Nat.ne_of_lt (blk_lt (zz3 BK608)) : gb608 ≠ gb632));have NB632_608 := A_ ((by rw [hg]; exact Nat.ne_of_gt (blk_lt (zz3 BK608)) : gb632 ≠ gb608));replace BK608 := A_ (bB (zz3 BK608) hb);clear hb hbox hg;refine hK.out _ _ ⟨(blk_cell BK607.out 0).trans rfl, (blk_cell BK607.out 1).trans rfl, (blk_cell BK607.out 2).trans rfl, (blk_cell BK607.out 3).trans rfl⟩ (fun hHeld => ?_);clear hK K;refine norm_ (a' := ?_) ?_ ?_;rotate_left
       ·show Act.put _ (some 15) _ = _
        simp only [Act.put, List.setIfInBounds_toArray, List.set_cons_zero, List.set_cons_succ, i64_w, i32_w]
        rfl
       refine one_ (i := 3) (N := some 57) #[true, true, true, true, true, true, false, true, false] rfl rfl (one_of HT_.out (by kernel_rfl)) (by decide) (fun K hK => ?_);refine goes_ Tryd.func83 (by kernel_rfl) rfl #[.slice Ao30 x8_1.length co30] (by rfl) rfl rfl zz17 ?_;with_reducible refine (spec_PathClean.calls k1 _ _ x8_1 t629 _ ?side1 ?side2 A26.out).mono ?_
       (case side1 => exact (zz37 HO_8))
       (case side2 => exact (Kd.R_reads' HO_8.out).2.1)
       rintro e w33 ⟨v630, rfl, ho0, hb⟩;refine ⟨_, rfl, ?_⟩;have HO631 := A_ (Kd.R_lower (Kd.R_new' (Kd.R_new' ho0 (Kd.R_lt (zz18 HO_8))) (Kd.R_lt (zz18 HO_9))) (below_size (zz180 HB GE607 GE608 GE632)));replace HO_8 := A_ (Kd.R_elder' (zz18 HO_8) (Kd.R_base ho0) hb);replace HO_9 := A_ (Kd.R_elder' (zz18 HO_9) (Kd.R_base ho0) hb);replace BK607 := A_ (bB (zz3 BK607) hb);replace BK608 := A_ (bB (zz3 BK608) hb);replace BK632 := A_ (bB (zz3 BK632) hb);replace HB := A_ (bS (zz180 HB GE607 GE608 GE632) hb);(try clear hb)
       (try clear hb2)
       (try clear hk)
       (try clear hi)
       (try clear ho0)
       obtain ⟨Ao34, co34, eo34⟩ := Kd.R_slice HO631.out;(first | subst eo34 | (injection eo34 with f1_ f2_ f3_; have f4_ := f1_.symm; have f5_ := f3_.symm; clear f1_ f2_ f3_; subst f4_; subst f5_))
       refine hK.out _ _ ⟨(blk_cell BK607.out 0).trans rfl, (blk_cell BK607.out 1).trans rfl, (blk_cell BK607.out 2).trans rfl, (blk_cell BK607.out 3).trans rfl⟩ (fun hHeld => ?_);clear hK K;refine norm_ (a' := ?_) ?_ ?_;rotate_left
       ·show Act.put _ (some 57) _ = _
        simp only [Act.put, List.setIfInBounds_toArray, List.set_cons_zero, List.set_cons_succ, i64_w, i32_w]
        rfl
       refine pureZ 6 (some 60) #[true, true, true, true, true, true, true, true, false] ?_;exact norm_ viaP (hCont (.slice Ao34 t629.length co34, gb632) _ ⟨hHeld, (zz46 HO631), (zz179 HO_8), (zz179 HO_9), (zz3 BK607), (zz3 BK608), (zz3 BK632), GW632.out, GE632.out, NB607_632.out, NB632_607.out, NB608_632.out, NB632_608.out, (zz180 HB GE607 GE608 GE632)⟩)
     rintro ⟨v630, gb632⟩ w35 ⟨hS_, h0_, h1_, h2_, h3_, h4_, h5_, h6_, h7_, h8_, h9_, h10_, h11_, h12_⟩;have n0_ : Aside0 (Kd.R Kd.string 9 w35 w.heap.size (fun k_ => some k_ ≠ (.slice Ao30 x8_1.length co30 : Value).ownBlock ∧ some k_ ≠ (.slice Ao28 t618.length co28 : Value).ownBlock) v630 t629) := ⟨h0_⟩;have n1_ : Aside0 (Kd.R Kd.string 9 w35 w.heap.size (fun k_ => some k_ ≠ (v630 : Value).ownBlock ∧ some k_ ≠ (.slice Ao28 t618.length co28 : Value).ownBlock) (.slice Ao30 x8_1.length co30) x8_1) := ⟨h1_⟩;have n2_ : Aside0 (Kd.R Kd.string 9 w35 w.heap.size (fun k_ => some k_ ≠ (v630 : Value).ownBlock ∧ some k_ ≠ (.slice Ao30 x8_1.length co30 : Value).ownBlock) (.slice Ao28 t618.length co28) t618) := ⟨h2_⟩;have n3_ : Aside0 (w35.heap[gb607]? = some (.cells #[.string a0_0, .slice A0_1 l0_1.length c0_1, .bool a0_2, .string a0_3] 28 (0, 0))) := ⟨h3_⟩;have n4_ : Aside0 (w35.heap[gb608]? = some (.cells #[.string x609000_1, .slice none 0 0, .bool x609002_1, .string x609003_1] 28 (0, 0))) := ⟨h4_⟩;have n5_ : Aside0 (w35.heap[gb632]? = some (.cells #[.string (⟨#[]⟩ : ByteArray), .slice none 0 0, .bool false, .string (⟨#[]⟩ : ByteArray)] 28 (0, 0))) := ⟨h5_⟩;have n6_ : Aside0 (w.heap.size ≤ gb632) := ⟨h6_⟩;have n7_ : Aside0 (w.heap.size ≤ gb632) := ⟨h7_⟩;have n8_ : Aside0 (gb607 ≠ gb632) := ⟨h8_⟩;have n9_ : Aside0 (gb632 ≠ gb607) := ⟨h9_⟩;have n10_ : Aside0 (gb608 ≠ gb632) := ⟨h10_⟩;have n11_ : Aside0 (gb632 ≠ gb608) := ⟨h11_⟩;have n12_ : Aside0 (Below w.heap.size w w35) := ⟨h12_⟩;clear HO_8;clear HO_9;clear BK607;clear BK608;clear HB;clear h0_ h1_ h2_ h3_ h4_ h5_ h6_ h7_ h8_ h9_ h10_ h11_ h12_;have HO631 := n0_;have HO_8 := n1_;have HO_9 := n2_;have BK607 := n3_;have BK608 := n4_;have BK632 := n5_;have GW632 := n6_;have GE632 := n7_;have NB607_632 := n8_;have NB632_607 := n9_;have NB608_632 := n10_;have NB632_608 := n11_;have HB := n12_;clear n0_ n1_ n2_ n3_ n4_ n5_ n6_ n7_ n8_ n9_ n10_ n11_ n12_;have hHeld : w35.cell? ⟨gb607, 0, none⟩ = some (.string a0_0) ∧ w35.cell? ⟨gb607, 1, none⟩ = some (.slice A0_1 l0_1.length c0_1) ∧ w35.cell? ⟨gb607, 2, none⟩ = some (.bool a0_2) ∧ w35.cell? ⟨gb607, 3, none⟩ = some (.string a0_3) := hS_;obtain ⟨Ao36, co36, eo36⟩ := Kd.R_slice HO631.out;(first | subst eo36 | (injection eo36 with f1_ f2_ f3_; have f4_ := f1_.symm; have f5_ := f3_.symm; clear f1_ f2_ f3_; subst f4_; subst f5_))
     refine norm_ (a' := ?_) ?_ ?_;rotate_left
     ·simp only [putAll, Act.put, List.setIfInBounds_toArray, List.set_cons_zero, List.set_cons_succ]
      rfl
     refine one_ (i := 8) (N := none) #[true, true, true, true, true, true, true, true, true] rfl rfl (one_of HT_.out (by kernel_rfl)) (by decide) (fun K hK => ?_);have hs37 : w35.cell? ⟨gb632, 0, none⟩ = some (.string (⟨#[]⟩ : ByteArray)) := (blk_cell BK632.out 0).trans rfl;have hfs37 := blk_frozen BK632.out 0;have hns37_0 := NB607_632.out;have hns37_1 := NB608_632.out;have hms37_0 := NB632_607.out;have hms37_1 := NB632_608.out;have hs38 : w35.cell? ⟨gb632, 1, none⟩ = some (.slice none 0 0) := (blk_cell BK632.out 1).trans rfl;have hfs38 := blk_frozen BK632.out 1;have hns38_0 := NB607_632.out;have hns38_1 := NB608_632.out;have hms38_0 := NB632_607.out;have hms38_1 := NB632_608.out;have hs39 : w35.cell? ⟨gb632, 2, none⟩ = some (.bool false) := (blk_cell BK632.out 2).trans rfl;have hfs39 := blk_frozen BK632.out 2;have hns39_0 := NB607_632.out;have hns39_1 := NB608_632.out;have hms39_0 := NB632_607.out;have hms39_1 := NB632_608.out;have hs40 : w35.cell? ⟨gb632, 3, none⟩ = some (.string (⟨#[]⟩ : ByteArray)) := (blk_cell BK632.out 3).trans rfl;have hfs40 := blk_frozen BK632.out 3;have hns40_0 := NB607_632.out;have hns40_1 := NB608_632.out;have hms40_0 := NB632_607.out;have hms40_1 := NB632_608.out;refine skip_ (w1 := ?_) (by rfl) rfl ?_ ?_;rotate_left
     ·go_simp
      rfl
     refine hK.out _ _ ⟨((cell_far (p := ⟨gb632, _, none⟩) NB607_632.out _).trans (((cell_far (p := ⟨gb632, _, none⟩) NB607_632.out _).trans (((cell_far (p := ⟨gb632, _, none⟩) NB607_632.out _).trans (((cell_far (p := ⟨gb632, _, none⟩) NB607_632.out _).trans (hHeld.1)))))))), ((cell_far (p := ⟨gb632, _, none⟩) NB607_632.out _).trans (((cell_far (p := ⟨gb632, _, none⟩) NB607_632.out _).trans (((cell_far (p := ⟨gb632, _, none⟩) NB607_632.out _).trans (((cell_far (p := ⟨gb632, _, none⟩) NB607_632.out _).trans (hHeld.2.1)))))))), ((cell_far (p := ⟨gb632, _, none⟩) NB607_632.out _).trans (((cell_far (p := ⟨gb632, _, none⟩) NB607_632.out _).trans (((cell_far (p := ⟨gb632, _, none⟩) NB607_632.out _).trans (((cell_far (p := ⟨gb632, _, none⟩) NB607_632.out _).trans (hHeld.2.2.1)))))))), ((cell_far (p := ⟨gb632, _, none⟩) NB607_632.out _).trans (((cell_far (p := ⟨gb632, _, none⟩) NB607_632.out _).trans (((cell_far (p := ⟨gb632, _, none⟩) NB607_632.out _).trans (((cell_far (p := ⟨gb632, _, none⟩) NB607_632.out _).trans (hHeld.2.2.2))))))))⟩ (fun hHeld => ?_);clear hK K;refine done_ (done_of HT_.out (by kernel_rfl)) ?_;have n0_ : Aside0 (Kd.R Kd.string 9 ((((w35.setCell ⟨gb632, 0, none⟩ (.string a0_0)).setCell ⟨gb632, 1, none⟩ (.slice Ao36 t629.length co36)).setCell ⟨gb632, 2, none⟩ (.bool t611)).setCell ⟨gb632, 3, none⟩ (.string t627)) w.heap.size (fun k_ => some k_ ≠ (.slice Ao28 t618.length co28 : Value).ownBlock ∧ some k_ ≠ (.slice Ao36 t629.length co36 : Value).ownBlock) (.slice Ao30 x8_1.length co30) x8_1) := ⟨(zz50 (rt HO_8 BK632))⟩;have n1_ : Aside0 (Kd.R Kd.string 9 ((((w35.setCell ⟨gb632, 0, none⟩ (.string a0_0)).setCell ⟨gb632, 1, none⟩ (.slice Ao36 t629.length co36)).setCell ⟨gb632, 2, none⟩ (.bool t611)).setCell ⟨gb632, 3, none⟩ (.string t627)) w.heap.size (fun k_ => some k_ ≠ (.slice Ao30 x8_1.length co30 : Value).ownBlock ∧ some k_ ≠ (.slice Ao36 t629.length co36 : Value).ownBlock) (.slice Ao28 t618.length co28) t618) := ⟨(zz50 (rt HO_9 BK632))⟩;have n2_ : Aside0 (Kd.R Kd.string 9 ((((w35.setCell ⟨gb632, 0, none⟩ (.string a0_0)).setCell ⟨gb632, 1, none⟩ (.slice Ao36 t629.length co36)).setCell ⟨gb632, 2, none⟩ (.bool t611)).setCell ⟨gb632, 3, none⟩ (.string t627)) w.heap.size (fun k_ => some k_ ≠ (.slice Ao30 x8_1.length co30 : Value).ownBlock ∧ some k_ ≠ (.slice Ao28 t618.length co28 : Value).ownBlock) (.slice Ao36 t629.length co36) t629) := ⟨(zz50 (rt HO631 BK632))⟩;have n3_ : Aside0 (((((w35.setCell ⟨gb632, 0, none⟩ (.string a0_0)).setCell ⟨gb632, 1, none⟩ (.slice Ao36 t629.length co36)).setCell ⟨gb632, 2, none⟩ (.bool t611)).setCell ⟨gb632, 3, none⟩ (.string t627)).heap[gb607]? = some (.cells #[.string a0_0, .slice A0_1 l0_1.length c0_1, .bool a0_2, .string a0_3] 28 (0, 0))) := ⟨(zz119 BK607 NB607_632)⟩;have n4_ : Aside0 (((((w35.setCell ⟨gb632, 0, none⟩ (.string a0_0)).setCell ⟨gb632, 1, none⟩ (.slice Ao36 t629.length co36)).setCell ⟨gb632, 2, none⟩ (.bool t611)).setCell ⟨gb632, 3, none⟩ (.string t627)).heap[gb608]? = some (.cells #[.string x609000_1, .slice none 0 0, .bool x609002_1, .string x609003_1] 28 (0, 0))) := ⟨(zz119 BK608 NB608_632)⟩;have n5_ : Aside0 (((((w35.setCell ⟨gb632, 0, none⟩ (.string a0_0)).setCell ⟨gb632, 1, none⟩ (.slice Ao36 t629.length co36)).setCell ⟨gb632, 2, none⟩ (.bool t611)).setCell ⟨gb632, 3, none⟩ (.string t627)).heap[gb632]? = some (.cells #[.string a0_0, .slice Ao36 t629.length co36, .bool t611, .string t627] 28 (0, 0))) := ⟨(zz71 BK632)⟩;have n6_ : Aside0 (Below w.heap.size w ((((w35.setCell ⟨gb632, 0, none⟩ (.string a0_0)).setCell ⟨gb632, 1, none⟩ (.slice Ao36 t629.length co36)).setCell ⟨gb632, 2, none⟩ (.bool t611)).setCell ⟨gb632, 3, none⟩ (.string t627))) := ⟨(zz180 HB GE607 GE608 GE632)⟩;(try clear HO_8)
     (try clear HO_9)
     (try clear HO631)
     (try clear BK607)
     (try clear BK608)
     (try clear BK632)
     (try clear HB)
     generalize ((((w35.setCell ⟨gb632, 0, none⟩ (.string a0_0)).setCell ⟨gb632, 1, none⟩ (.slice Ao36 t629.length co36)).setCell ⟨gb632, 2, none⟩ (.bool t611)).setCell ⟨gb632, 3, none⟩ (.string t627)) = w41 at n0_ n1_ n2_ n3_ n4_ n5_ n6_ ⊢;have HO_8 := n0_;have HO_9 := n1_;have HO631 := n2_;have BK607 := n3_;have BK608 := n4_;have BK632 := n5_;have HB := n6_;clear n0_ n1_ n2_ n3_ n4_ n5_ n6_;go_wp2_with (first | ((with_reducible refine atG ?_ ?_ fun K_ hK_ => ?_); rfl; exact undecG) | ((with_reducible refine atI ?_ fun K_ hK_ => ?_); exact undecI))
     refine unG hK_ ?_; clear hK_ K_;obtain ⟨H⟩ := HF27;replace H := iteB H;rcases H with ⟨rfl, H⟩ | ⟨rfl, H⟩
     ·(first | refine iteT ?_ | refine iteF ?_ | skip)
      replace H := bindA H;obtain ⟨t633, A43, H⟩ := H;have HF44 := A_ H;clear H;have hnb45 := NB632_607.out;have hnc45 := NB607_632.out;have hnb46 := NB632_608.out;have hnc46 := NB608_632.out;obtain ⟨_, _, _, _, _, _, _, _⟩ := cf4 BK632;(try ((with_reducible refine upS ?_); go_simp))
      go_upto_if 67 with (first | (go_at_call 42; (with_reducible refine (spec_AddrOk.calls k1 a0_0 _ _ t629 t611 t627 t633 _ ?side1 ?side2 A43.out).mono ?_); (case side1 => exact (zz37 HO631)); (case side2 => exact (Kd.R_reads' HO631.out).2.1); rintro e w48 ⟨rfl, hb⟩; replace HO_8 := A_ (rB (zz18 HO_8) hb); replace HO_9 := A_ (rB (zz18 HO_9) hb); replace HO631 := A_ (rB (zz18 HO631) hb); replace BK607 := A_ (bB (zz3 BK607) hb); replace BK608 := A_ (bB (zz3 BK608) hb); replace BK632 := A_ (bB (zz3 BK632) hb); replace HB := A_ (bS (zz180 HB GE607 GE608 GE632) hb); (try clear hb)))
      obtain ⟨H⟩ := HF44;replace H := iteB H;rcases H with ⟨rfl, H⟩ | ⟨rfl, H⟩
      ·simp only [Option.some.injEq, Prod.mk.injEq] at H
       obtain ⟨rfl, rfl, rfl, rfl, rfl⟩ := H;have hnb50 := NB632_607.out;have hnc50 := NB607_632.out;have hnb51 := NB632_608.out;have hnc51 := NB608_632.out;obtain ⟨_, _, _, _, _, _, _, _⟩ := cf4 BK632;have hnb53 := NB608_607.out;have hnc53 := NB607_608.out;obtain ⟨_, _, _, _, _, _, _, _⟩ := cf4 BK608;go_wp2
       refine pR (results_ct rfl _ _ gb608 28 #[.string a0_0, .slice Ao36 t629.length co36, .bool t611, .string t627] (0, 0) _ rfl (zz71 BK608) Tryd.underlying28 rfl (by kernel_rfl)) rfl ?_;exact ⟨_, zz11, (zz50 (rt HO631 BK608)), (zz180 HB GE607 GE608 GE632)⟩
      ·simp only [Option.some.injEq, Prod.mk.injEq] at H
       obtain ⟨rfl, rfl, rfl, rfl, rfl⟩ := H;have hnb55 := NB608_607.out;have hnc55 := NB607_608.out;have hnb56 := NB608_632.out;have hnc56 := NB632_608.out;obtain ⟨_, _, _, _, _, _, _, _⟩ := cf4 BK608;go_wp2
       refine pR (results_ct rfl _ _ gb608 28 #[.string (⟨#[]⟩ : ByteArray), .slice none 0 0, .bool false, .string (⟨#[]⟩ : ByteArray)] (0, 0) _ rfl (zz71 BK608) Tryd.underlying28 rfl (by kernel_rfl)) rfl ?_;exact ⟨_, zz11, zz72, (zz180 HB GE607 GE608 GE632)⟩
     ·(first | refine iteT ?_ | refine iteF ?_ | skip)
      simp only [Option.some.injEq, Prod.mk.injEq] at H
      obtain ⟨rfl, rfl, rfl, rfl, rfl⟩ := H;have hnb58 := NB608_607.out;have hnc58 := NB607_608.out;have hnb59 := NB608_632.out;have hnc59 := NB632_608.out;obtain ⟨_, _, _, _, _, _, _, _⟩ := cf4 BK608;(try ((with_reducible refine upS ?_); go_simp))
      go_wp2
      refine pR (results_ct rfl _ _ gb608 28 #[.string (⟨#[]⟩ : ByteArray), .slice none 0 0, .bool false, .string (⟨#[]⟩ : ByteArray)] (0, 0) _ rfl (zz71 BK608) Tryd.underlying28 rfl (by kernel_rfl)) rfl ?_;exact ⟨_, zz11, zz72, (zz180 HB GE607 GE608 GE632)⟩
 ·exact absurd H (by simp)
end Go.Proofs.YtpomhjkbgbociaaDoor.P
end
section
namespace Go.Proofs.YtpomhjkbgbociaaDoor.P
open Go.RowKit Go.Proofs.YtpomhjkbgbociaaDoorW.PrintWords Go.Proofs.YtpomhjkbgbociaaDoorW.PrintLast Go.Proofs.YtpomhjkbgbociaaDoorW.PrintMore Go.Proofs.YtpomhjkbgbociaaDoor.B Go.Proofs.YtpomhjkbgbociaaDoor.Ad
set_option linter.unusedVariables false
set_option linter.unusedSimpArgs false
def spec_l1Small.f (a0 : ByteArray) : Option (ByteArray) := if a0.size ≤ 140737488351232 then some (smallB a0) else none
set_option maxHeartbeats 400000 in
set_option maxRecDepth 100000 in
theorem spec_l1Small.calls (a0 r : ByteArray) (w : World) (h : spec_l1Small.f a0 = some r) :
  Calls Tryd.prog 61 #[.string a0] w fun e w' => e = .returned (.string r) ∧ Below w.heap.size w w' := by
 unfold spec_l1Small.f at h
 by_cases hs : a0.size ≤ 140737488351232
 ·rw [if_pos hs] at h
  obtain rfl := Option.some.inj h
  clear h
  have hcv := Lib.run_convert_string_bytes (P := Tryd.prog) w 9 22 5 a0 Tryd.underlying9 Tryd.underlying22 Tryd.underlying5
  go_enter Tryd.func61, Tryd.ntmps61
  go_wp2_with fail
  clear hcv
  go_loopw [4] (fun i wr => ∃ k : Nat, k ≤ a0.size ∧ i = .int .i64 k ∧ Aside0 (SmRow w.heap.size a0 k wr) ∧ Aside0 (Below w.heap.size w wr))
   (fun i _ => a0.size - (intOf i).toNat)
  case atStart =>
   refine ⟨0, Nat.zero_le _, rfl, ⟨sm_start w 5 a0⟩, ⟨?_⟩⟩
   exact sm_below w 5 a0
  case round =>
   obtain ⟨k, hk, rfl, hI, hB⟩ := hrel
   by_cases hlt : k < a0.size
   ·have hc := (hI.out.2 k hlt).1
    have hf := (hI.out.2 k hlt).2
    rw [if_neg (by omega)] at hc
    have hset := Aside0.mk (sm_set hI.out hlt)
    have hskip := Aside0.mk (sm_skip hI.out hlt)
    clear hI
    generalize (L a0).getD k 0 = b at hc hset hskip
    have hb := b.toNat_lt
    by_cases h1 : 65 ≤ b.toNat
    ·by_cases h2 : b.toNat ≤ 90
     ·have e1 : (sm b).toNat = b.toNat + 32 := by
       unfold sm
       rw [if_pos ⟨h1, h2⟩, UInt8.toNat_add]
       have : (32 : UInt8).toNat = 32 := rfl
       omega
      rw [e1, show ((b.toNat + 32 : Nat) : Int) = (b.toNat : Int) + 32 from by omega] at hset
      clear hskip e1
      go_wp2
      exact ⟨⟨k + 1, by omega, by go_num, hset, ⟨hB.out.setCell (Nat.le_refl _) _⟩⟩, by simp [intOf]; omega⟩
     ·have e1 : sm b = b := by unfold sm; rw [if_neg (by omega)]
      have hS : Aside0 (SmRow w.heap.size a0 (k + 1) wr) := ⟨hskip.out e1⟩
      clear e1 hset hskip
      go_wp2
      exact ⟨⟨k + 1, by omega, by go_num, hS, hB⟩, by simp [intOf]; omega⟩
    ·have e1 : sm b = b := by unfold sm; rw [if_neg (by omega)]
     have hS : Aside0 (SmRow w.heap.size a0 (k + 1) wr) := ⟨hskip.out e1⟩
     clear e1 hset hskip
     go_wp2
     exact ⟨⟨k + 1, by omega, by go_num, hS, hB⟩, by simp [intOf]; omega⟩
   ·have ek : k = a0.size := by omega
    have hcells : ∀ j (hj : j < (L (smallB a0)).length), wr.cell? ((⟨w.heap.size, 0, none⟩ : Addr).add j) = some (.int .u8 ((L (smallB a0))[j].toNat : Int)) := by
     intro j hj
     have hj' : j < a0.size := by rw [L_size, smallB, ofL_size, List.length_map, L_size] at hj; exact hj
     rw [add_plain, (hI.out.2 j hj').1, if_pos (by omega)]
     simp [smallB, L_of, List.getD_eq_getElem?_getD, List.getElem?_eq_getElem (show j < (L a0).length by rw [L_size]; exact hj')]
    have hcv := run_convert_bytes_back (P := Tryd.prog) wr 22 9 5 ⟨w.heap.size, 0, none⟩ (grownCap w a0.size 0 5) (L (smallB a0)) Tryd.underlying22 Tryd.underlying5 Tryd.underlying9 hcells
    have hl : (L (smallB a0)).length = a0.size := by rw [L_size, smallB, ofL_size, List.length_map, L_size]
    rw [hl, show (⟨(L (smallB a0)).toArray⟩ : ByteArray) = smallB a0 from of_L _] at hcv
    have Hk := Aside0.mk ek
    clear ek hcells hl
    go_wp2
    go_ret
    exact ⟨rfl, hB.out⟩
 ·rw [if_neg hs] at h; cases h
end Go.Proofs.YtpomhjkbgbociaaDoor.P
end
section
namespace Go.Proofs.YtpomhjkbgbociaaDoor.P
open Go.RowKit Go.Proofs.YtpomhjkbgbociaaDoorW.PrintWords Go.Proofs.YtpomhjkbgbociaaDoorW.PrintLast Go.Proofs.YtpomhjkbgbociaaDoorW.PrintMore
attribute [local go_sem] max2_int min2_int max_two min_two max_three min_three max_four min_four
set_option linter.unusedVariables false
set_option linter.unusedSimpArgs false
set_option maxHeartbeats 8000000
set_option maxRecDepth 100000
def spec_l1Whole.l0 : Nat → ByteArray → ByteArray → ByteArray → Int → Option (ByteArray × List ByteArray × Bool × ByteArray × Bool)
 | 0, _, _, _, _ => none
 | k + 1, x0, x4, x5, x6 => if x6 < (x0.size : Int) then (if 0 ≤ x6 then (if (bt x0 x6) = 47 then (if x6 ≤ (x0.size : Int) then ((spec_l1Small.f (x0.extract 0 (x6 : Int).toNat)).bind fun t635 => ((spec_l1Way.f k t635 ([] : List ByteArray) false (⟨#[]⟩ : ByteArray) (x0.extract (x6 : Int).toNat x0.size)).bind fun bt636 => (some (bt636.1, bt636.2.1, bt636.2.2.1, bt636.2.2.2.1, bt636.2.2.2.2)))) else (none)) else (if (bt x0 x6) = 63 then (if x6 ≤ (x0.size : Int) then ((spec_l1Small.f (x0.extract 0 (x6 : Int).toNat)).bind fun t643 => ((spec_l1Way.f k t643 ([] : List ByteArray) false (⟨#[]⟩ : ByteArray) (x0.extract (x6 : Int).toNat x0.size)).bind fun bt644 => (some (bt644.1, bt644.2.1, bt644.2.2.1, bt644.2.2.2.1, bt644.2.2.2.2)))) else (none)) else (spec_l1Whole.l0 k x0 x4 x5 (wrap64 (x6 + 1))))) else (none)) else ((spec_l1Small.f x4).bind fun t651 => ((spec_l1Way.f k t651 ([] : List ByteArray) false (⟨#[]⟩ : ByteArray) x5).bind fun bt652 => (some (bt652.1, bt652.2.1, bt652.2.2.1, bt652.2.2.2.1, bt652.2.2.2.2))))
def spec_l1Whole.f (k : Nat) (a0 : ByteArray) : Option (ByteArray × List ByteArray × Bool × ByteArray × Bool) := spec_l1Whole.l0 k a0 a0 (⟨#[]⟩ : ByteArray) 0
theorem spec_l1Whole.calls (k : Nat) (a0 : ByteArray) (r1 : ByteArray) (r2 : List ByteArray) (r3 : Bool) (r4 : ByteArray) (r5 : Bool) (w : World) (h : spec_l1Whole.f k a0 = some (r1, r2, r3, r4, r5)) :
  Calls Tryd.prog 41 #[.string a0] w fun e w' => ∃ v1_ : Value, e = .returned (.tuple #[.agg #[.string r1, v1_, .bool r3, .string r4], .bool r5]) ∧ Kd.R Kd.string 9 w' w.heap.size (fun _ => True) v1_ r2 ∧ Below w.heap.size w w' := by
 have hu28 := Tryd.underlying28;have HB := A_ (Below.refl w.heap.size w);unfold spec_l1Whole.f at h
 have H := h;clear h;have H' := A_ H;clear H;go_enter Tryd.func41, Tryd.ntmps41;go_wp2_with (first | ((with_reducible refine gD (N := 2) rfl ?_); refine boxE 2 #[.string (⟨#[]⟩ : ByteArray), .slice none 0 0, .bool false, .string (⟨#[]⟩ : ByteArray)] 28 ?_; intro gb634 hg w2 hbox hb; have BK634 := A_ (hbox); have GE634 := geB hg (zz2 HB); replace HB := A_ (bS (zz2 HB) hb); clear hb hbox hg))
 go_loopg [4, 5, 6] k (fun kq v4 v5 v6 w' => ∃ (x4_1 : ByteArray) (x5_1 : ByteArray) (x6_1 : Int), v4 = .string x4_1 ∧ v5 = .string x5_1 ∧ v6 = .int .i64 x6_1 ∧ Aside0 (spec_l1Whole.l0 kq a0 x4_1 x5_1 x6_1 = some (r1, r2, r3, r4, r5)) ∧ Aside0 (kq ≤ k) ∧ Aside0 (w'.heap[gb634]? = some (.cells #[.string (⟨#[]⟩ : ByteArray), (.slice none 0 0), .bool false, .string (⟨#[]⟩ : ByteArray)] 28 (0, 0))) ∧ Aside0 (Below w.heap.size w w'))
 case atStart => exact ⟨(a0), ((⟨#[]⟩ : ByteArray)), (0), zz5, zz5, zz5, H', ⟨Nat.le_refl _⟩, ⟨(zz3 BK634)⟩, ⟨(zz4 HB GE634)⟩⟩
 case round =>
  clear H';obtain ⟨x4_1, x5_1, x6_1, rfl, rfl, rfl, HA, HK1, BK634, HB⟩ := hrel;cases gk with
  | zero => exact absurd HA.out (by simp [spec_l1Whole.l0])
  | succ k1 =>
   obtain ⟨H⟩ := HA;simp only [spec_l1Whole.l0] at H
   replace H := iteEd H;rcases H with ⟨c3b0, H⟩ | ⟨c3b0, H⟩
   ·replace H := iteNd H
    obtain ⟨c4b0, H⟩ := H;replace H := iteEq H;rcases H with ⟨c6b0, c6b1, H⟩ | ⟨c6b0, c6b1, c6, H⟩
    ·have c7b0 := eq_true (ofD : 0 ≤ x6_1)
     replace H := iteN H;obtain ⟨c8, H⟩ := H;have c8b0 := eq_true c8;have c8b1 := dT c8;clear c8;have c9b0 := eq_true (ofD : 0 ≤ x6_1);have c10b0 := eq_true (ofD : x6_1 ≤ (a0.size : Int));replace H := bindA H;obtain ⟨t635, A11, H⟩ := H;replace H := bindA H;obtain ⟨⟨t636, t637, t640, t641, t642⟩, A12, H⟩ := H;try dsimp only at H
     simp only [Option.some.injEq, Prod.mk.injEq] at H
     obtain ⟨rfl, rfl, rfl, rfl, rfl⟩ := H;have p5 : 0 ≤ (x6_1 : Int) := ofD;have q5 : x6_1 < (a0.size : Int) := ofD;have hx5 := bt_at a0 x6_1;replace p5 := eq_true p5;replace q5 := eq_true q5;go_wp2_with (first | ((with_reducible refine gC (f := 61) rfl ?_); refine gsL (some 31) Tryd.func61 #[.string (a0.extract 0 (x6_1 : Int).toNat)] ?_; (with_reducible refine mR (spec_l1Small.calls (a0.extract 0 (x6_1 : Int).toNat) t635 _ A11.out) ?_); rintro w13 hb; replace BK634 := A_ (bB (zz3 BK634) hb); replace HB := A_ (bS (zz4 HB GE634) hb); (try clear hb)) | ((with_reducible refine gC (f := 60) rfl ?_); refine gsL (some 34) Tryd.func60 #[.agg #[.string t635, .slice none 0 0, .bool false, .string (⟨#[]⟩ : ByteArray)], .string (a0.extract (x6_1 : Int).toNat a0.size)] ?_; (refine (spec_l1Way.calls k1 t635 _ _ ([] : List ByteArray) false (⟨#[]⟩ : ByteArray) (a0.extract (x6_1 : Int).toNat a0.size) t636 t637 t640 t641 t642 _ ?side1 ?side2 A12.out).mono ?_); (case side1 => exact Kd.C_nil _ _); (case side2 => exact Nat.le_refl _); rintro e w14 ⟨v638, rfl, ho0, hb⟩; refine ⟨_, rfl, ?_⟩; have HO639 := A_ (Kd.R_lower ho0 (below_size (zz4 HB GE634))); replace BK634 := A_ (bB (zz3 BK634) hb); replace HB := A_ (bS (zz4 HB GE634) hb); (try clear hb ho0); obtain ⟨_, _, _, _, _, _, _, _⟩ := cf4 BK634; obtain ⟨Ao16, co16, eo16⟩ := Kd.R_slice HO639.out; subst eo16))
     refine pR (results_ct rfl _ _ gb634 28 #[.string t636, .slice Ao16 t637.length co16, .bool t640, .string t641] (0, 0) _ rfl (zz71 BK634) Tryd.underlying28 rfl (by kernel_rfl)) rfl ?_;exact ⟨_, zz11, (zz50 (rt HO639 BK634)), (zz4 HB GE634)⟩
    ·replace H := iteEq H
     rcases H with ⟨c18b0, c18b1, H⟩ | ⟨c18b0, c18b1, c18, H⟩
     ·have c19b0 := eq_true (ofD : 0 ≤ x6_1)
      replace H := iteN H;obtain ⟨c20, H⟩ := H;have c20b0 := eq_true c20;have c20b1 := dT c20;clear c20;have c21b0 := eq_true (ofD : 0 ≤ x6_1);have c22b0 := eq_true (ofD : x6_1 ≤ (a0.size : Int));replace H := bindA H;obtain ⟨t643, A23, H⟩ := H;replace H := bindA H;obtain ⟨⟨t644, t645, t648, t649, t650⟩, A24, H⟩ := H;try dsimp only at H
      simp only [Option.some.injEq, Prod.mk.injEq] at H
      obtain ⟨rfl, rfl, rfl, rfl, rfl⟩ := H;have p5 : 0 ≤ (x6_1 : Int) := ofD;have q5 : x6_1 < (a0.size : Int) := ofD;have hx5 := bt_at a0 x6_1;replace p5 := eq_true p5;replace q5 := eq_true q5;have p17 : 0 ≤ (x6_1 : Int) := ofD;have q17 : x6_1 < (a0.size : Int) := ofD;have hx17 := bt_at a0 x6_1;replace p17 := eq_true p17;replace q17 := eq_true q17;go_wp2_with (first | ((with_reducible refine gC (f := 61) rfl ?_); refine gsL (some 31) Tryd.func61 #[.string (a0.extract 0 (x6_1 : Int).toNat)] ?_; (with_reducible refine mR (spec_l1Small.calls (a0.extract 0 (x6_1 : Int).toNat) t643 _ A23.out) ?_); rintro w25 hb; replace BK634 := A_ (bB (zz3 BK634) hb); replace HB := A_ (bS (zz4 HB GE634) hb); (try clear hb)) | ((with_reducible refine gC (f := 60) rfl ?_); refine gsL (some 34) Tryd.func60 #[.agg #[.string t643, .slice none 0 0, .bool false, .string (⟨#[]⟩ : ByteArray)], .string (a0.extract (x6_1 : Int).toNat a0.size)] ?_; (refine (spec_l1Way.calls k1 t643 _ _ ([] : List ByteArray) false (⟨#[]⟩ : ByteArray) (a0.extract (x6_1 : Int).toNat a0.size) t644 t645 t648 t649 t650 _ ?side1 ?side2 A24.out).mono ?_); (case side1 => exact Kd.C_nil _ _); (case side2 => exact Nat.le_refl _); rintro e w26 ⟨v646, rfl, ho0, hb⟩; refine ⟨_, rfl, ?_⟩; have HO647 := A_ (Kd.R_lower ho0 (below_size (zz4 HB GE634))); replace BK634 := A_ (bB (zz3 BK634) hb); replace HB := A_ (bS (zz4 HB GE634) hb); (try clear hb ho0); obtain ⟨_, _, _, _, _, _, _, _⟩ := cf4 BK634; obtain ⟨Ao28, co28, eo28⟩ := Kd.R_slice HO647.out; subst eo28))
      refine pR (results_ct rfl _ _ gb634 28 #[.string t644, .slice Ao28 t645.length co28, .bool t648, .string t649] (0, 0) _ rfl (zz71 BK634) Tryd.underlying28 rfl (by kernel_rfl)) rfl ?_;exact ⟨_, zz11, (zz50 (rt HO647 BK634)), (zz4 HB GE634)⟩
     ·have H' := A_ H
      clear H;have p5 : 0 ≤ (x6_1 : Int) := ofD;have q5 : x6_1 < (a0.size : Int) := ofD;have hx5 := bt_at a0 x6_1;replace p5 := eq_true p5;replace q5 := eq_true q5;have p17 : 0 ≤ (x6_1 : Int) := ofD;have q17 : x6_1 < (a0.size : Int) := ofD;have hx17 := bt_at a0 x6_1;replace p17 := eq_true p17;replace q17 := eq_true q17;go_wp2
      go_roundg k1
      case measure => have := HK1.out; omega
      case rel => exact ⟨(x4_1), (x5_1), (wrap64 (x6_1 + 1)), zz5, zz5, zz5, H', ⟨(zz21 HK1)⟩, ⟨(zz3 BK634)⟩, ⟨(zz4 HB GE634)⟩⟩
   ·replace H := Option.bind_eq_some_iff.mp H
    obtain ⟨t651, A290, H⟩ := H;replace H : ((spec_l1Way.f k1 t651 ([] : List ByteArray) false (⟨#[]⟩ : ByteArray) x5_1).bind fun bt652 => (some (bt652.1, bt652.2.1, bt652.2.2.1, bt652.2.2.2.1, bt652.2.2.2.2))) = some (r1, r2, r3, r4, r5) := H;have A29 := A_ A290;clear A290;replace H := bindA H;obtain ⟨⟨t652, t653, t656, t657, t658⟩, A30, H⟩ := H;try dsimp only at H
    simp only [Option.some.injEq, Prod.mk.injEq] at H
    obtain ⟨rfl, rfl, rfl, rfl, rfl⟩ := H;go_wp2_with (first | ((with_reducible refine gC (f := 61) rfl ?_); refine gsL (some 31) Tryd.func61 #[.string x4_1] ?_; (with_reducible refine mR (spec_l1Small.calls x4_1 t651 _ A29.out) ?_); rintro w31 hb; replace BK634 := A_ (bB (zz3 BK634) hb); replace HB := A_ (bS (zz4 HB GE634) hb); (try clear hb)) | ((with_reducible refine gC (f := 60) rfl ?_); refine gsL (some 34) Tryd.func60 #[.agg #[.string t651, .slice none 0 0, .bool false, .string (⟨#[]⟩ : ByteArray)], .string x5_1] ?_; (refine (spec_l1Way.calls k1 t651 _ _ ([] : List ByteArray) false (⟨#[]⟩ : ByteArray) x5_1 t652 t653 t656 t657 t658 _ ?side1 ?side2 A30.out).mono ?_); (case side1 => exact Kd.C_nil _ _); (case side2 => exact Nat.le_refl _); rintro e w32 ⟨v654, rfl, ho0, hb⟩; refine ⟨_, rfl, ?_⟩; have HO655 := A_ (Kd.R_lower ho0 (below_size (zz4 HB GE634))); replace BK634 := A_ (bB (zz3 BK634) hb); replace HB := A_ (bS (zz4 HB GE634) hb); (try clear hb ho0); obtain ⟨_, _, _, _, _, _, _, _⟩ := cf4 BK634; obtain ⟨Ao34, co34, eo34⟩ := Kd.R_slice HO655.out; subst eo34))
    refine pR (results_ct rfl _ _ gb634 28 #[.string t652, .slice Ao34 t653.length co34, .bool t656, .string t657] (0, 0) _ rfl (zz71 BK634) Tryd.underlying28 rfl (by kernel_rfl)) rfl ?_;exact ⟨_, zz11, (zz50 (rt HO655 BK634)), (zz4 HB GE634)⟩
def spec_AddrRead.f (k : Nat) (a0 : ByteArray) : Option (ByteArray × List ByteArray × Bool × ByteArray × Bool) := (spec_l1Cut.f k a0 35).bind fun bt660 => (if (a0.size : Int) > 60 then (some ((⟨#[]⟩ : ByteArray), ([] : List ByteArray), false, (⟨#[]⟩ : ByteArray), false)) else (if (bt660.1.size : Int) < 2 then (some ((⟨#[]⟩ : ByteArray), ([] : List ByteArray), false, (⟨#[]⟩ : ByteArray), false)) else (if 0 ≤ 2 then (if 2 ≤ (bt660.1.size : Int) then (if (bt660.1.extract 0 2).toList = ([47, 47] : List UInt8) then ((spec_l1Whole.f k (bt660.1.extract 2 bt660.1.size)).bind fun bt663 => (some (bt663.1, bt663.2.1, bt663.2.2.1, bt663.2.2.2.1, bt663.2.2.2.2))) else (some ((⟨#[]⟩ : ByteArray), ([] : List ByteArray), false, (⟨#[]⟩ : ByteArray), false))) else (none)) else (none))))
theorem spec_AddrRead.calls (k : Nat) (a0 : ByteArray) (r1 : ByteArray) (r2 : List ByteArray) (r3 : Bool) (r4 : ByteArray) (r5 : Bool) (w : World) (h : spec_AddrRead.f k a0 = some (r1, r2, r3, r4, r5)) :
  Calls Tryd.prog 23 #[.string a0] w fun e w' => ∃ v1_ : Value, e = .returned (.tuple #[.agg #[.string r1, v1_, .bool r3, .string r4], .bool r5]) ∧ Kd.R Kd.string 9 w' w.heap.size (fun _ => True) v1_ r2 ∧ Below w.heap.size w w' := by
 have hu28 := Tryd.underlying28;have HB := A_ (Below.refl w.heap.size w);unfold spec_AddrRead.f at h
 have H := h;clear h;replace H := bindA H;obtain ⟨⟨t660, t661, t662⟩, A2, H⟩ := H;try dsimp only at H
 have HF3 := A_ H;clear H;go_enter Tryd.func23, Tryd.ntmps23;go_wp2_with (first | ((with_reducible refine gD (N := 2) rfl ?_); (try (refine gate_guard (by rfl) ?_; dsimp only)); refine boxE 2 #[.string (⟨#[]⟩ : ByteArray), .slice none 0 0, .bool false, .string (⟨#[]⟩ : ByteArray)] 28 ?_; intro gb659 hg w4 hbox hb; have BK659 := A_ (hbox); have GE659 := geB hg (zz2 HB); replace HB := A_ (bS (zz2 HB) hb); clear hb hbox hg) | ((with_reducible refine gC (f := 40) rfl ?_); refine gsL (some 9) Tryd.func40 #[.string a0, .int .u8 35] ?_; (with_reducible refine (spec_l1Cut.calls k a0 35 t660 t661 t662 _ A2.out).mono ?_); rintro e w' ⟨rfl, ⟨nd, rfl⟩⟩; refine ⟨_, rfl, ?_⟩) | ((with_reducible refine atG ?_ ?_ fun K_ hK_ => ?_); rfl; exact undecG) | ((with_reducible refine atI ?_ fun K_ hK_ => ?_); exact undecI))
 refine unG hK_ ?_; clear hK_ K_;obtain ⟨H⟩ := HF3;replace H := iteE H;rcases H with ⟨c5, H⟩ | ⟨c5, H⟩
 ·have c5b0 := gtT c5
  have c5b1 : decide (60 < a0.size) = true := dT (by omega);(first | refine iteT ?_ | refine iteF ?_ | skip)
  clear c5;(first | rw [c5b0] | (simp only [i64_w, i32_w]; rw [c5b0]) | skip)
  simp only [Option.some.injEq, Prod.mk.injEq] at H
  obtain ⟨rfl, rfl, rfl, rfl, rfl⟩ := H;obtain ⟨_, _, _, _, _, _, _, _⟩ := cf4 BK659;(try ((with_reducible refine upS ?_); go_simp))
  go_wp2
  refine pR (results_ct rfl _ _ gb659 28 #[.string (⟨#[]⟩ : ByteArray), .slice none 0 0, .bool false, .string (⟨#[]⟩ : ByteArray)] (0, 0) _ rfl (zz71 BK659) Tryd.underlying28 rfl (by kernel_rfl)) rfl ?_;exact ⟨_, zz11, zz72, (zz4 HB GE659)⟩
 ·have c5b0 := gtF c5
  have c5b1 : decide (60 < a0.size) = false := dF (by omega);(first | refine iteT ?_ | refine iteF ?_ | skip)
  clear c5;(first | rw [c5b0] | (simp only [i64_w, i32_w]; rw [c5b0]) | skip)
  replace H := iteE H;rcases H with ⟨c7, H⟩ | ⟨c7, H⟩
  ·have c7b0 := dT c7
   have c7b1 : decide (t660.size < 2) = true := dT (by omega);clear c7;simp only [Option.some.injEq, Prod.mk.injEq] at H
   obtain ⟨rfl, rfl, rfl, rfl, rfl⟩ := H;obtain ⟨_, _, _, _, _, _, _, _⟩ := cf4 BK659;go_wp2
   refine pR (results_ct rfl _ _ gb659 28 #[.string (⟨#[]⟩ : ByteArray), .slice none 0 0, .bool false, .string (⟨#[]⟩ : ByteArray)] (0, 0) _ rfl (zz71 BK659) Tryd.underlying28 rfl (by kernel_rfl)) rfl ?_;exact ⟨_, zz11, zz72, (zz4 HB GE659)⟩
  ·have c7b0 := dF c7
   have c7b1 : decide (t660.size < 2) = false := dF (by omega);clear c7;replace H := iteE H;rcases H with ⟨c9, H⟩ | ⟨c9, H⟩
   ·have c9b0 := eq_true c9
    have c9b1 := dT c9;clear c9;replace H := iteN H;obtain ⟨c10, H⟩ := H;have c10b0 := eq_true c10;have c10b1 := dT c10;clear c10;replace H := iteEq H;rcases H with ⟨c11b0, c11b1, H⟩ | ⟨c11b0, c11b1, c11, H⟩
    ·have c12b0 := eq_true (ofD : 2 ≤ (t660.size : Int))
     replace H := bindA H;obtain ⟨⟨t663, t664, t667, t668, t669⟩, A13, H⟩ := H;try dsimp only at H
     simp only [Option.some.injEq, Prod.mk.injEq] at H
     obtain ⟨rfl, rfl, rfl, rfl, rfl⟩ := H;go_wp2_with (first | ((with_reducible refine gC (f := 41) rfl ?_); refine gsL (some 29) Tryd.func41 #[.string (t660.extract 2 t660.size)] ?_; (with_reducible refine mV (spec_l1Whole.calls k (t660.extract 2 t660.size) t663 t664 t667 t668 t669 _ A13.out) ?_); rintro v665 w14 ⟨ho0, hb⟩; have HO666 := A_ (Kd.R_lower ho0 (below_size (zz4 HB GE659))); replace BK659 := A_ (bB (zz3 BK659) hb); replace HB := A_ (bS (zz4 HB GE659) hb); (try clear hb ho0); obtain ⟨_, _, _, _, _, _, _, _⟩ := cf4 BK659; obtain ⟨Ao16, co16, eo16⟩ := Kd.R_slice HO666.out; subst eo16))
     refine pR (results_ct rfl _ _ gb659 28 #[.string t663, .slice Ao16 t664.length co16, .bool t667, .string t668] (0, 0) _ rfl (zz71 BK659) Tryd.underlying28 rfl (by kernel_rfl)) rfl ?_;exact ⟨_, zz11, (zz50 (rt HO666 BK659)), (zz4 HB GE659)⟩
    ·simp only [Option.some.injEq, Prod.mk.injEq] at H
     obtain ⟨rfl, rfl, rfl, rfl, rfl⟩ := H;obtain ⟨_, _, _, _, _, _, _, _⟩ := cf4 BK659;go_wp2
     refine pR (results_ct rfl _ _ gb659 28 #[.string (⟨#[]⟩ : ByteArray), .slice none 0 0, .bool false, .string (⟨#[]⟩ : ByteArray)] (0, 0) _ rfl (zz71 BK659) Tryd.underlying28 rfl (by kernel_rfl)) rfl ?_;exact ⟨_, zz11, zz72, (zz4 HB GE659)⟩
   ·exact absurd H (by simp)
def spec_l11Norm.f (k : Nat) (a0 : ByteArray) : Option (Bool) := (spec_AddrRead.f k a0).bind fun bt670 => (if bt670.2.2.2.2 = true then ((spec_AddrText.f k bt670.1 bt670.2.1 bt670.2.2.1 bt670.2.2.2.1).bind fun t678 => (some (t678.toList == a0.toList))) else (some false))
theorem spec_l11Norm.calls (k : Nat) (a0 : ByteArray) (r : Bool) (w : World) (h : spec_l11Norm.f k a0 = some r) :
  Calls Tryd.prog 14 #[.string a0] w fun e w' => e = .returned (.bool r) ∧ Below w.heap.size w w' := by
 have hu28 := Tryd.underlying28;have HB := A_ (Below.refl w.heap.size w);unfold spec_l11Norm.f at h
 have H := h;clear h;replace H := bindA H;obtain ⟨⟨t670, t671, t674, t675, t676⟩, A2, H⟩ := H;try dsimp only at H
 have HF3 := A_ H;clear H;go_enter Tryd.func14, Tryd.ntmps14;go_wp2_with (first | ((with_reducible refine gC (f := 23) rfl ?_); refine gsL (some 7) Tryd.func23 #[.string a0] ?_; (with_reducible refine mV (spec_AddrRead.calls k a0 t670 t671 t674 t675 t676 _ A2.out) ?_); rintro v672 w4 ⟨ho0, hb⟩; have HO673 := A_ (Kd.R_lower ho0 (below_size (zz2 HB))); replace HB := A_ (bS (zz2 HB) hb); (try clear hb ho0)) | ((with_reducible refine gD (N := 3) rfl ?_); refine boxE 3 #[.string (⟨#[]⟩ : ByteArray), .slice none 0 0, .bool false, .string (⟨#[]⟩ : ByteArray)] 28 ?_; intro gb677 hg w5 hbox hb; replace HO673 := A_ (rB (zz18 HO673) hb); have BK677 := A_ (hbox); have GE677 := geB hg (zz2 HB); replace HB := A_ (bS (zz2 HB) hb); clear hb hbox hg; obtain ⟨_, _, _, _, _, _, _, _⟩ := cf4 BK677; obtain ⟨Ao7, co7, eo7⟩ := Kd.R_slice HO673.out; subst eo7) | ((with_reducible refine gate_store (t := 28) (p := 3) rfl ?_); refine store_event (t := 28) (p := 3) (v := ?vo_w8) (w1 := ((((w5.setCell ⟨gb677, 0, none⟩ (.string t670)).setCell ⟨gb677, 1, none⟩ (.slice Ao7 t671.length co7)).setCell ⟨gb677, 2, none⟩ (.bool t674)).setCell ⟨gb677, 3, none⟩ (.string t675))) ?hg ?ho ?hn ?hr ?_; (case ho => rfl); (case hg => rfl); (case hn => rfl); (case hr => exact zz16); intro w8 hw; have n0_ : Aside0 (Kd.R Kd.string 9 w8 w.heap.size (fun _ => True) (.slice Ao7 t671.length co7) t671) := ⟨(by rw [hw]; exact (zz50 (rt HO673 BK677)))⟩; have n1_ : Aside0 (w8.heap[gb677]? = some (.cells #[.string t670, .slice Ao7 t671.length co7, .bool t674, .string t675] 28 (0, 0))) := ⟨(by rw [hw]; exact (zz71 BK677))⟩; have n2_ : Aside0 (Below w.heap.size w w8) := ⟨(by rw [hw]; exact (zz4 HB GE677))⟩; clear hw; clear HO673; clear BK677; clear HB; have HO673 := n0_; have BK677 := n1_; have HB := n2_; clear n0_ n1_ n2_) | ((with_reducible refine atG ?_ ?_ fun K_ hK_ => ?_); rfl; exact undecG) | ((with_reducible refine atI ?_ fun K_ hK_ => ?_); exact undecI))
 refine unG hK_ ?_; clear hK_ K_;obtain ⟨H⟩ := HF3;replace H := iteB H;rcases H with ⟨rfl, H⟩ | ⟨rfl, H⟩
 ·(first | refine iteT ?_ | refine iteF ?_ | skip)
  replace H := bindA H;obtain ⟨t678, A10, H⟩ := H;obtain rfl := sI H;obtain ⟨_, _, _, _, _, _, _, _⟩ := cf4 BK677;(try ((with_reducible refine upS ?_); go_simp))
  go_wp2_with (first | (go_at_call 24; (with_reducible refine (spec_AddrText.calls k t670 _ _ t671 t674 t675 t678 _ ?side1 ?side2 A10.out).mono ?_); (case side1 => exact (zz37 HO673)); (case side2 => exact (Kd.R_reads' HO673.out).2.1); rintro e w12 ⟨rfl, hb⟩; replace HO673 := A_ (rB (zz18 HO673) hb); replace BK677 := A_ (bB (zz3 BK677) hb); replace HB := A_ (bS (zz4 HB GE677) hb); (try clear hb)))
  go_ret
  exact ⟨zz11, (zz4 HB GE677)⟩
 ·(first | refine iteT ?_ | refine iteF ?_ | skip)
  obtain rfl := sI H;(try ((with_reducible refine upS ?_); go_simp))
  go_wp2
  go_ret
  exact ⟨zz11, (zz4 HB GE677)⟩
mutual
def spec_WorldOk.l0 : Nat → List (S32) → Int → Option (Bool)
 | 0, _, _ => none
 | k + 1, x0, x3 => if x3 < (x0.length : Int) then (if 0 ≤ x3 then ((spec_l11Norm.f k ((rd_T32 x0 x3).f0)).bind fun t680 => (if t680 = true then (if (((rd_T32 x0 x3).f1).size : Int) > 300 then (spec_WorldOk.j1 k x0 x3 true) else ((spec_l6In.f ((rd_T32 x0 x3).f3) 0 9).bind fun t683 => (if t683 = true then (if ((rd_T32 x0 x3).f2).toList = ([] : List UInt8) then (spec_WorldOk.j1 k x0 x3 false) else (if ((rd_T32 x0 x3).f1).toList = ([] : List UInt8) then ((spec_l11Norm.f k ((rd_T32 x0 x3).f2)).bind fun t687 => (spec_WorldOk.j1 k x0 x3 (!t687))) else (spec_WorldOk.j1 k x0 x3 true))) else (spec_WorldOk.j1 k x0 x3 true)))) else (spec_WorldOk.j1 k x0 x3 true))) else (none)) else (some (decide ((x0.length : Int) ≤ 12)))
def spec_WorldOk.j1 : Nat → List (S32) → Int → Bool → Option (Bool)
 | 0, _, _, _ => none
 | k + 1, x0, x3, x60 => if x60 = true then (some false) else (spec_WorldOk.l1 k x0 x3 0)
def spec_WorldOk.l1 : Nat → List (S32) → Int → Int → Option (Bool)
 | 0, _, _, _ => none
 | k + 1, x0, x3, x4 => if x4 < x3 then (if 0 ≤ x4 then (if x4 < (x0.length : Int) then (if 0 ≤ x3 then (if x3 < (x0.length : Int) then (if ((rd_T32 x0 x4).f0).toList = ((rd_T32 x0 x3).f0).toList then (some false) else (spec_WorldOk.l1 k x0 x3 (wrap64 (x4 + 1)))) else (none)) else (none)) else (none)) else (none)) else (spec_WorldOk.l0 k x0 (wrap64 (x3 + 1)))
end
def spec_WorldOk.f (k : Nat) (l0 : List (S32)) : Option (Bool) := spec_WorldOk.l0 k l0 0
theorem spec_WorldOk.calls (k : Nat) (A0 : Option Addr) (c0 : Nat) (l0 : List (S32)) (r : Bool) (w : World) (hr0 : Kd.C k32 w A0 l0.length l0) (hc0 : l0.length ≤ c0) (h : spec_WorldOk.f k l0 = some r) :
  Calls Tryd.prog 6 #[.slice A0 l0.length c0] w fun e w' => e = .returned (.bool r) ∧ Below w.heap.size w w' := by
 have HR0 := A_ hr0;have HC0 := A_ hc0;clear hr0 hc0;have HB := A_ (Below.refl w.heap.size w);unfold spec_WorldOk.f at h
 have H := h;clear h;have H' := A_ H;clear H;go_enter Tryd.func6, Tryd.ntmps6;go_wp2
 repeat (go_quiet (fail); try go_wp2)
 go_loopg [3] k (fun kq v3 w' => ∃ (x3_1 : Int), v3 = .int .i64 x3_1 ∧ Aside0 (spec_WorldOk.l0 kq l0 x3_1 = some r) ∧ Aside0 (kq ≤ k) ∧ Aside0 (Below w.heap.size w w'))
 case atStart => exact ⟨(0), zz5, H', ⟨Nat.le_refl _⟩, ⟨(zz2 HB)⟩⟩
 case round =>
  clear H';obtain ⟨x3_1, rfl, HA, HK1, HB⟩ := hrel;cases gk with
  | zero => exact absurd HA.out (by simp [spec_WorldOk.l0])
  | succ k1 =>
   obtain ⟨H⟩ := HA;simp only [spec_WorldOk.l0] at H
   replace H := iteEd H;rcases H with ⟨c2b0, H⟩ | ⟨c2b0, H⟩
   ·have HC3 := A_ H
    clear H;go_upto_region 4 with (fail)
    repeat (go_quiet (fail); go_upto_region 4 with (fail))
    go_cut [60] (fun v60 wc => ∃ (kq : Nat) (x60_2 : Bool), v60 = .bool x60_2 ∧ Aside0 (spec_WorldOk.j1 kq l0 x3_1 x60_2 = some r) ∧ Aside0 (kq ≤ k1) ∧ Aside0 (Below w.heap.size w wc))
    case first =>
     obtain ⟨H⟩ := HC3;replace H := iteNd H;obtain ⟨c4b0, H⟩ := H;(first | rw [c4b0] | (simp only [i64_w, i32_w]; rw [c4b0]) | skip)
     replace H := bindA H;obtain ⟨t680, A5, H⟩ := H;have HF6 := A_ H;clear H;obtain ⟨⟨ad679, e679, hx679_0, hx679_1, hx679_2, hx679_3⟩, p679, q679⟩ := atB (at_T32 HR0.out x3_1);cases e679
     obtain ⟨hx679_0, hx679_1, hx679_2, hx679_3⟩ := cb4 HB hx679_0 hx679_1 hx679_2 hx679_3;go_wp2_with (first | (go_at_call 14; (with_reducible refine (spec_l11Norm.calls k1 ((rd_T32 l0 x3_1).f0) t680 _ A5.out).mono ?_); rintro e w7 ⟨rfl, hb⟩; replace HB := A_ (bS (zz2 HB) hb); (try clear hb)) | ((with_reducible refine atG ?_ ?_ fun K_ hK_ => ?_); rfl; exact undecG) | ((with_reducible refine atI ?_ fun K_ hK_ => ?_); exact undecI))
     repeat (go_quiet (first | (go_at_call 14; (with_reducible refine (spec_l11Norm.calls k1 ((rd_T32 l0 x3_1).f0) t680 _ A5.out).mono ?_); rintro e w7 ⟨rfl, hb⟩; replace HB := A_ (bS (zz2 HB) hb); (try clear hb)) | ((with_reducible refine atG ?_ ?_ fun K_ hK_ => ?_); rfl; exact undecG) | ((with_reducible refine atI ?_ fun K_ hK_ => ?_); exact undecI)); go_wp2_with (first | (go_at_call 14; (with_reducible refine (spec_l11Norm.calls k1 ((rd_T32 l0 x3_1).f0) t680 _ A5.out).mono ?_); rintro e w7 ⟨rfl, hb⟩; replace HB := A_ (bS (zz2 HB) hb); (try clear hb)) | ((with_reducible refine atG ?_ ?_ fun K_ hK_ => ?_); rfl; exact undecG) | ((with_reducible refine atI ?_ fun K_ hK_ => ?_); exact undecI)))
     refine unG hK_ ?_; clear hK_ K_;obtain ⟨H⟩ := HF6;replace H := iteB H;rcases H with ⟨rfl, H⟩ | ⟨rfl, H⟩
     ·(first | refine iteT ?_ | refine iteF ?_ | skip)
      replace H := iteE H;rcases H with ⟨c9, H⟩ | ⟨c9, H⟩
      ·have c9b0 := gtT c9
       have c9b1 : decide (300 < ((rd_T32 l0 x3_1).f1).size) = true := dT (by omega);clear c9;have H' := A_ H;clear H;obtain ⟨⟨ad681, e681, hx681_0, hx681_1, hx681_2, hx681_3⟩, p681, q681⟩ := atB (at_T32 HR0.out x3_1);obtain rfl : ad679 = ad681 := (by injection e681);obtain ⟨hx681_0, hx681_1, hx681_2, hx681_3⟩ := cb4 HB hx681_0 hx681_1 hx681_2 hx681_3;go_wp2
       repeat (go_quiet (fail); try go_wp2)
       go_meet
       case rel => exact ⟨_, (true), zz5, H', ⟨(zz26 HK1)⟩, ⟨(zz2 HB)⟩⟩
      ·have c9b0 := gtF c9
       have c9b1 : decide (300 < ((rd_T32 l0 x3_1).f1).size) = false := dF (by omega);clear c9;replace H := bindA H;obtain ⟨t683, A10, H⟩ := H;have HF11 := A_ H;clear H;obtain ⟨⟨ad681, e681, hx681_0, hx681_1, hx681_2, hx681_3⟩, p681, q681⟩ := atB (at_T32 HR0.out x3_1);obtain rfl : ad679 = ad681 := (by injection e681);obtain ⟨hx681_0, hx681_1, hx681_2, hx681_3⟩ := cb4 HB hx681_0 hx681_1 hx681_2 hx681_3;obtain ⟨⟨ad682, e682, hx682_0, hx682_1, hx682_2, hx682_3⟩, p682, q682⟩ := atB (at_T32 HR0.out x3_1);obtain rfl : ad679 = ad682 := (by injection e682);obtain ⟨hx682_0, hx682_1, hx682_2, hx682_3⟩ := cb4 HB hx682_0 hx682_1 hx682_2 hx682_3;go_wp2_with (first | (go_at_call 15; (with_reducible refine (spec_l6In.calls ((rd_T32 l0 x3_1).f3) 0 9 t683 _ A10.out).mono ?_); rintro e w' ⟨rfl, ⟨nd, rfl⟩⟩; (try first | exact ⟨rfl, _, World.drewN_drewN _ _ _⟩ | exact ⟨rfl, _, Eq.trans (World.drewN_drewN _ _ _) (congrArg (World.drewN _) (Nat.add_assoc _ _ _))⟩)) | ((with_reducible refine atG ?_ ?_ fun K_ hK_ => ?_); rfl; exact undecG) | ((with_reducible refine atI ?_ fun K_ hK_ => ?_); exact undecI))
       repeat (go_quiet (first | (go_at_call 15; (with_reducible refine (spec_l6In.calls ((rd_T32 l0 x3_1).f3) 0 9 t683 _ A10.out).mono ?_); rintro e w' ⟨rfl, ⟨nd, rfl⟩⟩; (try first | exact ⟨rfl, _, World.drewN_drewN _ _ _⟩ | exact ⟨rfl, _, Eq.trans (World.drewN_drewN _ _ _) (congrArg (World.drewN _) (Nat.add_assoc _ _ _))⟩)) | ((with_reducible refine atG ?_ ?_ fun K_ hK_ => ?_); rfl; exact undecG) | ((with_reducible refine atI ?_ fun K_ hK_ => ?_); exact undecI)); go_wp2_with (first | (go_at_call 15; (with_reducible refine (spec_l6In.calls ((rd_T32 l0 x3_1).f3) 0 9 t683 _ A10.out).mono ?_); rintro e w' ⟨rfl, ⟨nd, rfl⟩⟩; (try first | exact ⟨rfl, _, World.drewN_drewN _ _ _⟩ | exact ⟨rfl, _, Eq.trans (World.drewN_drewN _ _ _) (congrArg (World.drewN _) (Nat.add_assoc _ _ _))⟩)) | ((with_reducible refine atG ?_ ?_ fun K_ hK_ => ?_); rfl; exact undecG) | ((with_reducible refine atI ?_ fun K_ hK_ => ?_); exact undecI)))
       refine unG hK_ ?_; clear hK_ K_;obtain ⟨H⟩ := HF11;replace H := iteB H;rcases H with ⟨rfl, H⟩ | ⟨rfl, H⟩
       ·(first | refine iteT ?_ | refine iteF ?_ | skip)
        replace H := iteEq H;rcases H with ⟨c13b0, c13b1, H⟩ | ⟨c13b0, c13b1, c13, H⟩
        ·have H' := A_ H
         clear H;obtain ⟨⟨ad684, e684, hx684_0, hx684_1, hx684_2, hx684_3⟩, p684, q684⟩ := atB (at_T32 HR0.out x3_1);obtain rfl : ad679 = ad684 := (by injection e684);obtain ⟨hx684_0, hx684_1, hx684_2, hx684_3⟩ := cb4 HB hx684_0 hx684_1 hx684_2 hx684_3;go_wp2
         repeat (go_quiet (fail); try go_wp2)
         go_meet
         case rel => exact ⟨_, (false), zz5, H', ⟨(zz26 HK1)⟩, ⟨(zz2 HB)⟩⟩
        ·replace H := iteEq H
         rcases H with ⟨c14b0, c14b1, H⟩ | ⟨c14b0, c14b1, c14, H⟩
         ·replace H := Option.bind_eq_some_iff.mp H
          obtain ⟨t687, A150, H⟩ := H;replace H : (spec_WorldOk.j1 k1 l0 x3_1 (!t687)) = some r := H;have A15 := A_ A150;clear A150;have H' := A_ H;clear H;obtain ⟨⟨ad684, e684, hx684_0, hx684_1, hx684_2, hx684_3⟩, p684, q684⟩ := atB (at_T32 HR0.out x3_1);obtain rfl : ad679 = ad684 := (by injection e684);obtain ⟨hx684_0, hx684_1, hx684_2, hx684_3⟩ := cb4 HB hx684_0 hx684_1 hx684_2 hx684_3;obtain ⟨⟨ad685, e685, hx685_0, hx685_1, hx685_2, hx685_3⟩, p685, q685⟩ := atB (at_T32 HR0.out x3_1);obtain rfl : ad679 = ad685 := (by injection e685);obtain ⟨hx685_0, hx685_1, hx685_2, hx685_3⟩ := cb4 HB hx685_0 hx685_1 hx685_2 hx685_3;obtain ⟨⟨ad686, e686, hx686_0, hx686_1, hx686_2, hx686_3⟩, p686, q686⟩ := atB (at_T32 HR0.out x3_1);obtain rfl : ad679 = ad686 := (by injection e686);obtain ⟨hx686_0, hx686_1, hx686_2, hx686_3⟩ := cb4 HB hx686_0 hx686_1 hx686_2 hx686_3;go_wp2_with (first | (go_at_call 14; (with_reducible refine (spec_l11Norm.calls k1 ((rd_T32 l0 x3_1).f2) t687 _ A15.out).mono ?_); rintro e w16 ⟨rfl, hb⟩; replace HB := A_ (bS (zz2 HB) hb); (try clear hb)))
          repeat (go_quiet (first | (go_at_call 14; (with_reducible refine (spec_l11Norm.calls k1 ((rd_T32 l0 x3_1).f2) t687 _ A15.out).mono ?_); rintro e w16 ⟨rfl, hb⟩; replace HB := A_ (bS (zz2 HB) hb); (try clear hb))); try go_wp2_with (first | (go_at_call 14; (with_reducible refine (spec_l11Norm.calls k1 ((rd_T32 l0 x3_1).f2) t687 _ A15.out).mono ?_); rintro e w16 ⟨rfl, hb⟩; replace HB := A_ (bS (zz2 HB) hb); (try clear hb))))
          go_meet
          case rel => exact ⟨_, (!t687), zz5, H', ⟨(zz26 HK1)⟩, ⟨(zz2 HB)⟩⟩
         ·have H' := A_ H
          clear H;obtain ⟨⟨ad684, e684, hx684_0, hx684_1, hx684_2, hx684_3⟩, p684, q684⟩ := atB (at_T32 HR0.out x3_1);obtain rfl : ad679 = ad684 := (by injection e684);obtain ⟨hx684_0, hx684_1, hx684_2, hx684_3⟩ := cb4 HB hx684_0 hx684_1 hx684_2 hx684_3;obtain ⟨⟨ad685, e685, hx685_0, hx685_1, hx685_2, hx685_3⟩, p685, q685⟩ := atB (at_T32 HR0.out x3_1);obtain rfl : ad679 = ad685 := (by injection e685);obtain ⟨hx685_0, hx685_1, hx685_2, hx685_3⟩ := cb4 HB hx685_0 hx685_1 hx685_2 hx685_3;go_wp2
          repeat (go_quiet (fail); try go_wp2)
          go_meet
          case rel => exact ⟨_, (true), zz5, H', ⟨(zz26 HK1)⟩, ⟨(zz2 HB)⟩⟩
       ·(first | refine iteT ?_ | refine iteF ?_ | skip)
        have H' := A_ H;clear H;(try ((with_reducible refine upS ?_); go_simp))
        go_wp2
        repeat (go_quiet (fail); try go_wp2)
        go_meet
        case rel => exact ⟨_, (true), zz5, H', ⟨(zz26 HK1)⟩, ⟨(zz2 HB)⟩⟩
     ·(first | refine iteT ?_ | refine iteF ?_ | skip)
      have H' := A_ H;clear H;(try ((with_reducible refine upS ?_); go_simp))
      go_wp2
      repeat (go_quiet (fail); try go_wp2)
      go_meet
      case rel => exact ⟨_, (true), zz5, H', ⟨(zz26 HK1)⟩, ⟨(zz2 HB)⟩⟩
    case rest =>
     clear HC3;obtain ⟨kq, x60_2, rfl, HA, HJ2, HB⟩ := hcut;cases kq with
     | zero => exact absurd HA.out (by simp [spec_WorldOk.j1])
     | succ kj2 =>
      obtain ⟨H⟩ := HA;simp only [spec_WorldOk.j1] at H
      replace H := iteB H;rcases H with ⟨rfl, H⟩ | ⟨rfl, H⟩
      ·obtain rfl := sI H
       go_wp2
       repeat (go_quiet (fail); try go_wp2)
       go_ret
       exact ⟨zz11, (zz2 HB)⟩
      ·have H' := A_ H
       clear H;go_wp2
       repeat (go_quiet (fail); try go_wp2)
       go_loopg [4] kj2 (fun kq v4 w' => ∃ (x4_3 : Int), v4 = .int .i64 x4_3 ∧ Aside0 (spec_WorldOk.l1 kq l0 x3_1 x4_3 = some r) ∧ Aside0 (kq ≤ kj2) ∧ Aside0 (Below w.heap.size w w'))
       case atStart => exact ⟨(0), zz5, H', ⟨Nat.le_refl _⟩, ⟨(zz2 HB)⟩⟩
       case round =>
        clear H';obtain ⟨x4_3, rfl, HA, HK3, HB⟩ := hrel;cases gk with
        | zero => exact absurd HA.out (by simp [spec_WorldOk.l1])
        | succ k3 =>
         obtain ⟨H⟩ := HA;simp only [spec_WorldOk.l1] at H
         replace H := iteEd H;rcases H with ⟨c18b0, H⟩ | ⟨c18b0, H⟩
         ·replace H := iteNd H
          obtain ⟨c19b0, H⟩ := H;replace H := iteNd H;obtain ⟨c20b0, H⟩ := H;replace H := iteNd H;obtain ⟨c21b0, H⟩ := H;replace H := iteNd H;obtain ⟨c22b0, H⟩ := H;replace H := iteEq H;rcases H with ⟨c23b0, c23b1, H⟩ | ⟨c23b0, c23b1, c23, H⟩
          ·obtain rfl := sI H
           obtain ⟨⟨ad688, e688, hx688_0, hx688_1, hx688_2, hx688_3⟩, p688, q688⟩ := atB (at_T32 HR0.out x4_3);cases e688
           obtain ⟨hx688_0, hx688_1, hx688_2, hx688_3⟩ := cb4 HB hx688_0 hx688_1 hx688_2 hx688_3;obtain ⟨⟨ad689, e689, hx689_0, hx689_1, hx689_2, hx689_3⟩, p689, q689⟩ := atB (at_T32 HR0.out x3_1);obtain rfl : ad688 = ad689 := (by injection e689);obtain ⟨hx689_0, hx689_1, hx689_2, hx689_3⟩ := cb4 HB hx689_0 hx689_1 hx689_2 hx689_3;go_wp2
           repeat (go_quiet (fail); try go_wp2)
           go_ret
           exact ⟨zz11, (zz2 HB)⟩
          ·have H' := A_ H
           clear H;obtain ⟨⟨ad688, e688, hx688_0, hx688_1, hx688_2, hx688_3⟩, p688, q688⟩ := atB (at_T32 HR0.out x4_3);cases e688
           obtain ⟨hx688_0, hx688_1, hx688_2, hx688_3⟩ := cb4 HB hx688_0 hx688_1 hx688_2 hx688_3;obtain ⟨⟨ad689, e689, hx689_0, hx689_1, hx689_2, hx689_3⟩, p689, q689⟩ := atB (at_T32 HR0.out x3_1);obtain rfl : ad688 = ad689 := (by injection e689);obtain ⟨hx689_0, hx689_1, hx689_2, hx689_3⟩ := cb4 HB hx689_0 hx689_1 hx689_2 hx689_3;go_wp2
           repeat (go_quiet (fail); try go_wp2)
           go_roundg k3
           case measure => have := HK1.out; have := HJ2.out; have := HK3.out; omega
           case rel => exact ⟨(wrap64 (x4_3 + 1)), zz5, H', ⟨(zz30 HK1 HJ2 HK3)⟩, ⟨(zz2 HB)⟩⟩
         ·have H' := A_ H
          clear H;go_wp2
          repeat (go_quiet (fail); try go_wp2)
          go_roundg k3
          case measure => have := HK1.out; have := HJ2.out; have := HK3.out; omega
          case rel => exact ⟨(wrap64 (x3_1 + 1)), zz5, H', ⟨(zz30 HK1 HJ2 HK3)⟩, ⟨(zz2 HB)⟩⟩
   ·obtain rfl := sI H
    go_wp2
    repeat (go_quiet (fail); try go_wp2)
    go_ret
    exact ⟨zz11, (zz2 HB)⟩
def impl_AddrText.f (k : Nat) (a0_0 : ByteArray) (l0_1 : List ByteArray) (a0_2 : Bool) (a0_3 : ByteArray) : Option (ByteArray) := (impl_AddrOk.f k a0_0 l0_1 a0_2 a0_3).bind fun t691 => (if t691 = true then ((impl_writeAddr.f a0_0 l0_1 a0_2 a0_3).bind fun t692 => (some t692)) else (some (⟨#[]⟩ : ByteArray)))
theorem impl_AddrText.calls (k : Nat) (a0_0 : ByteArray) (A0_1 : Option Addr) (c0_1 : Nat) (l0_1 : List ByteArray) (a0_2 : Bool) (a0_3 : ByteArray) (r : ByteArray) (w : World) (hr0_1 : Kd.C Kd.string w A0_1 l0_1.length l0_1) (hc0_1 : l0_1.length ≤ c0_1) (h : impl_AddrText.f k a0_0 l0_1 a0_2 a0_3 = some r) :
  Calls Tryd.prog 8 #[.agg #[.string a0_0, .slice A0_1 l0_1.length c0_1, .bool a0_2, .string a0_3]] w fun e w' => e = .returned (.string r) ∧ Below w.heap.size w w' := by
 have hu28 := Tryd.underlying28;have HR0_1 := A_ hr0_1;have HC0_1 := A_ hc0_1;clear hr0_1 hc0_1;have HB := A_ (Below.refl w.heap.size w);unfold impl_AddrText.f at h
 have H := h;clear h;replace H := bindA H;obtain ⟨t691, A2, H⟩ := H;have HF3 := A_ H;clear H;go_enter Tryd.func8, Tryd.ntmps8;go_upto_if 5 with (first | ((with_reducible refine gD (N := 1) rfl ?_); refine boxE 1 #[.string a0_0, .slice A0_1 l0_1.length c0_1, .bool a0_2, .string a0_3] 28 ?_; intro gb690 hg w4 hbox hb; have BK690 := A_ (hbox); have GE690 := geB hg (zz2 HB); replace HB := A_ (bS (zz2 HB) hb); clear hb hbox hg; obtain ⟨_, _, _, _, _, _, _, _⟩ := cf4 BK690) | ((with_reducible refine gC (f := 18) rfl ?_); refine gsL (some 4) Tryd.func18 #[.agg #[.string a0_0, .slice A0_1 l0_1.length c0_1, .bool a0_2, .string a0_3]] ?_; (with_reducible refine mR (impl_AddrOk.calls k a0_0 _ _ l0_1 a0_2 a0_3 t691 _ ?side1 ?side2 A2.out) ?_); (case side1 => exact (zz58 HR0_1 HB)); (case side2 => exact HC0_1.out); rintro w6 hb; replace BK690 := A_ (bB (zz3 BK690) hb); replace HB := A_ (bS (zz4 HB GE690) hb); (try clear hb)))
 obtain ⟨H⟩ := HF3;replace H := iteB H;rcases H with ⟨rfl, H⟩ | ⟨rfl, H⟩
 ·replace H := Option.bind_eq_some_iff.mp H
  obtain ⟨t692, A80, H⟩ := H;replace H : (some t692) = some r := H;have A8 := A_ A80;clear A80;obtain rfl := sI H;obtain ⟨_, _, _, _, _, _, _, _⟩ := cf4 BK690;go_wp2_with (first | ((with_reducible refine gC (f := 19) rfl ?_); refine gsL (some 7) Tryd.func19 #[.agg #[.string a0_0, .slice A0_1 l0_1.length c0_1, .bool a0_2, .string a0_3]] ?_; (with_reducible refine mR (impl_writeAddr.calls a0_0 _ _ l0_1 a0_2 a0_3 t692 _ ?side1 ?side2 A8.out) ?_); (case side1 => exact (zz58 HR0_1 HB)); (case side2 => exact HC0_1.out); rintro w10 hb; replace BK690 := A_ (bB (zz3 BK690) hb); replace HB := A_ (bS (zz4 HB GE690) hb); (try clear hb)))
  go_ret
  exact ⟨zz11, (zz4 HB GE690)⟩
 ·obtain rfl := sI H
  go_wp2
  go_ret
  exact ⟨zz11, (zz4 HB GE690)⟩
def impl_readAddress.f (k : Nat) (a0 : ByteArray) : Option (ByteArray × List ByteArray × Bool × ByteArray × Bool) := (impl_AddrRead.f k a0).bind fun bt565 => (if bt565.2.2.2.2 = true then ((impl_writeAddr.f bt565.1 bt565.2.1 bt565.2.2.1 bt565.2.2.2.1).bind fun t573 => (if t573.toList = a0.toList then (some (bt565.1, bt565.2.1, bt565.2.2.1, bt565.2.2.2.1, true)) else (some ((⟨#[]⟩ : ByteArray), ([] : List ByteArray), false, (⟨#[]⟩ : ByteArray), false)))) else (some ((⟨#[]⟩ : ByteArray), ([] : List ByteArray), false, (⟨#[]⟩ : ByteArray), false)))
theorem impl_readAddress.calls (k : Nat) (a0 : ByteArray) (r1 : ByteArray) (r2 : List ByteArray) (r3 : Bool) (r4 : ByteArray) (r5 : Bool) (w : World) (h : impl_readAddress.f k a0 = some (r1, r2, r3, r4, r5)) :
  Calls Tryd.prog 59 #[.string a0] w fun e w' => ∃ v1_ : Value, e = .returned (.tuple #[.agg #[.string r1, v1_, .bool r3, .string r4], .bool r5]) ∧ Kd.R Kd.string 9 w' w.heap.size (fun _ => True) v1_ r2 ∧ Below w.heap.size w w' := by
 have hu28 := Tryd.underlying28;have HB := A_ (Below.refl w.heap.size w);unfold impl_readAddress.f at h
 have H := h;clear h;replace H := bindA H;obtain ⟨⟨t565, t566, t569, t570, t571⟩, A2, H⟩ := H;try dsimp only at H
 have HF3 := A_ H;clear H;go_enter Tryd.func59, Tryd.ntmps59;go_wp2_with (first | ((with_reducible refine gD (N := 2) rfl ?_); refine boxE 2 #[.string (⟨#[]⟩ : ByteArray), .slice none 0 0, .bool false, .string (⟨#[]⟩ : ByteArray)] 28 ?_; intro gb564 hg w4 hbox hb; have BK564 := A_ (hbox); have GE564 := geB hg (zz2 HB); replace HB := A_ (bS (zz2 HB) hb); clear hb hbox hg) | ((with_reducible refine gC (f := 7) rfl ?_); refine gsL (some 8) Tryd.func7 #[.string a0] ?_; (with_reducible refine mV (impl_AddrRead.calls k a0 t565 t566 t569 t570 t571 _ A2.out) ?_); rintro v567 w5 ⟨ho0, hb⟩; have HO568 := A_ (Kd.R_lower ho0 (below_size (zz4 HB GE564))); replace BK564 := A_ (bB (zz3 BK564) hb); replace HB := A_ (bS (zz4 HB GE564) hb); (try clear hb ho0)) | ((with_reducible refine gD (N := 4) rfl ?_); refine boxE 4 #[.string (⟨#[]⟩ : ByteArray), .slice none 0 0, .bool false, .string (⟨#[]⟩ : ByteArray)] 28 ?_; intro gb572 hg w6 hbox hb; replace HO568 := A_ (rB (zz18 HO568) hb); have BK572 := A_ (hbox); have GE572 := geB hg (zz4 HB GE564); replace HB := A_ (bS (zz4 HB GE564) hb); have NB564_572 := A_ ((by rw [hg]; exact Nat.ne_of_lt (blk_lt (zz3 BK564)) : gb564 ≠ gb572)); have NB572_564 := A_ ((by rw [hg]; exact Nat.ne_of_gt (blk_lt (zz3 BK564)) : gb572 ≠ gb564)); replace BK564 := A_ (bB (zz3 BK564) hb); clear hb hbox hg; have hnb7 := NB572_564.out; have hnc7 := NB564_572.out; obtain ⟨_, _, _, _, _, _, _, _⟩ := cf4 BK572; obtain ⟨Ao9, co9, eo9⟩ := Kd.R_slice HO568.out; subst eo9) | ((with_reducible refine gate_store (t := 28) (p := 4) rfl ?_); refine store_event (t := 28) (p := 4) (v := ?vo_w10) (w1 := ((((w6.setCell ⟨gb572, 0, none⟩ (.string t565)).setCell ⟨gb572, 1, none⟩ (.slice Ao9 t566.length co9)).setCell ⟨gb572, 2, none⟩ (.bool t569)).setCell ⟨gb572, 3, none⟩ (.string t570))) ?hg ?ho ?hn ?hr ?_; (case ho => rfl); (case hg => rfl); (case hn => rfl); (case hr => exact zz16); intro w10 hw; have n0_ : Aside0 (Kd.R Kd.string 9 w10 w.heap.size (fun _ => True) (.slice Ao9 t566.length co9) t566) := ⟨(by rw [hw]; exact (zz50 (rt HO568 BK572)))⟩; have n1_ : Aside0 (w10.heap[gb564]? = some (.cells #[.string (⟨#[]⟩ : ByteArray), .slice none 0 0, .bool false, .string (⟨#[]⟩ : ByteArray)] 28 (0, 0))) := ⟨(by rw [hw]; exact (zz119 BK564 NB564_572))⟩; have n2_ : Aside0 (w10.heap[gb572]? = some (.cells #[.string t565, .slice Ao9 t566.length co9, .bool t569, .string t570] 28 (0, 0))) := ⟨(by rw [hw]; exact (zz71 BK572))⟩; have n3_ : Aside0 (Below w.heap.size w w10) := ⟨(by rw [hw]; exact (zz171 HB GE564 GE572))⟩; clear hw; clear HO568; clear BK564; clear BK572; clear HB; have HO568 := n0_; have BK564 := n1_; have BK572 := n2_; have HB := n3_; clear n0_ n1_ n2_ n3_) | ((with_reducible refine atG ?_ ?_ fun K_ hK_ => ?_); rfl; exact undecG) | ((with_reducible refine atI ?_ fun K_ hK_ => ?_); exact undecI))
 refine unG hK_ ?_; clear hK_ K_;obtain ⟨H⟩ := HF3;replace H := iteB H;rcases H with ⟨rfl, H⟩ | ⟨rfl, H⟩
 ·(first | refine iteT ?_ | refine iteF ?_ | skip)
  replace H := bindA H;obtain ⟨t573, A12, H⟩ := H;have HF13 := A_ H;clear H;have hnb14 := NB572_564.out;have hnc14 := NB564_572.out;obtain ⟨_, _, _, _, _, _, _, _⟩ := cf4 BK572;(try ((with_reducible refine upS ?_); go_simp))
  go_upto_if 18 with (first | (go_at_call 19; (with_reducible refine (impl_writeAddr.calls t565 _ _ t566 t569 t570 t573 _ ?side1 ?side2 A12.out).mono ?_); (case side1 => exact (zz37 HO568)); (case side2 => exact (Kd.R_reads' HO568.out).2.1); rintro e w16 ⟨rfl, hb⟩; replace HO568 := A_ (rB (zz18 HO568) hb); replace BK564 := A_ (bB (zz3 BK564) hb); replace BK572 := A_ (bB (zz3 BK572) hb); replace HB := A_ (bS (zz171 HB GE564 GE572) hb); (try clear hb)))
  obtain ⟨H⟩ := HF13;replace H := iteEq H;rcases H with ⟨c17b0, c17b1, H⟩ | ⟨c17b0, c17b1, c17, H⟩
  ·(first | rw [c17b0] | (simp only [i64_w, i32_w]; rw [c17b0]) | skip)
   simp only [Option.some.injEq, Prod.mk.injEq] at H
   obtain ⟨rfl, rfl, rfl, rfl, rfl⟩ := H;have hnb18 := NB572_564.out;have hnc18 := NB564_572.out;obtain ⟨_, _, _, _, _, _, _, _⟩ := cf4 BK572;obtain ⟨_, _, _, _, _, _, _, _⟩ := cf4 BK564;go_wp2
   refine pR (results_ct rfl _ _ gb564 28 #[.string t565, .slice Ao9 t566.length co9, .bool t569, .string t570] (0, 0) _ rfl (zz71 BK564) Tryd.underlying28 rfl (by kernel_rfl)) rfl ?_;exact ⟨_, zz11, (zz50 (rt HO568 BK564)), (zz171 HB GE564 GE572)⟩
  ·(first | rw [c17b0] | (simp only [i64_w, i32_w]; rw [c17b0]) | skip)
   simp only [Option.some.injEq, Prod.mk.injEq] at H
   obtain ⟨rfl, rfl, rfl, rfl, rfl⟩ := H;have hnb21 := NB564_572.out;have hnc21 := NB572_564.out;obtain ⟨_, _, _, _, _, _, _, _⟩ := cf4 BK564;go_wp2
   refine pR (results_ct rfl _ _ gb564 28 #[.string (⟨#[]⟩ : ByteArray), .slice none 0 0, .bool false, .string (⟨#[]⟩ : ByteArray)] (0, 0) _ rfl (zz71 BK564) Tryd.underlying28 rfl (by kernel_rfl)) rfl ?_;exact ⟨_, zz11, zz72, (zz171 HB GE564 GE572)⟩
 ·(first | refine iteT ?_ | refine iteF ?_ | skip)
  simp only [Option.some.injEq, Prod.mk.injEq] at H
  obtain ⟨rfl, rfl, rfl, rfl, rfl⟩ := H;have hnb23 := NB564_572.out;have hnc23 := NB572_564.out;obtain ⟨_, _, _, _, _, _, _, _⟩ := cf4 BK564;(try ((with_reducible refine upS ?_); go_simp))
  go_wp2
  refine pR (results_ct rfl _ _ gb564 28 #[.string (⟨#[]⟩ : ByteArray), .slice none 0 0, .bool false, .string (⟨#[]⟩ : ByteArray)] (0, 0) _ rfl (zz71 BK564) Tryd.underlying28 rfl (by kernel_rfl)) rfl ?_;exact ⟨_, zz11, zz72, (zz171 HB GE564 GE572)⟩
def impl_isAddress.f (k : Nat) (a0 : ByteArray) : Option (Bool) := (impl_readAddress.f k a0).bind fun bt574 => (some bt574.2.2.2.2)
theorem impl_isAddress.calls (k : Nat) (a0 : ByteArray) (r : Bool) (w : World) (h : impl_isAddress.f k a0 = some r) :
  Calls Tryd.prog 39 #[.string a0] w fun e w' => e = .returned (.bool r) ∧ Below w.heap.size w w' := by
 have hu28 := Tryd.underlying28;have HB := A_ (Below.refl w.heap.size w);unfold impl_isAddress.f at h
 have H := h;clear h;replace H := bindA H;obtain ⟨⟨t574, t575, t578, t579, t580⟩, A2, H⟩ := H;try dsimp only at H
 obtain rfl := sI H;go_enter Tryd.func39, Tryd.ntmps39;go_wp2_with (first | ((with_reducible refine gC (f := 59) rfl ?_); refine gsL (some 7) Tryd.func59 #[.string a0] ?_; (with_reducible refine mV (impl_readAddress.calls k a0 t574 t575 t578 t579 t580 _ A2.out) ?_); rintro v576 w3 ⟨ho0, hb⟩; have HO577 := A_ (Kd.R_lower ho0 (below_size (zz2 HB))); replace HB := A_ (bS (zz2 HB) hb); (try clear hb ho0)) | ((with_reducible refine gD (N := 3) rfl ?_); refine boxE 3 #[.string (⟨#[]⟩ : ByteArray), .slice none 0 0, .bool false, .string (⟨#[]⟩ : ByteArray)] 28 ?_; intro gb581 hg w4 hbox hb; replace HO577 := A_ (rB (zz18 HO577) hb); have BK581 := A_ (hbox); have GE581 := geB hg (zz2 HB); replace HB := A_ (bS (zz2 HB) hb); clear hb hbox hg; obtain ⟨_, _, _, _, _, _, _, _⟩ := cf4 BK581; obtain ⟨Ao6, co6, eo6⟩ := Kd.R_slice HO577.out; subst eo6))
 go_ret
 exact ⟨zz11, (zz4 HB GE581)⟩
def impl_pageOk.f (k : Nat) (a0_0 : ByteArray) (a0_1 : ByteArray) (a0_2 : ByteArray) (a0_3 : Int) : Option (Bool) := (impl_isAddress.f k a0_0).bind fun t583 => (if t583 = true then (if (a0_1.size : Int) > 300 then (some false) else (if a0_3 < 0 then (some false) else (if a0_3 > 9 then (some false) else (if a0_2.toList = ([] : List UInt8) then (some true) else ((impl_isAddress.f k a0_2).bind fun t584 => (if t584 = true then (some (a0_1.toList == ([] : List UInt8))) else (some false))))))) else (some false))
theorem impl_pageOk.calls (k : Nat) (a0_0 : ByteArray) (a0_1 : ByteArray) (a0_2 : ByteArray) (a0_3 : Int) (r : Bool) (w : World) (h : impl_pageOk.f k a0_0 a0_1 a0_2 a0_3 = some r) :
  Calls Tryd.prog 22 #[.agg #[.string a0_0, .string a0_1, .string a0_2, .int .i64 a0_3]] w fun e w' => e = .returned (.bool r) ∧ Below w.heap.size w w' := by
 have hu32 := Tryd.underlying32;have HB := A_ (Below.refl w.heap.size w);unfold impl_pageOk.f at h
 have H := h;clear h;replace H := bindA H;obtain ⟨t583, A2, H⟩ := H;have HF3 := A_ H;clear H;go_enter Tryd.func22, Tryd.ntmps22;go_wp2_with (first | ((with_reducible refine gD (N := 1) rfl ?_); (try (refine gate_guard (by rfl) ?_; dsimp only)); refine boxE 1 #[.string a0_0, .string a0_1, .string a0_2, .int .i64 a0_3] 32 ?_; intro gb582 hg w4 hbox hb; have BK582 := A_ (hbox); have GE582 := geB hg (zz2 HB); replace HB := A_ (bS (zz2 HB) hb); clear hb hbox hg; obtain ⟨_, _, _, _, _, _, _, _⟩ := cf4 BK582) | ((with_reducible refine gC (f := 39) rfl ?_); refine gsL (some 5) Tryd.func39 #[.string a0_0] ?_; (with_reducible refine mR (impl_isAddress.calls k a0_0 t583 _ A2.out) ?_); rintro w6 hb; replace BK582 := A_ (bB (zz3 BK582) hb); replace HB := A_ (bS (zz4 HB GE582) hb); (try clear hb)) | ((with_reducible refine atG ?_ ?_ fun K_ hK_ => ?_); rfl; exact undecG) | ((with_reducible refine atI ?_ fun K_ hK_ => ?_); exact undecI))
 refine unG hK_ ?_; clear hK_ K_;obtain ⟨H⟩ := HF3;replace H := iteB H;rcases H with ⟨rfl, H⟩ | ⟨rfl, H⟩
 ·(first | refine iteT ?_ | refine iteF ?_ | skip)
  replace H := iteE H;rcases H with ⟨c8, H⟩ | ⟨c8, H⟩
  ·have c8b0 := gtT c8
   have c8b1 : decide (300 < a0_1.size) = true := dT (by omega);clear c8;obtain rfl := sI H;obtain ⟨_, _, _, _, _, _, _, _⟩ := cf4 BK582;go_wp2
   go_ret
   exact ⟨zz11, (zz4 HB GE582)⟩
  ·have c8b0 := gtF c8
   have c8b1 : decide (300 < a0_1.size) = false := dF (by omega);clear c8;replace H := iteEd H;rcases H with ⟨c10b0, H⟩ | ⟨c10b0, H⟩
   ·obtain rfl := sI H
    obtain ⟨_, _, _, _, _, _, _, _⟩ := cf4 BK582;go_wp2
    go_ret
    exact ⟨zz11, (zz4 HB GE582)⟩
   ·replace H := iteEg H
    rcases H with ⟨c12b0, H⟩ | ⟨c12b0, H⟩
    ·obtain rfl := sI H
     obtain ⟨_, _, _, _, _, _, _, _⟩ := cf4 BK582;go_wp2
     go_ret
     exact ⟨zz11, (zz4 HB GE582)⟩
    ·replace H := iteEq H
     rcases H with ⟨c14b0, c14b1, H⟩ | ⟨c14b0, c14b1, c14, H⟩
     ·obtain rfl := sI H
      obtain ⟨_, _, _, _, _, _, _, _⟩ := cf4 BK582;go_wp2
      go_ret
      exact ⟨zz11, (zz4 HB GE582)⟩
     ·replace H := Option.bind_eq_some_iff.mp H
      obtain ⟨t584, A160, H⟩ := H;replace H : (if t584 = true then (some (a0_1.toList == ([] : List UInt8))) else (some false)) = some r := H;have A16 := A_ A160;clear A160;have HF17 := A_ H;clear H;obtain ⟨_, _, _, _, _, _, _, _⟩ := cf4 BK582;go_wp2_with (first | (go_at_call 39; (with_reducible refine (impl_isAddress.calls k a0_2 t584 _ A16.out).mono ?_); rintro e w19 ⟨rfl, hb⟩; replace BK582 := A_ (bB (zz3 BK582) hb); replace HB := A_ (bS (zz4 HB GE582) hb); (try clear hb)) | ((with_reducible refine atG ?_ ?_ fun K_ hK_ => ?_); rfl; exact undecG) | ((with_reducible refine atI ?_ fun K_ hK_ => ?_); exact undecI))
      refine unG hK_ ?_; clear hK_ K_;obtain ⟨H⟩ := HF17;replace H := iteB H;rcases H with ⟨rfl, H⟩ | ⟨rfl, H⟩
      ·(first | refine iteT ?_ | refine iteF ?_ | skip)
       obtain rfl := sI H;obtain ⟨_, _, _, _, _, _, _, _⟩ := cf4 BK582;(try ((with_reducible refine upS ?_); go_simp))
       go_wp2
       go_ret
       exact ⟨zz11, (zz4 HB GE582)⟩
      ·(first | refine iteT ?_ | refine iteF ?_ | skip)
       obtain rfl := sI H;(try ((with_reducible refine upS ?_); go_simp))
       go_wp2
       go_ret
       exact ⟨zz11, (zz4 HB GE582)⟩
 ·(first | refine iteT ?_ | refine iteF ?_ | skip)
  obtain rfl := sI H;(try ((with_reducible refine upS ?_); go_simp))
  go_wp2
  go_ret
  exact ⟨zz11, (zz4 HB GE582)⟩
end Go.Proofs.YtpomhjkbgbociaaDoor.P
end
section
namespace Go.Proofs.YtpomhjkbgbociaaDoor.P
open Go.RowKit Go.Proofs.YtpomhjkbgbociaaDoorW.PrintWords Go.Proofs.YtpomhjkbgbociaaDoorW.PrintLast Go.Proofs.YtpomhjkbgbociaaDoorW.PrintMore Go.Maps Go.ChangeMaps
set_option linter.unusedVariables false
set_option linter.unusedSimpArgs false
def pageD (p : S32) : DataW Unit := .agg [.lit (.string p.f0.data.toList), .lit (.string p.f1.data.toList), .lit (.string p.f2.data.toList), .lit (.int .i64 p.f3)]
def pageV (p : S32) : Value := .agg #[.string p.f0, .string p.f1, .string p.f2, .int .i64 p.f3]
def pageR (v : Value) : Option (DataW Unit × List MemPlace) :=
 match v with
 | .agg ⟨[.string a, .string b, .string c, .int .i64 d]⟩ => some (pageD ⟨a, b, c, d⟩, [])
 | _ => none
theorem pageR_mk (p : S32) : pageR (pageV p) = some (pageD p, []) := rfl
def keyL (s : ByteArray) : Lit := .string s.data.toList
def mapR : List S32 → DataW Unit
 | [] => .map []
 | p :: r => (mapR r).put (keyL p.f0) (pageD p)
def mapD (l : List S32) : DataW Unit := mapR l.reverse
theorem mapD_snoc (l : List S32) (p : S32) : mapD (l ++ [p]) = (mapD l).put (keyL p.f0) (pageD p) := by simp [mapD, mapR]
theorem keyL_lit (a : ByteArray) : WideAt.IsKeyLit (keyL a) := trivial
theorem keyL_inj {a b : ByteArray} (h : keyL a = keyL b) : a = b := by
 obtain ⟨⟨a⟩⟩ := a
 obtain ⟨⟨b⟩⟩ := b
 simp [keyL] at h
 rw [h]
theorem mapR_is : ∀ l, IsMap (mapR l)
 | [] => isMap_empty
 | p :: r => (mapR_is r).put _ _
theorem mapR_tidy : ∀ l, Tidy (mapR l)
 | [] => tidy_empty
 | p :: r => (mapR_tidy r).put (keyL_lit _) _
def pageAtR (a : ByteArray) : List S32 → Option S32
 | [] => none
 | p :: r => if p.f0 = a then some p else pageAtR a r
theorem mapR_has (a : ByteArray) : ∀ l, has (mapR l) (keyL a) = (pageAtR a l).isSome
 | [] => rfl
 | p :: r => by
  unfold mapR pageAtR
  by_cases h : p.f0 = a
  ·rw [if_pos h, ← h, has_put_same (mapR_is r) (keyL_lit _)]; rfl
  ·rw [if_neg h, has_put_other (fun e => h (keyL_inj e).symm)]
   exact mapR_has a r
theorem mapR_size (p : S32) (r : List S32) : size (mapR (p :: r)) = if (pageAtR p.f0 r).isSome then size (mapR r) else size (mapR r) + 1 := by
 show size ((mapR r).put _ _) = _
 rw [size_put (mapR_tidy r), mapR_has]
def pagesOk (k : Nat) : List S32 → Option Bool
 | [] => some true
 | p :: r => if p.f0.size ≤ 9223372036854775807 then (impl_pageOk.f k p.f0 p.f1 p.f2 p.f3).bind fun t => if t = true then pagesOk k r else some false else none
theorem map_below {w w' : World} {P : Program} {k : TypeId} {R : Value → Option (DataW Unit × List MemPlace)} {b n : Nat} {D : DataW Unit} (h : w.ownsMap P k R b n D) (hb : Below w.heap.size w w') : w'.ownsMap P k R b n D := by
 have hlt := h.lt
 obtain ⟨es, clock, h1, F, h2, h3⟩ := h
 exact ⟨es, clock, (hb.block b hlt).trans h1, F, h2, h3⟩
theorem grown_below {w W W' : World} (h : Below w.heap.size w W) (g : W.grownBy W' (some w.heap.size)) : Below w.heap.size w W' :=
 ⟨g.os.trans h.os, g.tape.trans h.tape, g.output.trans h.output, Nat.le_trans h.size g.size, fun i hi => (g.block i (Nat.lt_of_lt_of_le hi h.size) (by intro e; injection e with e; omega)).trans (h.block i hi)⟩
abbrev Pages (w : World) (b n : Nat) (D : DataW Unit) : Prop := w.ownsMap Tryd.prog 9 pageR b n D
set_option maxHeartbeats 8000000 in
set_option maxRecDepth 100000 in
theorem worldOf_walk (k : Nat) (A0 : Option Addr) (c0 : Nat) (l0 : List S32) (r : Bool) (w : World) (hr0 : Kd.C k32 w A0 l0.length l0) (hc0 : l0.length ≤ c0) (h12 : l0.length ≤ 12) (h : pagesOk k l0 = some r) :
  Calls Tryd.prog 13 #[.slice A0 l0.length c0] w fun e w' => Below w.heap.size w w' ∧
   (r = false → e = .returned (.tuple #[.map none, .bool false])) ∧ (r = true → ∃ b, w.heap.size ≤ b ∧ Pages w' b l0.length (mapD l0) ∧ e = .returned (.tuple #[.map (some b), .bool ((Maps.size (mapD l0) : Int) == (l0.length : Int))])) := by
 have hu := Tryd.underlying32
 have hle : decide ((12 : Int) < (l0.length : Int)) = false := decide_eq_false (by omega)
 have hmm := @run_makeMap Tryd.prog
 have H0 := Aside0.mk h
 clear h
 go_enter Tryd.func13, Tryd.ntmps13
 go_wp2
 go_loopg [13] l0.length (fun g v wx => ∃ i : Nat, v = .int .i64 i ∧ i + g = l0.length ∧ Aside0 (pagesOk k (l0.drop i) = some r) ∧ Aside0 (Pages wx w.heap.size i (mapD (l0.take i))) ∧ Aside0 (Below w.heap.size w wx))
 case atStart => exact ⟨0, rfl, by omega, ⟨by simpa using H0.out⟩, ⟨by simpa [mapD, mapR] using World.ownsMap_made w Tryd.prog 9 pageR⟩, ⟨(Below.refl _ _).alloc (Nat.le_refl _) _⟩⟩
 case round =>
  clear H0 hmm
  obtain ⟨i, rfl, hig, H, HM, HB⟩ := hrel
  cases gk with
  | zero =>
   obtain rfl : i = l0.length := by omega
   have hr : r = true := by
    have := H.out
    rw [List.drop_length] at this
    exact (Option.some.inj this).symm
   subst hr
   have hlt : decide ((l0.length : Int) < (l0.length : Int)) = false := decide_eq_false (by omega)
   have hlen := fun ty => HM.out.len Tryd.underlying41 ty
   go_wp2
   go_ret2
   refine ⟨HB.out, w.heap.size, Nat.le_refl _, ?_, ?_⟩
   ·have := HM.out
    rw [List.take_length] at this
    exact this
   ·rfl
  | succ g =>
   have hi : i < l0.length := by omega
   have hlt : decide ((i : Int) < (l0.length : Int)) = true := decide_eq_true (by omega)
   obtain ⟨ad, ea, hx0, hx1, hx2, hx3⟩ := at_T32 hr0 (i : Int) (by omega) (by omega)
   subst ea
   replace hx0 := (HB.out.cell (World.block_lt_of_cell? w _ hx0)).trans hx0
   replace hx1 := (HB.out.cell (World.block_lt_of_cell? w _ hx1)).trans hx1
   replace hx2 := (HB.out.cell (World.block_lt_of_cell? w _ hx2)).trans hx2
   replace hx3 := (HB.out.cell (World.block_lt_of_cell? w _ hx3)).trans hx3
   have p0 : (0 ≤ (i : Int)) = True := eq_true (by omega)
   have q0 : ((i : Int) < (l0.length : Int)) = True := eq_true (by omega)
   obtain ⟨p, hp⟩ : ∃ p, rd_T32 l0 (i : Int) = p := ⟨_, rfl⟩
   rw [hp] at hx0 hx1 hx2 hx3
   simp only [Int.toNat_natCast] at hx0 hx1 hx2 hx3
   have hd : l0.drop i = p :: l0.drop (i + 1) := by
    rw [List.drop_eq_getElem_cons hi]
    congr 1
    rw [← hp]
    simp [rd_T32, List.getD, List.getElem?_eq_getElem hi]
   have ht : l0.take (i + 1) = l0.take i ++ [p] := by
    rw [List.take_succ_eq_append_getElem hi]
    congr 2
    rw [← hp]
    simp [rd_T32, List.getD, List.getElem?_eq_getElem hi]
   have H1 := H.out
   rw [hd] at H1
   simp only [pagesOk] at H1
   by_cases hz : p.f0.size ≤ 9223372036854775807
   case neg => rw [if_neg hz] at H1; cases H1
   rw [if_pos hz] at H1
   have HK := Aside0.mk (Go.WideMaps.keyOf_string_mk (P := Tryd.prog) Tryd.underlying9 (s := p.f0) (by have : maxLen = 2 ^ 63 - 1 := rfl; omega))
   clear hz
   obtain ⟨t, A0', H2⟩ := Option.bind_eq_some_iff.mp H1
   have A := Aside0.mk A0'
   have HT := Aside0.mk ht
   clear H1 A0' H hd ht hp
   by_cases ct : t = true
   ·subst ct
    rw [if_pos rfl] at H2
    have H' := Aside0.mk H2
    clear H2
    go_wp2_with (first | ((with_reducible refine gate_dst (N := 6) rfl ?_); refine box_event ?hg (N := 6) ?hd (cs := #[.string (⟨#[]⟩ : ByteArray), .string (⟨#[]⟩ : ByteArray), .string (⟨#[]⟩ : ByteArray), .int .i64 0]) (t := 32) ?hr ?_; (case hd => rfl); (case hg => rfl); (case hr => first | (go_simp; done) | (go_simp; rfl)); intro gb hg w6 hbox hb; have BK := Aside0.mk hbox; have NB := Aside0.mk (show gb ≠ w.heap.size from by rw [hg]; exact Nat.ne_of_gt HM.out.lt); have GE := Aside0.mk (show w.heap.size ≤ gb from by rw [hg]; exact below_size HB.out); replace HM := Aside0.mk (map_below HM.out hb); replace HB := Aside0.mk (below_step HB.out hb); replace hx0 := (hb.cell (World.block_lt_of_cell? _ _ hx0)).trans hx0; replace hx1 := (hb.cell (World.block_lt_of_cell? _ _ hx1)).trans hx1; replace hx2 := (hb.cell (World.block_lt_of_cell? _ _ hx2)).trans hx2; replace hx3 := (hb.cell (World.block_lt_of_cell? _ _ hx3)).trans hx3; clear hb hg hbox; obtain ⟨hc0, hc1, hc2, hc3⟩ : w6.cell? ⟨gb, 0, none⟩ = some (.string (⟨#[]⟩ : ByteArray)) ∧ w6.cell? ⟨gb, 1, none⟩ = some (.string (⟨#[]⟩ : ByteArray)) ∧ w6.cell? ⟨gb, 2, none⟩ = some (.string (⟨#[]⟩ : ByteArray)) ∧ w6.cell? ⟨gb, 3, none⟩ = some (.int .i64 0) := ⟨(blk_cell BK.out 0).trans rfl, (blk_cell BK.out 1).trans rfl, (blk_cell BK.out 2).trans rfl, (blk_cell BK.out 3).trans rfl⟩; have hf0 := blk_frozen BK.out 0; have hf1 := blk_frozen BK.out 1; have hf2 := blk_frozen BK.out 2; have hf3 := blk_frozen BK.out 3) | (go_at_call 22; (with_reducible refine (impl_pageOk.calls k p.f0 p.f1 p.f2 p.f3 true _ A.out).mono ?_); rintro e w8 ⟨rfl, hb⟩; replace HM := Aside0.mk (map_below ((((HM.out.setCell (a := ⟨gb, 0, none⟩) NB.out.symm _).setCell (a := ⟨gb, 1, none⟩) NB.out.symm _).setCell (a := ⟨gb, 2, none⟩) NB.out.symm _).setCell (a := ⟨gb, 3, none⟩) NB.out.symm _) hb); replace BK := Aside0.mk (blk_below (g := gb) (o := .cells #[.string p.f0, .string p.f1, .string p.f2, .int .i64 p.f3] 32 (0, 0)) (by refine blk_put (cs := #[.string p.f0, .string p.f1, .string p.f2, .int .i64 0]) ?_ 3 _ rfl; refine blk_put (cs := #[.string p.f0, .string p.f1, .string (⟨#[]⟩ : ByteArray), .int .i64 0]) ?_ 2 _ rfl; refine blk_put (cs := #[.string p.f0, .string (⟨#[]⟩ : ByteArray), .string (⟨#[]⟩ : ByteArray), .int .i64 0]) ?_ 1 _ rfl; refine blk_put (cs := #[.string (⟨#[]⟩ : ByteArray), .string (⟨#[]⟩ : ByteArray), .string (⟨#[]⟩ : ByteArray), .int .i64 0]) ?_ 0 _ rfl; exact BK.out) hb); replace HB := Aside0.mk (below_step (below_set (below_set (below_set (below_set HB.out GE.out) GE.out) GE.out) GE.out) hb); clear hb hx0 hx1 hx2 hx3 hc0 hc1 hc2 hc3 hf0 hf1 hf2 hf3; obtain ⟨hc0, hc1, hc2, hc3⟩ : w8.cell? ⟨gb, 0, none⟩ = some (.string p.f0) ∧ w8.cell? ⟨gb, 1, none⟩ = some (.string p.f1) ∧ w8.cell? ⟨gb, 2, none⟩ = some (.string p.f2) ∧ w8.cell? ⟨gb, 3, none⟩ = some (.int .i64 p.f3) := ⟨(blk_cell BK.out 0).trans rfl, (blk_cell BK.out 1).trans rfl, (blk_cell BK.out 2).trans rfl, (blk_cell BK.out 3).trans rfl⟩) | (at_mapUpdate; refine wpList_mapUpdate_own _ rfl _ _ _ 41 rfl 9 32 (string_keyed Tryd.underlying9) Tryd.underlying41 pageR w.heap.size i (mapD (l0.take i)) rfl HM.out (by have : maxLen = 2 ^ 63 - 1 := rfl; omega) _ _ (keyL p.f0) rfl rfl HK.out (pageD p) [] (pageR_mk p) ?_; intro w9 hown hgrow))
    go_roundg g
    case measure => omega
    case rel => exact ⟨i + 1, by simp, by omega, H', ⟨by rw [HT.out, mapD_snoc]; exact hown⟩, ⟨grown_below HB.out hgrow⟩⟩
   ·obtain rfl : t = false := by simpa using ct
    rw [if_neg (by decide)] at H2
    obtain rfl := Option.some.inj H2
    go_wp2_with (first | ((with_reducible refine gate_dst (N := 6) rfl ?_); refine box_event ?hg (N := 6) ?hd (cs := #[.string (⟨#[]⟩ : ByteArray), .string (⟨#[]⟩ : ByteArray), .string (⟨#[]⟩ : ByteArray), .int .i64 0]) (t := 32) ?hr ?_; (case hd => rfl); (case hg => rfl); (case hr => first | (go_simp; done) | (go_simp; rfl)); intro gb hg w6 hbox hb; have BK := Aside0.mk hbox; have NB := Aside0.mk (show gb ≠ w.heap.size from by rw [hg]; exact Nat.ne_of_gt HM.out.lt); have GE := Aside0.mk (show w.heap.size ≤ gb from by rw [hg]; exact below_size HB.out); replace HM := Aside0.mk (map_below HM.out hb); replace HB := Aside0.mk (below_step HB.out hb); replace hx0 := (hb.cell (World.block_lt_of_cell? _ _ hx0)).trans hx0; replace hx1 := (hb.cell (World.block_lt_of_cell? _ _ hx1)).trans hx1; replace hx2 := (hb.cell (World.block_lt_of_cell? _ _ hx2)).trans hx2; replace hx3 := (hb.cell (World.block_lt_of_cell? _ _ hx3)).trans hx3; clear hb hg hbox; obtain ⟨hc0, hc1, hc2, hc3⟩ : w6.cell? ⟨gb, 0, none⟩ = some (.string (⟨#[]⟩ : ByteArray)) ∧ w6.cell? ⟨gb, 1, none⟩ = some (.string (⟨#[]⟩ : ByteArray)) ∧ w6.cell? ⟨gb, 2, none⟩ = some (.string (⟨#[]⟩ : ByteArray)) ∧ w6.cell? ⟨gb, 3, none⟩ = some (.int .i64 0) := ⟨(blk_cell BK.out 0).trans rfl, (blk_cell BK.out 1).trans rfl, (blk_cell BK.out 2).trans rfl, (blk_cell BK.out 3).trans rfl⟩; have hf0 := blk_frozen BK.out 0; have hf1 := blk_frozen BK.out 1; have hf2 := blk_frozen BK.out 2; have hf3 := blk_frozen BK.out 3) | (go_at_call 22; (with_reducible refine (impl_pageOk.calls k p.f0 p.f1 p.f2 p.f3 false _ A.out).mono ?_); rintro e w8 ⟨rfl, hb⟩; replace HM := Aside0.mk (map_below ((((HM.out.setCell (a := ⟨gb, 0, none⟩) NB.out.symm _).setCell (a := ⟨gb, 1, none⟩) NB.out.symm _).setCell (a := ⟨gb, 2, none⟩) NB.out.symm _).setCell (a := ⟨gb, 3, none⟩) NB.out.symm _) hb); replace BK := Aside0.mk (blk_below (g := gb) (o := .cells #[.string p.f0, .string p.f1, .string p.f2, .int .i64 p.f3] 32 (0, 0)) (by refine blk_put (cs := #[.string p.f0, .string p.f1, .string p.f2, .int .i64 0]) ?_ 3 _ rfl; refine blk_put (cs := #[.string p.f0, .string p.f1, .string (⟨#[]⟩ : ByteArray), .int .i64 0]) ?_ 2 _ rfl; refine blk_put (cs := #[.string p.f0, .string (⟨#[]⟩ : ByteArray), .string (⟨#[]⟩ : ByteArray), .int .i64 0]) ?_ 1 _ rfl; refine blk_put (cs := #[.string (⟨#[]⟩ : ByteArray), .string (⟨#[]⟩ : ByteArray), .string (⟨#[]⟩ : ByteArray), .int .i64 0]) ?_ 0 _ rfl; exact BK.out) hb); replace HB := Aside0.mk (below_step (below_set (below_set (below_set (below_set HB.out GE.out) GE.out) GE.out) GE.out) hb); clear hb hx0 hx1 hx2 hx3 hc0 hc1 hc2 hc3 hf0 hf1 hf2 hf3; obtain ⟨hc0, hc1, hc2, hc3⟩ : w8.cell? ⟨gb, 0, none⟩ = some (.string p.f0) ∧ w8.cell? ⟨gb, 1, none⟩ = some (.string p.f1) ∧ w8.cell? ⟨gb, 2, none⟩ = some (.string p.f2) ∧ w8.cell? ⟨gb, 3, none⟩ = some (.int .i64 p.f3) := ⟨(blk_cell BK.out 0).trans rfl, (blk_cell BK.out 1).trans rfl, (blk_cell BK.out 2).trans rfl, (blk_cell BK.out 3).trans rfl⟩))
    go_ret2
    exact ⟨HB.out, rfl⟩
def impl_worldOf.f (k : Nat) (l0 : List S32) : Option Bool := if 12 < l0.length then some false else pagesOk k l0
set_option maxRecDepth 100000 in
theorem impl_worldOf.calls (k : Nat) (A0 : Option Addr) (c0 : Nat) (l0 : List S32) (r : Bool) (w : World) (hr0 : Kd.C k32 w A0 l0.length l0) (hc0 : l0.length ≤ c0) (h : impl_worldOf.f k l0 = some r) :
  Calls Tryd.prog 13 #[.slice A0 l0.length c0] w fun e w' => Below w.heap.size w w' ∧
   (r = false → e = .returned (.tuple #[.map none, .bool false])) ∧ (r = true → ∃ b, w.heap.size ≤ b ∧ Pages w' b l0.length (mapD l0) ∧ e = .returned (.tuple #[.map (some b), .bool ((Maps.size (mapD l0) : Int) == (l0.length : Int))])) := by
 unfold impl_worldOf.f at h
 by_cases h12 : 12 < l0.length
 ·rw [if_pos h12] at h
  obtain rfl := Option.some.inj h
  have hle : decide ((12 : Int) < (l0.length : Int)) = true := decide_eq_true (by omega)
  clear h
  go_enter Tryd.func13, Tryd.ntmps13
  go_wp2
  go_ret2
  exact ⟨Below.refl _ _, fun _ => rfl, fun h => by cases h⟩
 ·rw [if_neg h12] at h
  exact worldOf_walk k A0 c0 l0 r w hr0 hc0 (by omega) h
end Go.Proofs.YtpomhjkbgbociaaDoor.P
end
section
namespace Go.Proofs.YtpomhjkbgbociaaDoor.P
open Go.RowKit Go.Proofs.YtpomhjkbgbociaaDoorW.PrintWords Go.Proofs.YtpomhjkbgbociaaDoorW.PrintLast Go.Proofs.YtpomhjkbgbociaaDoorW.PrintMore Go.Maps Go.ChangeMaps
set_option linter.unusedVariables false
set_option linter.unusedSimpArgs false
def impl_WorldOk.f (k : Nat) (l0 : List S32) : Option Bool := (impl_worldOf.f k l0).bind fun t => if t = true then some ((Maps.size (mapD l0) : Int) == (l0.length : Int)) else some false
set_option maxRecDepth 100000 in
theorem impl_WorldOk.calls (k : Nat) (A0 : Option Addr) (c0 : Nat) (l0 : List (S32)) (r : Bool) (w : World) (hr0 : Kd.C k32 w A0 l0.length l0) (hc0 : l0.length ≤ c0) (h : impl_WorldOk.f k l0 = some r) :
  Calls Tryd.prog 5 #[.slice A0 l0.length c0] w fun e w' => e = .returned (.bool r) ∧ Below w.heap.size w w' := by
 unfold impl_WorldOk.f at h
 obtain ⟨t, A, H⟩ := Option.bind_eq_some_iff.mp h
 clear h
 cases t with
 | false =>
  rw [if_neg (by decide)] at H
  obtain rfl := Option.some.inj H
  go_enter Tryd.func5, Tryd.ntmps5
  go_wp2_with (first | (go_at_call 13; refine (impl_worldOf.calls k A0 c0 l0 false _ hr0 hc0 A).mono ?_; rintro e w1 ⟨hb, h0, h1⟩; obtain rfl := h0 rfl; clear h0 h1; have HB := Aside0.mk hb; clear hb))
  go_ret
  exact ⟨rfl, HB.out⟩
 | true =>
  rw [if_pos rfl] at H
  obtain rfl := Option.some.inj H
  go_enter Tryd.func5, Tryd.ntmps5
  go_wp2_with (first | (go_at_call 13; refine (impl_worldOf.calls k A0 c0 l0 true _ hr0 hc0 A).mono ?_; rintro e w1 ⟨hb, h0, h1⟩; obtain ⟨b, _, _, rfl⟩ := h1 rfl; clear h0 h1; have HB := Aside0.mk hb; clear hb))
  go_ret
  exact ⟨rfl, HB.out⟩
end Go.Proofs.YtpomhjkbgbociaaDoor.P
end
section
namespace Go.Proofs.YtpomhjkbgbociaaDoor.P
open Go.RowKit Go.Proofs.YtpomhjkbgbociaaDoorW.PrintWords Go.Proofs.YtpomhjkbgbociaaDoorW.PrintLast Go.Proofs.YtpomhjkbgbociaaDoorW.PrintMore
attribute [local go_sem] max2_int min2_int max_two min_two max_three min_three max_four min_four
set_option linter.unusedVariables false
set_option linter.unusedSimpArgs false
set_option maxHeartbeats 8000000
set_option maxRecDepth 100000
mutual
def laws_FnWorldOk.j0 : Nat → List (S32) → Bool → Bool → Option (Bool)
 | 0, _, _, _ => none
 | k + 1, x3, x4, x22 => if x22 = true then ((spec_WorldOk.f k x3).bind fun t698 => (some (x4 == t698))) else (laws_FnWorldOk.l0 k x3 0)
def laws_FnWorldOk.l0 : Nat → List (S32) → Int → Option (Bool)
 | 0, _, _ => none
 | k + 1, x3, x5 => if x5 < (x3.length : Int) then (if 0 ≤ x5 then ((impl_AddrRead.f k ((rd_T32 x3 x5).f0)).bind fun bt700 => (if bt700.2.2.2.2 = true then ((impl_AddrText.f k bt700.1 bt700.2.1 bt700.2.2.1 bt700.2.2.2.1).bind fun t708 => (if t708.toList = ((rd_T32 x3 x5).f0).toList then (if x5 ≤ (x3.length : Int) then ((impl_WorldOk.f k (x3.drop (x5 : Int).toNat)).bind fun t714 => (if t714 = true then ((impl_WorldOk.f k (x3.take (x5 : Int).toNat)).bind fun t719 => (if t719 = true then (laws_FnWorldOk.l0 k x3 (wrap64 (x5 + 1))) else (some false))) else (some false))) else (none)) else (some false))) else (some false))) else (none)) else (some (decide ((x3.length : Int) ≤ 12)))
end
def laws_FnWorldOk.f (k : Nat) (l0 : List Int) : Option (Bool) := if (l0.length : Int) > 1048576 then (some true) else ((spec_DrawWorldOk.f k l0).bind fun t693 => ((impl_WorldOk.f k t693).bind fun t696 => ((spec_WorldOk.f k t693).bind fun t697 => (if (t696 != t697) = true then (laws_FnWorldOk.j0 k t693 t696 true) else (laws_FnWorldOk.j0 k t693 t696 (!t696))))))
def laws_FnWorldOk.T11 : Bool × List (List Nat × List Nat) := (true, [([], []), ([0], [0]), ([1], [1]), ([2], [2]), ([3, 2, 2], [2, 3]), ([2], [2]), ([2], [2]), ([5, 6, 2], [2, 5, 6]), ([7, 2], [2, 7]), ([8, 2], [2, 8]), ([4, 9, 2], [2, 4, 9]), ([2, 10], [2, 10]), ([11, 4], [11]), ([12], [12]), ([12], [12]), ([13, 14, 12], [12, 13, 14]), ([15, 12, 12], [12, 15]), ([16, 12], [12, 16]), ([12, 17], [12, 17]), ([18, 16], [18]), ([19], [19]), ([19], [19]), ([20, 21, 19], [19, 20, 21]), ([22, 19, 19], [19, 22]), ([23, 19], [19, 23]), ([19, 24], [19, 24])])
def laws_FnWorldOk.B11 : List Nat := [0, 1, 3, 7, 15, 7, 7, 103, 231, 487, 1023, 2047, 4095, 8191, 8191, 32767, 65535, 131071, 262143, 524287, 1048575, 1048575, 4194303, 8388607, 16777215, 33554431]
theorem laws_FnWorldOk.tab11 : rtab .any (opsOf Tryd.f3 11) = laws_FnWorldOk.T11 := by kernel_rfl
theorem laws_FnWorldOk.bits11 : waitsOk laws_FnWorldOk.T11.2 laws_FnWorldOk.B11 = true := by kernel_rfl
theorem laws_FnWorldOk.calls (k : Nat) (A0 : Option Addr) (c0 : Nat) (l0 : List Int) (r : Bool) (w : World) (hr0 : Kd.C (Kd.int .u8) w A0 l0.length l0) (hc0 : l0.length ≤ c0) (h : laws_FnWorldOk.f k l0 = some r) :
  Calls Tryd.prog 3 #[.slice A0 l0.length c0] w fun e w' => e = .returned (.bool r) ∧ Below w.heap.size w w' := by
 have hu28 := Tryd.underlying28;have HR0 := A_ hr0;have HC0 := A_ hc0;clear hr0 hc0;have HB := A_ (Below.refl w.heap.size w);unfold laws_FnWorldOk.f at h
 have H := h;clear h;replace H := iteE H;rcases H with ⟨c2, H⟩ | ⟨c2, H⟩
 ·have c2b0 := gtT c2
  have c2b1 : decide (1048576 < l0.length) = true := dT (by omega);clear c2;obtain rfl := sI H;go_enter Tryd.func3, Tryd.ntmps3;go_wp2
  go_ret
  exact ⟨zz11, (zz2 HB)⟩
 ·have c2b0 := gtF c2
  have c2b1 : decide (1048576 < l0.length) = false := dF (by omega);clear c2;replace H := bindA H;obtain ⟨t693, A3, H⟩ := H;replace H := bindA H;obtain ⟨t696, A4, H⟩ := H;have HC5 := A_ H;clear H;go_enter Tryd.func3, Tryd.ntmps3;go_upto_region 5 with (first | ((with_reducible refine gC (f := 4) rfl ?_); refine gsL (some 12) Tryd.func4 #[.slice A0 l0.length c0] ?_; (with_reducible refine mV (spec_DrawWorldOk.calls k _ _ l0 t693 _ ?side1 ?side2 A3.out) ?_); (case side1 => exact (zz33 HR0)); (case side2 => exact HC0.out); rintro v694 w6 ⟨ho0, hb⟩; have HO695 := A_ (Kd.R_lower ho0 (below_size (zz2 HB))); replace HB := A_ (bS (zz2 HB) hb); (try clear hb ho0); obtain ⟨Ao7, co7, eo7⟩ := Kd.R_slice HO695.out; subst eo7) | ((with_reducible refine gC (f := 5) rfl ?_); refine gsL (some 14) Tryd.func5 #[.slice Ao7 t693.length co7] ?_; (with_reducible refine mR (impl_WorldOk.calls k _ _ t693 t696 _ ?side1 ?side2 A4.out) ?_); (case side1 => exact (zz37 HO695)); (case side2 => exact (Kd.R_reads' HO695.out).2.1); rintro w8 hb; replace HO695 := A_ (rB (zz18 HO695) hb); replace HB := A_ (bS (zz2 HB) hb); (try clear hb)))
  (try simp only [Act.put, List.setIfInBounds_toArray, List.set_cons_zero, List.set_cons_succ])
  go_cut [22] (fun v22 wc => ∃ (kq : Nat) (x22_4 : Bool), v22 = .bool x22_4 ∧ Aside0 (laws_FnWorldOk.j0 kq t693 t696 x22_4 = some r) ∧ Aside0 (kq ≤ k) ∧ Aside0 (Kd.R k32 32 wc w.heap.size (fun _ => True) (.slice Ao7 t693.length co7) t693) ∧ Aside0 (Below w.heap.size w wc))
  case first =>
   obtain ⟨H⟩ := HC5;replace H := bindA H;obtain ⟨t697, A9, H⟩ := H;replace H := iteE H;rcases H with ⟨c10, H⟩ | ⟨c10, H⟩
   ·have c10b0 : (t696 != t697) = true := c10
    (try (have c10b1 : decide (t696 = t697) = false := by simpa using c10))
    (try (have c10b2 : (t696 == t697) = false := by simpa using c10))
    (try (have c10b3 : ¬ (t696 = t697) := by simpa using c10))
    clear c10;(first | rw [c10b0] | (simp only [i64_w, i32_w]; rw [c10b0]) | skip)
    have H' := A_ H;clear H;go_wp2_with (first | ((with_reducible refine gC (f := 6) rfl ?_); refine gsL (some 17) Tryd.func6 #[.slice Ao7 t693.length co7] ?_; (with_reducible refine mR (spec_WorldOk.calls k _ _ t693 t697 _ ?side1 ?side2 A9.out) ?_); (case side1 => exact (zz37 HO695)); (case side2 => exact (Kd.R_reads' HO695.out).2.1); rintro w11 hb; replace HO695 := A_ (rB (zz18 HO695) hb); replace HB := A_ (bS (zz2 HB) hb); (try clear hb)))
    go_meet
    case rel => exact ⟨_, (true), zz5, H', ⟨zz6⟩, ⟨(zz18 HO695)⟩, ⟨(zz2 HB)⟩⟩
   ·have c10b0 : (t696 != t697) = false := by simpa using c10
    (try (have c10b1 : decide (t696 = t697) = true := by simpa using c10))
    (try (have c10b2 : (t696 == t697) = true := by simpa using c10))
    clear c10;(first | rw [c10b0] | (simp only [i64_w, i32_w]; rw [c10b0]) | skip)
    have H' := A_ H;clear H;go_wp2_with (first | ((with_reducible refine gC (f := 6) rfl ?_); refine gsL (some 17) Tryd.func6 #[.slice Ao7 t693.length co7] ?_; (with_reducible refine mR (spec_WorldOk.calls k _ _ t693 t697 _ ?side1 ?side2 A9.out) ?_); (case side1 => exact (zz37 HO695)); (case side2 => exact (Kd.R_reads' HO695.out).2.1); rintro w12 hb; replace HO695 := A_ (rB (zz18 HO695) hb); replace HB := A_ (bS (zz2 HB) hb); (try clear hb)))
    go_meet
    case rel => exact ⟨_, (!t696), zz5, H', ⟨zz6⟩, ⟨(zz18 HO695)⟩, ⟨(zz2 HB)⟩⟩
  case rest =>
   clear HC5;obtain ⟨kq, x22_4, rfl, HA, HJ4, HO_3, HB⟩ := hcut;cases kq with
   | zero => exact absurd HA.out (by simp [laws_FnWorldOk.j0])
   | succ kj4 =>
    obtain ⟨H⟩ := HA;simp only [laws_FnWorldOk.j0] at H
    replace H := iteB H;rcases H with ⟨rfl, H⟩ | ⟨rfl, H⟩
    ·replace H := Option.bind_eq_some_iff.mp H
     obtain ⟨t698, A140, H⟩ := H;replace H : (some (t696 == t698)) = some r := H;have A14 := A_ A140;clear A140;obtain rfl := sI H;go_wp2_with (first | ((with_reducible refine gC (f := 6) rfl ?_); refine gsL (some 25) Tryd.func6 #[.slice Ao7 t693.length co7] ?_; (with_reducible refine mR (spec_WorldOk.calls kj4 _ _ t693 t698 _ ?side1 ?side2 A14.out) ?_); (case side1 => exact (zz37 HO_3)); (case side2 => exact (Kd.R_reads' HO_3.out).2.1); rintro w15 hb; replace HO_3 := A_ (rB (zz18 HO_3) hb); replace HB := A_ (bS (zz2 HB) hb); (try clear hb)))
     go_ret
     exact ⟨zz11, (zz2 HB)⟩
    ·have H' := A_ H
     clear H;go_wp2
     go_loopg [5] kj4 (fun kq v5 w' => ∃ (x5_2 : Int), v5 = .int .i64 x5_2 ∧ Aside0 (laws_FnWorldOk.l0 kq t693 x5_2 = some r) ∧ Aside0 (kq ≤ kj4) ∧ Aside0 (Kd.R k32 32 w' w.heap.size (fun _ => True) (.slice Ao7 t693.length co7) t693) ∧ Aside0 (Below w.heap.size w w'))
     case atStart => exact ⟨(0), zz5, H', ⟨Nat.le_refl _⟩, ⟨(zz18 HO_3)⟩, ⟨(zz2 HB)⟩⟩
     case round =>
      clear H';obtain ⟨x5_2, rfl, HA, HK2, HO_3, HB⟩ := hrel;cases gk with
      | zero => exact absurd HA.out (by simp [laws_FnWorldOk.l0])
      | succ k2 =>
       obtain ⟨H⟩ := HA;simp only [laws_FnWorldOk.l0] at H
       replace H := iteEd H;rcases H with ⟨c16b0, H⟩ | ⟨c16b0, H⟩
       ·replace H := iteNd H
        obtain ⟨c17b0, H⟩ := H;replace H := bindA H;obtain ⟨⟨t700, t701, t704, t705, t706⟩, A18, H⟩ := H;try dsimp only at H
        replace H := iteB H;rcases H with ⟨rfl, H⟩ | ⟨rfl, H⟩
        ·replace H := Option.bind_eq_some_iff.mp H
         obtain ⟨t708, A200, H⟩ := H;replace H : (if t708.toList = ((rd_T32 t693 x5_2).f0).toList then (if x5_2 ≤ (t693.length : Int) then ((impl_WorldOk.f k2 (t693.drop (x5_2 : Int).toNat)).bind fun t714 => (if t714 = true then ((impl_WorldOk.f k2 (t693.take (x5_2 : Int).toNat)).bind fun t719 => (if t719 = true then (laws_FnWorldOk.l0 k2 t693 (wrap64 (x5_2 + 1))) else (some false))) else (some false))) else (none)) else (some false)) = some r := H;have A20 := A_ A200;clear A200;replace H := iteEq H;rcases H with ⟨c21b0, c21b1, H⟩ | ⟨c21b0, c21b1, c21, H⟩
         ·have c22b0 := eq_true (ofD : 0 ≤ x5_2)
          replace H := iteN H;obtain ⟨c23, H⟩ := H;have c23b0 := eq_true c23;have c23b1 := dT c23;clear c23;obtain ⟨y710, Ny710⟩ := toY (t693.drop (x5_2 : Int).toNat);(first | with_reducible replace H := bindZ Ny710 H | rw [← Ny710.out] at H | skip)
          replace H := bindA H;obtain ⟨t714, A24, H⟩ := H;replace H := iteB H;rcases H with ⟨rfl, H⟩ | ⟨rfl, H⟩
          ·have c26b0 := eq_true (ofD : 0 ≤ x5_2)
           have c27b0 := eq_true (ofD : x5_2 ≤ (t693.length : Int));obtain ⟨y715, Ny715⟩ := toY (t693.take (x5_2 : Int).toNat);(first | with_reducible replace H := bindZ Ny715 H | rw [← Ny715.out] at H | skip)
           replace H := bindA H;obtain ⟨t719, A28, H⟩ := H;replace H := iteB H;rcases H with ⟨rfl, H⟩ | ⟨rfl, H⟩
           ·have H' := A_ H
            clear H;obtain ⟨⟨ad699, e699, hx699_0, hx699_1, hx699_2, hx699_3⟩, p699, q699⟩ := atB (at_T32 (Kd.R_reads' HO_3.out).2.2 x5_2);cases e699
            try go_wp2_with (first | ((with_reducible refine gC (f := 7) rfl ?_); refine gsL (some 39) Tryd.func7 #[.string ((rd_T32 t693 x5_2).f0)] ?_; (with_reducible refine mV (impl_AddrRead.calls k2 ((rd_T32 t693 x5_2).f0) t700 t701 t704 t705 true _ A18.out) ?_); rintro v702 w30 ⟨ho0, hb⟩; replace HO_3 := A_ (rB (zz18 HO_3) hb); have HO703 := A_ (Kd.R_lower ho0 (below_size (zz2 HB))); replace HB := A_ (bS (zz2 HB) hb); (try clear hb ho0)) | ((with_reducible refine gD (N := 6) rfl ?_); refine boxE 6 #[.string (⟨#[]⟩ : ByteArray), .slice none 0 0, .bool false, .string (⟨#[]⟩ : ByteArray)] 28 ?_; intro gb707 hg w31 hbox hb; replace HO_3 := A_ (rB (zz18 HO_3) hb); replace HO703 := A_ (rB (zz18 HO703) hb); have BK707 := A_ (hbox); have GE707 := geB hg (zz2 HB); replace HB := A_ (bS (zz2 HB) hb); clear hb hbox hg; obtain ⟨_, _, _, _, _, _, _, _⟩ := cf4 BK707; obtain ⟨Ao33, co33, eo33⟩ := Kd.R_slice HO703.out; subst eo33))
            have n0_ : Aside0 (Kd.R k32 32 ((((w31.setCell ⟨gb707, 0, none⟩ (.string t700)).setCell ⟨gb707, 1, none⟩ (.slice Ao33 t701.length co33)).setCell ⟨gb707, 2, none⟩ (.bool t704)).setCell ⟨gb707, 3, none⟩ (.string t705)) w.heap.size (fun _ => True) (.slice (some ad699) t693.length co7) t693) := ⟨(zz50 (rt HO_3 BK707))⟩;have n1_ : Aside0 (Kd.R Kd.string 9 ((((w31.setCell ⟨gb707, 0, none⟩ (.string t700)).setCell ⟨gb707, 1, none⟩ (.slice Ao33 t701.length co33)).setCell ⟨gb707, 2, none⟩ (.bool t704)).setCell ⟨gb707, 3, none⟩ (.string t705)) w.heap.size (fun _ => True) (.slice Ao33 t701.length co33) t701) := ⟨(zz50 (rt HO703 BK707))⟩;have n2_ : Aside0 (((((w31.setCell ⟨gb707, 0, none⟩ (.string t700)).setCell ⟨gb707, 1, none⟩ (.slice Ao33 t701.length co33)).setCell ⟨gb707, 2, none⟩ (.bool t704)).setCell ⟨gb707, 3, none⟩ (.string t705)).heap[gb707]? = some (.cells #[.string t700, .slice Ao33 t701.length co33, .bool t704, .string t705] 28 (0, 0))) := ⟨(zz71 BK707)⟩;have n3_ : Aside0 (Below w.heap.size w ((((w31.setCell ⟨gb707, 0, none⟩ (.string t700)).setCell ⟨gb707, 1, none⟩ (.slice Ao33 t701.length co33)).setCell ⟨gb707, 2, none⟩ (.bool t704)).setCell ⟨gb707, 3, none⟩ (.string t705))) := ⟨(zz4 HB GE707)⟩;(try clear HO_3)
            (try clear HO703)
            (try clear BK707)
            (try clear HB)
            generalize ((((w31.setCell ⟨gb707, 0, none⟩ (.string t700)).setCell ⟨gb707, 1, none⟩ (.slice Ao33 t701.length co33)).setCell ⟨gb707, 2, none⟩ (.bool t704)).setCell ⟨gb707, 3, none⟩ (.string t705)) = w34 at n0_ n1_ n2_ n3_ ⊢;have HO_3 := n0_;have HO703 := n1_;have BK707 := n2_;have HB := n3_;clear n0_ n1_ n2_ n3_;replace HO_3 := A_ (Kd.R_drew HO_3.out);replace HO703 := A_ (Kd.R_drew HO703.out);replace BK707 := A_ (blk_drew BK707.out);replace HB := A_ (below_drew1 HB.out);obtain ⟨⟨ad709, e709, hx709_0, hx709_1, hx709_2, hx709_3⟩, p709, q709⟩ := atB (at_T32 (Kd.R_reads' HO_3.out).2.2 x5_2);obtain rfl : ad699 = ad709 := (by injection e709);refine start_ (n := 26) (S := fun w' => w'.cell? ⟨gb707, 0, none⟩ = some (.string t700) ∧ w'.cell? ⟨gb707, 1, none⟩ = some (.slice Ao33 t701.length co33) ∧ w'.cell? ⟨gb707, 2, none⟩ = some (.bool t704) ∧ w'.cell? ⟨gb707, 3, none⟩ = some (.string t705) ∧ w'.cell? (ad699.add ((x5_2).toNat * 4)) = some (.string ((rd_T32 t693 x5_2).f0)) ∧ w'.cell? ⟨(ad699.add ((x5_2).toNat * 4)).block, (ad699.add ((x5_2).toNat * 4)).off + 1, none⟩ = some (.string ((rd_T32 t693 x5_2).f1)) ∧ w'.cell? ⟨(ad699.add ((x5_2).toNat * 4)).block, (ad699.add ((x5_2).toNat * 4)).off + 2, none⟩ = some (.string ((rd_T32 t693 x5_2).f2)) ∧ w'.cell? ⟨(ad699.add ((x5_2).toNat * 4)).block, (ad699.add ((x5_2).toNat * 4)).off + 3, none⟩ = some (.int .i64 ((rd_T32 t693 x5_2).f3))) (ds := []) #[false, false, false, false, false, false, false, false, false, false, false, false, false, false, false, false, false, false, false, false, false, false, false, false, false, false] (by kernel_rfl) rfl rfl ⟨(blk_cell BK707.out 0).trans rfl, (blk_cell BK707.out 1).trans rfl, (blk_cell BK707.out 2).trans rfl, (blk_cell BK707.out 3).trans rfl, hx709_0, hx709_1, hx709_2, hx709_3⟩ (fun hHeld => ?_); refine with_tabW laws_FnWorldOk.tab11 laws_FnWorldOk.bits11 (fun HT_ HW_ => ?_);generalize w34.drew = w35 at HO_3 HO703 BK707 HB hx709_0 hx709_1 hx709_2 hx709_3 hHeld ⊢;refine pureZ 0 (some 42) #[true, false, false, false, false, false, false, false, false, false, false, false, false, false, false, false, false, false, false, false, false, false, false, false, false, false] ?_;refine pureZ 1 (some 43) #[true, true, false, false, false, false, false, false, false, false, false, false, false, false, false, false, false, false, false, false, false, false, false, false, false, false] ?_;refine pureZ 2 (some 44) #[true, true, true, false, false, false, false, false, false, false, false, false, false, false, false, false, false, false, false, false, false, false, false, false, false, false] ?_;refine pureZ 5 (some 47) #[true, true, true, false, false, true, false, false, false, false, false, false, false, false, false, false, false, false, false, false, false, false, false, false, false, false] ?_;refine pureZ 6 (some 48) #[true, true, true, false, false, true, true, false, false, false, false, false, false, false, false, false, false, false, false, false, false, false, false, false, false, false] ?_;refine pureZ 7 (some 49) #[true, true, true, false, false, true, true, true, false, false, false, false, false, false, false, false, false, false, false, false, false, false, false, false, false, false] ?_;refine pureZ 8 (some 50) #[true, true, true, false, false, true, true, true, true, false, false, false, false, false, false, false, false, false, false, false, false, false, false, false, false, false] ?_;refine takeZ8 3 (some 45) #[true, true, true, true, false, true, true, true, true, false, false, false, false, false, false, false, false, false, false, false, false, false, false, false, false, false] hHeld ?_;refine takeZ8 9 (some 51) #[true, true, true, true, false, true, true, true, true, true, false, false, false, false, false, false, false, false, false, false, false, false, false, false, false, false] hHeld ?_;refine one_ (i := 4) (N := some 46) #[true, true, true, true, true, true, true, true, true, true, false, false, false, false, false, false, false, false, false, false, false, false, false, false, false, false] rfl rfl (one_of HT_.out (by kernel_rfl)) (by decide) (fun K hK => ?_);refine goes_ Tryd.func8 (by kernel_rfl) rfl #[.agg #[.string t700, .slice Ao33 t701.length co33, .bool t704, .string t705]] (by rfl) rfl rfl zz17 ?_;with_reducible refine (impl_AddrText.calls k2 t700 _ _ t701 t704 t705 t708 _ ?side1 ?side2 A20.out).mono ?_
            (case side1 => exact (zz37 HO703))
            (case side2 => exact (Kd.R_reads' HO703.out).2.1)
            rintro e w36 ⟨rfl, hb⟩;have HS4_ := (hb.cell (World.block_lt_of_cell? _ _ (hHeld.2.2.2.2.1))).trans (hHeld.2.2.2.2.1);have HS5_ := (hb.cell (World.block_lt_of_cell? _ _ (hHeld.2.2.2.2.2.1))).trans (hHeld.2.2.2.2.2.1);have HS6_ := (hb.cell (World.block_lt_of_cell? _ _ (hHeld.2.2.2.2.2.2.1))).trans (hHeld.2.2.2.2.2.2.1);have HS7_ := (hb.cell (World.block_lt_of_cell? _ _ (hHeld.2.2.2.2.2.2.2))).trans (hHeld.2.2.2.2.2.2.2);refine ⟨_, rfl, ?_⟩;replace HO_3 := A_ (rB (zz18 HO_3) hb);replace HO703 := A_ (rB (zz18 HO703) hb);replace BK707 := A_ (bB (zz3 BK707) hb);replace HB := A_ (bS (zz4 HB GE707) hb);(try clear hb)
            (try clear hb2)
            (try clear hk)
            (try clear hi)
            have q37 : (x5_2 : Int) ≤ ((t693.length : Int) : Int) := ofD;obtain ⟨i037, hi037, _, hsz37, _⟩ := info_parts info32;have hroom37 : t693.length ≤ co7 := (Kd.R_reads' HO_3.out).2.1;have hC37 : Kd.C k32 _ (some ad699) t693.length t693 := (Kd.R_reads' HO_3.out).2.2;have q037 : (0 : Int) ≤ (x5_2 : Int) := ofD;have hcut37 := cut_from (P := Tryd.prog) 23 32 .i64 Tryd.underlying23 hi037 4 hsz37 (some ad699) t693.length co7 x5_2 q037 q37;have hr37 := Kd.C_drop (m := (x5_2 : Int).toNat) (c := co7) hC37 (by omega) hroom37;obtain ⟨A37, hA37⟩ : ∃ A1, A1 = (if co7 = (x5_2 : Int).toNat then (some ad699) else ((some ad699) : Option Addr).map (·.add ((x5_2 : Int).toNat * 4))) := ⟨_, rfl⟩;obtain ⟨c37, hc37⟩ : ∃ c1, c1 = co7 - (x5_2 : Int).toNat := ⟨_, rfl⟩;have hy37 : y710.length = t693.length - (x5_2 : Int).toNat := (by rw [Ny710.out, List.length_drop] <;> omega);rw [show (t693).drop (x5_2 : Int).toNat = y710 from Ny710.out.symm] at hr37;replace hr37 : Kd.C k32 _ A37 y710.length y710 := (by rw [hA37]; exact hr37);rw [← hy37, ← hA37, ← hc37] at hcut37;have HR713 := A_ hr37;have HC713 := A_ (show y710.length ≤ c37 from (by rw [hy37, hc37]; exact Nat.sub_le_sub_right hroom37 _));clear hr37 hC37 hroom37 hi037 hsz37 hc37;have KY37 := A_ hy37;have KA37 := A_ hA37;clear hy37 hA37;have KL37 := A_ (show (x5_2 : Int).toNat ≤ t693.length from by omega);replace q37 := eq_true q37;refine hK.out _ _ ⟨(blk_cell BK707.out 0).trans rfl, (blk_cell BK707.out 1).trans rfl, (blk_cell BK707.out 2).trans rfl, (blk_cell BK707.out 3).trans rfl, HS4_, HS5_, HS6_, HS7_⟩ (fun hHeld => ?_);clear hK K;refine norm_ (a' := ?_) ?_ ?_;rotate_left
            ·show Act.put _ (some 46) _ = _
             simp only [Act.put, List.setIfInBounds_toArray, List.set_cons_zero, List.set_cons_succ, i64_w, i32_w]
             rfl
            refine pureZ 10 (some 52) #[true, true, true, true, true, true, true, true, true, true, true, false, false, false, false, false, false, false, false, false, false, false, false, false, false, false] ?_;refine pureZ 11 (some 53) #[true, true, true, true, true, true, true, true, true, true, true, true, false, false, false, false, false, false, false, false, false, false, false, false, false, false] ?_;refine pureZ 12 (some 54) #[true, true, true, true, true, true, true, true, true, true, true, true, true, false, false, false, false, false, false, false, false, false, false, false, false, false] ?_;refine pureZ 13 (some 55) #[true, true, true, true, true, true, true, true, true, true, true, true, true, true, false, false, false, false, false, false, false, false, false, false, false, false] ?_;refine pureZ 14 (some 56) #[true, true, true, true, true, true, true, true, true, true, true, true, true, true, true, false, false, false, false, false, false, false, false, false, false, false] ?_;refine pureZ 15 (some 57) #[true, true, true, true, true, true, true, true, true, true, true, true, true, true, true, true, false, false, false, false, false, false, false, false, false, false] ?_;refine one_ (i := 16) (N := some 58) #[true, true, true, true, true, true, true, true, true, true, true, true, true, true, true, true, true, false, false, false, false, false, false, false, false, false] rfl rfl (one_of HT_.out (by kernel_rfl)) (by decide) (fun K hK => ?_);refine goes_ Tryd.func5 (by kernel_rfl) rfl #[.slice A37 y710.length c37] (by rfl) rfl rfl zz17 ?_;with_reducible refine (impl_WorldOk.calls k2 _ _ y710 true _ ?side1 ?side2 A24.out).mono ?_
            (case side1 => exact zz198)
            (case side2 => exact HC713.out)
            rintro e w38 ⟨rfl, hb⟩;have HS4_ := (hb.cell (World.block_lt_of_cell? _ _ (hHeld.2.2.2.2.1))).trans (hHeld.2.2.2.2.1);have HS5_ := (hb.cell (World.block_lt_of_cell? _ _ (hHeld.2.2.2.2.2.1))).trans (hHeld.2.2.2.2.2.1);have HS6_ := (hb.cell (World.block_lt_of_cell? _ _ (hHeld.2.2.2.2.2.2.1))).trans (hHeld.2.2.2.2.2.2.1);have HS7_ := (hb.cell (World.block_lt_of_cell? _ _ (hHeld.2.2.2.2.2.2.2))).trans (hHeld.2.2.2.2.2.2.2);refine ⟨_, rfl, ?_⟩;replace HO_3 := A_ (rB (zz18 HO_3) hb);replace HO703 := A_ (rB (zz18 HO703) hb);replace BK707 := A_ (bB (zz3 BK707) hb);replace HR713 := A_ (Kd.C_below (zz197 HR713) hb);replace HB := A_ (bS (zz4 HB GE707) hb);(try clear hb)
            (try clear hb2)
            (try clear hk)
            (try clear hi)
            have q39 : (x5_2 : Int) ≤ ((t693.length : Int) : Int) := ofD;obtain ⟨i039, hi039, _, hsz39, _⟩ := info_parts info32;have hroom39 : t693.length ≤ co7 := (Kd.R_reads' HO_3.out).2.1;have hC39 : Kd.C k32 _ (some ad699) t693.length t693 := (Kd.R_reads' HO_3.out).2.2;have hcut39 := cut_to (P := Tryd.prog) 23 32 .i64 Tryd.underlying23 hi039 (some ad699) t693.length co7 x5_2 ofD q39 hroom39;have hr39 := Kd.C_take (m := (x5_2 : Int).toNat) hC39 (by omega);have hy39 : y715.length = (x5_2 : Int).toNat := (zz157 Ny715);rw [← Ny715.out] at hr39;rw [← hy39] at hcut39;have HR718 := A_ hr39;have HC718 := A_ (show y715.length ≤ co7 from by omega);clear hr39 hC39 hroom39 hi039 hsz39;have KY39 := A_ hy39;clear hy39;have KL39 := A_ (show (x5_2 : Int).toNat ≤ t693.length from by omega);replace q39 := eq_true q39;refine hK.out _ _ ⟨(blk_cell BK707.out 0).trans rfl, (blk_cell BK707.out 1).trans rfl, (blk_cell BK707.out 2).trans rfl, (blk_cell BK707.out 3).trans rfl, HS4_, HS5_, HS6_, HS7_⟩ (fun hHeld => ?_);clear hK K;refine norm_ (a' := ?_) ?_ ?_;rotate_left
            ·show Act.put _ (some 58) _ = _
             simp only [Act.put, List.setIfInBounds_toArray, List.set_cons_zero, List.set_cons_succ, i64_w, i32_w]
             rfl
            refine pureZ 17 (some 59) #[true, true, true, true, true, true, true, true, true, true, true, true, true, true, true, true, true, true, false, false, false, false, false, false, false, false] ?_;refine pureZ 18 (some 60) #[true, true, true, true, true, true, true, true, true, true, true, true, true, true, true, true, true, true, true, false, false, false, false, false, false, false] ?_;refine pureZ 19 (some 61) #[true, true, true, true, true, true, true, true, true, true, true, true, true, true, true, true, true, true, true, true, false, false, false, false, false, false] ?_;refine pureZ 20 (some 62) #[true, true, true, true, true, true, true, true, true, true, true, true, true, true, true, true, true, true, true, true, true, false, false, false, false, false] ?_;refine pureZ 21 (some 63) #[true, true, true, true, true, true, true, true, true, true, true, true, true, true, true, true, true, true, true, true, true, true, false, false, false, false] ?_;refine pureZ 22 (some 64) #[true, true, true, true, true, true, true, true, true, true, true, true, true, true, true, true, true, true, true, true, true, true, true, false, false, false] ?_;refine one_ (i := 23) (N := some 65) #[true, true, true, true, true, true, true, true, true, true, true, true, true, true, true, true, true, true, true, true, true, true, true, true, false, false] rfl rfl (one_of HT_.out (by kernel_rfl)) (by decide) (fun K hK => ?_);refine goes_ Tryd.func5 (by kernel_rfl) rfl #[.slice (some ad699) y715.length co7] (by rfl) rfl rfl zz17 ?_;with_reducible refine (impl_WorldOk.calls k2 _ _ y715 true _ ?side1 ?side2 A28.out).mono ?_
            (case side1 => exact zz199)
            (case side2 => exact HC718.out)
            rintro e w40 ⟨rfl, hb⟩;have HS4_ := (hb.cell (World.block_lt_of_cell? _ _ (hHeld.2.2.2.2.1))).trans (hHeld.2.2.2.2.1);have HS5_ := (hb.cell (World.block_lt_of_cell? _ _ (hHeld.2.2.2.2.2.1))).trans (hHeld.2.2.2.2.2.1);have HS6_ := (hb.cell (World.block_lt_of_cell? _ _ (hHeld.2.2.2.2.2.2.1))).trans (hHeld.2.2.2.2.2.2.1);have HS7_ := (hb.cell (World.block_lt_of_cell? _ _ (hHeld.2.2.2.2.2.2.2))).trans (hHeld.2.2.2.2.2.2.2);refine ⟨_, rfl, ?_⟩;replace HO_3 := A_ (rB (zz18 HO_3) hb);replace HO703 := A_ (rB (zz18 HO703) hb);replace BK707 := A_ (bB (zz3 BK707) hb);replace HR713 := A_ (Kd.C_below (zz197 HR713) hb);replace HR718 := A_ (Kd.C_below (zz197 HR718) hb);replace HB := A_ (bS (zz4 HB GE707) hb);(try clear hb)
            (try clear hb2)
            (try clear hk)
            (try clear hi)
            refine hK.out _ _ ⟨(blk_cell BK707.out 0).trans rfl, (blk_cell BK707.out 1).trans rfl, (blk_cell BK707.out 2).trans rfl, (blk_cell BK707.out 3).trans rfl, HS4_, HS5_, HS6_, HS7_⟩ (fun hHeld => ?_);clear hK K;refine norm_ (a' := ?_) ?_ ?_;rotate_left
            ·show Act.put _ (some 65) _ = _
             simp only [Act.put, List.setIfInBounds_toArray, List.set_cons_zero, List.set_cons_succ, i64_w, i32_w]
             rfl
            refine pureZ 24 (some 66) #[true, true, true, true, true, true, true, true, true, true, true, true, true, true, true, true, true, true, true, true, true, true, true, true, true, false] ?_;refine pureZ 25 (some 67) #[true, true, true, true, true, true, true, true, true, true, true, true, true, true, true, true, true, true, true, true, true, true, true, true, true, true] ?_;refine done_ (done_of HT_.out (by kernel_rfl)) ?_;try go_wp2
            go_roundg k2
            case measure => have := HJ4.out; have := HK2.out; omega
            case rel => exact ⟨(wrap64 (x5_2 + 1)), zz5, H', ⟨(zz24 HJ4 HK2)⟩, ⟨(zz18 HO_3)⟩, ⟨(zz4 HB GE707)⟩⟩
           ·obtain rfl := sI H
            obtain ⟨⟨ad699, e699, hx699_0, hx699_1, hx699_2, hx699_3⟩, p699, q699⟩ := atB (at_T32 (Kd.R_reads' HO_3.out).2.2 x5_2);cases e699
            try go_wp2_with (first | ((with_reducible refine gC (f := 7) rfl ?_); refine gsL (some 39) Tryd.func7 #[.string ((rd_T32 t693 x5_2).f0)] ?_; (with_reducible refine mV (impl_AddrRead.calls k2 ((rd_T32 t693 x5_2).f0) t700 t701 t704 t705 true _ A18.out) ?_); rintro v702 w41 ⟨ho0, hb⟩; replace HO_3 := A_ (rB (zz18 HO_3) hb); have HO703 := A_ (Kd.R_lower ho0 (below_size (zz2 HB))); replace HB := A_ (bS (zz2 HB) hb); (try clear hb ho0)) | ((with_reducible refine gD (N := 6) rfl ?_); refine boxE 6 #[.string (⟨#[]⟩ : ByteArray), .slice none 0 0, .bool false, .string (⟨#[]⟩ : ByteArray)] 28 ?_; intro gb707 hg w42 hbox hb; replace HO_3 := A_ (rB (zz18 HO_3) hb); replace HO703 := A_ (rB (zz18 HO703) hb); have BK707 := A_ (hbox); have GE707 := geB hg (zz2 HB); replace HB := A_ (bS (zz2 HB) hb); clear hb hbox hg; obtain ⟨_, _, _, _, _, _, _, _⟩ := cf4 BK707; obtain ⟨Ao44, co44, eo44⟩ := Kd.R_slice HO703.out; subst eo44))
            have n0_ : Aside0 (Kd.R k32 32 ((((w42.setCell ⟨gb707, 0, none⟩ (.string t700)).setCell ⟨gb707, 1, none⟩ (.slice Ao44 t701.length co44)).setCell ⟨gb707, 2, none⟩ (.bool t704)).setCell ⟨gb707, 3, none⟩ (.string t705)) w.heap.size (fun _ => True) (.slice (some ad699) t693.length co7) t693) := ⟨(zz50 (rt HO_3 BK707))⟩;have n1_ : Aside0 (Kd.R Kd.string 9 ((((w42.setCell ⟨gb707, 0, none⟩ (.string t700)).setCell ⟨gb707, 1, none⟩ (.slice Ao44 t701.length co44)).setCell ⟨gb707, 2, none⟩ (.bool t704)).setCell ⟨gb707, 3, none⟩ (.string t705)) w.heap.size (fun _ => True) (.slice Ao44 t701.length co44) t701) := ⟨(zz50 (rt HO703 BK707))⟩;have n2_ : Aside0 (((((w42.setCell ⟨gb707, 0, none⟩ (.string t700)).setCell ⟨gb707, 1, none⟩ (.slice Ao44 t701.length co44)).setCell ⟨gb707, 2, none⟩ (.bool t704)).setCell ⟨gb707, 3, none⟩ (.string t705)).heap[gb707]? = some (.cells #[.string t700, .slice Ao44 t701.length co44, .bool t704, .string t705] 28 (0, 0))) := ⟨(zz71 BK707)⟩;have n3_ : Aside0 (Below w.heap.size w ((((w42.setCell ⟨gb707, 0, none⟩ (.string t700)).setCell ⟨gb707, 1, none⟩ (.slice Ao44 t701.length co44)).setCell ⟨gb707, 2, none⟩ (.bool t704)).setCell ⟨gb707, 3, none⟩ (.string t705))) := ⟨(zz4 HB GE707)⟩;(try clear HO_3)
            (try clear HO703)
            (try clear BK707)
            (try clear HB)
            generalize ((((w42.setCell ⟨gb707, 0, none⟩ (.string t700)).setCell ⟨gb707, 1, none⟩ (.slice Ao44 t701.length co44)).setCell ⟨gb707, 2, none⟩ (.bool t704)).setCell ⟨gb707, 3, none⟩ (.string t705)) = w45 at n0_ n1_ n2_ n3_ ⊢;have HO_3 := n0_;have HO703 := n1_;have BK707 := n2_;have HB := n3_;clear n0_ n1_ n2_ n3_;replace HO_3 := A_ (Kd.R_drew HO_3.out);replace HO703 := A_ (Kd.R_drew HO703.out);replace BK707 := A_ (blk_drew BK707.out);replace HB := A_ (below_drew1 HB.out);obtain ⟨⟨ad709, e709, hx709_0, hx709_1, hx709_2, hx709_3⟩, p709, q709⟩ := atB (at_T32 (Kd.R_reads' HO_3.out).2.2 x5_2);obtain rfl : ad699 = ad709 := (by injection e709);refine start_ (n := 26) (S := fun w' => w'.cell? ⟨gb707, 0, none⟩ = some (.string t700) ∧ w'.cell? ⟨gb707, 1, none⟩ = some (.slice Ao44 t701.length co44) ∧ w'.cell? ⟨gb707, 2, none⟩ = some (.bool t704) ∧ w'.cell? ⟨gb707, 3, none⟩ = some (.string t705) ∧ w'.cell? (ad699.add ((x5_2).toNat * 4)) = some (.string ((rd_T32 t693 x5_2).f0)) ∧ w'.cell? ⟨(ad699.add ((x5_2).toNat * 4)).block, (ad699.add ((x5_2).toNat * 4)).off + 1, none⟩ = some (.string ((rd_T32 t693 x5_2).f1)) ∧ w'.cell? ⟨(ad699.add ((x5_2).toNat * 4)).block, (ad699.add ((x5_2).toNat * 4)).off + 2, none⟩ = some (.string ((rd_T32 t693 x5_2).f2)) ∧ w'.cell? ⟨(ad699.add ((x5_2).toNat * 4)).block, (ad699.add ((x5_2).toNat * 4)).off + 3, none⟩ = some (.int .i64 ((rd_T32 t693 x5_2).f3))) (ds := []) #[false, false, false, false, false, false, false, false, false, false, false, false, false, false, false, false, false, false, false, false, false, false, false, false, false, false] (by kernel_rfl) rfl rfl ⟨(blk_cell BK707.out 0).trans rfl, (blk_cell BK707.out 1).trans rfl, (blk_cell BK707.out 2).trans rfl, (blk_cell BK707.out 3).trans rfl, hx709_0, hx709_1, hx709_2, hx709_3⟩ (fun hHeld => ?_); refine with_tabW laws_FnWorldOk.tab11 laws_FnWorldOk.bits11 (fun HT_ HW_ => ?_);generalize w45.drew = w46 at HO_3 HO703 BK707 HB hx709_0 hx709_1 hx709_2 hx709_3 hHeld ⊢;refine pureZ 0 (some 42) #[true, false, false, false, false, false, false, false, false, false, false, false, false, false, false, false, false, false, false, false, false, false, false, false, false, false] ?_;refine pureZ 1 (some 43) #[true, true, false, false, false, false, false, false, false, false, false, false, false, false, false, false, false, false, false, false, false, false, false, false, false, false] ?_;refine pureZ 2 (some 44) #[true, true, true, false, false, false, false, false, false, false, false, false, false, false, false, false, false, false, false, false, false, false, false, false, false, false] ?_;refine pureZ 5 (some 47) #[true, true, true, false, false, true, false, false, false, false, false, false, false, false, false, false, false, false, false, false, false, false, false, false, false, false] ?_;refine pureZ 6 (some 48) #[true, true, true, false, false, true, true, false, false, false, false, false, false, false, false, false, false, false, false, false, false, false, false, false, false, false] ?_;refine pureZ 7 (some 49) #[true, true, true, false, false, true, true, true, false, false, false, false, false, false, false, false, false, false, false, false, false, false, false, false, false, false] ?_;refine pureZ 8 (some 50) #[true, true, true, false, false, true, true, true, true, false, false, false, false, false, false, false, false, false, false, false, false, false, false, false, false, false] ?_;refine takeZ8 3 (some 45) #[true, true, true, true, false, true, true, true, true, false, false, false, false, false, false, false, false, false, false, false, false, false, false, false, false, false] hHeld ?_;refine takeZ8 9 (some 51) #[true, true, true, true, false, true, true, true, true, true, false, false, false, false, false, false, false, false, false, false, false, false, false, false, false, false] hHeld ?_;refine one_ (i := 4) (N := some 46) #[true, true, true, true, true, true, true, true, true, true, false, false, false, false, false, false, false, false, false, false, false, false, false, false, false, false] rfl rfl (one_of HT_.out (by kernel_rfl)) (by decide) (fun K hK => ?_);refine goes_ Tryd.func8 (by kernel_rfl) rfl #[.agg #[.string t700, .slice Ao44 t701.length co44, .bool t704, .string t705]] (by rfl) rfl rfl zz17 ?_;with_reducible refine (impl_AddrText.calls k2 t700 _ _ t701 t704 t705 t708 _ ?side1 ?side2 A20.out).mono ?_
            (case side1 => exact (zz37 HO703))
            (case side2 => exact (Kd.R_reads' HO703.out).2.1)
            rintro e w47 ⟨rfl, hb⟩;have HS4_ := (hb.cell (World.block_lt_of_cell? _ _ (hHeld.2.2.2.2.1))).trans (hHeld.2.2.2.2.1);have HS5_ := (hb.cell (World.block_lt_of_cell? _ _ (hHeld.2.2.2.2.2.1))).trans (hHeld.2.2.2.2.2.1);have HS6_ := (hb.cell (World.block_lt_of_cell? _ _ (hHeld.2.2.2.2.2.2.1))).trans (hHeld.2.2.2.2.2.2.1);have HS7_ := (hb.cell (World.block_lt_of_cell? _ _ (hHeld.2.2.2.2.2.2.2))).trans (hHeld.2.2.2.2.2.2.2);refine ⟨_, rfl, ?_⟩;replace HO_3 := A_ (rB (zz18 HO_3) hb);replace HO703 := A_ (rB (zz18 HO703) hb);replace BK707 := A_ (bB (zz3 BK707) hb);replace HB := A_ (bS (zz4 HB GE707) hb);(try clear hb)
            (try clear hb2)
            (try clear hk)
            (try clear hi)
            have q48 : (x5_2 : Int) ≤ ((t693.length : Int) : Int) := ofD;obtain ⟨i048, hi048, _, hsz48, _⟩ := info_parts info32;have hroom48 : t693.length ≤ co7 := (Kd.R_reads' HO_3.out).2.1;have hC48 : Kd.C k32 _ (some ad699) t693.length t693 := (Kd.R_reads' HO_3.out).2.2;have q048 : (0 : Int) ≤ (x5_2 : Int) := ofD;have hcut48 := cut_from (P := Tryd.prog) 23 32 .i64 Tryd.underlying23 hi048 4 hsz48 (some ad699) t693.length co7 x5_2 q048 q48;have hr48 := Kd.C_drop (m := (x5_2 : Int).toNat) (c := co7) hC48 (by omega) hroom48;obtain ⟨A48, hA48⟩ : ∃ A1, A1 = (if co7 = (x5_2 : Int).toNat then (some ad699) else ((some ad699) : Option Addr).map (·.add ((x5_2 : Int).toNat * 4))) := ⟨_, rfl⟩;obtain ⟨c48, hc48⟩ : ∃ c1, c1 = co7 - (x5_2 : Int).toNat := ⟨_, rfl⟩;have hy48 : y710.length = t693.length - (x5_2 : Int).toNat := (by rw [Ny710.out, List.length_drop] <;> omega);rw [show (t693).drop (x5_2 : Int).toNat = y710 from Ny710.out.symm] at hr48;replace hr48 : Kd.C k32 _ A48 y710.length y710 := (by rw [hA48]; exact hr48);rw [← hy48, ← hA48, ← hc48] at hcut48;have HR713 := A_ hr48;have HC713 := A_ (show y710.length ≤ c48 from (by rw [hy48, hc48]; exact Nat.sub_le_sub_right hroom48 _));clear hr48 hC48 hroom48 hi048 hsz48 hc48;have KY48 := A_ hy48;have KA48 := A_ hA48;clear hy48 hA48;have KL48 := A_ (show (x5_2 : Int).toNat ≤ t693.length from by omega);replace q48 := eq_true q48;refine hK.out _ _ ⟨(blk_cell BK707.out 0).trans rfl, (blk_cell BK707.out 1).trans rfl, (blk_cell BK707.out 2).trans rfl, (blk_cell BK707.out 3).trans rfl, HS4_, HS5_, HS6_, HS7_⟩ (fun hHeld => ?_);clear hK K;refine norm_ (a' := ?_) ?_ ?_;rotate_left
            ·show Act.put _ (some 46) _ = _
             simp only [Act.put, List.setIfInBounds_toArray, List.set_cons_zero, List.set_cons_succ, i64_w, i32_w]
             rfl
            refine pureZ 10 (some 52) #[true, true, true, true, true, true, true, true, true, true, true, false, false, false, false, false, false, false, false, false, false, false, false, false, false, false] ?_;refine pureZ 11 (some 53) #[true, true, true, true, true, true, true, true, true, true, true, true, false, false, false, false, false, false, false, false, false, false, false, false, false, false] ?_;refine pureZ 12 (some 54) #[true, true, true, true, true, true, true, true, true, true, true, true, true, false, false, false, false, false, false, false, false, false, false, false, false, false] ?_;refine pureZ 13 (some 55) #[true, true, true, true, true, true, true, true, true, true, true, true, true, true, false, false, false, false, false, false, false, false, false, false, false, false] ?_;refine pureZ 14 (some 56) #[true, true, true, true, true, true, true, true, true, true, true, true, true, true, true, false, false, false, false, false, false, false, false, false, false, false] ?_;refine pureZ 15 (some 57) #[true, true, true, true, true, true, true, true, true, true, true, true, true, true, true, true, false, false, false, false, false, false, false, false, false, false] ?_;refine one_ (i := 16) (N := some 58) #[true, true, true, true, true, true, true, true, true, true, true, true, true, true, true, true, true, false, false, false, false, false, false, false, false, false] rfl rfl (one_of HT_.out (by kernel_rfl)) (by decide) (fun K hK => ?_);refine goes_ Tryd.func5 (by kernel_rfl) rfl #[.slice A48 y710.length c48] (by rfl) rfl rfl zz17 ?_;with_reducible refine (impl_WorldOk.calls k2 _ _ y710 true _ ?side1 ?side2 A24.out).mono ?_
            (case side1 => exact zz198)
            (case side2 => exact HC713.out)
            rintro e w49 ⟨rfl, hb⟩;have HS4_ := (hb.cell (World.block_lt_of_cell? _ _ (hHeld.2.2.2.2.1))).trans (hHeld.2.2.2.2.1);have HS5_ := (hb.cell (World.block_lt_of_cell? _ _ (hHeld.2.2.2.2.2.1))).trans (hHeld.2.2.2.2.2.1);have HS6_ := (hb.cell (World.block_lt_of_cell? _ _ (hHeld.2.2.2.2.2.2.1))).trans (hHeld.2.2.2.2.2.2.1);have HS7_ := (hb.cell (World.block_lt_of_cell? _ _ (hHeld.2.2.2.2.2.2.2))).trans (hHeld.2.2.2.2.2.2.2);refine ⟨_, rfl, ?_⟩;replace HO_3 := A_ (rB (zz18 HO_3) hb);replace HO703 := A_ (rB (zz18 HO703) hb);replace BK707 := A_ (bB (zz3 BK707) hb);replace HR713 := A_ (Kd.C_below (zz197 HR713) hb);replace HB := A_ (bS (zz4 HB GE707) hb);(try clear hb)
            (try clear hb2)
            (try clear hk)
            (try clear hi)
            have q50 : (x5_2 : Int) ≤ ((t693.length : Int) : Int) := ofD;obtain ⟨i050, hi050, _, hsz50, _⟩ := info_parts info32;have hroom50 : t693.length ≤ co7 := (Kd.R_reads' HO_3.out).2.1;have hC50 : Kd.C k32 _ (some ad699) t693.length t693 := (Kd.R_reads' HO_3.out).2.2;have hcut50 := cut_to (P := Tryd.prog) 23 32 .i64 Tryd.underlying23 hi050 (some ad699) t693.length co7 x5_2 ofD q50 hroom50;have hr50 := Kd.C_take (m := (x5_2 : Int).toNat) hC50 (by omega);have hy50 : y715.length = (x5_2 : Int).toNat := (zz157 Ny715);rw [← Ny715.out] at hr50;rw [← hy50] at hcut50;have HR718 := A_ hr50;have HC718 := A_ (show y715.length ≤ co7 from by omega);clear hr50 hC50 hroom50 hi050 hsz50;have KY50 := A_ hy50;clear hy50;have KL50 := A_ (show (x5_2 : Int).toNat ≤ t693.length from by omega);replace q50 := eq_true q50;refine hK.out _ _ ⟨(blk_cell BK707.out 0).trans rfl, (blk_cell BK707.out 1).trans rfl, (blk_cell BK707.out 2).trans rfl, (blk_cell BK707.out 3).trans rfl, HS4_, HS5_, HS6_, HS7_⟩ (fun hHeld => ?_);clear hK K;refine norm_ (a' := ?_) ?_ ?_;rotate_left
            ·show Act.put _ (some 58) _ = _
             simp only [Act.put, List.setIfInBounds_toArray, List.set_cons_zero, List.set_cons_succ, i64_w, i32_w]
             rfl
            refine pureZ 17 (some 59) #[true, true, true, true, true, true, true, true, true, true, true, true, true, true, true, true, true, true, false, false, false, false, false, false, false, false] ?_;refine pureZ 18 (some 60) #[true, true, true, true, true, true, true, true, true, true, true, true, true, true, true, true, true, true, true, false, false, false, false, false, false, false] ?_;refine pureZ 19 (some 61) #[true, true, true, true, true, true, true, true, true, true, true, true, true, true, true, true, true, true, true, true, false, false, false, false, false, false] ?_;refine pureZ 20 (some 62) #[true, true, true, true, true, true, true, true, true, true, true, true, true, true, true, true, true, true, true, true, true, false, false, false, false, false] ?_;refine pureZ 21 (some 63) #[true, true, true, true, true, true, true, true, true, true, true, true, true, true, true, true, true, true, true, true, true, true, false, false, false, false] ?_;refine pureZ 22 (some 64) #[true, true, true, true, true, true, true, true, true, true, true, true, true, true, true, true, true, true, true, true, true, true, true, false, false, false] ?_;refine one_ (i := 23) (N := some 65) #[true, true, true, true, true, true, true, true, true, true, true, true, true, true, true, true, true, true, true, true, true, true, true, true, false, false] rfl rfl (one_of HT_.out (by kernel_rfl)) (by decide) (fun K hK => ?_);refine goes_ Tryd.func5 (by kernel_rfl) rfl #[.slice (some ad699) y715.length co7] (by rfl) rfl rfl zz17 ?_;with_reducible refine (impl_WorldOk.calls k2 _ _ y715 false _ ?side1 ?side2 A28.out).mono ?_
            (case side1 => exact zz199)
            (case side2 => exact HC718.out)
            rintro e w51 ⟨rfl, hb⟩;have HS4_ := (hb.cell (World.block_lt_of_cell? _ _ (hHeld.2.2.2.2.1))).trans (hHeld.2.2.2.2.1);have HS5_ := (hb.cell (World.block_lt_of_cell? _ _ (hHeld.2.2.2.2.2.1))).trans (hHeld.2.2.2.2.2.1);have HS6_ := (hb.cell (World.block_lt_of_cell? _ _ (hHeld.2.2.2.2.2.2.1))).trans (hHeld.2.2.2.2.2.2.1);have HS7_ := (hb.cell (World.block_lt_of_cell? _ _ (hHeld.2.2.2.2.2.2.2))).trans (hHeld.2.2.2.2.2.2.2);refine ⟨_, rfl, ?_⟩;replace HO_3 := A_ (rB (zz18 HO_3) hb);replace HO703 := A_ (rB (zz18 HO703) hb);replace BK707 := A_ (bB (zz3 BK707) hb);replace HR713 := A_ (Kd.C_below (zz197 HR713) hb);replace HR718 := A_ (Kd.C_below (zz197 HR718) hb);replace HB := A_ (bS (zz4 HB GE707) hb);(try clear hb)
            (try clear hb2)
            (try clear hk)
            (try clear hi)
            refine hK.out _ _ ⟨(blk_cell BK707.out 0).trans rfl, (blk_cell BK707.out 1).trans rfl, (blk_cell BK707.out 2).trans rfl, (blk_cell BK707.out 3).trans rfl, HS4_, HS5_, HS6_, HS7_⟩ (fun hHeld => ?_);clear hK K;refine norm_ (a' := ?_) ?_ ?_;rotate_left
            ·show Act.put _ (some 65) _ = _
             simp only [Act.put, List.setIfInBounds_toArray, List.set_cons_zero, List.set_cons_succ, i64_w, i32_w]
             rfl
            refine pureZ 24 (some 66) #[true, true, true, true, true, true, true, true, true, true, true, true, true, true, true, true, true, true, true, true, true, true, true, true, true, false] ?_;refine pureZ 25 (some 67) #[true, true, true, true, true, true, true, true, true, true, true, true, true, true, true, true, true, true, true, true, true, true, true, true, true, true] ?_;refine done_ (done_of HT_.out (by kernel_rfl)) ?_;try go_wp2
            go_ret
            exact ⟨zz11, (zz4 HB GE707)⟩
          ·obtain rfl := sI H
           obtain ⟨⟨ad699, e699, hx699_0, hx699_1, hx699_2, hx699_3⟩, p699, q699⟩ := atB (at_T32 (Kd.R_reads' HO_3.out).2.2 x5_2);cases e699
           try go_wp2_with (first | ((with_reducible refine gC (f := 7) rfl ?_); refine gsL (some 39) Tryd.func7 #[.string ((rd_T32 t693 x5_2).f0)] ?_; (with_reducible refine mV (impl_AddrRead.calls k2 ((rd_T32 t693 x5_2).f0) t700 t701 t704 t705 true _ A18.out) ?_); rintro v702 w52 ⟨ho0, hb⟩; replace HO_3 := A_ (rB (zz18 HO_3) hb); have HO703 := A_ (Kd.R_lower ho0 (below_size (zz2 HB))); replace HB := A_ (bS (zz2 HB) hb); (try clear hb ho0)) | ((with_reducible refine gD (N := 6) rfl ?_); refine boxE 6 #[.string (⟨#[]⟩ : ByteArray), .slice none 0 0, .bool false, .string (⟨#[]⟩ : ByteArray)] 28 ?_; intro gb707 hg w53 hbox hb; replace HO_3 := A_ (rB (zz18 HO_3) hb); replace HO703 := A_ (rB (zz18 HO703) hb); have BK707 := A_ (hbox); have GE707 := geB hg (zz2 HB); replace HB := A_ (bS (zz2 HB) hb); clear hb hbox hg; obtain ⟨_, _, _, _, _, _, _, _⟩ := cf4 BK707; obtain ⟨Ao55, co55, eo55⟩ := Kd.R_slice HO703.out; subst eo55))
           have n0_ : Aside0 (Kd.R k32 32 ((((w53.setCell ⟨gb707, 0, none⟩ (.string t700)).setCell ⟨gb707, 1, none⟩ (.slice Ao55 t701.length co55)).setCell ⟨gb707, 2, none⟩ (.bool t704)).setCell ⟨gb707, 3, none⟩ (.string t705)) w.heap.size (fun _ => True) (.slice (some ad699) t693.length co7) t693) := ⟨(zz50 (rt HO_3 BK707))⟩;have n1_ : Aside0 (Kd.R Kd.string 9 ((((w53.setCell ⟨gb707, 0, none⟩ (.string t700)).setCell ⟨gb707, 1, none⟩ (.slice Ao55 t701.length co55)).setCell ⟨gb707, 2, none⟩ (.bool t704)).setCell ⟨gb707, 3, none⟩ (.string t705)) w.heap.size (fun _ => True) (.slice Ao55 t701.length co55) t701) := ⟨(zz50 (rt HO703 BK707))⟩;have n2_ : Aside0 (((((w53.setCell ⟨gb707, 0, none⟩ (.string t700)).setCell ⟨gb707, 1, none⟩ (.slice Ao55 t701.length co55)).setCell ⟨gb707, 2, none⟩ (.bool t704)).setCell ⟨gb707, 3, none⟩ (.string t705)).heap[gb707]? = some (.cells #[.string t700, .slice Ao55 t701.length co55, .bool t704, .string t705] 28 (0, 0))) := ⟨(zz71 BK707)⟩;have n3_ : Aside0 (Below w.heap.size w ((((w53.setCell ⟨gb707, 0, none⟩ (.string t700)).setCell ⟨gb707, 1, none⟩ (.slice Ao55 t701.length co55)).setCell ⟨gb707, 2, none⟩ (.bool t704)).setCell ⟨gb707, 3, none⟩ (.string t705))) := ⟨(zz4 HB GE707)⟩;(try clear HO_3)
           (try clear HO703)
           (try clear BK707)
           (try clear HB)
           generalize ((((w53.setCell ⟨gb707, 0, none⟩ (.string t700)).setCell ⟨gb707, 1, none⟩ (.slice Ao55 t701.length co55)).setCell ⟨gb707, 2, none⟩ (.bool t704)).setCell ⟨gb707, 3, none⟩ (.string t705)) = w56 at n0_ n1_ n2_ n3_ ⊢;have HO_3 := n0_;have HO703 := n1_;have BK707 := n2_;have HB := n3_;clear n0_ n1_ n2_ n3_;replace HO_3 := A_ (Kd.R_drew HO_3.out);replace HO703 := A_ (Kd.R_drew HO703.out);replace BK707 := A_ (blk_drew BK707.out);replace HB := A_ (below_drew1 HB.out);obtain ⟨⟨ad709, e709, hx709_0, hx709_1, hx709_2, hx709_3⟩, p709, q709⟩ := atB (at_T32 (Kd.R_reads' HO_3.out).2.2 x5_2);obtain rfl : ad699 = ad709 := (by injection e709);refine start_ (n := 26) (S := fun w' => w'.cell? ⟨gb707, 0, none⟩ = some (.string t700) ∧ w'.cell? ⟨gb707, 1, none⟩ = some (.slice Ao55 t701.length co55) ∧ w'.cell? ⟨gb707, 2, none⟩ = some (.bool t704) ∧ w'.cell? ⟨gb707, 3, none⟩ = some (.string t705) ∧ w'.cell? (ad699.add ((x5_2).toNat * 4)) = some (.string ((rd_T32 t693 x5_2).f0)) ∧ w'.cell? ⟨(ad699.add ((x5_2).toNat * 4)).block, (ad699.add ((x5_2).toNat * 4)).off + 1, none⟩ = some (.string ((rd_T32 t693 x5_2).f1)) ∧ w'.cell? ⟨(ad699.add ((x5_2).toNat * 4)).block, (ad699.add ((x5_2).toNat * 4)).off + 2, none⟩ = some (.string ((rd_T32 t693 x5_2).f2)) ∧ w'.cell? ⟨(ad699.add ((x5_2).toNat * 4)).block, (ad699.add ((x5_2).toNat * 4)).off + 3, none⟩ = some (.int .i64 ((rd_T32 t693 x5_2).f3))) (ds := []) #[false, false, false, false, false, false, false, false, false, false, false, false, false, false, false, false, false, false, false, false, false, false, false, false, false, false] (by kernel_rfl) rfl rfl ⟨(blk_cell BK707.out 0).trans rfl, (blk_cell BK707.out 1).trans rfl, (blk_cell BK707.out 2).trans rfl, (blk_cell BK707.out 3).trans rfl, hx709_0, hx709_1, hx709_2, hx709_3⟩ (fun hHeld => ?_); refine with_tabW laws_FnWorldOk.tab11 laws_FnWorldOk.bits11 (fun HT_ HW_ => ?_);generalize w56.drew = w57 at HO_3 HO703 BK707 HB hx709_0 hx709_1 hx709_2 hx709_3 hHeld ⊢;refine pureZ 0 (some 42) #[true, false, false, false, false, false, false, false, false, false, false, false, false, false, false, false, false, false, false, false, false, false, false, false, false, false] ?_;refine pureZ 1 (some 43) #[true, true, false, false, false, false, false, false, false, false, false, false, false, false, false, false, false, false, false, false, false, false, false, false, false, false] ?_;refine pureZ 2 (some 44) #[true, true, true, false, false, false, false, false, false, false, false, false, false, false, false, false, false, false, false, false, false, false, false, false, false, false] ?_;refine pureZ 5 (some 47) #[true, true, true, false, false, true, false, false, false, false, false, false, false, false, false, false, false, false, false, false, false, false, false, false, false, false] ?_;refine pureZ 6 (some 48) #[true, true, true, false, false, true, true, false, false, false, false, false, false, false, false, false, false, false, false, false, false, false, false, false, false, false] ?_;refine pureZ 7 (some 49) #[true, true, true, false, false, true, true, true, false, false, false, false, false, false, false, false, false, false, false, false, false, false, false, false, false, false] ?_;refine pureZ 8 (some 50) #[true, true, true, false, false, true, true, true, true, false, false, false, false, false, false, false, false, false, false, false, false, false, false, false, false, false] ?_;refine takeZ8 3 (some 45) #[true, true, true, true, false, true, true, true, true, false, false, false, false, false, false, false, false, false, false, false, false, false, false, false, false, false] hHeld ?_;refine takeZ8 9 (some 51) #[true, true, true, true, false, true, true, true, true, true, false, false, false, false, false, false, false, false, false, false, false, false, false, false, false, false] hHeld ?_;refine one_ (i := 4) (N := some 46) #[true, true, true, true, true, true, true, true, true, true, false, false, false, false, false, false, false, false, false, false, false, false, false, false, false, false] rfl rfl (one_of HT_.out (by kernel_rfl)) (by decide) (fun K hK => ?_);refine goes_ Tryd.func8 (by kernel_rfl) rfl #[.agg #[.string t700, .slice Ao55 t701.length co55, .bool t704, .string t705]] (by rfl) rfl rfl zz17 ?_;with_reducible refine (impl_AddrText.calls k2 t700 _ _ t701 t704 t705 t708 _ ?side1 ?side2 A20.out).mono ?_
           (case side1 => exact (zz37 HO703))
           (case side2 => exact (Kd.R_reads' HO703.out).2.1)
           rintro e w58 ⟨rfl, hb⟩;have HS4_ := (hb.cell (World.block_lt_of_cell? _ _ (hHeld.2.2.2.2.1))).trans (hHeld.2.2.2.2.1);have HS5_ := (hb.cell (World.block_lt_of_cell? _ _ (hHeld.2.2.2.2.2.1))).trans (hHeld.2.2.2.2.2.1);have HS6_ := (hb.cell (World.block_lt_of_cell? _ _ (hHeld.2.2.2.2.2.2.1))).trans (hHeld.2.2.2.2.2.2.1);have HS7_ := (hb.cell (World.block_lt_of_cell? _ _ (hHeld.2.2.2.2.2.2.2))).trans (hHeld.2.2.2.2.2.2.2);refine ⟨_, rfl, ?_⟩;replace HO_3 := A_ (rB (zz18 HO_3) hb);replace HO703 := A_ (rB (zz18 HO703) hb);replace BK707 := A_ (bB (zz3 BK707) hb);replace HB := A_ (bS (zz4 HB GE707) hb);(try clear hb)
           (try clear hb2)
           (try clear hk)
           (try clear hi)
           have q59 : (x5_2 : Int) ≤ ((t693.length : Int) : Int) := ofD;obtain ⟨i059, hi059, _, hsz59, _⟩ := info_parts info32;have hroom59 : t693.length ≤ co7 := (Kd.R_reads' HO_3.out).2.1;have hC59 : Kd.C k32 _ (some ad699) t693.length t693 := (Kd.R_reads' HO_3.out).2.2;have q059 : (0 : Int) ≤ (x5_2 : Int) := ofD;have hcut59 := cut_from (P := Tryd.prog) 23 32 .i64 Tryd.underlying23 hi059 4 hsz59 (some ad699) t693.length co7 x5_2 q059 q59;have hr59 := Kd.C_drop (m := (x5_2 : Int).toNat) (c := co7) hC59 (by omega) hroom59;obtain ⟨A59, hA59⟩ : ∃ A1, A1 = (if co7 = (x5_2 : Int).toNat then (some ad699) else ((some ad699) : Option Addr).map (·.add ((x5_2 : Int).toNat * 4))) := ⟨_, rfl⟩;obtain ⟨c59, hc59⟩ : ∃ c1, c1 = co7 - (x5_2 : Int).toNat := ⟨_, rfl⟩;have hy59 : y710.length = t693.length - (x5_2 : Int).toNat := (by rw [Ny710.out, List.length_drop] <;> omega);rw [show (t693).drop (x5_2 : Int).toNat = y710 from Ny710.out.symm] at hr59;replace hr59 : Kd.C k32 _ A59 y710.length y710 := (by rw [hA59]; exact hr59);rw [← hy59, ← hA59, ← hc59] at hcut59;have HR713 := A_ hr59;have HC713 := A_ (show y710.length ≤ c59 from (by rw [hy59, hc59]; exact Nat.sub_le_sub_right hroom59 _));clear hr59 hC59 hroom59 hi059 hsz59 hc59;have KY59 := A_ hy59;have KA59 := A_ hA59;clear hy59 hA59;have KL59 := A_ (show (x5_2 : Int).toNat ≤ t693.length from by omega);replace q59 := eq_true q59;refine hK.out _ _ ⟨(blk_cell BK707.out 0).trans rfl, (blk_cell BK707.out 1).trans rfl, (blk_cell BK707.out 2).trans rfl, (blk_cell BK707.out 3).trans rfl, HS4_, HS5_, HS6_, HS7_⟩ (fun hHeld => ?_);clear hK K;refine norm_ (a' := ?_) ?_ ?_;rotate_left
           ·show Act.put _ (some 46) _ = _
            simp only [Act.put, List.setIfInBounds_toArray, List.set_cons_zero, List.set_cons_succ, i64_w, i32_w]
            rfl
           refine pureZ 10 (some 52) #[true, true, true, true, true, true, true, true, true, true, true, false, false, false, false, false, false, false, false, false, false, false, false, false, false, false] ?_;refine pureZ 11 (some 53) #[true, true, true, true, true, true, true, true, true, true, true, true, false, false, false, false, false, false, false, false, false, false, false, false, false, false] ?_;refine pureZ 12 (some 54) #[true, true, true, true, true, true, true, true, true, true, true, true, true, false, false, false, false, false, false, false, false, false, false, false, false, false] ?_;refine pureZ 13 (some 55) #[true, true, true, true, true, true, true, true, true, true, true, true, true, true, false, false, false, false, false, false, false, false, false, false, false, false] ?_;refine pureZ 14 (some 56) #[true, true, true, true, true, true, true, true, true, true, true, true, true, true, true, false, false, false, false, false, false, false, false, false, false, false] ?_;refine pureZ 15 (some 57) #[true, true, true, true, true, true, true, true, true, true, true, true, true, true, true, true, false, false, false, false, false, false, false, false, false, false] ?_;refine one_ (i := 16) (N := some 58) #[true, true, true, true, true, true, true, true, true, true, true, true, true, true, true, true, true, false, false, false, false, false, false, false, false, false] rfl rfl (one_of HT_.out (by kernel_rfl)) (by decide) (fun K hK => ?_);refine goes_ Tryd.func5 (by kernel_rfl) rfl #[.slice A59 y710.length c59] (by rfl) rfl rfl zz17 ?_;with_reducible refine (impl_WorldOk.calls k2 _ _ y710 false _ ?side1 ?side2 A24.out).mono ?_
           (case side1 => exact zz198)
           (case side2 => exact HC713.out)
           rintro e w60 ⟨rfl, hb⟩;have HS4_ := (hb.cell (World.block_lt_of_cell? _ _ (hHeld.2.2.2.2.1))).trans (hHeld.2.2.2.2.1);have HS5_ := (hb.cell (World.block_lt_of_cell? _ _ (hHeld.2.2.2.2.2.1))).trans (hHeld.2.2.2.2.2.1);have HS6_ := (hb.cell (World.block_lt_of_cell? _ _ (hHeld.2.2.2.2.2.2.1))).trans (hHeld.2.2.2.2.2.2.1);have HS7_ := (hb.cell (World.block_lt_of_cell? _ _ (hHeld.2.2.2.2.2.2.2))).trans (hHeld.2.2.2.2.2.2.2);refine ⟨_, rfl, ?_⟩;replace HO_3 := A_ (rB (zz18 HO_3) hb);replace HO703 := A_ (rB (zz18 HO703) hb);replace BK707 := A_ (bB (zz3 BK707) hb);replace HR713 := A_ (Kd.C_below (zz197 HR713) hb);replace HB := A_ (bS (zz4 HB GE707) hb);(try clear hb)
           (try clear hb2)
           (try clear hk)
           (try clear hi)
           refine hK.out _ _ ⟨(blk_cell BK707.out 0).trans rfl, (blk_cell BK707.out 1).trans rfl, (blk_cell BK707.out 2).trans rfl, (blk_cell BK707.out 3).trans rfl, HS4_, HS5_, HS6_, HS7_⟩ (fun hHeld => ?_);clear hK K;refine norm_ (a' := ?_) ?_ ?_;rotate_left
           ·show Act.put _ (some 58) _ = _
            simp only [Act.put, List.setIfInBounds_toArray, List.set_cons_zero, List.set_cons_succ, i64_w, i32_w]
            rfl
           refine pureZ 17 (some 59) #[true, true, true, true, true, true, true, true, true, true, true, true, true, true, true, true, true, true, false, false, false, false, false, false, false, false] ?_;refine pureZ 18 (some 60) #[true, true, true, true, true, true, true, true, true, true, true, true, true, true, true, true, true, true, true, false, false, false, false, false, false, false] ?_;refine pureZ 19 (some 61) #[true, true, true, true, true, true, true, true, true, true, true, true, true, true, true, true, true, true, true, true, false, false, false, false, false, false] ?_;refine pure_ (i := 20) (N := some 62) (v := undef) (a' := ?_) #[true, true, true, true, true, true, true, true, true, true, true, true, true, true, true, true, true, true, true, true, true, false, false, false, false, false] rfl rfl (any_of HT_.out (by kernel_rfl)) (fun _ _ _ h => h) (Or.inr ⟨by rfl, rfl⟩) ?_ ?_;rotate_left
           ·simp only [Act.put, List.setIfInBounds_toArray, List.set_cons_zero, List.set_cons_succ, i64_w, i32_w]
            rfl
           refine pure_ (i := 21) (N := some 63) (v := undef) (a' := ?_) #[true, true, true, true, true, true, true, true, true, true, true, true, true, true, true, true, true, true, true, true, true, true, false, false, false, false] rfl rfl (any_of HT_.out (by kernel_rfl)) (fun _ _ _ h => h) (Or.inr ⟨by rfl, rfl⟩) ?_ ?_;rotate_left
           ·simp only [Act.put, List.setIfInBounds_toArray, List.set_cons_zero, List.set_cons_succ, i64_w, i32_w]
            rfl
           refine pure_ (i := 22) (N := some 64) (v := undef) (a' := ?_) #[true, true, true, true, true, true, true, true, true, true, true, true, true, true, true, true, true, true, true, true, true, true, true, false, false, false] rfl rfl (any_of HT_.out (by kernel_rfl)) (fun _ _ _ h => h) (Or.inr ⟨by rfl, rfl⟩) ?_ ?_;rotate_left
           ·simp only [Act.put, List.setIfInBounds_toArray, List.set_cons_zero, List.set_cons_succ, i64_w, i32_w]
            rfl
           refine pure_ (i := 23) (N := some 65) (v := undef) (a' := ?_) #[true, true, true, true, true, true, true, true, true, true, true, true, true, true, true, true, true, true, true, true, true, true, true, true, false, false] rfl rfl (any_of HT_.out (by kernel_rfl)) (fun _ _ _ h => h) (Or.inr ⟨by rfl, rfl⟩) ?_ ?_;rotate_left
           ·simp only [Act.put, List.setIfInBounds_toArray, List.set_cons_zero, List.set_cons_succ, i64_w, i32_w]
            rfl
           refine pure_ (i := 24) (N := some 66) (v := undef) (a' := ?_) #[true, true, true, true, true, true, true, true, true, true, true, true, true, true, true, true, true, true, true, true, true, true, true, true, true, false] rfl rfl (any_of HT_.out (by kernel_rfl)) (fun _ _ _ h => h) (Or.inr ⟨by rfl, rfl⟩) ?_ ?_;rotate_left
           ·simp only [Act.put, List.setIfInBounds_toArray, List.set_cons_zero, List.set_cons_succ, i64_w, i32_w]
            rfl
           refine pureZ 25 (some 67) #[true, true, true, true, true, true, true, true, true, true, true, true, true, true, true, true, true, true, true, true, true, true, true, true, true, true] ?_;refine done_ (done_of HT_.out (by kernel_rfl)) ?_;try go_wp2
           go_ret
           exact ⟨zz11, (zz4 HB GE707)⟩
         ·obtain rfl := sI H
          obtain ⟨⟨ad699, e699, hx699_0, hx699_1, hx699_2, hx699_3⟩, p699, q699⟩ := atB (at_T32 (Kd.R_reads' HO_3.out).2.2 x5_2);cases e699
          try go_wp2_with (first | ((with_reducible refine gC (f := 7) rfl ?_); refine gsL (some 39) Tryd.func7 #[.string ((rd_T32 t693 x5_2).f0)] ?_; (with_reducible refine mV (impl_AddrRead.calls k2 ((rd_T32 t693 x5_2).f0) t700 t701 t704 t705 true _ A18.out) ?_); rintro v702 w61 ⟨ho0, hb⟩; replace HO_3 := A_ (rB (zz18 HO_3) hb); have HO703 := A_ (Kd.R_lower ho0 (below_size (zz2 HB))); replace HB := A_ (bS (zz2 HB) hb); (try clear hb ho0)) | ((with_reducible refine gD (N := 6) rfl ?_); refine boxE 6 #[.string (⟨#[]⟩ : ByteArray), .slice none 0 0, .bool false, .string (⟨#[]⟩ : ByteArray)] 28 ?_; intro gb707 hg w62 hbox hb; replace HO_3 := A_ (rB (zz18 HO_3) hb); replace HO703 := A_ (rB (zz18 HO703) hb); have BK707 := A_ (hbox); have GE707 := geB hg (zz2 HB); replace HB := A_ (bS (zz2 HB) hb); clear hb hbox hg; obtain ⟨_, _, _, _, _, _, _, _⟩ := cf4 BK707; obtain ⟨Ao64, co64, eo64⟩ := Kd.R_slice HO703.out; subst eo64))
          have n0_ : Aside0 (Kd.R k32 32 ((((w62.setCell ⟨gb707, 0, none⟩ (.string t700)).setCell ⟨gb707, 1, none⟩ (.slice Ao64 t701.length co64)).setCell ⟨gb707, 2, none⟩ (.bool t704)).setCell ⟨gb707, 3, none⟩ (.string t705)) w.heap.size (fun _ => True) (.slice (some ad699) t693.length co7) t693) := ⟨(zz50 (rt HO_3 BK707))⟩;have n1_ : Aside0 (Kd.R Kd.string 9 ((((w62.setCell ⟨gb707, 0, none⟩ (.string t700)).setCell ⟨gb707, 1, none⟩ (.slice Ao64 t701.length co64)).setCell ⟨gb707, 2, none⟩ (.bool t704)).setCell ⟨gb707, 3, none⟩ (.string t705)) w.heap.size (fun _ => True) (.slice Ao64 t701.length co64) t701) := ⟨(zz50 (rt HO703 BK707))⟩;have n2_ : Aside0 (((((w62.setCell ⟨gb707, 0, none⟩ (.string t700)).setCell ⟨gb707, 1, none⟩ (.slice Ao64 t701.length co64)).setCell ⟨gb707, 2, none⟩ (.bool t704)).setCell ⟨gb707, 3, none⟩ (.string t705)).heap[gb707]? = some (.cells #[.string t700, .slice Ao64 t701.length co64, .bool t704, .string t705] 28 (0, 0))) := ⟨(zz71 BK707)⟩;have n3_ : Aside0 (Below w.heap.size w ((((w62.setCell ⟨gb707, 0, none⟩ (.string t700)).setCell ⟨gb707, 1, none⟩ (.slice Ao64 t701.length co64)).setCell ⟨gb707, 2, none⟩ (.bool t704)).setCell ⟨gb707, 3, none⟩ (.string t705))) := ⟨(zz4 HB GE707)⟩;(try clear HO_3)
          (try clear HO703)
          (try clear BK707)
          (try clear HB)
          generalize ((((w62.setCell ⟨gb707, 0, none⟩ (.string t700)).setCell ⟨gb707, 1, none⟩ (.slice Ao64 t701.length co64)).setCell ⟨gb707, 2, none⟩ (.bool t704)).setCell ⟨gb707, 3, none⟩ (.string t705)) = w65 at n0_ n1_ n2_ n3_ ⊢;have HO_3 := n0_;have HO703 := n1_;have BK707 := n2_;have HB := n3_;clear n0_ n1_ n2_ n3_;replace HO_3 := A_ (Kd.R_drew HO_3.out);replace HO703 := A_ (Kd.R_drew HO703.out);replace BK707 := A_ (blk_drew BK707.out);replace HB := A_ (below_drew1 HB.out);obtain ⟨⟨ad709, e709, hx709_0, hx709_1, hx709_2, hx709_3⟩, p709, q709⟩ := atB (at_T32 (Kd.R_reads' HO_3.out).2.2 x5_2);obtain rfl : ad699 = ad709 := (by injection e709);refine start_ (n := 26) (S := fun w' => w'.cell? ⟨gb707, 0, none⟩ = some (.string t700) ∧ w'.cell? ⟨gb707, 1, none⟩ = some (.slice Ao64 t701.length co64) ∧ w'.cell? ⟨gb707, 2, none⟩ = some (.bool t704) ∧ w'.cell? ⟨gb707, 3, none⟩ = some (.string t705) ∧ w'.cell? (ad699.add ((x5_2).toNat * 4)) = some (.string ((rd_T32 t693 x5_2).f0)) ∧ w'.cell? ⟨(ad699.add ((x5_2).toNat * 4)).block, (ad699.add ((x5_2).toNat * 4)).off + 1, none⟩ = some (.string ((rd_T32 t693 x5_2).f1)) ∧ w'.cell? ⟨(ad699.add ((x5_2).toNat * 4)).block, (ad699.add ((x5_2).toNat * 4)).off + 2, none⟩ = some (.string ((rd_T32 t693 x5_2).f2)) ∧ w'.cell? ⟨(ad699.add ((x5_2).toNat * 4)).block, (ad699.add ((x5_2).toNat * 4)).off + 3, none⟩ = some (.int .i64 ((rd_T32 t693 x5_2).f3))) (ds := []) #[false, false, false, false, false, false, false, false, false, false, false, false, false, false, false, false, false, false, false, false, false, false, false, false, false, false] (by kernel_rfl) rfl rfl ⟨(blk_cell BK707.out 0).trans rfl, (blk_cell BK707.out 1).trans rfl, (blk_cell BK707.out 2).trans rfl, (blk_cell BK707.out 3).trans rfl, hx709_0, hx709_1, hx709_2, hx709_3⟩ (fun hHeld => ?_); refine with_tabW laws_FnWorldOk.tab11 laws_FnWorldOk.bits11 (fun HT_ HW_ => ?_);generalize w65.drew = w66 at HO_3 HO703 BK707 HB hx709_0 hx709_1 hx709_2 hx709_3 hHeld ⊢;refine pureZ 0 (some 42) #[true, false, false, false, false, false, false, false, false, false, false, false, false, false, false, false, false, false, false, false, false, false, false, false, false, false] ?_;refine pureZ 1 (some 43) #[true, true, false, false, false, false, false, false, false, false, false, false, false, false, false, false, false, false, false, false, false, false, false, false, false, false] ?_;refine pureZ 2 (some 44) #[true, true, true, false, false, false, false, false, false, false, false, false, false, false, false, false, false, false, false, false, false, false, false, false, false, false] ?_;refine pureZ 5 (some 47) #[true, true, true, false, false, true, false, false, false, false, false, false, false, false, false, false, false, false, false, false, false, false, false, false, false, false] ?_;refine pureZ 6 (some 48) #[true, true, true, false, false, true, true, false, false, false, false, false, false, false, false, false, false, false, false, false, false, false, false, false, false, false] ?_;refine pureZ 7 (some 49) #[true, true, true, false, false, true, true, true, false, false, false, false, false, false, false, false, false, false, false, false, false, false, false, false, false, false] ?_;refine pureZ 8 (some 50) #[true, true, true, false, false, true, true, true, true, false, false, false, false, false, false, false, false, false, false, false, false, false, false, false, false, false] ?_;refine takeZ8 3 (some 45) #[true, true, true, true, false, true, true, true, true, false, false, false, false, false, false, false, false, false, false, false, false, false, false, false, false, false] hHeld ?_;refine takeZ8 9 (some 51) #[true, true, true, true, false, true, true, true, true, true, false, false, false, false, false, false, false, false, false, false, false, false, false, false, false, false] hHeld ?_;refine one_ (i := 4) (N := some 46) #[true, true, true, true, true, true, true, true, true, true, false, false, false, false, false, false, false, false, false, false, false, false, false, false, false, false] rfl rfl (one_of HT_.out (by kernel_rfl)) (by decide) (fun K hK => ?_);refine goes_ Tryd.func8 (by kernel_rfl) rfl #[.agg #[.string t700, .slice Ao64 t701.length co64, .bool t704, .string t705]] (by rfl) rfl rfl zz17 ?_;with_reducible refine (impl_AddrText.calls k2 t700 _ _ t701 t704 t705 t708 _ ?side1 ?side2 A20.out).mono ?_
          (case side1 => exact (zz37 HO703))
          (case side2 => exact (Kd.R_reads' HO703.out).2.1)
          rintro e w67 ⟨rfl, hb⟩;have HS4_ := (hb.cell (World.block_lt_of_cell? _ _ (hHeld.2.2.2.2.1))).trans (hHeld.2.2.2.2.1);have HS5_ := (hb.cell (World.block_lt_of_cell? _ _ (hHeld.2.2.2.2.2.1))).trans (hHeld.2.2.2.2.2.1);have HS6_ := (hb.cell (World.block_lt_of_cell? _ _ (hHeld.2.2.2.2.2.2.1))).trans (hHeld.2.2.2.2.2.2.1);have HS7_ := (hb.cell (World.block_lt_of_cell? _ _ (hHeld.2.2.2.2.2.2.2))).trans (hHeld.2.2.2.2.2.2.2);refine ⟨_, rfl, ?_⟩;replace HO_3 := A_ (rB (zz18 HO_3) hb);replace HO703 := A_ (rB (zz18 HO703) hb);replace BK707 := A_ (bB (zz3 BK707) hb);replace HB := A_ (bS (zz4 HB GE707) hb);(try clear hb)
          (try clear hb2)
          (try clear hk)
          (try clear hi)
          refine hK.out _ _ ⟨(blk_cell BK707.out 0).trans rfl, (blk_cell BK707.out 1).trans rfl, (blk_cell BK707.out 2).trans rfl, (blk_cell BK707.out 3).trans rfl, HS4_, HS5_, HS6_, HS7_⟩ (fun hHeld => ?_);clear hK K;refine norm_ (a' := ?_) ?_ ?_;rotate_left
          ·show Act.put _ (some 46) _ = _
           simp only [Act.put, List.setIfInBounds_toArray, List.set_cons_zero, List.set_cons_succ, i64_w, i32_w]
           rfl
          refine pureZ 10 (some 52) #[true, true, true, true, true, true, true, true, true, true, true, false, false, false, false, false, false, false, false, false, false, false, false, false, false, false] ?_;refine pureZ 11 (some 53) #[true, true, true, true, true, true, true, true, true, true, true, true, false, false, false, false, false, false, false, false, false, false, false, false, false, false] ?_;refine pureZ 12 (some 54) #[true, true, true, true, true, true, true, true, true, true, true, true, true, false, false, false, false, false, false, false, false, false, false, false, false, false] ?_;refine pure_ (i := 13) (N := some 55) (v := undef) (a' := ?_) #[true, true, true, true, true, true, true, true, true, true, true, true, true, true, false, false, false, false, false, false, false, false, false, false, false, false] rfl rfl (any_of HT_.out (by kernel_rfl)) (fun _ _ _ h => h) (Or.inr ⟨by rfl, rfl⟩) ?_ ?_;rotate_left
          ·simp only [Act.put, List.setIfInBounds_toArray, List.set_cons_zero, List.set_cons_succ, i64_w, i32_w]
           rfl
          refine pure_ (i := 14) (N := some 56) (v := undef) (a' := ?_) #[true, true, true, true, true, true, true, true, true, true, true, true, true, true, true, false, false, false, false, false, false, false, false, false, false, false] rfl rfl (any_of HT_.out (by kernel_rfl)) (fun _ _ _ h => h) (Or.inr ⟨by rfl, rfl⟩) ?_ ?_;rotate_left
          ·simp only [Act.put, List.setIfInBounds_toArray, List.set_cons_zero, List.set_cons_succ, i64_w, i32_w]
           rfl
          refine pure_ (i := 15) (N := some 57) (v := undef) (a' := ?_) #[true, true, true, true, true, true, true, true, true, true, true, true, true, true, true, true, false, false, false, false, false, false, false, false, false, false] rfl rfl (any_of HT_.out (by kernel_rfl)) (fun _ _ _ h => h) (Or.inr ⟨by rfl, rfl⟩) ?_ ?_;rotate_left
          ·simp only [Act.put, List.setIfInBounds_toArray, List.set_cons_zero, List.set_cons_succ, i64_w, i32_w]
           rfl
          refine pure_ (i := 16) (N := some 58) (v := undef) (a' := ?_) #[true, true, true, true, true, true, true, true, true, true, true, true, true, true, true, true, true, false, false, false, false, false, false, false, false, false] rfl rfl (any_of HT_.out (by kernel_rfl)) (fun _ _ _ h => h) (Or.inr ⟨by rfl, rfl⟩) ?_ ?_;rotate_left
          ·simp only [Act.put, List.setIfInBounds_toArray, List.set_cons_zero, List.set_cons_succ, i64_w, i32_w]
           rfl
          refine pure_ (i := 17) (N := some 59) (v := undef) (a' := ?_) #[true, true, true, true, true, true, true, true, true, true, true, true, true, true, true, true, true, true, false, false, false, false, false, false, false, false] rfl rfl (any_of HT_.out (by kernel_rfl)) (fun _ _ _ h => h) (Or.inr ⟨by rfl, rfl⟩) ?_ ?_;rotate_left
          ·simp only [Act.put, List.setIfInBounds_toArray, List.set_cons_zero, List.set_cons_succ, i64_w, i32_w]
           rfl
          refine pureZ 18 (some 60) #[true, true, true, true, true, true, true, true, true, true, true, true, true, true, true, true, true, true, true, false, false, false, false, false, false, false] ?_;refine pureZ 19 (some 61) #[true, true, true, true, true, true, true, true, true, true, true, true, true, true, true, true, true, true, true, true, false, false, false, false, false, false] ?_;refine pure_ (i := 20) (N := some 62) (v := undef) (a' := ?_) #[true, true, true, true, true, true, true, true, true, true, true, true, true, true, true, true, true, true, true, true, true, false, false, false, false, false] rfl rfl (any_of HT_.out (by kernel_rfl)) (fun _ _ _ h => h) (Or.inr ⟨by rfl, rfl⟩) ?_ ?_;rotate_left
          ·simp only [Act.put, List.setIfInBounds_toArray, List.set_cons_zero, List.set_cons_succ, i64_w, i32_w]
           rfl
          refine pure_ (i := 21) (N := some 63) (v := undef) (a' := ?_) #[true, true, true, true, true, true, true, true, true, true, true, true, true, true, true, true, true, true, true, true, true, true, false, false, false, false] rfl rfl (any_of HT_.out (by kernel_rfl)) (fun _ _ _ h => h) (Or.inr ⟨by rfl, rfl⟩) ?_ ?_;rotate_left
          ·simp only [Act.put, List.setIfInBounds_toArray, List.set_cons_zero, List.set_cons_succ, i64_w, i32_w]
           rfl
          refine pure_ (i := 22) (N := some 64) (v := undef) (a' := ?_) #[true, true, true, true, true, true, true, true, true, true, true, true, true, true, true, true, true, true, true, true, true, true, true, false, false, false] rfl rfl (any_of HT_.out (by kernel_rfl)) (fun _ _ _ h => h) (Or.inr ⟨by rfl, rfl⟩) ?_ ?_;rotate_left
          ·simp only [Act.put, List.setIfInBounds_toArray, List.set_cons_zero, List.set_cons_succ, i64_w, i32_w]
           rfl
          refine pure_ (i := 23) (N := some 65) (v := undef) (a' := ?_) #[true, true, true, true, true, true, true, true, true, true, true, true, true, true, true, true, true, true, true, true, true, true, true, true, false, false] rfl rfl (any_of HT_.out (by kernel_rfl)) (fun _ _ _ h => h) (Or.inr ⟨by rfl, rfl⟩) ?_ ?_;rotate_left
          ·simp only [Act.put, List.setIfInBounds_toArray, List.set_cons_zero, List.set_cons_succ, i64_w, i32_w]
           rfl
          refine pure_ (i := 24) (N := some 66) (v := undef) (a' := ?_) #[true, true, true, true, true, true, true, true, true, true, true, true, true, true, true, true, true, true, true, true, true, true, true, true, true, false] rfl rfl (any_of HT_.out (by kernel_rfl)) (fun _ _ _ h => h) (Or.inr ⟨by rfl, rfl⟩) ?_ ?_;rotate_left
          ·simp only [Act.put, List.setIfInBounds_toArray, List.set_cons_zero, List.set_cons_succ, i64_w, i32_w]
           rfl
          refine pureZ 25 (some 67) #[true, true, true, true, true, true, true, true, true, true, true, true, true, true, true, true, true, true, true, true, true, true, true, true, true, true] ?_;refine done_ (done_of HT_.out (by kernel_rfl)) ?_;try go_wp2
          go_ret
          exact ⟨zz11, (zz4 HB GE707)⟩
        ·obtain rfl := sI H
         obtain ⟨⟨ad699, e699, hx699_0, hx699_1, hx699_2, hx699_3⟩, p699, q699⟩ := atB (at_T32 (Kd.R_reads' HO_3.out).2.2 x5_2);cases e699
         try go_wp2_with (first | ((with_reducible refine gC (f := 7) rfl ?_); refine gsL (some 39) Tryd.func7 #[.string ((rd_T32 t693 x5_2).f0)] ?_; (with_reducible refine mV (impl_AddrRead.calls k2 ((rd_T32 t693 x5_2).f0) t700 t701 t704 t705 false _ A18.out) ?_); rintro v702 w68 ⟨ho0, hb⟩; replace HO_3 := A_ (rB (zz18 HO_3) hb); have HO703 := A_ (Kd.R_lower ho0 (below_size (zz2 HB))); replace HB := A_ (bS (zz2 HB) hb); (try clear hb ho0)) | ((with_reducible refine gD (N := 6) rfl ?_); refine boxE 6 #[.string (⟨#[]⟩ : ByteArray), .slice none 0 0, .bool false, .string (⟨#[]⟩ : ByteArray)] 28 ?_; intro gb707 hg w69 hbox hb; replace HO_3 := A_ (rB (zz18 HO_3) hb); replace HO703 := A_ (rB (zz18 HO703) hb); have BK707 := A_ (hbox); have GE707 := geB hg (zz2 HB); replace HB := A_ (bS (zz2 HB) hb); clear hb hbox hg; obtain ⟨_, _, _, _, _, _, _, _⟩ := cf4 BK707; obtain ⟨Ao71, co71, eo71⟩ := Kd.R_slice HO703.out; subst eo71))
         have n0_ : Aside0 (Kd.R k32 32 ((((w69.setCell ⟨gb707, 0, none⟩ (.string t700)).setCell ⟨gb707, 1, none⟩ (.slice Ao71 t701.length co71)).setCell ⟨gb707, 2, none⟩ (.bool t704)).setCell ⟨gb707, 3, none⟩ (.string t705)) w.heap.size (fun _ => True) (.slice (some ad699) t693.length co7) t693) := ⟨(zz50 (rt HO_3 BK707))⟩;have n1_ : Aside0 (Kd.R Kd.string 9 ((((w69.setCell ⟨gb707, 0, none⟩ (.string t700)).setCell ⟨gb707, 1, none⟩ (.slice Ao71 t701.length co71)).setCell ⟨gb707, 2, none⟩ (.bool t704)).setCell ⟨gb707, 3, none⟩ (.string t705)) w.heap.size (fun _ => True) (.slice Ao71 t701.length co71) t701) := ⟨(zz50 (rt HO703 BK707))⟩;have n2_ : Aside0 (((((w69.setCell ⟨gb707, 0, none⟩ (.string t700)).setCell ⟨gb707, 1, none⟩ (.slice Ao71 t701.length co71)).setCell ⟨gb707, 2, none⟩ (.bool t704)).setCell ⟨gb707, 3, none⟩ (.string t705)).heap[gb707]? = some (.cells #[.string t700, .slice Ao71 t701.length co71, .bool t704, .string t705] 28 (0, 0))) := ⟨(zz71 BK707)⟩;have n3_ : Aside0 (Below w.heap.size w ((((w69.setCell ⟨gb707, 0, none⟩ (.string t700)).setCell ⟨gb707, 1, none⟩ (.slice Ao71 t701.length co71)).setCell ⟨gb707, 2, none⟩ (.bool t704)).setCell ⟨gb707, 3, none⟩ (.string t705))) := ⟨(zz4 HB GE707)⟩;(try clear HO_3)
         (try clear HO703)
         (try clear BK707)
         (try clear HB)
         generalize ((((w69.setCell ⟨gb707, 0, none⟩ (.string t700)).setCell ⟨gb707, 1, none⟩ (.slice Ao71 t701.length co71)).setCell ⟨gb707, 2, none⟩ (.bool t704)).setCell ⟨gb707, 3, none⟩ (.string t705)) = w72 at n0_ n1_ n2_ n3_ ⊢;have HO_3 := n0_;have HO703 := n1_;have BK707 := n2_;have HB := n3_;clear n0_ n1_ n2_ n3_;replace HO_3 := A_ (Kd.R_drew HO_3.out);replace HO703 := A_ (Kd.R_drew HO703.out);replace BK707 := A_ (blk_drew BK707.out);replace HB := A_ (below_drew1 HB.out);refine start_ (n := 26) (S := fun w' => True) (ds := []) #[false, false, false, false, false, false, false, false, false, false, false, false, false, false, false, false, false, false, false, false, false, false, false, false, false, false] (by kernel_rfl) rfl rfl trivial (fun hHeld => ?_); refine with_tabW laws_FnWorldOk.tab11 laws_FnWorldOk.bits11 (fun HT_ HW_ => ?_);generalize w72.drew = w73 at HO_3 HO703 BK707 HB hHeld ⊢;refine pureZ 0 (some 42) #[true, false, false, false, false, false, false, false, false, false, false, false, false, false, false, false, false, false, false, false, false, false, false, false, false, false] ?_;refine pureZ 1 (some 43) #[true, true, false, false, false, false, false, false, false, false, false, false, false, false, false, false, false, false, false, false, false, false, false, false, false, false] ?_;refine pureZ 2 (some 44) #[true, true, true, false, false, false, false, false, false, false, false, false, false, false, false, false, false, false, false, false, false, false, false, false, false, false] ?_;refine pure_ (i := 3) (N := some 45) (v := undef) (a' := ?_) #[true, true, true, true, false, false, false, false, false, false, false, false, false, false, false, false, false, false, false, false, false, false, false, false, false, false] rfl rfl (any_of HT_.out (by kernel_rfl)) (fun _ _ _ h => h) (Or.inr ⟨by rfl, rfl⟩) ?_ ?_;rotate_left
         ·simp only [Act.put, List.setIfInBounds_toArray, List.set_cons_zero, List.set_cons_succ, i64_w, i32_w]
          rfl
         refine pure_ (i := 4) (N := some 46) (v := undef) (a' := ?_) #[true, true, true, true, true, false, false, false, false, false, false, false, false, false, false, false, false, false, false, false, false, false, false, false, false, false] rfl rfl (any_of HT_.out (by kernel_rfl)) (fun _ _ _ h => h) (Or.inr ⟨by rfl, rfl⟩) ?_ ?_;rotate_left
         ·simp only [Act.put, List.setIfInBounds_toArray, List.set_cons_zero, List.set_cons_succ, i64_w, i32_w]
          rfl
         refine pure_ (i := 5) (N := some 47) (v := undef) (a' := ?_) #[true, true, true, true, true, true, false, false, false, false, false, false, false, false, false, false, false, false, false, false, false, false, false, false, false, false] rfl rfl (any_of HT_.out (by kernel_rfl)) (fun _ _ _ h => h) (Or.inr ⟨by rfl, rfl⟩) ?_ ?_;rotate_left
         ·simp only [Act.put, List.setIfInBounds_toArray, List.set_cons_zero, List.set_cons_succ, i64_w, i32_w]
          rfl
         refine pure_ (i := 6) (N := some 48) (v := undef) (a' := ?_) #[true, true, true, true, true, true, true, false, false, false, false, false, false, false, false, false, false, false, false, false, false, false, false, false, false, false] rfl rfl (any_of HT_.out (by kernel_rfl)) (fun _ _ _ h => h) (Or.inr ⟨by rfl, rfl⟩) ?_ ?_;rotate_left
         ·simp only [Act.put, List.setIfInBounds_toArray, List.set_cons_zero, List.set_cons_succ, i64_w, i32_w]
          rfl
         refine pure_ (i := 7) (N := some 49) (v := undef) (a' := ?_) #[true, true, true, true, true, true, true, true, false, false, false, false, false, false, false, false, false, false, false, false, false, false, false, false, false, false] rfl rfl (any_of HT_.out (by kernel_rfl)) (fun _ _ _ h => h) (Or.inr ⟨by rfl, rfl⟩) ?_ ?_;rotate_left
         ·simp only [Act.put, List.setIfInBounds_toArray, List.set_cons_zero, List.set_cons_succ, i64_w, i32_w]
          rfl
         refine pure_ (i := 8) (N := some 50) (v := undef) (a' := ?_) #[true, true, true, true, true, true, true, true, true, false, false, false, false, false, false, false, false, false, false, false, false, false, false, false, false, false] rfl rfl (any_of HT_.out (by kernel_rfl)) (fun _ _ _ h => h) (Or.inr ⟨by rfl, rfl⟩) ?_ ?_;rotate_left
         ·simp only [Act.put, List.setIfInBounds_toArray, List.set_cons_zero, List.set_cons_succ, i64_w, i32_w]
          rfl
         refine pure_ (i := 9) (N := some 51) (v := undef) (a' := ?_) #[true, true, true, true, true, true, true, true, true, true, false, false, false, false, false, false, false, false, false, false, false, false, false, false, false, false] rfl rfl (any_of HT_.out (by kernel_rfl)) (fun _ _ _ h => h) (Or.inr ⟨by rfl, rfl⟩) ?_ ?_;rotate_left
         ·simp only [Act.put, List.setIfInBounds_toArray, List.set_cons_zero, List.set_cons_succ, i64_w, i32_w]
          rfl
         refine pure_ (i := 10) (N := some 52) (v := undef) (a' := ?_) #[true, true, true, true, true, true, true, true, true, true, true, false, false, false, false, false, false, false, false, false, false, false, false, false, false, false] rfl rfl (any_of HT_.out (by kernel_rfl)) (fun _ _ _ h => h) (Or.inr ⟨by rfl, rfl⟩) ?_ ?_;rotate_left
         ·simp only [Act.put, List.setIfInBounds_toArray, List.set_cons_zero, List.set_cons_succ, i64_w, i32_w]
          rfl
         refine pureZ 11 (some 53) #[true, true, true, true, true, true, true, true, true, true, true, true, false, false, false, false, false, false, false, false, false, false, false, false, false, false] ?_;refine pureZ 12 (some 54) #[true, true, true, true, true, true, true, true, true, true, true, true, true, false, false, false, false, false, false, false, false, false, false, false, false, false] ?_;refine pure_ (i := 13) (N := some 55) (v := undef) (a' := ?_) #[true, true, true, true, true, true, true, true, true, true, true, true, true, true, false, false, false, false, false, false, false, false, false, false, false, false] rfl rfl (any_of HT_.out (by kernel_rfl)) (fun _ _ _ h => h) (Or.inr ⟨by rfl, rfl⟩) ?_ ?_;rotate_left
         ·simp only [Act.put, List.setIfInBounds_toArray, List.set_cons_zero, List.set_cons_succ, i64_w, i32_w]
          rfl
         refine pure_ (i := 14) (N := some 56) (v := undef) (a' := ?_) #[true, true, true, true, true, true, true, true, true, true, true, true, true, true, true, false, false, false, false, false, false, false, false, false, false, false] rfl rfl (any_of HT_.out (by kernel_rfl)) (fun _ _ _ h => h) (Or.inr ⟨by rfl, rfl⟩) ?_ ?_;rotate_left
         ·simp only [Act.put, List.setIfInBounds_toArray, List.set_cons_zero, List.set_cons_succ, i64_w, i32_w]
          rfl
         refine pure_ (i := 15) (N := some 57) (v := undef) (a' := ?_) #[true, true, true, true, true, true, true, true, true, true, true, true, true, true, true, true, false, false, false, false, false, false, false, false, false, false] rfl rfl (any_of HT_.out (by kernel_rfl)) (fun _ _ _ h => h) (Or.inr ⟨by rfl, rfl⟩) ?_ ?_;rotate_left
         ·simp only [Act.put, List.setIfInBounds_toArray, List.set_cons_zero, List.set_cons_succ, i64_w, i32_w]
          rfl
         refine pure_ (i := 16) (N := some 58) (v := undef) (a' := ?_) #[true, true, true, true, true, true, true, true, true, true, true, true, true, true, true, true, true, false, false, false, false, false, false, false, false, false] rfl rfl (any_of HT_.out (by kernel_rfl)) (fun _ _ _ h => h) (Or.inr ⟨by rfl, rfl⟩) ?_ ?_;rotate_left
         ·simp only [Act.put, List.setIfInBounds_toArray, List.set_cons_zero, List.set_cons_succ, i64_w, i32_w]
          rfl
         refine pure_ (i := 17) (N := some 59) (v := undef) (a' := ?_) #[true, true, true, true, true, true, true, true, true, true, true, true, true, true, true, true, true, true, false, false, false, false, false, false, false, false] rfl rfl (any_of HT_.out (by kernel_rfl)) (fun _ _ _ h => h) (Or.inr ⟨by rfl, rfl⟩) ?_ ?_;rotate_left
         ·simp only [Act.put, List.setIfInBounds_toArray, List.set_cons_zero, List.set_cons_succ, i64_w, i32_w]
          rfl
         refine pureZ 18 (some 60) #[true, true, true, true, true, true, true, true, true, true, true, true, true, true, true, true, true, true, true, false, false, false, false, false, false, false] ?_;refine pureZ 19 (some 61) #[true, true, true, true, true, true, true, true, true, true, true, true, true, true, true, true, true, true, true, true, false, false, false, false, false, false] ?_;refine pure_ (i := 20) (N := some 62) (v := undef) (a' := ?_) #[true, true, true, true, true, true, true, true, true, true, true, true, true, true, true, true, true, true, true, true, true, false, false, false, false, false] rfl rfl (any_of HT_.out (by kernel_rfl)) (fun _ _ _ h => h) (Or.inr ⟨by rfl, rfl⟩) ?_ ?_;rotate_left
         ·simp only [Act.put, List.setIfInBounds_toArray, List.set_cons_zero, List.set_cons_succ, i64_w, i32_w]
          rfl
         refine pure_ (i := 21) (N := some 63) (v := undef) (a' := ?_) #[true, true, true, true, true, true, true, true, true, true, true, true, true, true, true, true, true, true, true, true, true, true, false, false, false, false] rfl rfl (any_of HT_.out (by kernel_rfl)) (fun _ _ _ h => h) (Or.inr ⟨by rfl, rfl⟩) ?_ ?_;rotate_left
         ·simp only [Act.put, List.setIfInBounds_toArray, List.set_cons_zero, List.set_cons_succ, i64_w, i32_w]
          rfl
         refine pure_ (i := 22) (N := some 64) (v := undef) (a' := ?_) #[true, true, true, true, true, true, true, true, true, true, true, true, true, true, true, true, true, true, true, true, true, true, true, false, false, false] rfl rfl (any_of HT_.out (by kernel_rfl)) (fun _ _ _ h => h) (Or.inr ⟨by rfl, rfl⟩) ?_ ?_;rotate_left
         ·simp only [Act.put, List.setIfInBounds_toArray, List.set_cons_zero, List.set_cons_succ, i64_w, i32_w]
          rfl
         refine pure_ (i := 23) (N := some 65) (v := undef) (a' := ?_) #[true, true, true, true, true, true, true, true, true, true, true, true, true, true, true, true, true, true, true, true, true, true, true, true, false, false] rfl rfl (any_of HT_.out (by kernel_rfl)) (fun _ _ _ h => h) (Or.inr ⟨by rfl, rfl⟩) ?_ ?_;rotate_left
         ·simp only [Act.put, List.setIfInBounds_toArray, List.set_cons_zero, List.set_cons_succ, i64_w, i32_w]
          rfl
         refine pure_ (i := 24) (N := some 66) (v := undef) (a' := ?_) #[true, true, true, true, true, true, true, true, true, true, true, true, true, true, true, true, true, true, true, true, true, true, true, true, true, false] rfl rfl (any_of HT_.out (by kernel_rfl)) (fun _ _ _ h => h) (Or.inr ⟨by rfl, rfl⟩) ?_ ?_;rotate_left
         ·simp only [Act.put, List.setIfInBounds_toArray, List.set_cons_zero, List.set_cons_succ, i64_w, i32_w]
          rfl
         refine pureZ 25 (some 67) #[true, true, true, true, true, true, true, true, true, true, true, true, true, true, true, true, true, true, true, true, true, true, true, true, true, true] ?_;refine done_ (done_of HT_.out (by kernel_rfl)) ?_;try go_wp2
         go_ret
         exact ⟨zz11, (zz4 HB GE707)⟩
       ·obtain rfl := sI H
        go_wp2
        go_ret
        exact ⟨zz11, (zz2 HB)⟩
def laws_FnWorldOk.Pure : Prop := ∀ (l0 : List Int), l0.length ≤ maxLen → l0.length * 1 ≤ 140737488351232 → (∀ x ∈ l0, (Lit.int .u8 x).wf = true) → ∃ k, laws_FnWorldOk.f k l0 = some true
theorem laws_FnWorldOk.walk (P : laws_FnWorldOk.Pure) (a0 : Option Addr) (len0 cap0 : Nat) (z0 : List Int) (w : World) (w0 : (a0 = none ∧ len0 = 0 ∧ cap0 = 0 ∧ z0 = []) ∨ ∃ x, a0 = some x ∧ len0 ≤ cap0 ∧ cap0 ≤ maxLen ∧ z0.length = cap0 ∧ (∀ i, i < z0.length → w.cell? (x.add i) = some (.int .u8 (z0.getD i 0))) ∧ ∀ n ∈ z0, (Lit.int .u8 n).wf = true) (y0 : len0 * 1 ≤ 140737488351232) :
  Calls Tryd.prog 3 #[.slice a0 len0 cap0] w fun e w' => e = .returned (.bool true) ∧ Below w.heap.size w w' := by
 obtain ⟨l0, rfl, hr0, hm0, hw0, hc0⟩ := ReadsInt.ofRowC w0;obtain ⟨k, h⟩ := P l0 hm0 y0 hw0;refine (laws_FnWorldOk.calls k _ _ l0 true w (Kd.C_of_reads (d := (0 : Int)) (h1 := fun _ => rfl) hr0) hc0 h).mono ?_;rintro e w' ⟨rfl, hd⟩;exact ⟨rfl, hd⟩
end Go.Proofs.YtpomhjkbgbociaaDoor.P
end
section
namespace Go.Proofs.YtpomhjkbgbociaaDoor.Draw
open Go.RowKit Go.Proofs.YtpomhjkbgbociaaDoor.P Go.Proofs.YtpomhjkbgbociaaDoorW.PrintWords Go.Proofs.YtpomhjkbgbociaaDoorW.PrintLast Go.Proofs.YtpomhjkbgbociaaDoorW.PrintMore Go.Proofs.YtpomhjkbgbociaaDoor.B
set_option linter.unusedVariables false
set_option linter.unusedSimpArgs false
structure Code (b : List Int) : Prop where
 byte : ∀ x ∈ b, 0 ≤ x ∧ x ≤ 255
 short : b.length ≤ 2000
theorem open_some (l0 : List Int) (hw : ∀ x ∈ l0, (Lit.int .u8 x).wf = true) : ∃ b, spec_l6Open.f l0 = some (b, 0) ∧ Code b := by
 unfold spec_l6Open.f
 by_cases h : (l0.length : Int) > 2000
 ·rw [if_pos h, if_pos (by omega)]
  exact ⟨_, rfl, fun x hx => wf_u8 (hw x (List.mem_of_mem_take hx)), by rw [List.length_take]; omega⟩
 ·rw [if_neg h]
  exact ⟨_, rfl, fun x hx => wf_u8 (hw x hx), by omega⟩
theorem pick_one {b : List Int} (hc : Code b) (k : Nat) (p n : Int) (hp : 0 ≤ p) (hp2 : p ≤ 1000000000000) :
  ∃ v, spec_l6Rd_pick.f (k + 1) b p n = some (v, p + 1) ∧ 0 ≤ v ∧ (1 ≤ n → v < n) := by
 have hl := hc.short
 have e1 : wrap64 (p + 1) = p + 1 := w64 (by omega) (by omega)
 have e2 : wrap64 (p + 1 - 1) = p := by rw [w64 (by omega) (by omega)]; omega
 unfold spec_l6Rd_pick.f
 rw [e1]
 by_cases h1 : n < 1
 ·rw [if_pos h1]
  exact ⟨0, by simp [spec_l6Rd_pick.j0], by omega, by omega⟩
 ·rw [if_neg h1]
  simp only [spec_l6Rd_pick.j0, e2]
  by_cases h2 : (b.length : Int) = 0
  ·rw [if_pos (by simpa using h2)]
   exact ⟨0, rfl, by omega, by omega⟩
  ·rw [if_neg (by simpa using h2)]
   by_cases h3 : p < (b.length : Int)
   ·rw [if_pos h3, if_pos hp, if_neg (by omega)]
    have hr := rd_byte hc.byte p
    rw [w64 (by omega) (by omega)]
    exact ⟨_, rfl, (tmod_nn hr.1 (by omega)).1, fun _ => (tmod_nn hr.1 (by omega)).2⟩
   ·rw [if_neg h3, if_neg h2]
    have hq := tmod_nn (a := p) (b := (b.length : Int)) hp (by omega)
    have ew1 : wrap64 (p * 7) = p * 7 := w64 (by omega) (by omega)
    have ew2 : wrap64 (p * 7 + 3) = p * 7 + 3 := w64 (by omega) (by omega)
    have hq2 := tmod_nn (a := p * 7 + 3) (b := (b.length : Int)) (by omega) (by omega)
    rw [if_pos hq.1, if_pos hq.2, ew1, ew2, if_pos hq2.1, if_pos hq2.2, if_neg (by omega)]
    have r1 := rd_byte hc.byte (Int.tmod p (b.length : Int))
    have r2 := rd_byte hc.byte (Int.tmod (p * 7 + 3) (b.length : Int))
    generalize rd b (Int.tmod p (b.length : Int)) = a1 at r1 ⊢
    generalize rd b (Int.tmod (p * 7 + 3) (b.length : Int)) = a2 at r2 ⊢
    have r3 := tdiv_nn (a := p) (b := (b.length : Int)) hp (by omega)
    generalize Int.tdiv p (b.length : Int) = q at r3 ⊢
    have s1 : wrap64 a1 = a1 := w64 (by omega) (by omega)
    have s2 : wrap64 a2 = a2 := w64 (by omega) (by omega)
    have s3 : wrap64 (a1 * 131) = a1 * 131 := w64 (by omega) (by omega)
    have s4 : wrap64 (a2 * 1117) = a2 * 1117 := w64 (by omega) (by omega)
    have s5 : wrap64 (p * 29) = p * 29 := w64 (by omega) (by omega)
    have s6 : wrap64 q = q := w64 (by omega) (by omega)
    have s7 : wrap64 (q * 53) = q * 53 := w64 (by omega) (by omega)
    have s8 : wrap64 (a1 * 131 + a2 * 1117) = a1 * 131 + a2 * 1117 := w64 (by omega) (by omega)
    have s9 : wrap64 (a1 * 131 + a2 * 1117 + p * 29) = a1 * 131 + a2 * 1117 + p * 29 := w64 (by omega) (by omega)
    have s10 : wrap64 (a1 * 131 + a2 * 1117 + p * 29 + q * 53) = a1 * 131 + a2 * 1117 + p * 29 + q * 53 := w64 (by omega) (by omega)
    simp only [s1, s2, s3, s4, s5, s6, s7, s8, s9, s10]
    have hX0 : 0 ≤ a1 * 131 + a2 * 1117 + p * 29 + q * 53 := by omega
    have hX1 : a1 * 131 + a2 * 1117 + p * 29 + q * 53 < 2 ^ 62 := by omega
    generalize a1 * 131 + a2 * 1117 + p * 29 + q * 53 = X at hX0 hX1 ⊢
    have d := tdiv_nn (a := X) (b := 64) hX0 (by omega)
    have s11 : wrap64 (Int.tdiv X 64) = Int.tdiv X 64 := w64 (by omega) (by omega)
    rw [s11]
    have z := xor_nn hX0 hX1 d.1 (by omega)
    exact ⟨_, rfl, (tmod_nn z.1 (by omega)).1, fun _ => (tmod_nn z.1 (by omega)).2⟩
theorem pick_ev {b : List Int} (hc : Code b) (p n : Int) (hp : 0 ≤ p) (hp2 : p ≤ 1000000000000) :
  ∃ v, Ev (fun k => spec_l6Rd_pick.f k b p n) (v, p + 1) ∧ 0 ≤ v ∧ (1 ≤ n → v < n) := by
 obtain ⟨v, h, h0, h1⟩ := pick_one hc 0 p n hp hp2
 exact ⟨v, Ev.of (fun k => spec_l6Rd_pick.mono _ _ _ k) h, h0, h1⟩
end Go.Proofs.YtpomhjkbgbociaaDoor.Draw
end
section
namespace Go.Proofs.YtpomhjkbgbociaaDoor.Draw
open Go.RowKit Go.Proofs.YtpomhjkbgbociaaDoor.P Go.Proofs.YtpomhjkbgbociaaDoorW.PrintWords Go.Proofs.YtpomhjkbgbociaaDoorW.PrintLast Go.Proofs.YtpomhjkbgbociaaDoorW.PrintMore Go.Proofs.YtpomhjkbgbociaaDoor.B
set_option linter.unusedVariables false
set_option linter.unusedSimpArgs false
theorem of_ev {b : List Int} (hc : Code b) (p : Int) (l : List ByteArray) (hl : l ≠ []) (hl2 : (l.length : Int) < 1000000) (hp : 0 ≤ p) (hp2 : p ≤ 1000000000000) :
  ∃ s, Ev (fun k => spec_l6Rd_of.f k b p l) (s, p + 1) ∧ s ∈ l := by
 have hpos : 0 < l.length := List.length_pos_iff.2 hl
 obtain ⟨v, h, h0, h1⟩ := pick_ev hc p (l.length : Int) hp hp2
 have hv := h1 (by omega)
 refine ⟨rdOf ByteArray.empty l v, Ev.bind h ?_, ?_⟩
 ·simp only [h0, hv, if_true]
  exact Ev.now _
 ·unfold rdOf
  have hlt : v.toNat < l.length := by omega
  rw [List.getD_eq_getElem?_getD, List.getElem?_eq_getElem hlt]
  exact List.getElem_mem hlt
end Go.Proofs.YtpomhjkbgbociaaDoor.Draw
end
section
namespace Go.Proofs.YtpomhjkbgbociaaDoor.Ad
open Go.RowKit Go.Proofs.YtpomhjkbgbociaaDoor.P Go.Proofs.YtpomhjkbgbociaaDoorW.PrintWords Go.Proofs.YtpomhjkbgbociaaDoorW.PrintLast Go.Proofs.YtpomhjkbgbociaaDoorW.PrintMore Go.Proofs.YtpomhjkbgbociaaDoor.B
set_option linter.unusedVariables false
set_option linter.unusedSimpArgs false
theorem hex_all : ∀ n : Nat, n < 256 → spec_l1Hex.f 2 (n : Int) = some (match hexN (UInt8.ofNat n) with | some x => (x : Int) | none => -1) := by decide +kernel
theorem plain_all : ∀ n : Nat, n < 256 → spec_l1Plain.f (n : Int) = some (plainB (UInt8.ofNat n)) := by decide +kernel
theorem sign_all : ∀ n : Nat, n < 256 → (spec_l1Sign.f (n : Int)).map L = some [37, fig (n / 16), fig (n % 16)] := by decide +kernel
theorem of_toNat (c : UInt8) : UInt8.ofNat c.toNat = c := UInt8.ofNat_toNat
theorem hex_ev (c : UInt8) : Ev (fun k => spec_l1Hex.f k (c.toNat : Int)) (match hexN c with | some x => (x : Int) | none => -1) := by
 refine Ev.of (fun k => spec_l1Hex.mono _ k) (k := 2) ?_
 have := hex_all c.toNat c.toNat_lt
 rwa [of_toNat] at this
theorem sign_f (n : Nat) (h : n < 256) : spec_l1Sign.f (n : Int) = some (ofL [37, fig (n / 16), fig (n % 16)]) := by
 have := sign_all n h
 obtain ⟨s, hs, e⟩ := Option.map_eq_some_iff.1 this
 rw [hs, ← e, of_L]
theorem nums_one (n : Nat) (h : n < 256) : strOfNums [(n : Int) % 256] = ofL [UInt8.ofNat n] := by
 unfold strOfNums ofL
 simp only [List.map_cons, List.map_nil, ByteArray.mk.injEq]
 congr 2
 rw [show ((n : Int) % 256) = (n : Int) from by omega]
 simp
theorem enc_ev (s acc : ByteArray) (i n : Nat) (h : n < 256) (hi : i < 1000000) (ha : acc.size ≤ 1000000) {r : ByteArray × Bool}
  (H : Ev (fun k => spec_EscNorm.l0 k s (acc ++ ofL (encN n)) (i + 1 : Nat)) r) : Ev (fun k => spec_EscNorm.j2 k s acc (i : Int) (n : Int)) r := by
 refine Ev.step (fun k => ?_) H
 have hw : wrap64 ((i : Int) + 1) = ((i + 1 : Nat) : Int) := by rw [w64 (by omega) (by omega)]; omega
 simp only [spec_EscNorm.j2]
 rw [show ((n : Int) % 256) = (n : Int) from by omega, plain_all n h]
 simp only [Option.bind_some]
 by_cases hp : plainB (UInt8.ofNat n) = true
 ·have e := nums_one n h
  rw [show ((n : Int) % 256) = (n : Int) from by omega] at e
  have he : encN n = [UInt8.ofNat n] := by unfold encN; rw [if_pos hp]
  have hz := ofL_size [UInt8.ofNat n]
  rw [if_pos hp, e, if_pos (by simp at hz; omega), hw, he]
 ·have he : encN n = [37, fig (n / 16), fig (n % 16)] := by unfold encN; rw [if_neg hp]
  rw [if_neg hp, sign_f n h]
  simp only [Option.bind_some]
  have hz := ofL_size [37, fig (n / 16), fig (n % 16)]
  rw [if_pos (by simp at hz; omega), hw, he]
theorem drop_at {l : List UInt8} {i : Nat} (h : i < l.length) : l.drop i = l[i] :: l.drop (i + 1) := List.drop_eq_getElem_cons h
theorem bt_get (s : ByteArray) (i : Nat) (h : i < (L s).length) : bt s i = (((L s)[i]).toNat : Int) := by
 rw [bt_L, List.getD_eq_getElem?_getD, List.getElem?_eq_getElem h]; rfl
theorem app_nil (a : ByteArray) : a ++ ofL [] = a := by apply L_inj; rw [L_app, L_of, List.append_nil]
def escR (acc : ByteArray) (o : Option (List UInt8)) : ByteArray × Bool := match o with
 | some r => (acc ++ ofL r, true)
 | none => (⟨#[]⟩, false)
theorem escR_map (acc : ByteArray) (x : List UInt8) (o : Option (List UInt8)) : escR acc (o.map (x ++ ·)) = escR (acc ++ ofL x) o := by
 cases o with
 | none => rfl
 | some r => simp only [escR, Option.map_some, ofL_app, ByteArray.append_assoc]
theorem esc_l (s : ByteArray) (hs : s.size ≤ 60) (n : Nat) : ∀ (i : Nat) (acc : ByteArray), i ≤ s.size → s.size - i ≤ n → acc.size ≤ 3 * i →
  Ev (fun k => spec_EscNorm.l0 k s acc (i : Int)) (escR acc (esc ((L s).drop i))) := by
 have hL := L_size s
 induction n with
 | zero =>
  intro i acc hi hn ha
  refine Ev.of (fun k => spec_EscNorm.mono_l k |>.1 _ _ _) (k := 1) ?_
  simp only [spec_EscNorm.l0]
  rw [if_neg (by omega), List.drop_eq_nil_of_le (by omega)]
  simp only [esc, escR]
  rw [app_nil]
 | succ n ih =>
  intro i acc hi hn ha
  by_cases hlt : i < s.size
  ·have hlt' : i < (L s).length := by omega
   rw [drop_at hlt']
   have hb := bt_get s i hlt'
   by_cases hc : (L s)[i] = 37
   ·have hb37 : bt s i = 37 := by rw [hb, hc]; rfl
    have w2 : wrap64 ((i : Int) + 2) = ((i + 2 : Nat) : Int) := by rw [w64 (by omega) (by omega)]; omega
    have w1 : wrap64 ((i : Int) + 1) = ((i + 1 : Nat) : Int) := by rw [w64 (by omega) (by omega)]; omega
    rw [hc]
    by_cases h2 : i + 2 < s.size
    ·have g1 : i + 1 < (L s).length := by omega
     have g2 : i + 2 < (L s).length := by omega
     rw [drop_at g1, drop_at g2]
     have b1 := bt_get s (i + 1) g1
     have b2 := bt_get s (i + 2) g2
     have q1 := hex_ev (L s)[i + 1]
     have q2 := hex_ev (L s)[i + 2]
     have l1 := @hexN_lt (L s)[i + 1]
     have l2 := @hexN_lt (L s)[i + 2]
     generalize (L s)[i + 1] = ca at b1 q1 l1 ⊢
     generalize (L s)[i + 2] = cb at b2 q2 l2 ⊢
     have e3 : i + 2 + 1 = i + 3 := rfl
     have bad : Ev (fun k => spec_EscNorm.j1 k s acc (i : Int) true) ((⟨#[]⟩ : ByteArray), false) :=
      Ev.of (fun k => spec_EscNorm.mono_l k |>.2.2 _ _ _ _) (k := 1) (by simp [spec_EscNorm.j1])
     refine Ev.step (f := fun k => (spec_l1Hex.f k (ca.toNat : Int)).bind fun t => if t < 0 then spec_EscNorm.j1 k s acc (i : Int) true else (spec_l1Hex.f k (cb.toNat : Int)).bind fun t2 => spec_EscNorm.j1 k s acc (i : Int) (decide (t2 < 0))) (fun k => ?_) ?_
     ·simp only [spec_EscNorm.l0]
      rw [if_pos (by omega), if_pos (by omega), if_pos hb37, w2, w1, if_neg (by omega), if_pos (by omega), if_pos (by omega), b1]
      congr 1
      funext t
      by_cases ht : t < 0
      ·rw [if_pos ht, if_pos ht]
      ·rw [if_neg ht, if_neg ht, if_pos (by omega), if_pos (by omega), b2]
     ·refine Ev.bind q1 ?_
      cases ha' : hexN ca with
      | none =>
       rw [esc_bad1 _ _ ha']
       simp only [show ((-1 : Int) < 0) from by omega, if_true]
       exact bad
      | some x =>
       have hx := l1 ha'
       simp only [show ¬ ((x : Int) < 0) from by omega, if_false]
       refine Ev.bind q2 ?_
       cases hb' : hexN cb with
       | none =>
        rw [esc_bad2 _ _ hb']
        simp only [show decide ((-1 : Int) < 0) = true from by decide]
        exact bad
       | some y =>
        have hy := l2 hb'
        simp only [show decide ((y : Int) < 0) = false from by simp]
        rw [ha'] at q1
        rw [hb'] at q2
        refine Ev.step (f := fun k => (spec_l1Hex.f k (ca.toNat : Int)).bind fun t => (spec_l1Hex.f k (cb.toNat : Int)).bind fun t2 => spec_EscNorm.j2 k s acc ((i + 2 : Nat) : Int) (wrap64 (wrap64 (t * 16) + t2))) (fun k => ?_) ?_
        ·simp only [spec_EscNorm.j1]
         rw [if_neg (by simp), w1, w2, if_pos (by omega), if_pos (by omega), b1]
         congr 1
         funext t
         rw [if_pos (by omega), if_pos (by omega), b2]
        ·refine Ev.bind q1 (Ev.bind q2 ?_)
         rw [esc_sign _ ha' hb']
         rw [show wrap64 (wrap64 ((x : Int) * 16) + (y : Int)) = ((x * 16 + y : Nat) : Int) from by rw [w64 (n := (x : Int) * 16) (by omega) (by omega), w64 (by omega) (by omega)]; omega]
         refine enc_ev s acc (i + 2) (x * 16 + y) (by omega) (by omega) (by omega) ?_
         rw [escR_map]
         exact ih (i + 2 + 1) _ (by omega) (by omega) (by have z := ofL_size (encN (x * 16 + y)); have := encN_len (x * 16 + y); rw [ByteArray.size_append]; omega)
    ·rw [esc_short (by rw [List.length_drop]; omega)]
     refine Ev.of (fun k => spec_EscNorm.mono_l k |>.1 _ _ _) (k := 2) ?_
     simp only [spec_EscNorm.l0, spec_EscNorm.j1]
     rw [if_pos (by omega), if_pos (by omega), if_pos hb37, w2, if_pos (by omega)]
     rfl
   ·have hb37 : ¬ bt s i = 37 := by
     rw [hb]
     intro e
     exact hc (UInt8.toNat_inj.1 (by have : (37 : UInt8).toNat = 37 := rfl; omega))
    rw [esc_plain _ hc]
    have hlt8 := (L s)[i].toNat_lt
    refine Ev.step (f := fun k => spec_EscNorm.j2 k s acc (i : Int) (((L s)[i].toNat : Nat) : Int)) (fun k => ?_) ?_
    ·simp only [spec_EscNorm.l0]
     rw [if_pos (by omega), if_pos (by omega), if_neg hb37, hb, w64 (by omega) (by omega)]
    ·refine enc_ev s acc i _ (by omega) (by omega) (by omega) ?_
     rw [escR_map]
     exact ih (i + 1) _ (by omega) (by omega) (by have z := ofL_size (encN (L s)[i].toNat); have := encN_len (L s)[i].toNat; rw [ByteArray.size_append]; omega)
  ·refine Ev.of (fun k => spec_EscNorm.mono_l k |>.1 _ _ _) (k := 1) ?_
   simp only [spec_EscNorm.l0]
   rw [if_neg (by omega), List.drop_eq_nil_of_le (by omega)]
   simp only [esc, escR]
   rw [app_nil]
theorem escNorm_ev (s : ByteArray) : Ev (fun k => spec_EscNorm.f k s) (escNorm s) := by
 unfold spec_EscNorm.f escNorm
 by_cases h : s.size > 60
 ·simp only [show ((s.size : Int) > 60) from by omega, if_true, h]
  exact Ev.now _
 ·simp only [show ¬ ((s.size : Int) > 60) from by omega, if_false, h]
  have := esc_l s (by omega) s.size 0 ⟨#[]⟩ (by omega) (by omega) (Nat.le_refl 0)
  simp only [List.drop_zero] at this
  have e : escR (⟨#[]⟩ : ByteArray) (esc (L s)) = escO (esc (L s)) := by
   unfold escR escO
   cases esc (L s) with
   | none => rfl
   | some r => simp only [Prod.mk.injEq, and_true]; apply L_inj; rw [L_app]; rfl
  rw [← e]
  exact this
theorem norm_ev (s : ByteArray) : Ev (fun k => spec_l1Norm.f k s) (isNorm s) := by
 unfold spec_l1Norm.f isNorm
 refine Ev.bind (escNorm_ev s) ?_
 by_cases h : (escNorm s).2 = true
 ·simp only [h, if_true, Bool.true_and]
  exact Ev.now _
 ·simp only [h, if_false, Bool.false_and]
  exact Ev.now _
end Go.Proofs.YtpomhjkbgbociaaDoor.Ad
end
section
namespace Go.Proofs.YtpomhjkbgbociaaDoor.Ad
open Go.RowKit Go.Proofs.YtpomhjkbgbociaaDoor.P Go.Proofs.YtpomhjkbgbociaaDoorW.PrintWords Go.Proofs.YtpomhjkbgbociaaDoorW.PrintLast Go.Proofs.YtpomhjkbgbociaaDoorW.PrintMore Go.Proofs.YtpomhjkbgbociaaDoor.B
set_option linter.unusedVariables false
set_option linter.unusedSimpArgs false
theorem spec_house_l (s : ByteArray) (hs : s.size ≤ 140737488351232) (d : Nat) : ∀ (k : Nat) (i : Nat), i + d = s.size → d < k →
  spec_l1House.l0 k s (i : Int) = some (smallFrom s d i && (decide (1 ≤ s.size) && decide (s.size ≤ 5))) := by
 induction d with
 | zero =>
  intro k i h hk
  obtain ⟨k, rfl⟩ : ∃ m, k = m + 1 := ⟨k - 1, by omega⟩
  simp only [spec_l1House.l0, smallFrom, spec_l6In.f]
  rw [if_neg (by omega)]
  by_cases h1 : 1 ≤ s.size
  ·rw [if_pos (by omega)]; simp [h1]; omega
  ·rw [if_neg (by omega)]; simp [h1]
 | succ d ih =>
  intro k i h hk
  obtain ⟨k, rfl⟩ : ∃ m, k = m + 1 := ⟨k - 1, by omega⟩
  simp only [spec_l1House.l0, smallFrom]
  rw [if_pos (by omega), if_pos (by omega)]
  by_cases h1 : bt s i < 97
  ·rw [if_pos h1, if_pos h1]; rfl
  ·rw [if_neg h1, if_neg h1]
   by_cases h2 : bt s i > 122
   ·rw [if_pos h2, if_pos h2]; rfl
   ·rw [if_neg h2, if_neg h2, w64 (by omega) (by omega)]
    exact ih k (i + 1) (by omega) (by omega)
theorem house_ev (s : ByteArray) (hs : s.size ≤ 140737488351232) : Ev (fun k => spec_l1House.f k s) (isHouse s) := by
 refine Ev.of (fun k => spec_l1House.mono _ k) (k := s.size + 1) ?_
 unfold spec_l1House.f
 have := spec_house_l s hs s.size (s.size + 1) 0 (by omega) (by omega)
 rw [show ((0 : Nat) : Int) = 0 from rfl] at this
 rw [this]
 unfold isHouse isSmall
 cases smallFrom s s.size 0 <;> simp
theorem rd_at {l : List ByteArray} {i : Nat} (h : i < l.length) : rdOf ByteArray.empty l (i : Int) = l[i] := by
 unfold rdOf
 rw [List.getD_eq_getElem?_getD, Int.toNat_natCast, List.getElem?_eq_getElem h]
 rfl
structure Parts (ps : List ByteArray) : Prop where
 few : ps.length ≤ 1000
 short : ∀ p ∈ ps, p.size ≤ 1048576
def fin (asks : Bool) (ask b : ByteArray) : ByteArray := if asks = true then (b ++ ⟨#[63]⟩) ++ ask else b
theorem path_end (acc house : ByteArray) (parts : List ByteArray) (asks : Bool) (ask : ByteArray) (i : Nat) (hi : i = parts.length) (ha : acc.size ≤ 2000000000) (hq : ask.size ≤ 1048576) :
  Ev (fun k => spec_l1Path.l0 k acc (i : Int) house parts asks ask) (fin asks ask acc) := by
 refine Ev.of (fun k => spec_l1Path.mono_l k _ _ _ _ _ _) (k := 1) ?_
 simp only [spec_l1Path.l0, fin]
 rw [if_neg (by omega)]
 by_cases h : asks = true
 ·rw [if_pos h, if_pos h, if_pos (by omega), if_pos (by omega)]
 ·rw [if_neg h, if_neg h]
theorem path_l (house : ByteArray) (parts : List ByteArray) (asks : Bool) (ask : ByteArray) (hP : Parts parts) (hq : ask.size ≤ 1048576) (d : Nat) : ∀ (i : Nat) (acc : ByteArray), i + d = parts.length → 1 ≤ i → (acc.size : Int) ≤ 1 + (i : Int) * 1048577 →
  Ev (fun k => spec_l1Path.l0 k acc (i : Int) house parts asks ask) (fin asks ask ((parts.drop i).foldl (fun a q => (a ++ ⟨#[47]⟩) ++ q) acc)) := by
 have hf := hP.few
 induction d with
 | zero =>
  intro i acc hi _ ha
  rw [List.drop_eq_nil_of_le (by omega)]
  exact path_end acc house parts asks ask i (by omega) (by omega) hq
 | succ d ih =>
  intro i acc hi h1 ha
  have hlt : i < parts.length := by omega
  have hz := hP.short parts[i] (List.getElem_mem hlt)
  rw [List.drop_eq_getElem_cons hlt, List.foldl_cons]
  have h47 : (⟨#[47]⟩ : ByteArray).size = 1 := rfl
  have hsz : ((acc ++ (⟨#[47]⟩ : ByteArray)) ++ parts[i]).size = acc.size + 1 + parts[i].size := by rw [ByteArray.size_append, ByteArray.size_append, h47]
  have f1 : (i : Int) < (parts.length : Int) := by omega
  have f2 : (i : Int) > 0 := by omega
  have f3 : acc.size + 1 ≤ 9223372036854775807 := by omega
  have f4 : 0 ≤ (i : Int) := by omega
  have f5 : acc.size + 1 + parts[i].size ≤ 9223372036854775807 := by omega
  have hw : wrap64 ((i : Int) + 1) = ((i + 1 : Nat) : Int) := by rw [w64 (by omega) (by omega)]; omega
  have h := ih (i + 1) ((acc ++ (⟨#[47]⟩ : ByteArray)) ++ parts[i]) (by omega) (by omega) (by rw [hsz]; omega)
  refine Ev.step (fun k => ?_) h
  simp only [spec_l1Path.l0]
  rw [if_pos f1, if_pos f2, if_pos f3, if_pos f4, rd_at hlt, if_pos f5, hw]
theorem path_ev (house : ByteArray) (parts : List ByteArray) (asks : Bool) (ask : ByteArray) (hP : Parts parts) (hq : ask.size ≤ 1048576) :
  Ev (fun k => spec_l1Path.f k house parts asks ask) (pathB parts asks ask) := by
 unfold spec_l1Path.f
 match parts, hP with
 | [], hP =>
  have := path_end ⟨#[47]⟩ house [] asks ask 0 rfl (by decide) hq
  exact this
 | p :: r, hP =>
  have hz := hP.short p List.mem_cons_self
  have hs : ((⟨#[47]⟩ : ByteArray) ++ p).size = 1 + p.size := by rw [ByteArray.size_append]; rfl
  refine Ev.step (fun k => ?_) (path_l house (p :: r) asks ask hP hq r.length 1 ((⟨#[47]⟩ : ByteArray) ++ p) (by simp; omega) (by omega) (by omega))
  have h47 : (⟨#[47]⟩ : ByteArray).size = 1 := rfl
  have hr0 : rdOf ByteArray.empty (p :: r) 0 = p := rfl
  simp only [spec_l1Path.l0]
  have f1 : (0 : Int) < ((p :: r).length : Int) := by simp only [List.length_cons]; omega
  have f5 : (⟨#[47]⟩ : ByteArray).size + p.size ≤ 9223372036854775807 := by omega
  rw [if_pos f1, if_neg (by omega), if_pos (by omega), hr0, if_pos f5, w64 (by omega) (by omega)]
  rfl
theorem path_size (parts : List ByteArray) (asks : Bool) (ask : ByteArray) (hP : Parts parts) (hq : ask.size ≤ 1048576) : (pathB parts asks ask).size ≤ 2000000000 := by
 have hf := hP.few
 have hb : ((body parts).size : Int) ≤ 1 + (parts.length : Int) * 1048577 := by
  match parts, hP with
  | [], _ => simp [body]; decide
  | p :: r, hP =>
   have key : ∀ (r : List ByteArray) (acc : ByteArray), (∀ q ∈ r, q.size ≤ 1048576) → ((r.foldl (fun a q => (a ++ ⟨#[47]⟩) ++ q) acc).size : Int) ≤ (acc.size : Int) + (r.length : Int) * 1048577 := by
    intro r
    induction r with
    | nil => intro acc _; simp
    | cons q r ih =>
     intro acc h
     have := ih ((acc ++ ⟨#[47]⟩) ++ q) (fun x hx => h x (List.mem_cons_of_mem _ hx))
     have hq := h q List.mem_cons_self
     have h47 : (⟨#[47]⟩ : ByteArray).size = 1 := rfl
     rw [List.foldl_cons]
     rw [ByteArray.size_append, ByteArray.size_append] at this
     simp only [List.length_cons]
     omega
   have := key r ((⟨#[47]⟩ : ByteArray) ++ p) (fun x hx => hP.short x (List.mem_cons_of_mem _ hx))
   have hz := hP.short p List.mem_cons_self
   have hs : ((⟨#[47]⟩ : ByteArray) ++ p).size = 1 + p.size := by rw [ByteArray.size_append]; rfl
   simp only [body, List.length_cons]
   omega
 unfold pathB
 have h63 : (⟨#[63]⟩ : ByteArray).size = 1 := rfl
 split
 ·rw [ByteArray.size_append, ByteArray.size_append]; omega
 ·omega
theorem text_ev (house : ByteArray) (parts : List ByteArray) (asks : Bool) (ask : ByteArray) (hP : Parts parts) (hq : ask.size ≤ 1048576) (hh : house.size ≤ 1048576) :
  Ev (fun k => spec_l1Text.f k house parts asks ask) (textB house parts asks ask) := by
 unfold spec_l1Text.f
 have hz := path_size parts asks ask hP hq
 simp only [show 2 + house.size ≤ 9223372036854775807 from by omega, if_true]
 refine Ev.bind (path_ev house parts asks ask hP hq) ?_
 simp only [show 2 + house.size + (pathB parts asks ask).size ≤ 9223372036854775807 from by omega, if_true]
 exact Ev.now _
theorem ok_l (house : ByteArray) (parts : List ByteArray) (asks : Bool) (ask : ByteArray) (hP : Parts parts) (hq : ask.size ≤ 1048576) (hh : house.size ≤ 1048576) (d : Nat) : ∀ (i : Nat), i + d = parts.length →
  Ev (fun k => spec_AddrOk.l0 k (i : Int) house parts asks ask) ((parts.drop i).all partOk && decide ((textB house parts asks ask).size ≤ 60)) := by
 have hf := hP.few
 induction d with
 | zero =>
  intro i hi
  rw [List.drop_eq_nil_of_le (by omega)]
  simp only [List.all_nil, Bool.true_and]
  refine Ev.step (f := fun k => (spec_l1Text.f k house parts asks ask).bind fun t => some (decide ((t.size : Int) ≤ 60))) (fun k => ?_) (Ev.bind (text_ev house parts asks ask hP hq hh) ?_)
  ·simp only [spec_AddrOk.l0]
   rw [if_neg (by omega)]
  ·have e : decide (((textB house parts asks ask).size : Int) ≤ 60) = decide ((textB house parts asks ask).size ≤ 60) := by rw [Bool.eq_iff_iff]; simp; omega
   rw [e]
   exact Ev.now _
 | succ d ih =>
  intro i hi
  have hlt : i < parts.length := by omega
  rw [List.drop_eq_getElem_cons hlt, List.all_cons]
  refine Ev.step (f := fun k => (spec_l1Norm.f k parts[i]).bind fun t => if t = true then (if parts[i].toList = [] then some false else if parts[i].toList = [46] then some false else if parts[i].toList = [46, 46] then some false else spec_AddrOk.l0 k ((i + 1 : Nat) : Int) house parts asks ask) else some false) (fun k => ?_) (Ev.bind (norm_ev parts[i]) ?_)
  ·simp only [spec_AddrOk.l0]
   rw [if_pos (by omega), if_pos (by omega), rd_at hlt, w64 (by omega) (by omega)]
   rfl
  ·by_cases h1 : isNorm parts[i] = true
   ·by_cases h2 : parts[i].toList = []
    ·simp only [h1, h2, if_true]
     rw [show partOk parts[i] = false from by simp [partOk, h2]]
     exact Ev.now _
    ·by_cases h3 : parts[i].toList = [46]
     ·simp only [h1, h3, if_true]
      rw [show partOk parts[i] = false from by simp [partOk, h3]]
      exact Ev.now _
     ·by_cases h4 : parts[i].toList = [46, 46]
      ·simp only [h1, h4, if_true]
       rw [show partOk parts[i] = false from by simp [partOk, h4]]
       exact Ev.now _
      ·simp only [h1, h2, h3, h4, if_true, if_false]
       rw [show partOk parts[i] = true from by simp [partOk, h1, h2, h3, h4], Bool.true_and]
       exact ih (i + 1) (by omega)
   ·simp only [h1, if_false]
    rw [show partOk parts[i] = false from by simp [partOk, h1]]
    exact Ev.now _
theorem addrOk_ev (house : ByteArray) (parts : List ByteArray) (asks : Bool) (ask : ByteArray) (hP : Parts parts) (hq : ask.size ≤ 1048576) (hh : house.size ≤ 1048576) :
  Ev (fun k => spec_AddrOk.f k house parts asks ask) (addrOk house parts asks ask) := by
 have hf := hP.few
 have bad : ∀ r, r = false → Ev (fun k => spec_AddrOk.j0 k true house parts asks ask) r := fun r hr => by
  subst hr
  exact Ev.of (fun k => spec_AddrOk.mono_l k |>.1 _ _ _ _ _) (k := 1) (by simp [spec_AddrOk.j0])
 have good : Ev (fun k => spec_AddrOk.j0 k false house parts asks ask) (parts.all partOk && decide ((textB house parts asks ask).size ≤ 60)) := by
  refine Ev.step (fun k => ?_) (by simpa using ok_l house parts asks ask hP hq hh parts.length 0 (by omega))
  simp [spec_AddrOk.j0]
 unfold spec_AddrOk.f
 refine Ev.bind (house_ev house (by omega)) ?_
 by_cases h1 : isHouse house = true
 ·simp only [h1, if_true]
  by_cases h2 : parts.length ≤ 5
  ·simp only [show ¬ ((parts.length : Int) > 5) from by omega, if_false]
   refine Ev.bind (norm_ev ask) ?_
   by_cases h3 : isNorm ask = true
   ·simp only [h3, if_true]
    by_cases h4 : asks = true
    ·simp only [h4, if_true]
     rw [h4] at good
     rw [show addrOk house parts true ask = (parts.all partOk && decide ((textB house parts true ask).size ≤ 60)) from by simp [addrOk, h1, h2, h3]]
     exact good
    ·rw [show (fun k => if asks = true then spec_AddrOk.j0 k false house parts asks ask else spec_AddrOk.j0 k (ask.toList != []) house parts asks ask) = (fun k => spec_AddrOk.j0 k (ask.toList != []) house parts asks ask) from by funext k; rw [if_neg h4]]
     by_cases h5 : ask.toList = []
     ·obtain rfl : asks = false := by simpa using h4
      simp only [h5, bne_self_eq_false, Bool.false_eq_true, if_false]
      rw [show addrOk house parts false ask = (parts.all partOk && decide ((textB house parts false ask).size ≤ 60)) from by simp [addrOk, h1, h2, h3, h5]]
      exact good
     ·rw [show (ask.toList != ([] : List UInt8)) = true from by simp [h5]]
      exact bad _ (by simp [addrOk, h4, h5])
   ·simp only [h3, if_false]
    exact bad _ (by simp [addrOk, h3])
  ·simp only [show (parts.length : Int) > 5 from by omega, if_true]
   exact bad _ (by simp [addrOk, h2])
 ·simp only [h1, if_false]
  exact bad _ (by simp [addrOk, h1])
theorem addrText_ev (house : ByteArray) (parts : List ByteArray) (asks : Bool) (ask : ByteArray) (hP : Parts parts) (hq : ask.size ≤ 1048576) (hh : house.size ≤ 1048576) :
  Ev (fun k => spec_AddrText.f k house parts asks ask) (addrText house parts asks ask) := by
 unfold spec_AddrText.f addrText
 refine Ev.bind (addrOk_ev house parts asks ask hP hq hh) ?_
 by_cases h : addrOk house parts asks ask = true
 ·simp only [h, if_true]
  exact Ev.bind (text_ev house parts asks ask hP hq hh) (Ev.now _)
 ·simp only [h, if_false]
  exact Ev.now _
end Go.Proofs.YtpomhjkbgbociaaDoor.Ad
end
section
namespace Go.Proofs.YtpomhjkbgbociaaDoor.Draw
open Go.RowKit Go.Proofs.YtpomhjkbgbociaaDoor.P Go.Proofs.YtpomhjkbgbociaaDoorW.PrintWords Go.Proofs.YtpomhjkbgbociaaDoorW.PrintLast Go.Proofs.YtpomhjkbgbociaaDoorW.PrintMore Go.Proofs.YtpomhjkbgbociaaDoor.B Go.Proofs.YtpomhjkbgbociaaDoor.Ad
set_option linter.unusedVariables false
set_option linter.unusedSimpArgs false
theorem of_sz {b : List Int} (hc : Code b) (p : Int) (l : List ByteArray) (N : Nat) (hp : 0 ≤ p) (hp2 : p ≤ 1000000000000)
  (hl : decide (0 < l.length ∧ l.length < 1000000) = true) (hN : (l.all fun s => decide (s.size ≤ N)) = true) :
  ∃ s, Ev (fun k => spec_l6Rd_of.f k b p l) (s, p + 1) ∧ s.size ≤ N := by
 have h := of_decide_eq_true hl
 obtain ⟨s, h1, h2⟩ := of_ev hc p l (List.length_pos_iff.1 h.1) (by omega) hp hp2
 exact ⟨s, h1, of_decide_eq_true (List.all_eq_true.1 hN s h2)⟩
theorem body_small {ps : List ByteArray} (h : ∀ q ∈ ps, q.size ≤ 6) : (body ps).size ≤ 7 * ps.length + 1 := by
 match ps, h with
 | [], _ => decide
 | p :: r, h =>
  have key : ∀ (r : List ByteArray) (acc : ByteArray), (∀ q ∈ r, q.size ≤ 6) → (r.foldl (fun a q => (a ++ ⟨#[47]⟩) ++ q) acc).size ≤ acc.size + 7 * r.length := by
   intro r
   induction r with
   | nil => intro acc _; simp
   | cons q r ih =>
    intro acc h
    have := ih ((acc ++ ⟨#[47]⟩) ++ q) (fun x hx => h x (List.mem_cons_of_mem _ hx))
    have hq := h q List.mem_cons_self
    have h47 : (⟨#[47]⟩ : ByteArray).size = 1 := rfl
    rw [List.foldl_cons]
    rw [ByteArray.size_append, ByteArray.size_append] at this
    simp only [List.length_cons]
    omega
  have := key r ((⟨#[47]⟩ : ByteArray) ++ p) (fun x hx => h x (List.mem_cons_of_mem _ hx))
  have hz := h p List.mem_cons_self
  have hs : ((⟨#[47]⟩ : ByteArray) ++ p).size = 1 + p.size := by rw [ByteArray.size_append]; rfl
  simp only [body, List.length_cons]
  omega
theorem addrText_small {house : ByteArray} {ps : List ByteArray} (asks : Bool) {ask : ByteArray} (hh : house.size ≤ 3) (hs : ∀ q ∈ ps, q.size ≤ 6) (hl : ps.length ≤ 2) (ha : ask.size ≤ 4) : (addrText house ps asks ask).size ≤ 25 := by
 have hb := body_small hs
 have h63 : (⟨#[63]⟩ : ByteArray).size = 1 := rfl
 have h47 : (⟨#[47, 47]⟩ : ByteArray).size = 2 := rfl
 unfold addrText textB pathB
 split
 ·split
  ·simp only [ByteArray.size_append]; omega
  ·simp only [ByteArray.size_append]; omega
 ·exact Nat.zero_le _
theorem addr_l {b : List Int} (hc : Code b) (house : ByteArray) (hh : house.size ≤ 3) (d : Nat) : ∀ (p : Int) (parts : List ByteArray), 0 ≤ p → p + d ≤ 100000000000 → (∀ q ∈ parts, q.size ≤ 6) → parts.length + d ≤ 2 →
  ∃ s p', Ev (fun k => spec_l71Addr.l0 k (d : Int) b p house parts false ⟨#[]⟩) (s, p') ∧ s.size ≤ 25 ∧ p ≤ p' ∧ p' ≤ p + d + 2 := by
 induction d with
 | zero =>
  intro p parts h0 h1 hs hl
  have hP : Parts parts := ⟨by omega, fun q hq => by have := hs q hq; omega⟩
  obtain ⟨v, hv, _, _⟩ := pick_ev hc p 8 h0 (by omega)
  by_cases hv0 : v = 0
  ·obtain ⟨ask, ha, hz⟩ := of_sz hc (p + 1) ([(⟨#[]⟩ : ByteArray), (⟨#[97]⟩ : ByteArray), (⟨#[98, 37, 51, 68]⟩ : ByteArray)] : List ByteArray) 4 (by omega) (by omega) (by decide) (by decide)
   refine ⟨addrText house parts true ask, p + 1 + 1, Ev.step (f := fun k => (spec_l6Rd_pick.f k b p 8).bind fun bt => if bt.1 = 0 then ((spec_l6Rd_of.f k b bt.2 ([(⟨#[]⟩ : ByteArray), (⟨#[97]⟩ : ByteArray), (⟨#[98, 37, 51, 68]⟩ : ByteArray)] : List ByteArray)).bind fun b2 => (spec_AddrText.f k house parts true b2.1).bind fun t => some (t, b2.2)) else (spec_AddrText.f k house parts false ⟨#[]⟩).bind fun t => some (t, bt.2)) (fun k => ?_) (Ev.bind hv ?_), addrText_small true hh hs (by omega) hz, by omega, by omega⟩
   ·simp only [spec_l71Addr.l0]
    rw [if_neg (by omega)]
   ·simp only [hv0, if_true]
    exact Ev.bind ha (Ev.bind (addrText_ev house parts true ask hP (by omega) (by omega)) (Ev.now _))
  ·refine ⟨addrText house parts false ⟨#[]⟩, p + 1, Ev.step (f := fun k => (spec_l6Rd_pick.f k b p 8).bind fun bt => if bt.1 = 0 then ((spec_l6Rd_of.f k b bt.2 ([(⟨#[]⟩ : ByteArray), (⟨#[97]⟩ : ByteArray), (⟨#[98, 37, 51, 68]⟩ : ByteArray)] : List ByteArray)).bind fun b2 => (spec_AddrText.f k house parts true b2.1).bind fun t => some (t, b2.2)) else (spec_AddrText.f k house parts false ⟨#[]⟩).bind fun t => some (t, bt.2)) (fun k => ?_) (Ev.bind hv ?_), addrText_small false hh hs (by omega) (by decide), by omega, by omega⟩
   ·simp only [spec_l71Addr.l0]
    rw [if_neg (by omega)]
   ·simp only [hv0, if_false]
    exact Ev.bind (addrText_ev house parts false ⟨#[]⟩ hP (by decide) (by omega)) (Ev.now _)
 | succ d ih =>
  intro p parts h0 h1 hs hl
  obtain ⟨q, hq, hz⟩ := of_sz hc p ([(⟨#[97]⟩ : ByteArray), (⟨#[98]⟩ : ByteArray), (⟨#[99]⟩ : ByteArray), (⟨#[110, 111, 116, 105, 99, 101]⟩ : ByteArray)] : List ByteArray) 6 h0 (by omega) (by decide) (by decide)
  obtain ⟨s, p', h, h2, h3, h4⟩ := ih (p + 1) (parts ++ [q]) (by omega) (by omega) (fun x hx => by
   rcases List.mem_append.1 hx with hx | hx
   ·exact hs x hx
   ·rw [List.mem_singleton.1 hx]; exact hz) (by simp; omega)
  refine ⟨s, p', Ev.step (f := fun k => (spec_l6Rd_of.f k b p ([(⟨#[97]⟩ : ByteArray), (⟨#[98]⟩ : ByteArray), (⟨#[99]⟩ : ByteArray), (⟨#[110, 111, 116, 105, 99, 101]⟩ : ByteArray)] : List ByteArray)).bind fun bt => spec_l71Addr.l0 k (d : Int) b bt.2 house (parts ++ [bt.1]) false ⟨#[]⟩) (fun k => ?_) (Ev.bind hq h), h2, by omega, by omega⟩
  simp only [spec_l71Addr.l0]
  rw [if_pos (by omega), show wrap64 (((d + 1 : Nat) : Int) - 1) = (d : Int) from by rw [w64 (by omega) (by omega)]; omega]
  congr 1
  funext bt
  rw [if_pos (by omega)]
theorem addr_ev {b : List Int} (hc : Code b) (p : Int) (h0 : 0 ≤ p) (h1 : p ≤ 10000000000) : ∃ s p', Ev (fun k => spec_l71Addr.f k b p) (s, p') ∧ s.size ≤ 25 ∧ p ≤ p' ∧ p' ≤ p + 10 := by
 obtain ⟨v, hv, v0, v1⟩ := pick_ev hc p 4 h0 (by omega)
 have v2 := v1 (by omega)
 obtain ⟨n, hn, n0, n1⟩ := pick_ev hc (p + 1) 3 (by omega) (by omega)
 have n2 := n1 (by omega)
 obtain ⟨m, rfl⟩ := Int.eq_ofNat_of_zero_le n0
 have hh : (rdOf ByteArray.empty ([(⟨#[97, 98]⟩ : ByteArray), (⟨#[99, 100]⟩ : ByteArray), (⟨#[101]⟩ : ByteArray), (⟨#[102, 111, 120]⟩ : ByteArray)] : List ByteArray) v).size ≤ 3 := by
  obtain rfl | rfl | rfl | rfl : v = 0 ∨ v = 1 ∨ v = 2 ∨ v = 3 := by omega
  all_goals decide
 obtain ⟨s, p', h, h2, h3, h4⟩ := addr_l hc _ hh m (p + 1 + 1) [] (by omega) (by omega) (by simp) (by simp; omega)
 refine ⟨s, p', ?_, h2, by omega, by omega⟩
 unfold spec_l71Addr.f spec_l71Houses.f
 simp only [Option.bind_some]
 refine Ev.bind hv ?_
 simp only [v0, show v < (([(⟨#[97, 98]⟩ : ByteArray), (⟨#[99, 100]⟩ : ByteArray), (⟨#[101]⟩ : ByteArray), (⟨#[102, 111, 120]⟩ : ByteArray)] : List ByteArray).length : Int) from by simp; omega, if_true]
 exact Ev.bind hn h
end Go.Proofs.YtpomhjkbgbociaaDoor.Draw
end
section
namespace Go.Proofs.YtpomhjkbgbociaaDoor.Draw
open Go.RowKit Go.Proofs.YtpomhjkbgbociaaDoor.P Go.Proofs.YtpomhjkbgbociaaDoorW.PrintWords Go.Proofs.YtpomhjkbgbociaaDoorW.PrintLast Go.Proofs.YtpomhjkbgbociaaDoorW.PrintMore Go.Proofs.YtpomhjkbgbociaaDoor.B Go.Proofs.YtpomhjkbgbociaaDoor.Ad
set_option linter.unusedVariables false
set_option linter.unusedSimpArgs false
theorem ref_j {b : List Int} (hc : Code b) (x : Int) (y : Bool) (p : Int) (h0 : 0 ≤ p) (h1 : p ≤ 10000000000) : ∃ s p', Ev (fun k => spec_l71Ref.j0 k x y b p) (s, p') ∧ s.size ≤ 25 ∧ p ≤ p' ∧ p' ≤ p + 10 := by
 by_cases hy : y = true
 ·obtain ⟨s, p', h, h2, h3, h4⟩ := addr_ev hc p h0 h1
  refine ⟨s, p', Ev.step (f := fun k => (spec_l71Addr.f k b p).bind fun bt => some (bt.1, bt.2)) (fun k => ?_) (Ev.bind h (Ev.now _)), h2, h3, h4⟩
  simp only [spec_l71Ref.j0]
  rw [if_pos hy]
 by_cases x2 : x = 2
 ·obtain ⟨s, h, hz⟩ := of_sz hc p (([(⟨#[97]⟩ : ByteArray), (⟨#[98]⟩ : ByteArray), (⟨#[97, 47, 98]⟩ : ByteArray), (⟨#[99, 47, 46, 46, 47, 98]⟩ : ByteArray), (⟨#[]⟩ : ByteArray), (⟨#[120, 47, 46, 47, 99]⟩ : ByteArray)] : List ByteArray)) 9 h0 (by omega) (by decide) (by decide)
  have h47 : (⟨#[47]⟩ : ByteArray).size = 1 := rfl
  refine ⟨(⟨#[47]⟩ : ByteArray) ++ s, p + 1, Ev.step (f := fun k => (spec_l6Rd_of.f k b p (([(⟨#[97]⟩ : ByteArray), (⟨#[98]⟩ : ByteArray), (⟨#[97, 47, 98]⟩ : ByteArray), (⟨#[99, 47, 46, 46, 47, 98]⟩ : ByteArray), (⟨#[]⟩ : ByteArray), (⟨#[120, 47, 46, 47, 99]⟩ : ByteArray)] : List ByteArray))).bind fun bt => if 1 + bt.1.size ≤ 9223372036854775807 then some ((⟨#[47]⟩ : ByteArray) ++ bt.1, bt.2) else none) (fun k => ?_) (Ev.bind h ?_), by rw [ByteArray.size_append]; omega, by omega, by omega⟩
  ·simp only [spec_l71Ref.j0]
   rw [if_neg hy, if_pos x2]
  ·simp only [show 1 + s.size ≤ 9223372036854775807 from by omega, if_true]
   exact Ev.now _
 by_cases x3 : x = 3
 ·obtain ⟨s, h, hz⟩ := of_sz hc p (([(⟨#[46, 46]⟩ : ByteArray), (⟨#[46, 46, 47, 99]⟩ : ByteArray), (⟨#[46, 46, 47, 46, 46, 47, 46, 46]⟩ : ByteArray), (⟨#[46]⟩ : ByteArray), (⟨#[46, 47, 97]⟩ : ByteArray)] : List ByteArray)) 9 h0 (by omega) (by decide) (by decide)
  refine ⟨s, p + 1, Ev.step (fun k => ?_) (Ev.bind (f := fun k bt => some (bt.1, bt.2)) h (Ev.now _)), by omega, by omega, by omega⟩
  simp only [spec_l71Ref.j0]
  rw [if_neg hy, if_neg x2, if_pos x3]
 by_cases x4 : x = 4
 ·obtain ⟨s, h, hz⟩ := of_sz hc p (([(⟨#[63, 97]⟩ : ByteArray), (⟨#[63]⟩ : ByteArray), (⟨#[35, 116, 111, 112]⟩ : ByteArray), (⟨#[]⟩ : ByteArray), (⟨#[97, 35, 98]⟩ : ByteArray), (⟨#[98, 63, 97]⟩ : ByteArray)] : List ByteArray)) 9 h0 (by omega) (by decide) (by decide)
  refine ⟨s, p + 1, Ev.step (fun k => ?_) (Ev.bind (f := fun k bt => some (bt.1, bt.2)) h (Ev.now _)), by omega, by omega, by omega⟩
  simp only [spec_l71Ref.j0]
  rw [if_neg hy, if_neg x2, if_neg x3, if_pos x4]
 by_cases x5 : x = 5
 ·obtain ⟨s, h, hz⟩ := of_sz hc p (([(⟨#[47, 47, 65, 66, 47, 97]⟩ : ByteArray), (⟨#[47, 47, 99, 100]⟩ : ByteArray), (⟨#[47, 47, 99, 100, 63, 120]⟩ : ByteArray), (⟨#[47, 47, 97, 98, 47, 37, 54, 49]⟩ : ByteArray), (⟨#[47, 47, 116, 111, 111, 108, 111, 110, 103, 47, 97]⟩ : ByteArray), (⟨#[47, 47, 97, 49, 47, 98]⟩ : ByteArray), (⟨#[47, 47, 47, 97]⟩ : ByteArray)] : List ByteArray)) 20 h0 (by omega) (by decide) (by decide)
  refine ⟨s, p + 1, Ev.step (fun k => ?_) (Ev.bind (f := fun k bt => some (bt.1, bt.2)) h (Ev.now _)), by omega, by omega, by omega⟩
  simp only [spec_l71Ref.j0]
  rw [if_neg hy, if_neg x2, if_neg x3, if_neg x4, if_pos x5]
 ·obtain ⟨s, h, hz⟩ := of_sz hc p (([(⟨#[97]⟩ : ByteArray), (⟨#[98]⟩ : ByteArray), (⟨#[99]⟩ : ByteArray), (⟨#[97, 47, 98]⟩ : ByteArray)] : List ByteArray)) 9 h0 (by omega) (by decide) (by decide)
  refine ⟨s, p + 1, Ev.step (fun k => ?_) (Ev.bind (f := fun k bt => some (bt.1, bt.2)) h (Ev.now _)), by omega, by omega, by omega⟩
  simp only [spec_l71Ref.j0]
  rw [if_neg hy, if_neg x2, if_neg x3, if_neg x4, if_neg x5]
theorem ref_ev {b : List Int} (hc : Code b) (p : Int) (h0 : 0 ≤ p) (h1 : p ≤ 1000000000) : ∃ s p', Ev (fun k => spec_l71Ref.f k b p) (s, p') ∧ s.size ≤ 25 ∧ p ≤ p' ∧ p' ≤ p + 20 := by
 obtain ⟨v, hv, v0, v1⟩ := pick_ev hc p 8 h0 (by omega)
 by_cases hv0 : v = 0
 ·obtain ⟨s, p', h, h2, h3, h4⟩ := ref_j hc v (v == 0) (p + 1) (by omega) (by omega)
  refine ⟨s, p', ?_, h2, by omega, by omega⟩
  unfold spec_l71Ref.f
  refine Ev.bind hv ?_
  simp only [if_pos hv0]
  exact h
 ·obtain ⟨s, p', h, h2, h3, h4⟩ := ref_j hc v (v == 1) (p + 1) (by omega) (by omega)
  refine ⟨s, p', ?_, h2, by omega, by omega⟩
  unfold spec_l71Ref.f
  refine Ev.bind hv ?_
  simp only [if_neg hv0]
  exact h
theorem page_l {b : List Int} (hc : Code b) (d : Nat) : ∀ (p : Int) (t : ByteArray), 0 ≤ p → p + 50 * d ≤ 1000000000 → t.size + 60 * d ≤ 300 →
  ∃ s p', Ev (fun k => spec_l71Page.l0 k t (d : Int) b p) (s, p') ∧ s.size ≤ 300 ∧ p ≤ p' ∧ p' ≤ p + 50 * d := by
 induction d with
 | zero =>
  intro p t h0 h1 ht
  refine ⟨t, p, Ev.of (fun k => spec_l71Page.mono_l k _ _ _ _) (k := 1) ?_, by omega, by omega, by omega⟩
  simp only [spec_l71Page.l0]
  rw [if_neg (by omega)]
 | succ d ih =>
  intro p t h0 h1 ht
  have hw : wrap64 (((d + 1 : Nat) : Int) - 1) = (d : Int) := by rw [w64 (by omega) (by omega)]; omega
  have hpos : ((d + 1 : Nat) : Int) > 0 := by omega
  obtain ⟨v, hv, v0, v1⟩ := pick_ev hc p 9 h0 (by omega)
  obtain ⟨r1, p1, hr1, z1, a1, b1⟩ := ref_ev hc (p + 1) (by omega) (by omega)
  obtain ⟨r2, p2, hr2, z2, a2, b2⟩ := ref_ev hc p1 (by omega) (by omega)
  have s40 : (⟨#[40]⟩ : ByteArray).size = 1 := rfl
  have s60 : (⟨#[60]⟩ : ByteArray).size = 1 := rfl
  have s62 : (⟨#[62]⟩ : ByteArray).size = 1 := rfl
  have s6241 : (⟨#[62, 41]⟩ : ByteArray).size = 2 := rfl
  have s6033 : (⟨#[60, 33]⟩ : ByteArray).size = 2 := rfl
  have s6064 : (⟨#[60, 64]⟩ : ByteArray).size = 2 := rfl
  by_cases c0 : v = 0
  ·obtain ⟨s, p', h, h2, h3, h4⟩ := ih p2 (((((t ++ (⟨#[40]⟩ : ByteArray)) ++ r1) ++ (⟨#[60]⟩ : ByteArray)) ++ r2) ++ (⟨#[62, 41]⟩ : ByteArray)) (by omega) (by omega) (by simp only [ByteArray.size_append]; omega)
   refine ⟨s, p', Ev_succ ?_, h2, by omega, by omega⟩
   simp only [spec_l71Page.l0, hpos, hw, if_true]
   refine Ev.bind hv ?_
   simp only [c0, if_true, show t.size + 1 ≤ 9223372036854775807 from by omega]
   refine Ev.bind hr1 ?_
   simp only [show t.size + 1 + r1.size ≤ 9223372036854775807 from by omega, show t.size + 1 + r1.size + 1 ≤ 9223372036854775807 from by omega, if_true]
   refine Ev.bind hr2 ?_
   simp only [show t.size + 1 + r1.size + 1 + r2.size ≤ 9223372036854775807 from by omega, show t.size + 1 + r1.size + 1 + r2.size + 2 ≤ 9223372036854775807 from by omega, if_true]
   exact h
  by_cases c1 : v = 1
  ·obtain ⟨s, p', h, h2, h3, h4⟩ := ih p1 (((t ++ (⟨#[60, 33]⟩ : ByteArray)) ++ r1) ++ (⟨#[62]⟩ : ByteArray)) (by omega) (by omega) (by simp only [ByteArray.size_append]; omega)
   refine ⟨s, p', Ev_succ ?_, h2, by omega, by omega⟩
   simp only [spec_l71Page.l0, hpos, hw, if_true]
   refine Ev.bind hv ?_
   simp only [c0, c1, if_true, if_false, show t.size + 2 ≤ 9223372036854775807 from by omega]
   refine Ev.bind hr1 ?_
   simp only [show t.size + 2 + r1.size ≤ 9223372036854775807 from by omega, show t.size + 2 + r1.size + 1 ≤ 9223372036854775807 from by omega, if_true]
   exact h
  by_cases c2 : v = 2
  ·obtain ⟨s, p', h, h2, h3, h4⟩ := ih p1 (((t ++ (⟨#[60, 64]⟩ : ByteArray)) ++ r1) ++ (⟨#[62]⟩ : ByteArray)) (by omega) (by omega) (by simp only [ByteArray.size_append]; omega)
   refine ⟨s, p', Ev_succ ?_, h2, by omega, by omega⟩
   simp only [spec_l71Page.l0, hpos, hw, if_true]
   refine Ev.bind hv ?_
   simp only [c0, c1, c2, if_true, if_false, show t.size + 2 ≤ 9223372036854775807 from by omega]
   refine Ev.bind hr1 ?_
   simp only [show t.size + 2 + r1.size ≤ 9223372036854775807 from by omega, show t.size + 2 + r1.size + 1 ≤ 9223372036854775807 from by omega, if_true]
   exact h
  by_cases c3 : v = 3
  ·obtain ⟨q, hq, hz⟩ := of_sz hc (p + 1) (([(⟨#[116, 101, 120, 116, 32]⟩ : ByteArray), (⟨#[60]⟩ : ByteArray), (⟨#[62]⟩ : ByteArray), (⟨#[40]⟩ : ByteArray), (⟨#[41]⟩ : ByteArray), (⟨#[60, 97]⟩ : ByteArray)] : List ByteArray)) 5 (by omega) (by omega) (by decide) (by decide)
   obtain ⟨s, p', h, h2, h3, h4⟩ := ih (p + 1 + 1) (t ++ q) (by omega) (by omega) (by simp only [ByteArray.size_append]; omega)
   refine ⟨s, p', Ev_succ ?_, h2, by omega, by omega⟩
   simp only [spec_l71Page.l0, hpos, hw, if_true]
   refine Ev.bind hv ?_
   simp only [c0, c1, c2, c3, if_true, if_false]
   refine Ev.bind hq ?_
   simp only [show t.size + q.size ≤ 9223372036854775807 from by omega, if_true]
   exact h
  ·obtain ⟨s, p', h, h2, h3, h4⟩ := ih p1 (((t ++ (⟨#[60]⟩ : ByteArray)) ++ r1) ++ (⟨#[62]⟩ : ByteArray)) (by omega) (by omega) (by simp only [ByteArray.size_append]; omega)
   refine ⟨s, p', Ev_succ ?_, h2, by omega, by omega⟩
   simp only [spec_l71Page.l0, hpos, hw, if_true]
   refine Ev.bind hv ?_
   simp only [c0, c1, c2, c3, if_true, if_false, show t.size + 1 ≤ 9223372036854775807 from by omega]
   refine Ev.bind hr1 ?_
   simp only [show t.size + 1 + r1.size ≤ 9223372036854775807 from by omega, show t.size + 1 + r1.size + 1 ≤ 9223372036854775807 from by omega, if_true]
   exact h
theorem page_ev {b : List Int} (hc : Code b) (p : Int) (h0 : 0 ≤ p) (h1 : p ≤ 100000000) : ∃ s p', Ev (fun k => spec_l71Page.f k b p) (s, p') ∧ s.size ≤ 300 ∧ p ≤ p' ∧ p' ≤ p + 300 := by
 obtain ⟨v, hv, v0, v1⟩ := pick_ev hc p 5 h0 (by omega)
 have v2 := v1 (by omega)
 obtain ⟨n, rfl⟩ := Int.eq_ofNat_of_zero_le v0
 obtain ⟨s, p', h, h2, h3, h4⟩ := page_l hc n (p + 1) ⟨#[]⟩ (by omega) (by omega) (by have : (⟨#[]⟩ : ByteArray).size = 0 := rfl; omega)
 refine ⟨s, p', ?_, h2, by omega, by omega⟩
 unfold spec_l71Page.f
 exact Ev.bind hv h
end Go.Proofs.YtpomhjkbgbociaaDoor.Draw
end
section
namespace Go.Proofs.YtpomhjkbgbociaaDoor.Draw
open Go.RowKit Go.Proofs.YtpomhjkbgbociaaDoor.P Go.Proofs.YtpomhjkbgbociaaDoorW.PrintWords Go.Proofs.YtpomhjkbgbociaaDoorW.PrintLast Go.Proofs.YtpomhjkbgbociaaDoorW.PrintMore Go.Proofs.YtpomhjkbgbociaaDoor.B Go.Proofs.YtpomhjkbgbociaaDoor.Ad
set_option linter.unusedVariables false
set_option linter.unusedSimpArgs false
abbrev SRd := S83
theorem rule_ev {b : List Int} (hc : Code b) (p : Int) (h0 : 0 ≤ p) (h1 : p ≤ 10000000000) : ∃ s, Ev (fun k => spec_l71Rule.f k b p) (s, p + 1) ∧ s.size ≤ 7 := by
 obtain ⟨s, hs, hz⟩ := of_sz hc p (([(⟨#[47]⟩ : ByteArray), (⟨#[47, 97]⟩ : ByteArray), (⟨#[47, 98]⟩ : ByteArray), (⟨#[47, 97, 47]⟩ : ByteArray), (⟨#[47, 42, 98]⟩ : ByteArray), (⟨#[47, 97, 36]⟩ : ByteArray), (⟨#[47, 99]⟩ : ByteArray), (⟨#[47, 42, 63]⟩ : ByteArray), (⟨#[47, 97, 47, 98]⟩ : ByteArray), (⟨#[47, 42, 47, 98, 36]⟩ : ByteArray), (⟨#[47, 36]⟩ : ByteArray), (⟨#[47, 98, 42, 99]⟩ : ByteArray), (⟨#[47, 110, 111, 116, 105, 99, 101]⟩ : ByteArray), (⟨#[47, 42]⟩ : ByteArray)] : List ByteArray)) 7 h0 (by omega) (by decide) (by decide)
 exact ⟨s, Ev.bind hs (Ev.now _), hz⟩
theorem rules_l {b : List Int} (hc : Code b) (d : Nat) : ∀ (p : Int) (rs : List SRd), 0 ≤ p → p + 2 * d ≤ 10000000000 → rs.length + d ≤ 1000 → (∀ r ∈ rs, r.f1.size ≤ 7) →
  ∃ x p', Ev (fun k => spec_l71Rules.l0 k rs (d : Int) b p) (x, p') ∧ x.length ≤ rs.length + d ∧ (∀ r ∈ x, r.f1.size ≤ 7) ∧ p ≤ p' ∧ p' ≤ p + 2 * d := by
 induction d with
 | zero =>
  intro p rs h0 h1 h2 h3
  refine ⟨rs, p, Ev_succ ?_, by omega, h3, by omega, by omega⟩
  have n1 : ¬ (((0 : Nat) : Int) > 0) := by omega
  simp only [spec_l71Rules.l0, n1, if_false]
  exact Ev.now _
 | succ d ih =>
  intro p rs h0 h1 h2 h3
  obtain ⟨v, hv, _, _⟩ := pick_ev hc p 2 h0 (by omega)
  obtain ⟨s, hs, hz⟩ := rule_ev hc (p + 1) (by omega) (by omega)
  obtain ⟨x, p', hx, g1, g2, g3, g4⟩ := ih (p + 1 + 1) (rs ++ [⟨(v == 0), s⟩]) (by omega) (by omega) (by simp; omega) (fun r hr => by
   rcases List.mem_append.1 hr with h | h
   ·exact h3 r h
   ·rw [List.mem_singleton.1 h]; exact hz)
  refine ⟨x, p', Ev_succ ?_, by simp only [List.length_append, List.length_singleton] at g1; omega, g2, by omega, by omega⟩
  have n1 : (((d + 1 : Nat) : Int) > 0) := by omega
  have e1 : wrap64 (((d + 1 : Nat) : Int) - 1) = (d : Int) := by rw [w64 (by omega) (by omega)]; omega
  have n2 : rs.length < 5864062014805 := by omega
  simp only [spec_l71Rules.l0, n1, if_true, e1, n2]
  exact Ev.bind hv (Ev.bind hs hx)
theorem rules_ev {b : List Int} (hc : Code b) (p : Int) (h0 : 0 ≤ p) (h1 : p ≤ 1000000000) : ∃ x p', Ev (fun k => spec_l71Rules.f k b p) (x, p') ∧ x.length ≤ 4 ∧ (∀ r ∈ x, r.f1.size ≤ 7) ∧ p ≤ p' ∧ p' ≤ p + 20 := by
 obtain ⟨v, hv, v0, v1⟩ := pick_ev hc p 5 h0 (by omega)
 have v2 := v1 (by omega)
 obtain ⟨m, rfl⟩ := Int.eq_ofNat_of_zero_le v0
 obtain ⟨x, p', hx, g1, g2, g3, g4⟩ := rules_l hc m (p + 1) [] (by omega) (by omega) (by simp; omega) (by simp)
 exact ⟨x, p', Ev.bind hv hx, by simp only [List.length_nil] at g1; omega, g2, by omega, by omega⟩
end Go.Proofs.YtpomhjkbgbociaaDoor.Draw
end
section
namespace Go.Proofs.YtpomhjkbgbociaaDoor.Draw
open Go.RowKit Go.Proofs.YtpomhjkbgbociaaDoor.P Go.Proofs.YtpomhjkbgbociaaDoorW.PrintWords Go.Proofs.YtpomhjkbgbociaaDoorW.PrintLast Go.Proofs.YtpomhjkbgbociaaDoorW.PrintMore Go.Proofs.YtpomhjkbgbociaaDoor.B Go.Proofs.YtpomhjkbgbociaaDoor.Ad
set_option linter.unusedVariables false
set_option linter.unusedSimpArgs false
abbrev SGd := S81
def Gd (g : SGd) : Prop := g.f0.length ≤ 2 ∧ (∀ n ∈ g.f0, n.size ≤ 6) ∧ g.f1.length ≤ 4 ∧ (∀ r ∈ g.f1, r.f1.size ≤ 7) ∧ 0 ≤ g.f2 ∧ g.f2 ≤ 6
theorem gd_app {x : List SGd} {g : SGd} (h : ∀ q ∈ x, Gd q) (hg : Gd g) : ∀ q ∈ x ++ [g], Gd q := by
 intro q hq
 rcases List.mem_append.1 hq with hq | hq
 ·exact h q hq
 ·rw [List.mem_singleton.1 hq]; exact hg
theorem groups_l {b : List Int} (hc : Code b) (d : Nat) : ∀ (p : Int) (x : List SGd), 0 ≤ p → p + 100 * d + 10 ≤ 100000000 → x.length + d ≤ 10 → (∀ g ∈ x, Gd g) →
  ∃ y p', Ev (fun k => spec_l71Groups.l0 k x (d : Int) b p) (y, p') ∧ y.length ≤ x.length + d + 1 ∧ (∀ g ∈ y, Gd g) ∧ p ≤ p' ∧ p' ≤ p + 100 * d + 10 := by
 induction d with
 | zero =>
  intro p x h0 h1 hl hx
  obtain ⟨v, hv, v0, v1⟩ := pick_ev hc p 24 h0 (by omega)
  have hl' : x.length < 2513169434916 := by omega
  have n0 : ¬ (((0 : Nat) : Int) > 0) := by omega
  by_cases c0 : v = 0
  ·refine ⟨x ++ [⟨[(⟨#[120]⟩ : ByteArray)], [], 0⟩], p + 1, Ev_succ ?_, by simp, gd_app hx ⟨by decide, by decide, by decide, by simp, by decide, by decide⟩, by omega, by omega⟩
   simp only [spec_l71Groups.l0, n0, if_false]
   refine Ev.bind hv ?_
   simp only [c0, if_true, hl']
   exact Ev.now _
  by_cases c1 : v = 1
  ·refine ⟨x ++ [⟨[], [], 2⟩], p + 1, Ev_succ ?_, by simp, gd_app hx ⟨by decide, by simp, by decide, by simp, by decide, by decide⟩, by omega, by omega⟩
   simp only [spec_l71Groups.l0, n0, if_false]
   refine Ev.bind hv ?_
   simp only [c0, c1, if_true, if_false, hl']
   exact Ev.now _
  by_cases c2 : v = 2
  ·refine ⟨x ++ [⟨[(⟨#[88]⟩ : ByteArray)], [], 2⟩], p + 1, Ev_succ ?_, by simp, gd_app hx ⟨by decide, by decide, by decide, by simp, by decide, by decide⟩, by omega, by omega⟩
   simp only [spec_l71Groups.l0, n0, if_false]
   refine Ev.bind hv ?_
   simp only [c0, c1, c2, if_true, if_false, hl']
   exact Ev.now _
  ·refine ⟨x, p + 1, Ev_succ ?_, by omega, hx, by omega, by omega⟩
   simp only [spec_l71Groups.l0, n0, if_false]
   refine Ev.bind hv ?_
   simp only [c0, c1, c2, if_false]
   exact Ev.now _
 | succ d ih =>
  intro p x h0 h1 hl hx
  have hl' : x.length < 2513169434916 := by omega
  have n1 : (((d + 1 : Nat) : Int) > 0) := by omega
  have e1 : wrap64 (((d + 1 : Nat) : Int) - 1) = (d : Int) := by rw [w64 (by omega) (by omega)]; omega
  obtain ⟨s, hs, hz⟩ := of_sz hc p ([(⟨#[42]⟩ : ByteArray), (⟨#[114, 111, 118, 101, 114]⟩ : ByteArray), (⟨#[115, 99, 111, 117, 116]⟩ : ByteArray)] : List ByteArray) 6 h0 (by omega) (by decide) (by decide)
  obtain ⟨rs, p1, hr, r1, r2, a1, b1⟩ := rules_ev hc (p + 1) (by omega) (by omega)
  obtain ⟨v, hv, v0, v1⟩ := pick_ev hc p1 4 (by omega) (by omega)
  obtain ⟨u, hu, u0, u1⟩ := pick_ev hc (p1 + 1) 3 (by omega) (by omega)
  obtain ⟨t, ht, t0, t1⟩ := pick_ev hc (p1 + 1 + 1) 4 (by omega) (by omega)
  have v2 := v1 (by omega)
  have u2 := u1 (by omega)
  have hm : 0 ≤ v * u ∧ v * u ≤ 6 := by
   obtain rfl | rfl | rfl : u = 0 ∨ u = 1 ∨ u = 2 := by omega
   all_goals omega
  have hw : wrap64 (v * u) = v * u := w64 (by omega) (by omega)
  have tail : ∀ (ns : List ByteArray) (q : Int), ns.length ≤ 2 → (∀ n ∈ ns, n.size ≤ 6) → 0 ≤ q → q ≤ p + 40 →
    ∃ y p', Ev (fun k => if (rs.length : Int) > 0 then (if x.length < 2513169434916 then (spec_l71Groups.l0 k (x ++ [(⟨ns, rs, wrap64 (v * u)⟩ : SGd)]) (wrap64 (((d + 1 : Nat) : Int) - 1)) b q) else none) else (if wrap64 (v * u) > 0 then (if x.length < 2513169434916 then (spec_l71Groups.l0 k (x ++ [(⟨ns, rs, wrap64 (v * u)⟩ : SGd)]) (wrap64 (((d + 1 : Nat) : Int) - 1)) b q) else none) else (spec_l71Groups.l0 k x (wrap64 (((d + 1 : Nat) : Int) - 1)) b q))) (y, p') ∧ y.length ≤ x.length + (d + 1) + 1 ∧ (∀ g ∈ y, Gd g) ∧ q ≤ p' ∧ p' ≤ q + 100 * d + 10 := by
   intro ns q k1 k2 q0 q1
   rw [hw, e1]
   have hg : Gd ⟨ns, rs, v * u⟩ := ⟨k1, k2, r1, r2, hm.1, hm.2⟩
   obtain ⟨y, p', g1, g2, g3, g4, g5⟩ := ih q (x ++ [⟨ns, rs, v * u⟩]) q0 (by omega) (by simp; omega) (gd_app hx hg)
   obtain ⟨y2, p2', f1, f2, f3, f4, f5⟩ := ih q x q0 (by omega) (by omega) hx
   rw [List.length_append, List.length_singleton] at g2
   by_cases c : (rs.length : Int) > 0
   ·refine ⟨y, p', ?_, by omega, g3, g4, g5⟩
    simp only [c, if_true, hl']
    exact g1
   ·by_cases c2 : v * u > 0
    ·refine ⟨y, p', ?_, by omega, g3, g4, g5⟩
     simp only [c, c2, if_true, if_false, hl']
     exact g1
    ·refine ⟨y2, p2', ?_, by omega, f3, f4, f5⟩
     simp only [c, c2, if_false]
     exact f1
  by_cases c : t = 0
  ·obtain ⟨s2, hs2, hz2⟩ := of_sz hc (p1 + 1 + 1 + 1) ([(⟨#[42]⟩ : ByteArray), (⟨#[114, 111, 118, 101, 114]⟩ : ByteArray), (⟨#[120]⟩ : ByteArray)] : List ByteArray) 6 (by omega) (by omega) (by decide) (by decide)
   obtain ⟨y, p', g1, g2, g3, g4, g5⟩ := tail [s, s2] (p1 + 1 + 1 + 1 + 1) (by simp) (by simp [hz, hz2]) (by omega) (by omega)
   refine ⟨y, p', Ev_succ ?_, g2, g3, by omega, by omega⟩
   simp only [spec_l71Groups.l0, n1, if_true]
   refine Ev.bind hs ?_
   simp only [Option.bind_some]
   refine Ev.bind hr (Ev.bind hv (Ev.bind hu (Ev.bind ht ?_)))
   simp only [c, if_true]
   refine Ev.bind hs2 ?_
   simp only [List.length_singleton, show (1 : Nat) < 8796093022208 from by omega, if_true, Option.bind_some, List.singleton_append]
   exact g1
  ·obtain ⟨y, p', g1, g2, g3, g4, g5⟩ := tail [s] (p1 + 1 + 1 + 1) (by simp) (by simp [hz]) (by omega) (by omega)
   refine ⟨y, p', Ev_succ ?_, g2, g3, by omega, by omega⟩
   simp only [spec_l71Groups.l0, n1, if_true]
   refine Ev.bind hs ?_
   simp only [Option.bind_some]
   refine Ev.bind hr (Ev.bind hv (Ev.bind hu (Ev.bind ht ?_)))
   simp only [c, if_false]
   exact g1
theorem groups_ev {b : List Int} (hc : Code b) (p : Int) (h0 : 0 ≤ p) (h1 : p ≤ 10000000) : ∃ y p', Ev (fun k => spec_l71Groups.f k b p) (y, p') ∧ y.length ≤ 4 ∧ (∀ g ∈ y, Gd g) ∧ p ≤ p' ∧ p' ≤ p + 400 := by
 obtain ⟨v, hv, v0, v1⟩ := pick_ev hc p 4 h0 (by omega)
 have v2 := v1 (by omega)
 obtain ⟨m, rfl⟩ := Int.eq_ofNat_of_zero_le v0
 obtain ⟨y, p', g1, g2, g3, g4, g5⟩ := groups_l hc m (p + 1) [] (by omega) (by omega) (by simp; omega) (by simp)
 exact ⟨y, p', Ev.bind hv g1, by simp only [List.length_nil] at g2; omega, g3, by omega, by omega⟩
end Go.Proofs.YtpomhjkbgbociaaDoor.Draw
end
section
namespace Go.Proofs.YtpomhjkbgbociaaDoor.Ad
open Go.RowKit Go.Proofs.YtpomhjkbgbociaaDoor.P Go.Proofs.YtpomhjkbgbociaaDoorW.PrintWords Go.Proofs.YtpomhjkbgbociaaDoorW.PrintLast Go.Proofs.YtpomhjkbgbociaaDoorW.PrintMore Go.Proofs.YtpomhjkbgbociaaDoor.B
set_option linter.unusedVariables false
set_option linter.unusedSimpArgs false
def isName (s : ByteArray) : Bool := decide (1 ≤ s.size) && decide (s.size ≤ 8) && isSmall s
theorem spec_name_l (s : ByteArray) (hs : s.size ≤ 140737488351232) (d : Nat) : ∀ (k : Nat) (i : Nat), i + d = s.size → d < k →
  spec_l2Name.l0 k s (i : Int) = some (smallFrom s d i && (decide (1 ≤ s.size) && decide (s.size ≤ 8))) := by
 induction d with
 | zero =>
  intro k i h hk
  obtain ⟨k, rfl⟩ : ∃ m, k = m + 1 := ⟨k - 1, by omega⟩
  simp only [spec_l2Name.l0, smallFrom, spec_l6In.f]
  rw [if_neg (by omega)]
  by_cases h1 : 1 ≤ s.size
  ·rw [if_pos (by omega)]; simp [h1]; omega
  ·rw [if_neg (by omega)]; simp [h1]
 | succ d ih =>
  intro k i h hk
  obtain ⟨k, rfl⟩ : ∃ m, k = m + 1 := ⟨k - 1, by omega⟩
  simp only [spec_l2Name.l0, smallFrom]
  rw [if_pos (by omega), if_pos (by omega)]
  by_cases h1 : bt s i < 97
  ·rw [if_pos h1, if_pos h1]; rfl
  ·rw [if_neg h1, if_neg h1]
   by_cases h2 : bt s i > 122
   ·rw [if_pos h2, if_pos h2]; rfl
   ·rw [if_neg h2, if_neg h2, w64 (by omega) (by omega)]
    exact ih k (i + 1) (by omega) (by omega)
theorem name_ev (s : ByteArray) (hs : s.size ≤ 140737488351232) : Ev (fun k => spec_l2Name.f k s) (isName s) := by
 refine Ev.of (fun k => spec_l2Name.mono _ k) (k := s.size + 1) ?_
 unfold spec_l2Name.f
 have := spec_name_l s hs s.size (s.size + 1) 0 (by omega) (by omega)
 rw [show ((0 : Nat) : Int) = 0 from rfl] at this
 rw [this]
 unfold isName isSmall
 cases smallFrom s s.size 0 <;> simp
end Go.Proofs.YtpomhjkbgbociaaDoor.Ad
end
section
namespace Go.Proofs.YtpomhjkbgbociaaDoor.Ad
open Go.RowKit Go.Proofs.YtpomhjkbgbociaaDoor.P Go.Proofs.YtpomhjkbgbociaaDoorW.PrintWords Go.Proofs.YtpomhjkbgbociaaDoorW.PrintLast Go.Proofs.YtpomhjkbgbociaaDoorW.PrintMore Go.Proofs.YtpomhjkbgbociaaDoor.B
set_option linter.unusedVariables false
set_option linter.unusedSimpArgs false
def cutL (c : UInt8) : List UInt8 → List UInt8 × List UInt8 × Bool
 | [] => ([], [], false)
 | x :: xs => if x = c then ([], xs, true) else (x :: (cutL c xs).1, (cutL c xs).2)
theorem cutL_false {c : UInt8} : ∀ {l : List UInt8}, (cutL c l).2.2 = false → (cutL c l).1 = l ∧ (cutL c l).2.1 = []
 | [], _ => by simp [cutL]
 | x :: xs, h => by
  unfold cutL at h ⊢
  by_cases e : x = c
  ·rw [if_pos e] at h; cases h
  ·rw [if_neg e] at h ⊢
   have := cutL_false (l := xs) h
   exact ⟨by rw [this.1], this.2⟩
theorem cutL_true {c : UInt8} : ∀ {l : List UInt8}, (cutL c l).2.2 = true → l = (cutL c l).1 ++ c :: (cutL c l).2.1
 | [], h => by simp [cutL] at h
 | x :: xs, h => by
  unfold cutL at h ⊢
  by_cases e : x = c
  ·rw [if_pos e, e]; rfl
  ·rw [if_neg e] at h ⊢
   have := cutL_true (l := xs) h
   show x :: xs = x :: ((cutL c xs).1 ++ c :: (cutL c xs).2.1)
   rw [← this]
theorem cutL_len {c : UInt8} : ∀ (l : List UInt8), (cutL c l).1.length + (cutL c l).2.1.length ≤ l.length ∧ ((cutL c l).2.2 = true → (cutL c l).1.length + (cutL c l).2.1.length + 1 = l.length)
 | [] => by simp [cutL]
 | x :: xs => by
  unfold cutL
  by_cases e : x = c
  ·rw [if_pos e]; simp
  ·rw [if_neg e]
   have := cutL_len (c := c) xs
   simp only [List.length_cons]
   exact ⟨by omega, fun h => by have := this.2 h; omega⟩
theorem bt_at {s : ByteArray} {i : Nat} {c : UInt8} {l : List UInt8} (h : (L s).drop i = c :: l) : i < s.size ∧ bt s i = (c.toNat : Int) ∧ (L s).drop (i + 1) = l := by
 have hl : i < (L s).length := by
  rcases Nat.lt_or_ge i (L s).length with h' | h'
  ·exact h'
  ·rw [List.drop_eq_nil_of_le h'] at h; cases h
 have hd : (L s).drop i = (L s)[i] :: (L s).drop (i + 1) := List.drop_eq_getElem_cons hl
 rw [h] at hd
 injection hd with h1 h2
 refine ⟨by rw [← L_size]; exact hl, ?_, h2.symm⟩
 rw [bt_L, List.getD_eq_getElem?_getD, List.getElem?_eq_getElem hl, ← h1]
 rfl
theorem bt_end {s : ByteArray} {i : Nat} (h : (L s).drop i = []) : s.size ≤ i := by
 rw [← L_size]; exact List.drop_eq_nil_iff.1 h
theorem u8_eq {a b : UInt8} : ((a.toNat : Int) = (b.toNat : Int)) ↔ a = b := by
 constructor
 ·intro h; exact UInt8.toNat_inj.1 (by omega)
 ·intro h; rw [h]
def cutB (c : UInt8) (s : ByteArray) : ByteArray × ByteArray × Bool := (ofL (cutL c (L s)).1, ofL (cutL c (L s)).2.1, (cutL c (L s)).2.2)
theorem cut_l (s : ByteArray) (c : UInt8) (hs : s.size ≤ 140737488351232) : ∀ (l : List UInt8) (i : Nat), (L s).drop i = l →
  Ev (fun k => spec_l1Cut.l0 k s (c.toNat : Int) (i : Int)) (ofL ((L s).take i ++ (cutL c l).1), ofL (cutL c l).2.1, (cutL c l).2.2)
 | [], i, h => by
  have := bt_end h
  have n1 : ¬ ((i : Int) < (s.size : Int)) := by omega
  refine Ev_succ ?_
  simp only [spec_l1Cut.l0, n1, if_false]
  have e : (L s).take i = L s := List.take_of_length_le (by rw [L_size]; omega)
  simp only [cutL, e, List.append_nil, of_L]
  exact Ev.now _
 | x :: xs, i, h => by
  obtain ⟨hi, hb, hd⟩ := bt_at h
  refine Ev_succ ?_
  have e1 : wrap64 ((i : Int) + 1) = ((i + 1 : Nat) : Int) := by rw [w64 (by omega) (by omega)]; rfl
  have f1 : (i : Int) < (s.size : Int) := by omega
  have f2 : (0 : Int) ≤ (i : Int) := by omega
  have f3 : (i : Int) ≤ (s.size : Int) := by omega
  have f4 : (0 : Int) ≤ ((i + 1 : Nat) : Int) := by omega
  have f5 : ((i + 1 : Nat) : Int) ≤ (s.size : Int) := by omega
  simp only [spec_l1Cut.l0, e1, f1, f2, f3, f4, f5, if_true, hb, u8_eq]
  unfold cutL
  by_cases e : x = c
  ·simp only [e, if_true]
   have a1 : s.extract 0 ((i : Int)).toNat = ofL ((L s).take i ++ []) := by
    apply L_inj; rw [L_ext, L_of]; simp
   have a2 : s.extract ((((i + 1 : Nat) : Int))).toNat s.size = ofL xs := by
    apply L_inj; rw [L_ext, L_of, Int.toNat_natCast, hd, List.take_of_length_le]
    rw [← hd, List.length_drop, L_size]; omega
   rw [a1, a2]
   exact Ev.now _
  ·simp only [e, if_false]
   have := cut_l s c hs xs (i + 1) hd
   have ht : (L s).take (i + 1) ++ (cutL c xs).1 = (L s).take i ++ (x :: (cutL c xs).1) := by
    have hl : i < (L s).length := by rw [L_size]; exact hi
    have : (L s)[i] = x := by
     have hd2 : (L s).drop i = (L s)[i] :: (L s).drop (i + 1) := List.drop_eq_getElem_cons hl
     rw [h] at hd2
     injection hd2 with h1 h2
     exact h1.symm
    rw [List.take_succ_eq_append_getElem hl, this]
    simp
   rw [ht] at this
   exact this
theorem cut_ev (s : ByteArray) (c : UInt8) (hs : s.size ≤ 140737488351232) : Ev (fun k => spec_l1Cut.f k s (c.toNat : Int)) (cutB c s) := by
 have := cut_l s c hs (L s) 0 rfl
 simp only [List.take_zero, List.nil_append] at this
 exact this
def splitN (c : UInt8) : Nat → List UInt8 → List (List UInt8)
 | 0, l => [l]
 | n + 1, l => (cutL c l).1 :: (if (cutL c l).2.2 = true then splitN c n (cutL c l).2.1 else [])
def splitL (c : UInt8) (l : List UInt8) : List (List UInt8) := splitN c (l.length + 1) l
theorem splitN_eq (c : UInt8) : ∀ (n m : Nat) (l : List UInt8), l.length < n → l.length < m → splitN c n l = splitN c m l
 | 0, _, l, h, _ => absurd h (by omega)
 | _ + 1, 0, l, _, h => absurd h (by omega)
 | n + 1, m + 1, l, h1, h2 => by
  simp only [splitN]
  by_cases e : (cutL c l).2.2 = true
  ·have := (cutL_len (c := c) l).2 e
   rw [if_pos e, if_pos e, splitN_eq c n m _ (by omega) (by omega)]
  ·rw [if_neg e, if_neg e]
theorem splitL_eq (c : UInt8) (l : List UInt8) : splitL c l = (cutL c l).1 :: (if (cutL c l).2.2 = true then splitL c (cutL c l).2.1 else []) := by
 unfold splitL
 rw [splitN]
 by_cases e : (cutL c l).2.2 = true
 ·have := (cutL_len (c := c) l).2 e
  rw [if_pos e, if_pos e, splitN_eq c _ ((cutL c l).2.1.length + 1) _ (by omega) (by omega)]
 ·rw [if_neg e, if_neg e]
theorem splitN_len (c : UInt8) : ∀ (n : Nat) (l : List UInt8), (splitN c n l).length ≤ l.length + 1
 | 0, l => by simp [splitN]
 | n + 1, l => by
  simp only [splitN]
  by_cases e : (cutL c l).2.2 = true
  ·have := (cutL_len (c := c) l).2 e
   have ih := splitN_len c n (cutL c l).2.1
   rw [if_pos e]; simp only [List.length_cons]; omega
  ·rw [if_neg e]; simp
theorem splitL_len (c : UInt8) (l : List UInt8) : (splitL c l).length ≤ l.length + 1 := splitN_len c _ l
theorem split_l (c : UInt8) (n : Nat) : ∀ (s : ByteArray) (acc : List ByteArray), s.size < n → s.size ≤ 1000000000 → acc.length + s.size ≤ 2000000000 →
  Ev (fun k => spec_l1Split.l0 k (c.toNat : Int) acc s true) (acc ++ (splitL c (L s)).map ofL) := by
 induction n with
 | zero => intro s acc h; exact absurd h (by omega)
 | succ n ih =>
  intro s acc h h1 h2
  refine Ev_succ ?_
  simp only [spec_l1Split.l0, if_true]
  refine Ev.bind (cut_ev s c (by omega)) ?_
  have g1 : acc.length < 8796093022208 := by omega
  simp only [g1, if_true]
  rw [splitL_eq]
  have hl := cutL_len (c := c) (L s)
  rw [L_size] at hl
  by_cases e : (cutL c (L s)).2.2 = true
  ·have e' : (cutB c s).2.2 = true := e
   have hz : (ofL (cutL c (L s)).2.1).size = (cutL c (L s)).2.1.length := ofL_size _
   have := hl.2 e
   have ih' := ih (ofL (cutL c (L s)).2.1) (acc ++ [ofL (cutL c (L s)).1]) (by omega) (by omega) (by simp only [List.length_append, List.length_singleton]; omega)
   rw [if_pos e]
   simp only [cutB, e]
   rw [L_of] at ih'
   simpa using ih'
  ·have e' : (cutL c (L s)).2.2 = false := by simpa using e
   rw [if_neg e]
   simp only [cutB, e']
   refine Ev_succ ?_
   simp only [spec_l1Split.l0]
   simp
   exact Ev.now _
theorem split_ev (s : ByteArray) (c : UInt8) (hs : s.size ≤ 1000000000) : Ev (fun k => spec_l1Split.f k s (c.toNat : Int)) ((splitL c (L s)).map ofL) := by
 have := split_l c (s.size + 1) s [] (by omega) hs (by simp; omega)
 rw [List.nil_append] at this
 exact this
end Go.Proofs.YtpomhjkbgbociaaDoor.Ad
end
section
namespace Go.Proofs.YtpomhjkbgbociaaDoor.Ad
open Go.RowKit Go.Proofs.YtpomhjkbgbociaaDoor.P Go.Proofs.YtpomhjkbgbociaaDoorW.PrintWords Go.Proofs.YtpomhjkbgbociaaDoorW.PrintLast Go.Proofs.YtpomhjkbgbociaaDoorW.PrintMore Go.Proofs.YtpomhjkbgbociaaDoor.B
set_option linter.unusedVariables false
set_option linter.unusedSimpArgs false
def patB (c : UInt8) : Bool := plainB c || c == 47 || c == 42 || c == 63 || c == 37 || (decide (65 ≤ c.toNat) && decide (c.toNat ≤ 70))
def okL : List UInt8 → Bool
 | [] => true
 | c :: r => (patB c || (c == 36 && r.isEmpty)) && okL r
def ruleOk (p : ByteArray) : Bool := decide (1 ≤ p.size) && decide (p.size ≤ 16) && (bt p 0 == 47) && okL (L p)
theorem plain_f (c : UInt8) : spec_l1Plain.f (c.toNat : Int) = some (plainB c) := by
 have := plain_all c.toNat c.toNat_lt
 rwa [of_toNat] at this
theorem ok_spec_l (s : ByteArray) (hs : s.size ≤ 1000000) : ∀ (l : List UInt8) (i : Nat), (L s).drop i = l → Ev (fun k => spec_RuleOk.l0 k s (i : Int)) (okL l)
 | [], i, h => by
  have := bt_end h
  have n1 : ¬ ((i : Int) < (s.size : Int)) := by omega
  refine Ev_succ ?_
  simp only [spec_RuleOk.l0, n1, if_false]
  exact Ev.now _
 | x :: xs, i, h => by
  obtain ⟨hi, hb, hd⟩ := bt_at h
  have e1 : wrap64 ((i : Int) + 1) = ((i + 1 : Nat) : Int) := by rw [w64 (by omega) (by omega)]; rfl
  have e2 : wrap64 ((s.size : Int) - 1) = (s.size : Int) - 1 := w64 (by omega) (by omega)
  have f1 : (i : Int) < (s.size : Int) := by omega
  have f2 : (0 : Int) ≤ (i : Int) := by omega
  have hx : xs.length + (i + 1) = s.size := by rw [← L_size, ← hd, List.length_drop]; rw [L_size]; omega
  have hE : xs.isEmpty = decide ((i : Int) = (s.size : Int) - 1) := by
   cases xs with
   | nil => simp at hx ⊢; omega
   | cons y ys => simp at hx ⊢; omega
  have ih := ok_spec_l s hs xs (i + 1) hd
  have c1 : ((x.toNat : Int) = 47) ↔ (x == 47) = true := by rw [beq_iff_eq]; exact u8_eq (b := 47)
  have c2 : ((x.toNat : Int) = 42) ↔ (x == 42) = true := by rw [beq_iff_eq]; exact u8_eq (b := 42)
  have c3 : ((x.toNat : Int) = 63) ↔ (x == 63) = true := by rw [beq_iff_eq]; exact u8_eq (b := 63)
  have c4 : ((x.toNat : Int) = 37) ↔ (x == 37) = true := by rw [beq_iff_eq]; exact u8_eq (b := 37)
  have c5 : ((x.toNat : Int) = 36) ↔ (x == 36) = true := by rw [beq_iff_eq]; exact u8_eq (b := 36)
  have c6 : ((x.toNat : Int) ≥ 65) ↔ (decide (65 ≤ x.toNat)) = true := by rw [decide_eq_true_eq]; omega
  have c7 : ((x.toNat : Int) ≤ 70) ↔ (decide (x.toNat ≤ 70)) = true := by rw [decide_eq_true_eq]; omega
  have c8 : ((i : Int) = (s.size : Int) - 1) ↔ xs.isEmpty = true := by rw [hE, decide_eq_true_eq]
  refine Ev_succ ?_
  simp only [spec_RuleOk.l0, e1, e2, f1, f2, if_true, hb, plain_f, Option.bind_some, okL, patB, c1, c2, c3, c4, c5, c6, c7, c8]
  have yes : Ev (fun k => spec_RuleOk.l0 k s ((i + 1 : Nat) : Int)) (true && okL xs) := by rw [Bool.true_and]; exact ih
  have no : Ev (fun k => some false) (false && okL xs) := by rw [Bool.false_and]; exact Ev.now _
  cases plainB x
  ·cases (x == 47)
   ·cases (x == 42)
    ·cases (x == 63)
     ·cases (x == 37)
      ·cases (x == 36) <;> cases xs.isEmpty <;> cases decide (65 ≤ x.toNat) <;> cases decide (x.toNat ≤ 70) <;> first | exact yes | exact no
      ·exact yes
     ·exact yes
    ·exact yes
   ·exact yes
  ·exact yes
theorem ruleOk_spec (p : ByteArray) : Ev (fun k => spec_RuleOk.f k p) (ruleOk p) := by
 unfold spec_RuleOk.f ruleOk
 by_cases h2 : p.size ≤ 16
 ·have n2 : ¬ (p.size : Int) > 16 := by omega
  by_cases h1 : p.size = 0
  ·have z := toList_nil.2 h1
   have n1 : ¬ 1 ≤ p.size := by omega
   simp only [n2, if_false, z, if_true, n1, decide_false, Bool.false_and]
   refine Ev_succ ?_
   simp only [spec_RuleOk.j0, if_true]
   exact Ev.now _
  ·have z : ¬ p.toList = [] := fun e => h1 (toList_nil.1 e)
   have n1 : 1 ≤ p.size := by omega
   have n3 : (0 : Int) < (p.size : Int) := by omega
   simp only [n2, n1, n3, z, h2, if_true, if_false, decide_true, Bool.true_and]
   refine Ev_succ ?_
   by_cases h3 : bt p 0 = 47
   ·simp only [spec_RuleOk.j0, h3, bne_self_eq_false, Bool.false_eq_true, if_false, beq_self_eq_true, Bool.true_and]
    have := ok_spec_l p (by omega) _ 0 rfl
    rw [List.drop_zero] at this
    exact this
   ·have h4 : (bt p 0 != 47) = true := by simpa using h3
    have h5 : (bt p 0 == 47) = false := by simpa using h3
    simp only [spec_RuleOk.j0, h4, h5, if_true, Bool.false_and]
    exact Ev.now _
 ·have n2 : (p.size : Int) > 16 := by omega
  simp only [n2, h2, if_true, decide_false, Bool.and_false, Bool.false_and]
  refine Ev_succ ?_
  simp only [spec_RuleOk.j0, if_true]
  exact Ev.now _
end Go.Proofs.YtpomhjkbgbociaaDoor.Ad
end
