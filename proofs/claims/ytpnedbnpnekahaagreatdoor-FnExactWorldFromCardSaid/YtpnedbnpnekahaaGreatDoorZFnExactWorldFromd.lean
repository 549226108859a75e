/- Part 4 of the proof of FnExactWorldFrom: the plain functions of what it reaches, that Go comes to just their answers, what they answer, and the words that the walks use; conditions: each theorem's own. -/
import Derived.Test.YtpnedbnpnekahaaGreatDoorZFnExactWorldFromb
import Derived.Shelf.Strings.Builder1
import Derived.Shelf.Strings.Builder2
import Derived.Shelf.Strings.OnBuilder
import Derived.Shelf.Small.Utf8
import Derived.Shelf.Small.Strs
import Derived.Shelf.Small.Wraps
import Derived.Shelf.Strings.BuilderF
import Derived.Shelf.Strings.BuilderK
import Derived.Shelf.Utf8.RuneCount
import Derived.Shelf.Strings.Builder2Cap
import Derived.Shelf.Strings.Search1
import Derived.Shelf.Strings.Search2
import Derived.Shelf.Strings.Search3
import Derived.Shelf.Strings.Cut
import Derived.Shelf.Strings.Count
import Derived.Shelf.LaysM
import Derived.Shelf.Strings.Shaped
import Derived.Shelf.Strings.Prefix
import Derived.Shelf.Strings.Split
import Derived.Shelf.Strings.SplitShaped
import Derived.Shelf.Unicode.Decode
import Derived.Shelf.Strings.Runes
import Derived.Shelf.Strings.RuneCount
import Derived.Shelf.Strings.IndexAny
import Derived.Shelf.Strings.AsciiSet
import Derived.Shelf.Strings.IndexAnyAll
import Derived.Shelf.Strings.Explode
import Derived.Shelf.Unicode.DecodeSlow
import Derived.Shelf.Unicode.DecodeAny
import Derived.Shelf.Strings.BuilderCap
import Derived.Shelf.Slices.Turned
import Derived.Ground.Names2Prog
import Derived.Shelf.Slices.Clone
import Derived.Ground.SlgnProg
import Derived.Shelf.SlicesE.Clone
import Derived.Test.YtpnedbnpnekahaaGreatDoorProg
import Derived.Laws.RangeAny
import Derived.LoopTactic
import Derived.Laws.Runes
import Derived.Laws.RangeString
import Derived.Laws.Strings3
import Derived.Lib.IndexAny
import Derived.Lib.IndexBytes
import Derived.Deep.LoopGhost

section
namespace Go.Proofs.YtpnedbnpnekahaaGreatDoor.P
open Go.RowKit Go.Proofs.YtpnedbnpnekahaaGreatDoorW.PrintWords Go.Proofs.YtpnedbnpnekahaaGreatDoorW.PrintLast Go.Proofs.YtpnedbnpnekahaaGreatDoorW.PrintMore
attribute [local go_sem] max2_int min2_int max_two min_two max_three min_three max_four min_four
set_option linter.unusedVariables false
set_option linter.unusedSimpArgs false
def laws_markText.l0 : Nat → Int → ByteArray → Option (ByteArray)
 | 0, _, _ => none
 | k + 1, x0, x3 => if x0 > 0 then ((some (([(wrap64 (48 + (Int.tmod x0 10))) % 256] : List Int) : List Int)).bind fun y657 => (if (strOfNums y657).size + x3.size ≤ 9223372036854775807 then (laws_markText.l0 k (wrap64 (Int.tdiv x0 10)) ((strOfNums y657) ++ x3)) else (none))) else (if 1 + x3.size ≤ 9223372036854775807 then (some ((⟨#[109]⟩ : ByteArray) ++ x3)) else (none))
def laws_markText.f (k : Nat) (a0 : Int) : Option (ByteArray) := if a0 ≤ 0 then (some (⟨#[109, 48]⟩ : ByteArray)) else (laws_markText.l0 k a0 (⟨#[]⟩ : ByteArray))
theorem laws_markText.mono_l : ∀ k, (∀ y0 y1, LeO (laws_markText.l0 k y0 y1) (laws_markText.l0 (k + 1) y0 y1))
 | 0 => fun _ _ r h => by simp [laws_markText.l0] at h
 | k + 1 => by
  have ih0 := laws_markText.mono_l k
  ·intro y0 y1
   unfold laws_markText.l0
   repeat' first | (with_reducible first | exact ih0 _ _ | exact LeO.refl _ | exact LeO.none _ | refine LeO.ite ?_ ?_ | refine LeO.bind ?_ (fun _ => ?_)) | exact LeO.none _ | refine LeO.ite ?_ ?_ | refine LeO.bind ?_ (fun _ => ?_)
theorem laws_markText.mono : ∀ a0 k, LeO (laws_markText.f k a0) (laws_markText.f (k + 1) a0) := by
 intro a0 k;have ih0 := laws_markText.mono_l k;unfold laws_markText.f
 repeat' first | (with_reducible first | exact ih0 _ _ | exact LeO.refl _ | exact LeO.none _ | refine LeO.ite ?_ ?_ | refine LeO.bind ?_ (fun _ => ?_)) | exact LeO.none _ | refine LeO.ite ?_ ?_ | refine LeO.bind ?_ (fun _ => ?_)
set_option maxHeartbeats 8000000 in
set_option maxRecDepth 100000 in
theorem laws_markText.calls (k : Nat) (a0 : Int) (r : ByteArray) (w : World) (h : laws_markText.f k a0 = some r) :
  Calls Tryz.prog 22 #[.int .i64 a0] w fun e w' => e = .returned (.string r) ∧ Below w.heap.size w w' := by
 have HB := Aside0.mk (Below.refl w.heap.size w);have H : (if a0 ≤ 0 then (some (⟨#[109, 48]⟩ : ByteArray)) else (laws_markText.l0 k a0 (⟨#[]⟩ : ByteArray))) = some r := h;clear h;by_cases c2 : a0 ≤ 0
 ·rw [if_pos c2] at H
  have c2b0 : decide (a0 ≤ 0) = true := decide_eq_true c2;clear c2;obtain rfl := Option.some.inj H;go_enter Tryz.func22, Tryz.ntmps22;go_wp2
  go_ret
  exact ⟨zz1, (zz0 HB)⟩
 ·rw [if_neg c2] at H
  have c2b0 : decide (a0 ≤ 0) = false := decide_eq_false c2;clear c2;have H' := Aside0.mk H;clear H;go_enter Tryz.func22, Tryz.ntmps22;go_wp2
  go_loopg [0, 3] k (fun kq v0 v3 w' => ∃ (x0_1 : Int) (x3_1 : ByteArray), v0 = .int .i64 x0_1 ∧ v3 = .string x3_1 ∧ Aside0 (laws_markText.l0 kq x0_1 x3_1 = some r) ∧ Aside0 (kq ≤ k) ∧ Aside0 (Below w.heap.size w w'))
  case atStart => exact ⟨(a0), ((⟨#[]⟩ : ByteArray)), zz3, zz3, H', ⟨Nat.le_refl _⟩, ⟨(zz0 HB)⟩⟩
  case round =>
   clear H';obtain ⟨x0_1, x3_1, rfl, rfl, HA, HK1, HB⟩ := hrel;cases gk with
   | zero => exact absurd HA.out (by simp [laws_markText.l0])
   | succ k1 =>
    have H := HA.out;clear HA;simp only [laws_markText.l0] at H
    by_cases c3 : x0_1 > 0
    ·rw [if_pos c3] at H
     have c3b0 : decide (0 < x0_1) = true := decide_eq_true c3;clear c3;obtain ⟨y657, Ny657⟩ := toY (([(wrap64 (48 + (Int.tmod x0_1 10))) % 256] : List Int));(first | with_reducible replace H := bindZ Ny657 H | rw [← Ny657.out] at H | skip)
     by_cases c4 : (strOfNums y657).size + x3_1.size ≤ 9223372036854775807
     ·rw [if_pos c4] at H
      have c4b0 := eq_true c4;have c4b1 : decide ((strOfNums y657).size + x3_1.size ≤ 9223372036854775807) = true := decide_eq_true c4;try have c4b2 : (9223372036854775807 < (strOfNums y657).size + x3_1.size) = False := eq_false (Nat.not_lt.2 c4)
      have H' := Aside0.mk H;clear H;go_wp2_with (first | ((with_reducible refine gate_dst (N := 12) rfl ?_); refine Kd.R_lit (Kd.int .u8) _ 5 ?hg (N := 12) ?hd (xs := ([(wrap64 (48 + (Int.tmod x0_1 10))) % 256] : List Int)) (inner := [.int .u8 ((wrap64 (48 + (Int.tmod x0_1 10))) % 256)]) (ok := fun _ => True) (okp := fun _ => True) ?hr ?hp (fun _ hk => hk) trivial (Below.refl _ _) (Nat.le_refl _) (by simp) ?_; (case hd => rfl); (case hg => rfl); (case hr => exact zz19); (case hp => exact (Reps.one (show Kd.M (Kd.int .u8) _ _ _ ((wrap64 (48 + (Int.tmod x0_1 10))) % 256) [.int .u8 ((wrap64 (48 + (Int.tmod x0_1 10))) % 256)] from rfl) (Reps.none _ _))); intro v658 w5 ho6 hb hg_ hnew_; clear hg_ hnew_; (first | rw [← Ny657.out] at ho6 | (simp only [Int.reduceToNat] at ho6; rw [← Ny657.out] at ho6)); have HO659 := Aside0.mk (Kd.R_lower ho6 (below_size (zz0 HB))); replace HB := Aside0.mk (below_step (zz0 HB) hb); clear hb ho6; have hcv7 := own_string (P := Tryz.prog) Tryz.underlying61 Tryz.underlying5 Tryz.underlying9 (Kd.own_of_R HO659.out)))
      go_roundg k1
      case measure => have := HK1.out; omega
      case rel => exact ⟨(wrap64 (Int.tdiv x0_1 10)), ((strOfNums y657) ++ x3_1), zz3, zz3, H', ⟨(zz5 HK1)⟩, ⟨(zz0 HB)⟩⟩
     ·rw [if_neg c4] at H
      exact absurd H (by simp)
    ·rw [if_neg c3] at H
     have c3b0 : decide (0 < x0_1) = false := decide_eq_false c3;clear c3;by_cases c8 : 1 + x3_1.size ≤ 9223372036854775807
     ·rw [if_pos c8] at H
      have c8b0 := eq_true c8;have c8b1 : decide (1 + x3_1.size ≤ 9223372036854775807) = true := decide_eq_true c8;try have c8b2 : (9223372036854775807 < 1 + x3_1.size) = False := eq_false (Nat.not_lt.2 c8)
      obtain rfl := Option.some.inj H;go_wp2
      go_ret
      exact ⟨zz1, (zz0 HB)⟩
     ·rw [if_neg c8] at H
      exact absurd H (by simp)
def laws_markPageS.l0 : Nat → List (S41) → Int → Int → Option (Int × (List (S41)))
 | 0, _, _, _ => none
 | k + 1, x0, x1, x5 => if x5 < (x0.length : Int) then ((laws_markText.f k x1).bind fun t660 => (if 0 ≤ x5 then ((some (x0.set (x5 : Int).toNat (⟨t660, (rd_T41 x0 x5).f1, (rd_T41 x0 x5).f2, (rd_T41 x0 x5).f3⟩ : S41) : List (S41))).bind fun y661 => ((laws_markText.f k (wrap64 (x1 + 1))).bind fun t662 => ((some (y661.set (x5 : Int).toNat (⟨(rd_T41 y661 x5).f0, t662, (rd_T41 y661 x5).f2, (rd_T41 y661 x5).f3⟩ : S41) : List (S41))).bind fun y663 => ((laws_markText.f k (wrap64 ((wrap64 (x1 + 1)) + 1))).bind fun t664 => ((some (y663.set (x5 : Int).toNat (⟨(rd_T41 y663 x5).f0, (rd_T41 y663 x5).f1, t664, (rd_T41 y663 x5).f3⟩ : S41) : List (S41))).bind fun y665 => (laws_markPageS.l0 k (y665.set (x5 : Int).toNat (⟨(rd_T41 y665 x5).f0, (rd_T41 y665 x5).f1, (rd_T41 y665 x5).f2, wrap64 ((wrap64 ((wrap64 (x1 + 1)) + 1)) + 1)⟩ : S41)) (wrap64 ((wrap64 ((wrap64 ((wrap64 (x1 + 1)) + 1)) + 1)) + 1)) (wrap64 (x5 + 1)))))))) else (none))) else (some (x1, x0))
def laws_markPageS.f (k : Nat) (l0 : List (S41)) (a1 : Int) : Option (Int × (List (S41))) := laws_markPageS.l0 k l0 a1 0
set_option maxHeartbeats 8000000 in
set_option maxRecDepth 100000 in
theorem laws_markPageS.calls (k : Nat) (P0_ : Nat → Prop) (u9000_ : Value) (l0 : List (S41)) (a1 : Int) (r1 : Int) (r2 : List (S41)) (w0 w : World) (hB : Below w0.heap.size w0 w) (ho0 : Kd.R k41 41 w w0.heap.size P0_ u9000_ l0) (h : laws_markPageS.f k l0 a1 = some (r1, r2)) :
  Calls Tryz.prog 10 #[u9000_, .int .i64 a1] w fun e w' => e = .returned (.int .i64 r1) ∧ Kd.R k41 41 w' w0.heap.size (fun k_ => (P0_ k_ ∨ w.heap.size ≤ k_)) u9000_ r2 ∧ Below w0.heap.size w0 w' ∧ Kept w w' (fun k_ => P0_ k_) := by
 have HO0 := Aside0.mk (show Kd.R k41 41 w w0.heap.size (fun k_ => (P0_ k_ ∨ w.heap.size ≤ k_)) u9000_ l0 from Kd.R_mono ho0 (fun k_ hk => (.inl hk)));have HK := Aside0.mk (Kept.refl w (fun k_ => P0_ k_));have HW0 := Aside0.mk hB.size;have HB := Aside0.mk hB;clear hB;have H : (laws_markPageS.l0 k l0 a1 0) = some (r1, r2) := h;clear h;have H' := Aside0.mk H;clear H;go_enter Tryz.func10, Tryz.ntmps10;go_wp2
 go_loopg [1, 5] k (fun kq v1 v5 w' => ∃ (x0_1 : List (S41)) (x1_1 : Int) (x5_1 : Int), v1 = .int .i64 x1_1 ∧ v5 = .int .i64 x5_1 ∧ Aside0 (laws_markPageS.l0 kq x0_1 x1_1 x5_1 = some (r1, r2)) ∧ Aside0 (kq ≤ k) ∧ Aside0 (Kd.R k41 41 w' w0.heap.size (fun k_ => (P0_ k_ ∨ w.heap.size ≤ k_)) u9000_ x0_1) ∧ Aside0 (Kept w w' (fun k_ => P0_ k_)) ∧ Aside0 (Below w0.heap.size w0 w'))
 case atStart => exact ⟨(l0), (a1), (0), zz3, zz3, H', ⟨Nat.le_refl _⟩, ⟨(zz28 HO0)⟩, ⟨(zz71 HK)⟩, ⟨(zz0 HB)⟩⟩
 case round =>
  clear H';obtain ⟨x0_1, x1_1, x5_1, rfl, rfl, HA, HK1, HO_0, HK, HB⟩ := hrel;cases gk with
  | zero => exact absurd HA.out (by simp [laws_markPageS.l0])
  | succ k1 =>
   have H := HA.out;clear HA;simp only [laws_markPageS.l0] at H
   by_cases c3 : x5_1 < (x0_1.length : Int)
   ·rw [if_pos c3] at H
    have c3b0 : decide (x5_1 < (x0_1.length : Int)) = true := decide_eq_true c3;clear c3;replace H := bindA H;obtain ⟨t660, A4, H⟩ := H;by_cases c5 : 0 ≤ x5_1
    ·rw [if_pos c5] at H
     have c5b0 : decide (0 ≤ x5_1) = true := decide_eq_true c5;clear c5;obtain ⟨y661, Ny661⟩ := toY (x0_1.set (x5_1 : Int).toNat (⟨t660, (rd_T41 x0_1 x5_1).f1, (rd_T41 x0_1 x5_1).f2, (rd_T41 x0_1 x5_1).f3⟩ : S41));(first | with_reducible replace H := bindZ Ny661 H | rw [← Ny661.out] at H | skip)
     replace H := bindA H;obtain ⟨t662, A7, H⟩ := H;obtain ⟨y663, Ny663⟩ := toY (y661.set (x5_1 : Int).toNat (⟨(rd_T41 y661 x5_1).f0, t662, (rd_T41 y661 x5_1).f2, (rd_T41 y661 x5_1).f3⟩ : S41));(first | with_reducible replace H := bindZ Ny663 H | rw [← Ny663.out] at H | skip)
     replace H := bindA H;obtain ⟨t664, A9, H⟩ := H;obtain ⟨y665, Ny665⟩ := toY (y663.set (x5_1 : Int).toNat (⟨(rd_T41 y663 x5_1).f0, (rd_T41 y663 x5_1).f1, t664, (rd_T41 y663 x5_1).f3⟩ : S41));(first | with_reducible replace H := bindZ Ny665 H | rw [← Ny665.out] at H | skip)
     obtain ⟨y666, Ny666⟩ := toY (y665.set (x5_1 : Int).toNat (⟨(rd_T41 y665 x5_1).f0, (rd_T41 y665 x5_1).f1, (rd_T41 y665 x5_1).f2, wrap64 ((wrap64 ((wrap64 (x1_1 + 1)) + 1)) + 1)⟩ : S41));(first | with_reducible replace H := bindZ Ny666 H | rw [← Ny666.out] at H | skip)
     have H' := Aside0.mk H;clear H;obtain ⟨Ao12, co12, eo12⟩ := Kd.R_slice HO_0.out;subst eo12;go_wp2_with (first | ((with_reducible refine gate_callee (f := 22) rfl ?_); refine gsL (some 15) Tryz.func22 #[.int .i64 x1_1] ?_; (with_reducible refine (laws_markText.calls k1 x1_1 t660 _ A4.out).mono ?_); rintro e w13 ⟨rfl, hb⟩; refine ⟨_, rfl, ?_⟩; replace HO_0 := Aside0.mk (Kd.R_below (zz28 HO_0) hb); replace HK := Aside0.mk (Kept.below (S := (fun k_ => P0_ k_)) (zz71 HK) hb); replace HB := Aside0.mk (below_step (zz0 HB) hb); (try clear hb); have p6 : 0 ≤ (x5_1 : Int) := ofD; have q6 : (x5_1 : Int) < ((x0_1.length : Int) : Int) := ofD; obtain ⟨go6, co6, eo6, gb6, gl6, cl6, HG6⟩ := Kd.R_form HO_0.out (by omega); (first | cases eo6 | (injection eo6 with ea_ en_ ec_; (first | subst ea_ | (injection ea_ with ea_; subst ea_)); subst ec_; clear en_)); have GB6 := Aside0.mk gb6; have GG6 := Aside0.mk HG6; clear gb6 gl6 HG6; have HMgo6 := Aside0.mk (show (P0_ go6 ∨ w.heap.size ≤ go6) from (HO_0.out.1 _ rfl)); obtain ⟨ce6, hcl6, hM6, hcc6, hfr6⟩ := Kd.R_elem HO_0.out z41 (x5_1 : Int) p6 q6; obtain rfl := k41_openM hM6; have hx6_0 : w13.cell? ⟨go6, (x5_1 : Int).toNat * 4, none⟩ = some (.string ((rd_T41 x0_1 x5_1).f0)) := hcc6 0 _ rfl; have hx6_1 : w13.cell? ⟨go6, (x5_1 : Int).toNat * 4 + 1, none⟩ = some (.string ((rd_T41 x0_1 x5_1).f1)) := hcc6 1 _ rfl; have hx6_2 : w13.cell? ⟨go6, (x5_1 : Int).toNat * 4 + 2, none⟩ = some (.string ((rd_T41 x0_1 x5_1).f2)) := hcc6 2 _ rfl; have hx6_3 : w13.cell? ⟨go6, (x5_1 : Int).toNat * 4 + 3, none⟩ = some (.int .i64 ((rd_T41 x0_1 x5_1).f3)) := hcc6 3 _ rfl; have hf6_0 : w13.frozen? ⟨go6, (x5_1 : Int).toNat * 4, none⟩ = false := hfr6 0; have hf6_1 : w13.frozen? ⟨go6, (x5_1 : Int).toNat * 4 + 1, none⟩ = false := hfr6 1; have hf6_2 : w13.frozen? ⟨go6, (x5_1 : Int).toNat * 4 + 2, none⟩ = false := hfr6 2; have hf6_3 : w13.frozen? ⟨go6, (x5_1 : Int).toNat * 4 + 3, none⟩ = false := hfr6 3; clear hcl6 hcc6 hfr6 hM6; replace p6 := eq_true p6; replace q6 := eq_true q6; have HX14 := Aside0.mk (show Kd.R k41 41 w13 w0.heap.size (fun k_ => (P0_ k_ ∨ w.heap.size ≤ k_)) (.slice (some ⟨go6, 0, none⟩) x0_1.length co12) x0_1 from (zz28 HO_0)); obtain ⟨ce14, hcl14, hM14, hcc14, hfr14⟩ := Kd.R_elem HX14.out z41 (x5_1 : Int) ofD (by have h_ : (x5_1 : Int) < ((x0_1.length : Int) : Int) := ofD; first | exact h_ | (have e_ := (Kd.R_reads' HO_0.out).1; omega) | simpa using h_); obtain rfl := k41_openM hM14; have HP14 := Kd.R_seg HX14.out (x5_1 : Int) ofD (by have h_ : (x5_1 : Int) < ((x0_1.length : Int) : Int) := ofD; first | exact h_ | (have e_ := (Kd.R_reads' HO_0.out).1; omega) | simpa using h_) (seg := [.string t660]) (j := 0) hcl14 hcc14 (show 1 ≤ 4 from by decide) (x' := (⟨t660, (rd_T41 x0_1 x5_1).f1, (rd_T41 x0_1 x5_1).f2, (rd_T41 x0_1 x5_1).f3⟩ : S41)) (k41_mkM _ _ _ (⟨t660, (rd_T41 x0_1 x5_1).f1, (rd_T41 x0_1 x5_1).f2, (rd_T41 x0_1 x5_1).f3⟩ : S41) ) (fun _ hk => hk); have hx14_0 := hcc14 0 _ rfl; (try simp only [show (k41).sz = 4 from rfl, Nat.mul_one, Nat.add_zero] at hx14_0); have hf14_0 := hfr14 0; (try simp only [show (k41).sz = 4 from rfl, Nat.mul_one, Nat.add_zero] at hf14_0); clear hcl14 hcc14 hfr14 hM14) | ((with_reducible refine gate_store (t := 9) (p := 17) rfl ?_); refine store_event (t := 9) (p := 17) (v := ?vo_w15) (w1 := (w13.setCell ⟨go6, (x5_1 : Int).toNat * 4, none⟩ (.string t660))) ?hg ?ho ?hn ?hr ?_; (case ho => rfl); (case hg => rfl); (case hn => rfl); (case hr => exact zz19); intro w15 hw; have hg : w13.grownBy w15 (some go6) := (by rw [hw]; exact HP14.2); have hp_ : Kd.R k41 41 w15 w0.heap.size (fun k_ => (P0_ k_ ∨ w.heap.size ≤ k_)) (.slice (some ⟨go6, 0, none⟩) x0_1.length co12) y661 := (by rw [hw, Ny661.out]; exact HP14.1); clear HP14; replace HB := Aside0.mk ((by rw [hw]; exact below_set (HB.out) GB6.out : Below w0.heap.size w0 w15)); replace HK := Aside0.mk (Kept.of_grown (S := (fun k_ => P0_ k_)) hg (zz71 HK) (fun k_ e_ => (HO_0.out.1 k_ e_))); replace HO_0 := Aside0.mk (hp_); clear hg hw hp_) | ((with_reducible refine gate_callee (f := 22) rfl ?_); refine gsL (some 23) Tryz.func22 #[.int .i64 (wrap64 (x1_1 + 1))] ?_; (with_reducible refine (laws_markText.calls k1 (wrap64 (x1_1 + 1)) t662 _ A7.out).mono ?_); rintro e w16 ⟨rfl, hb⟩; refine ⟨_, rfl, ?_⟩; replace HO_0 := Aside0.mk (Kd.R_below (zz28 HO_0) hb); replace HK := Aside0.mk (Kept.below (S := (fun k_ => P0_ k_)) (zz71 HK) hb); replace HB := Aside0.mk (below_step (zz0 HB) hb); (try clear hb); have p8 : 0 ≤ (x5_1 : Int) := ofD; have q8 : (x5_1 : Int) < ((x0_1.length : Int) : Int) := ofD; obtain ⟨ce8, hcl8, hM8, hcc8, hfr8⟩ := Kd.R_elem HO_0.out z41 (x5_1 : Int) p8 q8; obtain rfl := k41_openM hM8; have hx8_0 : w16.cell? ⟨go6, (x5_1 : Int).toNat * 4, none⟩ = some (.string ((rd_T41 y661 x5_1).f0)) := hcc8 0 _ rfl; have hx8_1 : w16.cell? ⟨go6, (x5_1 : Int).toNat * 4 + 1, none⟩ = some (.string ((rd_T41 y661 x5_1).f1)) := hcc8 1 _ rfl; have hx8_2 : w16.cell? ⟨go6, (x5_1 : Int).toNat * 4 + 2, none⟩ = some (.string ((rd_T41 y661 x5_1).f2)) := hcc8 2 _ rfl; have hx8_3 : w16.cell? ⟨go6, (x5_1 : Int).toNat * 4 + 3, none⟩ = some (.int .i64 ((rd_T41 y661 x5_1).f3)) := hcc8 3 _ rfl; have hf8_0 : w16.frozen? ⟨go6, (x5_1 : Int).toNat * 4, none⟩ = false := hfr8 0; have hf8_1 : w16.frozen? ⟨go6, (x5_1 : Int).toNat * 4 + 1, none⟩ = false := hfr8 1; have hf8_2 : w16.frozen? ⟨go6, (x5_1 : Int).toNat * 4 + 2, none⟩ = false := hfr8 2; have hf8_3 : w16.frozen? ⟨go6, (x5_1 : Int).toNat * 4 + 3, none⟩ = false := hfr8 3; clear hcl8 hcc8 hfr8 hM8; replace p8 := eq_true p8; replace q8 := eq_true q8; have HX17 := Aside0.mk (show Kd.R k41 41 w16 w0.heap.size (fun k_ => (P0_ k_ ∨ w.heap.size ≤ k_)) (.slice (some ⟨go6, 0, none⟩) x0_1.length co12) y661 from (zz28 HO_0)); obtain ⟨ce17, hcl17, hM17, hcc17, hfr17⟩ := Kd.R_elem HX17.out z41 (x5_1 : Int) ofD (by have h_ : (x5_1 : Int) < ((x0_1.length : Int) : Int) := ofD; first | exact h_ | (have e_ := (Kd.R_reads' HO_0.out).1; omega) | simpa using h_); obtain rfl := k41_openM hM17; have HP17 := Kd.R_seg HX17.out (x5_1 : Int) ofD (by have h_ : (x5_1 : Int) < ((x0_1.length : Int) : Int) := ofD; first | exact h_ | (have e_ := (Kd.R_reads' HO_0.out).1; omega) | simpa using h_) (seg := [.string t662]) (j := 1) hcl17 hcc17 (show 2 ≤ 4 from by decide) (x' := (⟨(rd_T41 y661 x5_1).f0, t662, (rd_T41 y661 x5_1).f2, (rd_T41 y661 x5_1).f3⟩ : S41)) (k41_mkM _ _ _ (⟨(rd_T41 y661 x5_1).f0, t662, (rd_T41 y661 x5_1).f2, (rd_T41 y661 x5_1).f3⟩ : S41) ) (fun _ hk => hk); have hx17_1 := hcc17 1 _ rfl; (try simp only [show (k41).sz = 4 from rfl, Nat.mul_one, Nat.add_zero] at hx17_1); have hf17_1 := hfr17 1; (try simp only [show (k41).sz = 4 from rfl, Nat.mul_one, Nat.add_zero] at hf17_1); clear hcl17 hcc17 hfr17 hM17) | ((with_reducible refine gate_store (t := 9) (p := 25) rfl ?_); refine store_event (t := 9) (p := 25) (v := ?vo_w18) (w1 := (w16.setCell ⟨go6, (x5_1 : Int).toNat * 4 + 1, none⟩ (.string t662))) ?hg ?ho ?hn ?hr ?_; (case ho => rfl); (case hg => rfl); (case hn => rfl); (case hr => exact zz19); intro w18 hw; have hg : w16.grownBy w18 (some go6) := (by rw [hw]; exact HP17.2); have hp_ : Kd.R k41 41 w18 w0.heap.size (fun k_ => (P0_ k_ ∨ w.heap.size ≤ k_)) (.slice (some ⟨go6, 0, none⟩) x0_1.length co12) y663 := (by rw [hw, Ny663.out]; exact HP17.1); clear HP17; replace HB := Aside0.mk ((by rw [hw]; exact below_set (HB.out) GB6.out : Below w0.heap.size w0 w18)); replace HK := Aside0.mk (Kept.of_grown (S := (fun k_ => P0_ k_)) hg (zz71 HK) (fun k_ e_ => (HO_0.out.1 k_ e_))); replace HO_0 := Aside0.mk (hp_); clear hg hw hp_) | ((with_reducible refine gate_callee (f := 22) rfl ?_); refine gsL (some 31) Tryz.func22 #[.int .i64 (wrap64 ((wrap64 (x1_1 + 1)) + 1))] ?_; (with_reducible refine (laws_markText.calls k1 (wrap64 ((wrap64 (x1_1 + 1)) + 1)) t664 _ A9.out).mono ?_); rintro e w19 ⟨rfl, hb⟩; refine ⟨_, rfl, ?_⟩; replace HO_0 := Aside0.mk (Kd.R_below (zz28 HO_0) hb); replace HK := Aside0.mk (Kept.below (S := (fun k_ => P0_ k_)) (zz71 HK) hb); replace HB := Aside0.mk (below_step (zz0 HB) hb); (try clear hb); have p10 : 0 ≤ (x5_1 : Int) := ofD; have q10 : (x5_1 : Int) < ((x0_1.length : Int) : Int) := ofD; obtain ⟨ce10, hcl10, hM10, hcc10, hfr10⟩ := Kd.R_elem HO_0.out z41 (x5_1 : Int) p10 q10; obtain rfl := k41_openM hM10; have hx10_0 : w19.cell? ⟨go6, (x5_1 : Int).toNat * 4, none⟩ = some (.string ((rd_T41 y663 x5_1).f0)) := hcc10 0 _ rfl; have hx10_1 : w19.cell? ⟨go6, (x5_1 : Int).toNat * 4 + 1, none⟩ = some (.string ((rd_T41 y663 x5_1).f1)) := hcc10 1 _ rfl; have hx10_2 : w19.cell? ⟨go6, (x5_1 : Int).toNat * 4 + 2, none⟩ = some (.string ((rd_T41 y663 x5_1).f2)) := hcc10 2 _ rfl; have hx10_3 : w19.cell? ⟨go6, (x5_1 : Int).toNat * 4 + 3, none⟩ = some (.int .i64 ((rd_T41 y663 x5_1).f3)) := hcc10 3 _ rfl; have hf10_0 : w19.frozen? ⟨go6, (x5_1 : Int).toNat * 4, none⟩ = false := hfr10 0; have hf10_1 : w19.frozen? ⟨go6, (x5_1 : Int).toNat * 4 + 1, none⟩ = false := hfr10 1; have hf10_2 : w19.frozen? ⟨go6, (x5_1 : Int).toNat * 4 + 2, none⟩ = false := hfr10 2; have hf10_3 : w19.frozen? ⟨go6, (x5_1 : Int).toNat * 4 + 3, none⟩ = false := hfr10 3; clear hcl10 hcc10 hfr10 hM10; replace p10 := eq_true p10; replace q10 := eq_true q10; have HX20 := Aside0.mk (show Kd.R k41 41 w19 w0.heap.size (fun k_ => (P0_ k_ ∨ w.heap.size ≤ k_)) (.slice (some ⟨go6, 0, none⟩) x0_1.length co12) y663 from (zz28 HO_0)); obtain ⟨ce20, hcl20, hM20, hcc20, hfr20⟩ := Kd.R_elem HX20.out z41 (x5_1 : Int) ofD (by have h_ : (x5_1 : Int) < ((x0_1.length : Int) : Int) := ofD; first | exact h_ | (have e_ := (Kd.R_reads' HO_0.out).1; omega) | simpa using h_); obtain rfl := k41_openM hM20; have HP20 := Kd.R_seg HX20.out (x5_1 : Int) ofD (by have h_ : (x5_1 : Int) < ((x0_1.length : Int) : Int) := ofD; first | exact h_ | (have e_ := (Kd.R_reads' HO_0.out).1; omega) | simpa using h_) (seg := [.string t664]) (j := 2) hcl20 hcc20 (show 3 ≤ 4 from by decide) (x' := (⟨(rd_T41 y663 x5_1).f0, (rd_T41 y663 x5_1).f1, t664, (rd_T41 y663 x5_1).f3⟩ : S41)) (k41_mkM _ _ _ (⟨(rd_T41 y663 x5_1).f0, (rd_T41 y663 x5_1).f1, t664, (rd_T41 y663 x5_1).f3⟩ : S41) ) (fun _ hk => hk); have hx20_2 := hcc20 2 _ rfl; (try simp only [show (k41).sz = 4 from rfl, Nat.mul_one, Nat.add_zero] at hx20_2); have hf20_2 := hfr20 2; (try simp only [show (k41).sz = 4 from rfl, Nat.mul_one, Nat.add_zero] at hf20_2); clear hcl20 hcc20 hfr20 hM20) | ((with_reducible refine gate_store (t := 9) (p := 33) rfl ?_); refine store_event (t := 9) (p := 33) (v := ?vo_w21) (w1 := (w19.setCell ⟨go6, (x5_1 : Int).toNat * 4 + 2, none⟩ (.string t664))) ?hg ?ho ?hn ?hr ?_; (case ho => rfl); (case hg => rfl); (case hn => rfl); (case hr => exact zz19); intro w21 hw; have hg : w19.grownBy w21 (some go6) := (by rw [hw]; exact HP20.2); have hp_ : Kd.R k41 41 w21 w0.heap.size (fun k_ => (P0_ k_ ∨ w.heap.size ≤ k_)) (.slice (some ⟨go6, 0, none⟩) x0_1.length co12) y665 := (by rw [hw, Ny665.out]; exact HP20.1); clear HP20; replace HB := Aside0.mk ((by rw [hw]; exact below_set (HB.out) GB6.out : Below w0.heap.size w0 w21)); replace HK := Aside0.mk (Kept.of_grown (S := (fun k_ => P0_ k_)) hg (zz71 HK) (fun k_ e_ => (HO_0.out.1 k_ e_))); replace HO_0 := Aside0.mk (hp_); clear hg hw hp_; have p11 : 0 ≤ (x5_1 : Int) := ofD; have q11 : (x5_1 : Int) < ((x0_1.length : Int) : Int) := ofD; obtain ⟨ce11, hcl11, hM11, hcc11, hfr11⟩ := Kd.R_elem HO_0.out z41 (x5_1 : Int) p11 q11; obtain rfl := k41_openM hM11; have hx11_0 : w21.cell? ⟨go6, (x5_1 : Int).toNat * 4, none⟩ = some (.string ((rd_T41 y665 x5_1).f0)) := hcc11 0 _ rfl; have hx11_1 : w21.cell? ⟨go6, (x5_1 : Int).toNat * 4 + 1, none⟩ = some (.string ((rd_T41 y665 x5_1).f1)) := hcc11 1 _ rfl; have hx11_2 : w21.cell? ⟨go6, (x5_1 : Int).toNat * 4 + 2, none⟩ = some (.string ((rd_T41 y665 x5_1).f2)) := hcc11 2 _ rfl; have hx11_3 : w21.cell? ⟨go6, (x5_1 : Int).toNat * 4 + 3, none⟩ = some (.int .i64 ((rd_T41 y665 x5_1).f3)) := hcc11 3 _ rfl; have hf11_0 : w21.frozen? ⟨go6, (x5_1 : Int).toNat * 4, none⟩ = false := hfr11 0; have hf11_1 : w21.frozen? ⟨go6, (x5_1 : Int).toNat * 4 + 1, none⟩ = false := hfr11 1; have hf11_2 : w21.frozen? ⟨go6, (x5_1 : Int).toNat * 4 + 2, none⟩ = false := hfr11 2; have hf11_3 : w21.frozen? ⟨go6, (x5_1 : Int).toNat * 4 + 3, none⟩ = false := hfr11 3; clear hcl11 hcc11 hfr11 hM11; replace p11 := eq_true p11; replace q11 := eq_true q11; have HX22 := Aside0.mk (show Kd.R k41 41 w21 w0.heap.size (fun k_ => (P0_ k_ ∨ w.heap.size ≤ k_)) (.slice (some ⟨go6, 0, none⟩) x0_1.length co12) y665 from (zz28 HO_0)); obtain ⟨ce22, hcl22, hM22, hcc22, hfr22⟩ := Kd.R_elem HX22.out z41 (x5_1 : Int) ofD (by have h_ : (x5_1 : Int) < ((x0_1.length : Int) : Int) := ofD; first | exact h_ | (have e_ := (Kd.R_reads' HO_0.out).1; omega) | simpa using h_); obtain rfl := k41_openM hM22; have HP22 := Kd.R_seg HX22.out (x5_1 : Int) ofD (by have h_ : (x5_1 : Int) < ((x0_1.length : Int) : Int) := ofD; first | exact h_ | (have e_ := (Kd.R_reads' HO_0.out).1; omega) | simpa using h_) (seg := [.int .i64 (wrap64 ((wrap64 ((wrap64 (x1_1 + 1)) + 1)) + 1))]) (j := 3) hcl22 hcc22 (show 4 ≤ 4 from by decide) (x' := (⟨(rd_T41 y665 x5_1).f0, (rd_T41 y665 x5_1).f1, (rd_T41 y665 x5_1).f2, wrap64 ((wrap64 ((wrap64 (x1_1 + 1)) + 1)) + 1)⟩ : S41)) (k41_mkM _ _ _ (⟨(rd_T41 y665 x5_1).f0, (rd_T41 y665 x5_1).f1, (rd_T41 y665 x5_1).f2, wrap64 ((wrap64 ((wrap64 (x1_1 + 1)) + 1)) + 1)⟩ : S41) ) (fun _ hk => hk); have hx22_3 := hcc22 3 _ rfl; (try simp only [show (k41).sz = 4 from rfl, Nat.mul_one, Nat.add_zero] at hx22_3); have hf22_3 := hfr22 3; (try simp only [show (k41).sz = 4 from rfl, Nat.mul_one, Nat.add_zero] at hf22_3); clear hcl22 hcc22 hfr22 hM22) | ((with_reducible refine gate_store (t := 3) (p := 40) rfl ?_); refine store_event (t := 3) (p := 40) (v := ?vo_w23) (w1 := (w21.setCell ⟨go6, (x5_1 : Int).toNat * 4 + 3, none⟩ (.int .i64 (wrap64 ((wrap64 ((wrap64 (x1_1 + 1)) + 1)) + 1))))) ?hg ?ho ?hn ?hr ?_; (case ho => rfl); (case hg => rfl); (case hn => rfl); (case hr => exact zz19); intro w23 hw; have hg : w21.grownBy w23 (some go6) := (by rw [hw]; exact HP22.2); have hp_ : Kd.R k41 41 w23 w0.heap.size (fun k_ => (P0_ k_ ∨ w.heap.size ≤ k_)) (.slice (some ⟨go6, 0, none⟩) x0_1.length co12) y666 := (by rw [hw, Ny666.out]; exact HP22.1); clear HP22; replace HB := Aside0.mk ((by rw [hw]; exact below_set (HB.out) GB6.out : Below w0.heap.size w0 w23)); replace HK := Aside0.mk (Kept.of_grown (S := (fun k_ => P0_ k_)) hg (zz71 HK) (fun k_ e_ => (HO_0.out.1 k_ e_))); replace HO_0 := Aside0.mk (hp_); clear hg hw hp_))
     go_roundg k1
     case measure => have := HK1.out; omega
     case rel => exact ⟨(y666), (wrap64 ((wrap64 ((wrap64 ((wrap64 (x1_1 + 1)) + 1)) + 1)) + 1)), (wrap64 (x5_1 + 1)), zz3, zz3, H', ⟨(zz5 HK1)⟩, ⟨(zz28 HO_0)⟩, ⟨(zz71 HK)⟩, ⟨(zz0 HB)⟩⟩
    ·rw [if_neg c5] at H
     exact absurd H (by simp)
   ·rw [if_neg c3] at H
    have c3b0 : decide (x5_1 < (x0_1.length : Int)) = false := decide_eq_false c3;clear c3;simp only [Option.some.injEq, Prod.mk.injEq] at H
    obtain ⟨rfl, rfl⟩ := H;obtain ⟨Ao24, co24, eo24⟩ := Kd.R_slice HO_0.out;subst eo24;go_wp2
    go_ret
    exact ⟨zz1, (zz28 HO_0), (zz0 HB), (zz71 HK)⟩
def laws_markStringS.l0 : Nat → List ByteArray → Int → Int → Option (Int × List ByteArray)
 | 0, _, _, _ => none
 | k + 1, x0, x1, x5 => if x5 < (x0.length : Int) then ((laws_markText.f k x1).bind fun t667 => (if 0 ≤ x5 then (laws_markStringS.l0 k (x0.set (x5 : Int).toNat t667) (wrap64 (x1 + 1)) (wrap64 (x5 + 1))) else (none))) else (some (x1, x0))
def laws_markStringS.f (k : Nat) (l0 : List ByteArray) (a1 : Int) : Option (Int × List ByteArray) := laws_markStringS.l0 k l0 a1 0
theorem laws_markStringS.mono_l : ∀ k, (∀ y0 y1 y2, LeO (laws_markStringS.l0 k y0 y1 y2) (laws_markStringS.l0 (k + 1) y0 y1 y2))
 | 0 => fun _ _ _ r h => by simp [laws_markStringS.l0] at h
 | k + 1 => by
  have ih0 := laws_markStringS.mono_l k
  ·intro y0 y1 y2
   unfold laws_markStringS.l0
   repeat' first | (with_reducible first | exact ih0 _ _ _ | exact laws_markText.mono _ _ | exact LeO.refl _ | exact LeO.none _ | refine LeO.ite ?_ ?_ | refine LeO.bind ?_ (fun _ => ?_)) | exact LeO.none _ | refine LeO.ite ?_ ?_ | refine LeO.bind ?_ (fun _ => ?_)
set_option maxHeartbeats 8000000 in
set_option maxRecDepth 100000 in
theorem laws_markStringS.calls (k : Nat) (P0_ : Nat → Prop) (u9000_ : Value) (l0 : List ByteArray) (a1 : Int) (r1 : Int) (r2 : List ByteArray) (w0 w : World) (hB : Below w0.heap.size w0 w) (ho0 : Kd.R Kd.string 9 w w0.heap.size P0_ u9000_ l0) (h : laws_markStringS.f k l0 a1 = some (r1, r2)) :
  Calls Tryz.prog 11 #[u9000_, .int .i64 a1] w fun e w' => e = .returned (.int .i64 r1) ∧ Kd.R Kd.string 9 w' w0.heap.size (fun k_ => (P0_ k_ ∨ w.heap.size ≤ k_)) u9000_ r2 ∧ Below w0.heap.size w0 w' ∧ Kept w w' (fun k_ => P0_ k_) := by
 have HO0 := Aside0.mk (show Kd.R Kd.string 9 w w0.heap.size (fun k_ => (P0_ k_ ∨ w.heap.size ≤ k_)) u9000_ l0 from Kd.R_mono ho0 (fun k_ hk => (.inl hk)));have HK := Aside0.mk (Kept.refl w (fun k_ => P0_ k_));have HW0 := Aside0.mk hB.size;have HB := Aside0.mk hB;clear hB;have H : (laws_markStringS.l0 k l0 a1 0) = some (r1, r2) := h;clear h;have H' := Aside0.mk H;clear H;go_enter Tryz.func11, Tryz.ntmps11;go_wp2
 go_loopg [1, 5] k (fun kq v1 v5 w' => ∃ (x0_1 : List ByteArray) (x1_1 : Int) (x5_1 : Int), v1 = .int .i64 x1_1 ∧ v5 = .int .i64 x5_1 ∧ Aside0 (laws_markStringS.l0 kq x0_1 x1_1 x5_1 = some (r1, r2)) ∧ Aside0 (kq ≤ k) ∧ Aside0 (Kd.R Kd.string 9 w' w0.heap.size (fun k_ => (P0_ k_ ∨ w.heap.size ≤ k_)) u9000_ x0_1) ∧ Aside0 (Kept w w' (fun k_ => P0_ k_)) ∧ Aside0 (Below w0.heap.size w0 w'))
 case atStart => exact ⟨(l0), (a1), (0), zz3, zz3, H', ⟨Nat.le_refl _⟩, ⟨(zz28 HO0)⟩, ⟨(zz71 HK)⟩, ⟨(zz0 HB)⟩⟩
 case round =>
  clear H';obtain ⟨x0_1, x1_1, x5_1, rfl, rfl, HA, HK1, HO_0, HK, HB⟩ := hrel;cases gk with
  | zero => exact absurd HA.out (by simp [laws_markStringS.l0])
  | succ k1 =>
   have H := HA.out;clear HA;simp only [laws_markStringS.l0] at H
   by_cases c3 : x5_1 < (x0_1.length : Int)
   ·rw [if_pos c3] at H
    have c3b0 : decide (x5_1 < (x0_1.length : Int)) = true := decide_eq_true c3;clear c3;replace H := bindA H;obtain ⟨t667, A4, H⟩ := H;by_cases c5 : 0 ≤ x5_1
    ·rw [if_pos c5] at H
     have c5b0 : decide (0 ≤ x5_1) = true := decide_eq_true c5;clear c5;obtain ⟨y668, Ny668⟩ := toY (x0_1.set (x5_1 : Int).toNat t667);(first | with_reducible replace H := bindZ Ny668 H | rw [← Ny668.out] at H | skip)
     have H' := Aside0.mk H;clear H;obtain ⟨Ao7, co7, eo7⟩ := Kd.R_slice HO_0.out;subst eo7;go_wp2_with (first | ((with_reducible refine gate_callee (f := 22) rfl ?_); refine gsL (some 15) Tryz.func22 #[.int .i64 x1_1] ?_; (with_reducible refine (laws_markText.calls k1 x1_1 t667 _ A4.out).mono ?_); rintro e w8 ⟨rfl, hb⟩; refine ⟨_, rfl, ?_⟩; replace HO_0 := Aside0.mk (Kd.R_below (zz28 HO_0) hb); replace HK := Aside0.mk (Kept.below (S := (fun k_ => P0_ k_)) (zz71 HK) hb); replace HB := Aside0.mk (below_step (zz0 HB) hb); (try clear hb); have p6 : 0 ≤ (x5_1 : Int) := ofD; have q6 : (x5_1 : Int) < ((x0_1.length : Int) : Int) := ofD; obtain ⟨go6, co6, eo6, gb6, gl6, cl6, HG6⟩ := Kd.R_form HO_0.out (by omega); (first | cases eo6 | (injection eo6 with ea_ en_ ec_; (first | subst ea_ | (injection ea_ with ea_; subst ea_)); subst ec_; clear en_)); have GB6 := Aside0.mk gb6; have GG6 := Aside0.mk HG6; clear gb6 gl6 HG6; have HMgo6 := Aside0.mk (show (P0_ go6 ∨ w.heap.size ≤ go6) from (HO_0.out.1 _ rfl)); obtain ⟨hx6_0, hf6_0⟩ := Kd.R_celln (⟨#[]⟩ : ByteArray) HO_0.out (x5_1 : Int) p6 q6; replace p6 := eq_true p6; replace q6 := eq_true q6; obtain ⟨hy9_, hz9_⟩ := Kd.R_celln (⟨#[]⟩ : ByteArray) HO_0.out (x5_1 : Int) ofD ofD; have HP9 := Kd.R_putg HO_0.out (x5_1 : Int) t667) | ((with_reducible refine gate_store (t := 9) (p := 16) rfl ?_); refine store_event (t := 9) (p := 16) (v := ?vo_w10) (w1 := (w8.setCell ⟨go6, (x5_1 : Int).toNat, none⟩ (.string t667))) ?hg ?ho ?hn ?hr ?_; (case ho => rfl); (case hg => rfl); (case hn => rfl); (case hr => exact zz19); intro w10 hw; have hg : w8.grownBy w10 (some go6) := (by rw [hw]; exact HP9.2); have hp_ : Kd.R Kd.string 9 w10 w0.heap.size (fun k_ => (P0_ k_ ∨ w.heap.size ≤ k_)) (.slice (some ⟨go6, 0, none⟩) x0_1.length co7) y668 := (by rw [hw, Ny668.out]; exact HP9.1); clear HP9; replace HB := Aside0.mk ((by rw [hw]; exact below_set (HB.out) GB6.out : Below w0.heap.size w0 w10)); replace HK := Aside0.mk (Kept.of_grown (S := (fun k_ => P0_ k_)) hg (zz71 HK) (fun k_ e_ => (HO_0.out.1 k_ e_))); replace HO_0 := Aside0.mk (hp_); clear hg hw hp_))
     go_roundg k1
     case measure => have := HK1.out; omega
     case rel => exact ⟨(y668), (wrap64 (x1_1 + 1)), (wrap64 (x5_1 + 1)), zz3, zz3, H', ⟨(zz5 HK1)⟩, ⟨(zz28 HO_0)⟩, ⟨(zz71 HK)⟩, ⟨(zz0 HB)⟩⟩
    ·rw [if_neg c5] at H
     exact absurd H (by simp)
   ·rw [if_neg c3] at H
    have c3b0 : decide (x5_1 < (x0_1.length : Int)) = false := decide_eq_false c3;clear c3;simp only [Option.some.injEq, Prod.mk.injEq] at H
    obtain ⟨rfl, rfl⟩ := H;obtain ⟨Ao11, co11, eo11⟩ := Kd.R_slice HO_0.out;subst eo11;go_wp2
    go_ret
    exact ⟨zz1, (zz28 HO_0), (zz0 HB), (zz71 HK)⟩
def laws_heldStringS.l0 : Nat → List ByteArray → Int → Int → Option (Int)
 | 0, _, _, _ => none
 | k + 1, x0, x1, x5 => if x5 < (x0.length : Int) then (if 0 ≤ x5 then ((laws_markText.f k x1).bind fun t670 => (if (rdOf ByteArray.empty x0 x5).toList = t670.toList then (laws_heldStringS.l0 k x0 (wrap64 (x1 + 1)) (wrap64 (x5 + 1))) else (some (-1)))) else (none)) else (some x1)
def laws_heldStringS.f (k : Nat) (l0 : List ByteArray) (a1 : Int) : Option (Int) := laws_heldStringS.l0 k l0 a1 0
theorem laws_heldStringS.mono_l : ∀ k, (∀ y0 y1 y2, LeO (laws_heldStringS.l0 k y0 y1 y2) (laws_heldStringS.l0 (k + 1) y0 y1 y2))
 | 0 => fun _ _ _ r h => by simp [laws_heldStringS.l0] at h
 | k + 1 => by
  have ih0 := laws_heldStringS.mono_l k
  ·intro y0 y1 y2
   unfold laws_heldStringS.l0
   repeat' first | (with_reducible first | exact ih0 _ _ _ | exact laws_markText.mono _ _ | exact LeO.refl _ | exact LeO.none _ | refine LeO.ite ?_ ?_ | refine LeO.bind ?_ (fun _ => ?_)) | exact LeO.none _ | refine LeO.ite ?_ ?_ | refine LeO.bind ?_ (fun _ => ?_)
set_option maxHeartbeats 8000000 in
set_option maxRecDepth 100000 in
theorem laws_heldStringS.calls (k : Nat) (A0 : Option Addr) (c0 : Nat) (l0 : List ByteArray) (a1 : Int) (r : Int) (w : World) (hr0 : Kd.C Kd.string w A0 l0.length l0) (hc0 : l0.length ≤ c0) (h : laws_heldStringS.f k l0 a1 = some r) :
  Calls Tryz.prog 12 #[.slice A0 l0.length c0, .int .i64 a1] w fun e w' => e = .returned (.int .i64 r) ∧ Below w.heap.size w w' := by
 have HR0 := Aside0.mk hr0;have HC0 := Aside0.mk hc0;clear hr0 hc0;have HB := Aside0.mk (Below.refl w.heap.size w);have H : (laws_heldStringS.l0 k l0 a1 0) = some r := h;clear h;have H' := Aside0.mk H;clear H;go_enter Tryz.func12, Tryz.ntmps12;go_wp2
 go_loopg [1, 5] k (fun kq v1 v5 w' => ∃ (x1_1 : Int) (x5_1 : Int), v1 = .int .i64 x1_1 ∧ v5 = .int .i64 x5_1 ∧ Aside0 (laws_heldStringS.l0 kq l0 x1_1 x5_1 = some r) ∧ Aside0 (kq ≤ k) ∧ Aside0 (Below w.heap.size w w'))
 case atStart => exact ⟨(a1), (0), zz3, zz3, H', ⟨Nat.le_refl _⟩, ⟨(zz0 HB)⟩⟩
 case round =>
  clear H';obtain ⟨x1_1, x5_1, rfl, rfl, HA, HK1, HB⟩ := hrel;cases gk with
  | zero => exact absurd HA.out (by simp [laws_heldStringS.l0])
  | succ k1 =>
   have H := HA.out;clear HA;simp only [laws_heldStringS.l0] at H
   by_cases c3 : x5_1 < (l0.length : Int)
   ·rw [if_pos c3] at H
    have c3b0 : decide (x5_1 < (l0.length : Int)) = true := decide_eq_true c3;clear c3;by_cases c4 : 0 ≤ x5_1
    ·rw [if_pos c4] at H
     have c4b0 : decide (0 ≤ x5_1) = true := decide_eq_true c4;clear c4;replace H := bindA H;obtain ⟨t670, A5, H⟩ := H;by_cases c6 : (rdOf ByteArray.empty l0 x5_1).toList = t670.toList
     ·rw [if_pos c6] at H
      have c6b0 : ((rdOf ByteArray.empty l0 x5_1).toList == t670.toList) = true := beq_iff_eq.mpr c6;have c6b1 : ((rdOf ByteArray.empty l0 x5_1).toList != t670.toList) = false := bne_eq_false_iff_eq.mpr c6;clear c6;have H' := Aside0.mk H;clear H;try go_wp2
      replace HB := Aside0.mk (below_drew1 HB.out);have p669 : 0 ≤ (x5_1 : Int) := ofD;have q669 : x5_1 < (l0.length : Int) := ofD;obtain ⟨ad669, e669, hx669_0⟩ := Kd.at_string HR0.out x5_1 p669 q669;have hw669_0 := hx669_0;cases e669
      replace hx669_0 := cbl HB hx669_0;replace p669 := eq_true p669;replace q669 := eq_true q669;refine start_ (n := 7) (S := fun w' => w'.cell? (ad669.add (x5_1).toNat) = some (.string (rdOf ByteArray.empty l0 x5_1))) (ds := []) #[false, false, false, false, false, false, false] (by kernel_rfl) rfl rfl (((HB.out.cell (World.block_lt_of_cell? w _ hw669_0)).trans hw669_0)) (fun hHeld => ?_);generalize wr.drew = w7 at HB hx669_0 hHeld ⊢;refine pureY 0 (some 12) #[true, false, false, false, false, false, false] ?_;refine pureY 1 (some 13) #[true, true, false, false, false, false, false] ?_;refine pureY 2 (some 14) #[true, true, true, false, false, false, false] ?_;refine pureY 4 (some 16) #[true, true, true, false, true, false, false] ?_;refine take_ (i := 3) (N := some 15) (v := ?_) (a' := ?_) #[true, true, true, true, true, false, false] rfl rfl (by kernel_rfl) (fun _ _ _ h => h) (Or.inl ⟨by rfl, ?_⟩) hHeld ?_ ?_;rotate_left
      ·intro w' s0
       go_simp
       with_reducible rfl
      rotate_left
      ·simp only [Act.put, List.setIfInBounds_toArray, List.set_cons_zero, List.set_cons_succ, i64_w, i32_w]
       rfl
      refine one_ (i := 5) (N := some 17) #[true, true, true, true, true, true, false] rfl rfl (by kernel_rfl) (by decide) (fun K hK => ?_);refine goes_ Tryz.func22 (by kernel_rfl) rfl #[.int .i64 x1_1] (by rfl) rfl rfl zz23 ?_;with_reducible refine (laws_markText.calls k1 x1_1 t670 _ A5.out).mono ?_
      rintro e w8 ⟨rfl, hb⟩;refine ⟨_, rfl, ?_⟩;replace HB := Aside0.mk (below_step (zz0 HB) hb);(try clear hb)
      (try clear hb2)
      (try clear hk)
      (try clear hi)
      refine hK.out _ _ (((HB.out.cell (World.block_lt_of_cell? w _ hw669_0)).trans hw669_0)) (fun hHeld => ?_);clear hK K;refine norm_ (a' := ?_) ?_ ?_;rotate_left
      ·show Act.put _ (some 17) _ = _
       simp only [Act.put, List.setIfInBounds_toArray, List.set_cons_zero, List.set_cons_succ, i64_w, i32_w]
       rfl
      refine pureY 6 (some 18) #[true, true, true, true, true, true, true] ?_;refine done_ (by kernel_rfl) ?_;try go_wp2
      go_roundg k1
      case measure => have := HK1.out; omega
      case rel => exact ⟨(wrap64 (x1_1 + 1)), (wrap64 (x5_1 + 1)), zz3, zz3, H', ⟨(zz5 HK1)⟩, ⟨(zz0 HB)⟩⟩
     ·rw [if_neg c6] at H
      have c6b0 : ((rdOf ByteArray.empty l0 x5_1).toList == t670.toList) = false := beq_eq_false_iff_ne.mpr c6;have c6b1 : ((rdOf ByteArray.empty l0 x5_1).toList != t670.toList) = true := bne_iff_ne.mpr c6;obtain rfl := Option.some.inj H;try go_wp2
      replace HB := Aside0.mk (below_drew1 HB.out);have p669 : 0 ≤ (x5_1 : Int) := ofD;have q669 : x5_1 < (l0.length : Int) := ofD;obtain ⟨ad669, e669, hx669_0⟩ := Kd.at_string HR0.out x5_1 p669 q669;have hw669_0 := hx669_0;cases e669
      replace hx669_0 := cbl HB hx669_0;replace p669 := eq_true p669;replace q669 := eq_true q669;refine start_ (n := 7) (S := fun w' => w'.cell? (ad669.add (x5_1).toNat) = some (.string (rdOf ByteArray.empty l0 x5_1))) (ds := []) #[false, false, false, false, false, false, false] (by kernel_rfl) rfl rfl (((HB.out.cell (World.block_lt_of_cell? w _ hw669_0)).trans hw669_0)) (fun hHeld => ?_);generalize wr.drew = w9 at HB hx669_0 hHeld ⊢;refine pureY 0 (some 12) #[true, false, false, false, false, false, false] ?_;refine pureY 1 (some 13) #[true, true, false, false, false, false, false] ?_;refine pureY 2 (some 14) #[true, true, true, false, false, false, false] ?_;refine pureY 4 (some 16) #[true, true, true, false, true, false, false] ?_;refine take_ (i := 3) (N := some 15) (v := ?_) (a' := ?_) #[true, true, true, true, true, false, false] rfl rfl (by kernel_rfl) (fun _ _ _ h => h) (Or.inl ⟨by rfl, ?_⟩) hHeld ?_ ?_;rotate_left
      ·intro w' s0
       go_simp
       with_reducible rfl
      rotate_left
      ·simp only [Act.put, List.setIfInBounds_toArray, List.set_cons_zero, List.set_cons_succ, i64_w, i32_w]
       rfl
      refine one_ (i := 5) (N := some 17) #[true, true, true, true, true, true, false] rfl rfl (by kernel_rfl) (by decide) (fun K hK => ?_);refine goes_ Tryz.func22 (by kernel_rfl) rfl #[.int .i64 x1_1] (by rfl) rfl rfl zz23 ?_;with_reducible refine (laws_markText.calls k1 x1_1 t670 _ A5.out).mono ?_
      rintro e w10 ⟨rfl, hb⟩;refine ⟨_, rfl, ?_⟩;replace HB := Aside0.mk (below_step (zz0 HB) hb);(try clear hb)
      (try clear hb2)
      (try clear hk)
      (try clear hi)
      refine hK.out _ _ (((HB.out.cell (World.block_lt_of_cell? w _ hw669_0)).trans hw669_0)) (fun hHeld => ?_);clear hK K;refine norm_ (a' := ?_) ?_ ?_;rotate_left
      ·show Act.put _ (some 17) _ = _
       simp only [Act.put, List.setIfInBounds_toArray, List.set_cons_zero, List.set_cons_succ, i64_w, i32_w]
       rfl
      refine pureY 6 (some 18) #[true, true, true, true, true, true, true] ?_;refine done_ (by kernel_rfl) ?_;try go_wp2
      go_ret
      exact ⟨zz1, (zz0 HB)⟩
    ·rw [if_neg c4] at H
     exact absurd H (by simp)
   ·rw [if_neg c3] at H
    have c3b0 : decide (x5_1 < (l0.length : Int)) = false := decide_eq_false c3;clear c3;obtain rfl := Option.some.inj H;go_wp2
    go_ret
    exact ⟨zz1, (zz0 HB)⟩
end Go.Proofs.YtpnedbnpnekahaaGreatDoor.P
end
section
namespace Go.Proofs
open Go.Shelf
def Tryz.lays156_ren : Go.Shelf.Ren := ⟨fun | 156 => 71 | 165 => 91 | 166 => 92 | 169 => 93 | 240 => 108 | 241 => 109 | 276 => 116 | 277 => 117 | n => n, fun | 31 => 24 | 9 => 9 | 3 => 3 | 4 => 4 | 0 => 0 | 20 => 20 | 72 => 97 | 76 => 101 | 70 => 95 | 37 => 61 | 75 => 100 | 127 => 114 | 164 => 121 | 5 => 5 | 80 => 103 | n => n, fun | n => n⟩
theorem Tryz.lays156 : Go.Proofs.Lays.n156 Tryz.prog Tryz.lays156_ren := {
 mixed := by kernel_rfl
 f156 := Tryz.func71.trans (congrArg some (by kernel_rfl))
 f165 := Tryz.func91.trans (congrArg some (by kernel_rfl))
 f166 := Tryz.func92.trans (congrArg some (by kernel_rfl))
 f169 := Tryz.func93.trans (congrArg some (by kernel_rfl))
 f240 := Tryz.func108.trans (congrArg some (by kernel_rfl))
 f241 := Tryz.func109.trans (congrArg some (by kernel_rfl))
 f276 := Tryz.func116.trans (congrArg some (by kernel_rfl))
 f277 := Tryz.func117.trans (congrArg some (by kernel_rfl))
 t0 := Tryz.underlying0
 a0 := Tryz.isAgg0
 z0 := Tryz.sizeOf0
 v0 := Tryz.zeroValue0
 t3 := Tryz.underlying3
 a3 := Tryz.isAgg3
 z3 := Tryz.sizeOf3
 v3 := Tryz.zeroValue3
 t4 := Tryz.underlying4
 a4 := Tryz.isAgg4
 z4 := Tryz.sizeOf4
 v4 := Tryz.zeroValue4
 t9 := Tryz.underlying9
 a9 := Tryz.isAgg9
 z9 := Tryz.sizeOf9
 v9 := Tryz.zeroValue9
 t20 := Tryz.underlying20
 a20 := Tryz.isAgg20
 z20 := Tryz.sizeOf20
 v20 := Tryz.zeroValue20
 t31 := Tryz.underlying24
 a31 := Tryz.isAgg24
 z31 := Tryz.sizeOf24
 v31 := Tryz.zeroValue24
 t37 := Tryz.underlying61
 a37 := Tryz.isAgg61
 z37 := Tryz.sizeOf61
 v37 := Tryz.zeroValue61
 t70 := Tryz.underlying95
 a70 := Tryz.isAgg95
 z70 := Tryz.sizeOf95
 v70 := Tryz.zeroValue95
 t72 := Tryz.underlying97
 a72 := Tryz.isAgg97
 z72 := Tryz.sizeOf97
 v72 := Tryz.zeroValue97
 t75 := Tryz.underlying100
 a75 := Tryz.isAgg100
 z75 := Tryz.sizeOf100
 v75 := Tryz.zeroValue100
 t76 := Tryz.underlying101
 a76 := Tryz.isAgg101
 z76 := Tryz.sizeOf101
 v76 := Tryz.zeroValue101
 t127 := Tryz.underlying114
 a127 := Tryz.isAgg114
 z127 := Tryz.sizeOf114
 v127 := Tryz.zeroValue114
 t164 := Tryz.underlying121
 a164 := Tryz.isAgg121
 z164 := Tryz.sizeOf121
 v164 := Tryz.zeroValue121 }
theorem Tryz.Builder_Extra_156 : Builder.Extra Tryz.prog Tryz.lays156_ren := {
 sizeBuilder := by kernel_rfl
 liesBuilder := by kernel_rfl
 t5 := Tryz.underlying5
 a5 := Tryz.isAgg5
 z5 := Tryz.sizeOf5
 v5 := Tryz.zeroValue5
 infoByte := by kernel_rfl
 cellsByte := by kernel_rfl
 sizeByte := by kernel_rfl
 neB5 := by decide }
open Go.RowKit in
theorem Tryz.strings_Join_none (a : Option Addr) (c : Nat) (sep : ByteArray) (w : World) :
  Calls Tryz.prog 71 #[.slice a 0 c, .string sep] w fun e w' => e = .returned (.string ⟨#[]⟩) ∧ w' = w := Any.strings_Join_none Tryz.lays156 Tryz.Builder_Extra_156 a c sep w
open Go.RowKit in
theorem Tryz.strings_Join (bk o c : Nat) (xs : List ByteArray) (sep : ByteArray) (w : World) (hcells : ∀ (j : Nat) x, xs[j]? = some x → w.cell? ⟨bk, o + j, none⟩ = some (.string x)) (hbk : bk < w.heap.size) (hN : xs.length ≤ 140737488355328) (hcap : xs.length ≤ c) (hlen : (Lib.join (xs.map (·.data.toList)) sep.data.toList).length ≤ 140737488355328) :
  Calls Tryz.prog 71 #[.slice (some ⟨bk, o, none⟩) xs.length c, .string sep] w fun e w' => e = .returned (.string ⟨(Lib.join (xs.map (·.data.toList)) sep.data.toList).toArray⟩) ∧ Below w.heap.size w w' := Any.strings_Join Tryz.lays156 Tryz.Builder_Extra_156 bk o c xs sep w hcells hbk hN hcap hlen
def Tryz.lays119_ren : Go.Shelf.Ren := ⟨fun | 119 => 104 | n => n, fun | 21 => 21 | 4 => 4 | n => n, fun | n => n⟩
theorem Tryz.lays119 : Go.Proofs.Lays.n119 Tryz.prog Tryz.lays119_ren := {
 mixed := by kernel_rfl
 f119 := Tryz.func104.trans (congrArg some (by kernel_rfl))
 t4 := Tryz.underlying4
 a4 := Tryz.isAgg4
 z4 := Tryz.sizeOf4
 v4 := Tryz.zeroValue4
 t21 := Tryz.underlying21
 a21 := Tryz.isAgg21
 z21 := Tryz.sizeOf21
 v21 := Tryz.zeroValue21 }
theorem Tryz.utf8_ValidRune (r : Int) (w : World) :
  Calls Tryz.prog 104 #[.int .i32 r] w fun e w' => e = .returned (.bool (Lib.validRune r)) ∧ w' = w := Any.utf8_ValidRune Tryz.lays119 r w
def Tryz.lays137_ren : Go.Shelf.Ren := ⟨fun | 137 => 103 | 217 => 99 | 266 => 110 | n => n, fun | 9 => 9 | 5 => 5 | 3 => 3 | n => n, fun | n => n⟩
theorem Tryz.lays137 : Go.Proofs.Lays.n137 Tryz.prog Tryz.lays137_ren := {
 mixed := by kernel_rfl
 f137 := Tryz.func103.trans (congrArg some (by kernel_rfl))
 f217 := Tryz.func99.trans (congrArg some (by kernel_rfl))
 f266 := Tryz.func110.trans (congrArg some (by kernel_rfl))
 t3 := Tryz.underlying3
 a3 := Tryz.isAgg3
 z3 := Tryz.sizeOf3
 v3 := Tryz.zeroValue3
 t5 := Tryz.underlying5
 a5 := Tryz.isAgg5
 z5 := Tryz.sizeOf5
 v5 := Tryz.zeroValue5
 t9 := Tryz.underlying9
 a9 := Tryz.isAgg9
 z9 := Tryz.sizeOf9
 v9 := Tryz.zeroValue9 }
open Go.RowKit in
theorem Tryz.strings_IndexByte (s : ByteArray) (c : Int) (w : World) :
  Calls Tryz.prog 103 #[.string s, .int .u8 c] w fun e w' => e = .returned (.int .i64 (Lib.indexByte s.data.toList c.toNat.toUInt8)) ∧ w' = w := Any.strings_IndexByte Tryz.lays137 s c w
def Tryz.lays210_ren : Go.Shelf.Ren := ⟨fun | 210 => 83 | 206 => 98 | n => n, fun | 9 => 9 | 4 => 4 | 3 => 3 | n => n, fun | n => n⟩
theorem Tryz.lays210 : Go.Proofs.Lays.n210 Tryz.prog Tryz.lays210_ren := {
 mixed := by kernel_rfl
 f206 := Tryz.func98.trans (congrArg some (by kernel_rfl))
 f210 := Tryz.func83.trans (congrArg some (by kernel_rfl))
 t3 := Tryz.underlying3
 a3 := Tryz.isAgg3
 z3 := Tryz.sizeOf3
 v3 := Tryz.zeroValue3
 t4 := Tryz.underlying4
 a4 := Tryz.isAgg4
 z4 := Tryz.sizeOf4
 v4 := Tryz.zeroValue4
 t9 := Tryz.underlying9
 a9 := Tryz.isAgg9
 z9 := Tryz.sizeOf9
 v9 := Tryz.zeroValue9 }
open Go.RowKit in
theorem Tryz.stringslite_CutPrefix (s p : ByteArray) (w : World) :
  Calls Tryz.prog 83 #[.string s, .string p] w fun e w' => e = .returned (.tuple #[.string ⟨(Lib.trimPrefix s.data.toList p.data.toList).toArray⟩, .bool (Lib.hasPrefix s.data.toList p.data.toList)]) ∧ w' = w := Any.stringslite_CutPrefix Tryz.lays210 s p w
def Tryz.lays103_ren : Go.Shelf.Ren := ⟨fun | 103 => 67 | 210 => 83 | 206 => 98 | n => n, fun | 9 => 9 | 4 => 4 | 24 => 67 | 3 => 3 | n => n, fun | n => n⟩
theorem Tryz.lays103 : Go.Proofs.Lays.n103 Tryz.prog Tryz.lays103_ren := {
 mixed := by kernel_rfl
 f103 := Tryz.func67.trans (congrArg some (by kernel_rfl))
 f206 := Tryz.func98.trans (congrArg some (by kernel_rfl))
 f210 := Tryz.func83.trans (congrArg some (by kernel_rfl))
 t3 := Tryz.underlying3
 a3 := Tryz.isAgg3
 z3 := Tryz.sizeOf3
 v3 := Tryz.zeroValue3
 t4 := Tryz.underlying4
 a4 := Tryz.isAgg4
 z4 := Tryz.sizeOf4
 v4 := Tryz.zeroValue4
 t9 := Tryz.underlying9
 a9 := Tryz.isAgg9
 z9 := Tryz.sizeOf9
 v9 := Tryz.zeroValue9
 t24 := Tryz.underlying67
 a24 := Tryz.isAgg67
 z24 := Tryz.sizeOf67
 v24 := Tryz.zeroValue67 }
open Go.RowKit in
theorem Tryz.strings_CutPrefix (s p : ByteArray) (w : World) :
  Calls Tryz.prog 67 #[.string s, .string p] w fun e w' => e = .returned (.tuple #[.string ⟨(Lib.trimPrefix s.data.toList p.data.toList).toArray⟩, .bool (Lib.hasPrefix s.data.toList p.data.toList)]) ∧ w' = w := Any.strings_CutPrefix Tryz.lays103 s p w
def Tryz.lays219_ren : Go.Shelf.Ren := ⟨fun | 219 => 82 | 217 => 99 | 225 => 100 | 224 => 101 | 267 => 102 | 266 => 110 | 314 => 111 | n => n, fun | 9 => 9 | 3 => 3 | 4 => 4 | 5 => 5 | 46 => 108 | 146 => 116 | 51 => 115 | n => n, fun | 1 => 0 | n => n⟩
theorem Tryz.lays219 : Go.Proofs.Lays.n219 Tryz.prog Tryz.lays219_ren := {
 mixed := by kernel_rfl
 f217 := Tryz.func99.trans (congrArg some (by kernel_rfl))
 f219 := Tryz.func82.trans (congrArg some (by kernel_rfl))
 f224 := Tryz.func101.trans (congrArg some (by kernel_rfl))
 f225 := Tryz.func100.trans (congrArg some (by kernel_rfl))
 f266 := Tryz.func110.trans (congrArg some (by kernel_rfl))
 f267 := Tryz.func102.trans (congrArg some (by kernel_rfl))
 f314 := Tryz.func111.trans (congrArg some (by kernel_rfl))
 t3 := Tryz.underlying3
 a3 := Tryz.isAgg3
 z3 := Tryz.sizeOf3
 v3 := Tryz.zeroValue3
 t4 := Tryz.underlying4
 a4 := Tryz.isAgg4
 z4 := Tryz.sizeOf4
 v4 := Tryz.zeroValue4
 t5 := Tryz.underlying5
 a5 := Tryz.isAgg5
 z5 := Tryz.sizeOf5
 v5 := Tryz.zeroValue5
 t9 := Tryz.underlying9
 a9 := Tryz.isAgg9
 z9 := Tryz.sizeOf9
 v9 := Tryz.zeroValue9
 t46 := Tryz.underlying108
 a46 := Tryz.isAgg108
 z46 := Tryz.sizeOf108
 v46 := Tryz.zeroValue108
 t51 := Tryz.underlying115
 a51 := Tryz.isAgg115
 z51 := Tryz.sizeOf115
 v51 := Tryz.zeroValue115
 t146 := Tryz.underlying116
 a146 := Tryz.isAgg116
 z146 := Tryz.sizeOf116
 v146 := Tryz.zeroValue116
 g1 := by kernel_rfl }
open Go.RowKit Go.Lib in
theorem Tryz.stringslite_Index_one (s : ByteArray) (c : UInt8) (w : World) :
  Calls Tryz.prog 82 #[.string s, .string ⟨#[c]⟩] w fun e w' => e = .returned (.int .i64 (Lib.indexByte s.data.toList c)) ∧ w' = w := Any.stringslite_Index_one Tryz.lays219 s c w
open Go.RowKit Go.Lib in
theorem Tryz.stringslite_Index (s sub : ByteArray) (m : Int) (w : World) (hs : s.size < 4294967281) (hm : w.cell? ⟨0, 0, none⟩ = some (.int .i64 m)) :
  Calls Tryz.prog 82 #[.string s, .string sub] w fun e w' => e = .returned (.int .i64 (Lib.index s.data.toList sub.data.toList)) ∧ w' = w := Any.stringslite_Index Tryz.lays219 s sub m w hs hm
def Tryz.lays143_ren : Go.Shelf.Ren := ⟨fun | 143 => 115 | 219 => 82 | 217 => 99 | 225 => 100 | 224 => 101 | 267 => 102 | 266 => 110 | 314 => 111 | n => n, fun | 9 => 9 | 3 => 3 | 4 => 4 | 5 => 5 | 46 => 108 | 146 => 116 | 51 => 115 | n => n, fun | 1 => 0 | n => n⟩
theorem Tryz.lays143 : Go.Proofs.Lays.n143 Tryz.prog Tryz.lays143_ren := {
 mixed := by kernel_rfl
 f143 := Tryz.func115.trans (congrArg some (by kernel_rfl))
 f217 := Tryz.func99.trans (congrArg some (by kernel_rfl))
 f219 := Tryz.func82.trans (congrArg some (by kernel_rfl))
 f224 := Tryz.func101.trans (congrArg some (by kernel_rfl))
 f225 := Tryz.func100.trans (congrArg some (by kernel_rfl))
 f266 := Tryz.func110.trans (congrArg some (by kernel_rfl))
 f267 := Tryz.func102.trans (congrArg some (by kernel_rfl))
 f314 := Tryz.func111.trans (congrArg some (by kernel_rfl))
 t3 := Tryz.underlying3
 a3 := Tryz.isAgg3
 z3 := Tryz.sizeOf3
 v3 := Tryz.zeroValue3
 t4 := Tryz.underlying4
 a4 := Tryz.isAgg4
 z4 := Tryz.sizeOf4
 v4 := Tryz.zeroValue4
 t5 := Tryz.underlying5
 a5 := Tryz.isAgg5
 z5 := Tryz.sizeOf5
 v5 := Tryz.zeroValue5
 t9 := Tryz.underlying9
 a9 := Tryz.isAgg9
 z9 := Tryz.sizeOf9
 v9 := Tryz.zeroValue9
 t46 := Tryz.underlying108
 a46 := Tryz.isAgg108
 z46 := Tryz.sizeOf108
 v46 := Tryz.zeroValue108
 t51 := Tryz.underlying115
 a51 := Tryz.isAgg115
 z51 := Tryz.sizeOf115
 v51 := Tryz.zeroValue115
 t146 := Tryz.underlying116
 a146 := Tryz.isAgg116
 z146 := Tryz.sizeOf116
 v146 := Tryz.zeroValue116
 g1 := by kernel_rfl }
open Go.RowKit Go.Lib in
theorem Tryz.strings_Index (s sub : ByteArray) (m : Int) (w : World) (hs : s.size < 4294967281) (hm : w.cell? ⟨0, 0, none⟩ = some (.int .i64 m)) :
  Calls Tryz.prog 115 #[.string s, .string sub] w fun e w' => e = .returned (.int .i64 (Lib.index s.data.toList sub.data.toList)) ∧ w' = w := Any.strings_Index Tryz.lays143 s sub m w hs hm
def Tryz.lays220_ren : Go.Shelf.Ren := ⟨fun | 220 => 66 | 219 => 82 | 217 => 99 | 225 => 100 | 224 => 101 | 267 => 102 | 266 => 110 | 314 => 111 | n => n, fun | 9 => 9 | 4 => 4 | 3 => 3 | 5 => 5 | 46 => 108 | 146 => 116 | 51 => 115 | n => n, fun | 1 => 0 | n => n⟩
theorem Tryz.lays220 : Go.Proofs.Lays.n220 Tryz.prog Tryz.lays220_ren := {
 mixed := by kernel_rfl
 f217 := Tryz.func99.trans (congrArg some (by kernel_rfl))
 f219 := Tryz.func82.trans (congrArg some (by kernel_rfl))
 f220 := Tryz.func66.trans (congrArg some (by kernel_rfl))
 f224 := Tryz.func101.trans (congrArg some (by kernel_rfl))
 f225 := Tryz.func100.trans (congrArg some (by kernel_rfl))
 f266 := Tryz.func110.trans (congrArg some (by kernel_rfl))
 f267 := Tryz.func102.trans (congrArg some (by kernel_rfl))
 f314 := Tryz.func111.trans (congrArg some (by kernel_rfl))
 t3 := Tryz.underlying3
 a3 := Tryz.isAgg3
 z3 := Tryz.sizeOf3
 v3 := Tryz.zeroValue3
 t4 := Tryz.underlying4
 a4 := Tryz.isAgg4
 z4 := Tryz.sizeOf4
 v4 := Tryz.zeroValue4
 t5 := Tryz.underlying5
 a5 := Tryz.isAgg5
 z5 := Tryz.sizeOf5
 v5 := Tryz.zeroValue5
 t9 := Tryz.underlying9
 a9 := Tryz.isAgg9
 z9 := Tryz.sizeOf9
 v9 := Tryz.zeroValue9
 t46 := Tryz.underlying108
 a46 := Tryz.isAgg108
 z46 := Tryz.sizeOf108
 v46 := Tryz.zeroValue108
 t51 := Tryz.underlying115
 a51 := Tryz.isAgg115
 z51 := Tryz.sizeOf115
 v51 := Tryz.zeroValue115
 t146 := Tryz.underlying116
 a146 := Tryz.isAgg116
 z146 := Tryz.sizeOf116
 v146 := Tryz.zeroValue116
 g1 := by kernel_rfl }
open Go.RowKit Go.Lib in
theorem Tryz.stringslite_Cut (s sep : ByteArray) (m : Int) (w : World) (hs : s.size < 4294967281) (hm : w.cell? ⟨0, 0, none⟩ = some (.int .i64 m)) :
  Calls Tryz.prog 66 #[.string s, .string sep] w fun e w' => e = .returned (.tuple #[.string ⟨(Lib.cut s.data.toList sep.data.toList).1.toArray⟩, .string ⟨(Lib.cut s.data.toList sep.data.toList).2.1.toArray⟩, .bool (Lib.cut s.data.toList sep.data.toList).2.2]) ∧ ∃ n, w' = w.drewN n := Any.stringslite_Cut Tryz.lays220 s sep m w hs hm
def Tryz.lays145_ren : Go.Shelf.Ren := ⟨fun | 145 => 54 | 220 => 66 | 219 => 82 | 217 => 99 | 225 => 100 | 224 => 101 | 267 => 102 | 266 => 110 | 314 => 111 | n => n, fun | 9 => 9 | 4 => 4 | 59 => 62 | 3 => 3 | 5 => 5 | 46 => 108 | 146 => 116 | 51 => 115 | n => n, fun | 1 => 0 | n => n⟩
theorem Tryz.lays145 : Go.Proofs.Lays.n145 Tryz.prog Tryz.lays145_ren := {
 mixed := by kernel_rfl
 f145 := Tryz.func54.trans (congrArg some (by kernel_rfl))
 f217 := Tryz.func99.trans (congrArg some (by kernel_rfl))
 f219 := Tryz.func82.trans (congrArg some (by kernel_rfl))
 f220 := Tryz.func66.trans (congrArg some (by kernel_rfl))
 f224 := Tryz.func101.trans (congrArg some (by kernel_rfl))
 f225 := Tryz.func100.trans (congrArg some (by kernel_rfl))
 f266 := Tryz.func110.trans (congrArg some (by kernel_rfl))
 f267 := Tryz.func102.trans (congrArg some (by kernel_rfl))
 f314 := Tryz.func111.trans (congrArg some (by kernel_rfl))
 t3 := Tryz.underlying3
 a3 := Tryz.isAgg3
 z3 := Tryz.sizeOf3
 v3 := Tryz.zeroValue3
 t4 := Tryz.underlying4
 a4 := Tryz.isAgg4
 z4 := Tryz.sizeOf4
 v4 := Tryz.zeroValue4
 t5 := Tryz.underlying5
 a5 := Tryz.isAgg5
 z5 := Tryz.sizeOf5
 v5 := Tryz.zeroValue5
 t9 := Tryz.underlying9
 a9 := Tryz.isAgg9
 z9 := Tryz.sizeOf9
 v9 := Tryz.zeroValue9
 t46 := Tryz.underlying108
 a46 := Tryz.isAgg108
 z46 := Tryz.sizeOf108
 v46 := Tryz.zeroValue108
 t51 := Tryz.underlying115
 a51 := Tryz.isAgg115
 z51 := Tryz.sizeOf115
 v51 := Tryz.zeroValue115
 t59 := Tryz.underlying62
 a59 := Tryz.isAgg62
 z59 := Tryz.sizeOf62
 v59 := Tryz.zeroValue62
 t146 := Tryz.underlying116
 a146 := Tryz.isAgg116
 z146 := Tryz.sizeOf116
 v146 := Tryz.zeroValue116
 g1 := by kernel_rfl }
open Go.RowKit Go.Lib in
theorem Tryz.strings_Cut (s sep : ByteArray) (m : Int) (w : World) (hs : s.size < 4294967281) (hm : w.cell? ⟨0, 0, none⟩ = some (.int .i64 m)) :
  Calls Tryz.prog 54 #[.string s, .string sep] w fun e w' => e = .returned (.tuple #[.string ⟨(Lib.cut s.data.toList sep.data.toList).1.toArray⟩, .string ⟨(Lib.cut s.data.toList sep.data.toList).2.1.toArray⟩, .bool (Lib.cut s.data.toList sep.data.toList).2.2]) ∧ ∃ n, w' = w.drewN n := Any.strings_Cut Tryz.lays145 s sep m w hs hm
def Tryz.lays138_ren : Go.Shelf.Ren := ⟨fun | 138 => 114 | 195 => 118 | 218 => 120 | 143 => 115 | 219 => 82 | 217 => 99 | 225 => 100 | 224 => 101 | 267 => 102 | 266 => 110 | 314 => 111 | n => n, fun | 9 => 9 | 3 => 3 | 4 => 4 | 5 => 5 | 0 => 0 | 46 => 108 | 146 => 116 | 51 => 115 | n => n, fun | 1 => 0 | n => n⟩
theorem Tryz.lays138 : Go.Proofs.Lays.n138 Tryz.prog Tryz.lays138_ren := {
 mixed := by kernel_rfl
 f138 := Tryz.func114.trans (congrArg some (by kernel_rfl))
 f143 := Tryz.func115.trans (congrArg some (by kernel_rfl))
 f195 := Tryz.func118.trans (congrArg some (by kernel_rfl))
 f217 := Tryz.func99.trans (congrArg some (by kernel_rfl))
 f218 := Tryz.func120.trans (congrArg some (by kernel_rfl))
 f219 := Tryz.func82.trans (congrArg some (by kernel_rfl))
 f224 := Tryz.func101.trans (congrArg some (by kernel_rfl))
 f225 := Tryz.func100.trans (congrArg some (by kernel_rfl))
 f266 := Tryz.func110.trans (congrArg some (by kernel_rfl))
 f267 := Tryz.func102.trans (congrArg some (by kernel_rfl))
 f314 := Tryz.func111.trans (congrArg some (by kernel_rfl))
 t0 := Tryz.underlying0
 a0 := Tryz.isAgg0
 z0 := Tryz.sizeOf0
 v0 := Tryz.zeroValue0
 t3 := Tryz.underlying3
 a3 := Tryz.isAgg3
 z3 := Tryz.sizeOf3
 v3 := Tryz.zeroValue3
 t4 := Tryz.underlying4
 a4 := Tryz.isAgg4
 z4 := Tryz.sizeOf4
 v4 := Tryz.zeroValue4
 t5 := Tryz.underlying5
 a5 := Tryz.isAgg5
 z5 := Tryz.sizeOf5
 v5 := Tryz.zeroValue5
 t9 := Tryz.underlying9
 a9 := Tryz.isAgg9
 z9 := Tryz.sizeOf9
 v9 := Tryz.zeroValue9
 t46 := Tryz.underlying108
 a46 := Tryz.isAgg108
 z46 := Tryz.sizeOf108
 v46 := Tryz.zeroValue108
 t51 := Tryz.underlying115
 a51 := Tryz.isAgg115
 z51 := Tryz.sizeOf115
 v51 := Tryz.zeroValue115
 t146 := Tryz.underlying116
 a146 := Tryz.isAgg116
 z146 := Tryz.sizeOf116
 v146 := Tryz.zeroValue116
 g1 := by kernel_rfl }
open Go.RowKit Go.Lib in
theorem Tryz.strings_Count_one (s : ByteArray) (c : UInt8) (w : World) :
  Calls Tryz.prog 114 #[.string s, .string ⟨#[c]⟩] w fun e w' => e = .returned (.int .i64 (Lib.countByte s.data.toList c)) ∧ w' = w := Any.strings_Count_one Tryz.lays138 s c w
open Go.RowKit Go.Lib in
theorem Tryz.strings_Count (s sub : ByteArray) (m : Int) (w : World) (hs : s.size < 4294967281) (hm : w.cell? ⟨0, 0, none⟩ = some (.int .i64 m)) (h2 : 2 ≤ sub.size) :
  Calls Tryz.prog 114 #[.string s, .string sub] w fun e w' => e = .returned (.int .i64 (Lib.countB s sub)) ∧ w' = w := Any.strings_Count Tryz.lays138 s sub m w hs hm h2
def Tryz.lays206_ren : Go.Shelf.Ren := ⟨fun | 206 => 98 | n => n, fun | 9 => 9 | 4 => 4 | 3 => 3 | n => n, fun | n => n⟩
theorem Tryz.lays206 : Go.Proofs.Lays.n206 Tryz.prog Tryz.lays206_ren := {
 mixed := by kernel_rfl
 f206 := Tryz.func98.trans (congrArg some (by kernel_rfl))
 t3 := Tryz.underlying3
 a3 := Tryz.isAgg3
 z3 := Tryz.sizeOf3
 v3 := Tryz.zeroValue3
 t4 := Tryz.underlying4
 a4 := Tryz.isAgg4
 z4 := Tryz.sizeOf4
 v4 := Tryz.zeroValue4
 t9 := Tryz.underlying9
 a9 := Tryz.isAgg9
 z9 := Tryz.sizeOf9
 v9 := Tryz.zeroValue9 }
open Go.RowKit Go.Lib in
theorem Tryz.stringslite_HasPrefix (s p : ByteArray) (w : World) :
  Calls Tryz.prog 98 #[.string s, .string p] w fun e w' => e = .returned (.bool (Lib.hasPrefix s.data.toList p.data.toList)) ∧ w' = w := Any.stringslite_HasPrefix Tryz.lays206 s p w
def Tryz.lays99_ren : Go.Shelf.Ren := ⟨fun | 99 => 76 | 206 => 98 | n => n, fun | 9 => 9 | 4 => 4 | 3 => 3 | n => n, fun | n => n⟩
theorem Tryz.lays99 : Go.Proofs.Lays.n99 Tryz.prog Tryz.lays99_ren := {
 mixed := by kernel_rfl
 f99 := Tryz.func76.trans (congrArg some (by kernel_rfl))
 f206 := Tryz.func98.trans (congrArg some (by kernel_rfl))
 t3 := Tryz.underlying3
 a3 := Tryz.isAgg3
 z3 := Tryz.sizeOf3
 v3 := Tryz.zeroValue3
 t4 := Tryz.underlying4
 a4 := Tryz.isAgg4
 z4 := Tryz.sizeOf4
 v4 := Tryz.zeroValue4
 t9 := Tryz.underlying9
 a9 := Tryz.isAgg9
 z9 := Tryz.sizeOf9
 v9 := Tryz.zeroValue9 }
open Go.RowKit Go.Lib in
theorem Tryz.strings_HasPrefix (s p : ByteArray) (w : World) :
  Calls Tryz.prog 76 #[.string s, .string p] w fun e w' => e = .returned (.bool (Lib.hasPrefix s.data.toList p.data.toList)) ∧ w' = w := Any.strings_HasPrefix Tryz.lays99 s p w
def Tryz.lays221_ren : Go.Shelf.Ren := ⟨fun | 221 => 107 | 268 => 113 | 138 => 114 | 143 => 115 | 195 => 118 | 197 => 119 | 218 => 120 | 219 => 82 | 260 => 121 | 217 => 99 | 225 => 100 | 224 => 101 | 267 => 102 | 266 => 110 | 314 => 111 | n => n, fun | 9 => 9 | 3 => 3 | 31 => 24 | 4 => 4 | 0 => 0 | 105 => 125 | 21 => 21 | 5 => 5 | 46 => 108 | 119 => 127 | 139 => 130 | 138 => 129 | 146 => 116 | 51 => 115 | n => n, fun | 1 => 0 | 3 => 1 | 4 => 2 | n => n⟩
theorem Tryz.lays221 : Go.Proofs.Lays.n221 Tryz.prog Tryz.lays221_ren := {
 mixed := by kernel_rfl
 f138 := Tryz.func114.trans (congrArg some (by kernel_rfl))
 f143 := Tryz.func115.trans (congrArg some (by kernel_rfl))
 f195 := Tryz.func118.trans (congrArg some (by kernel_rfl))
 f197 := Tryz.func119.trans (congrArg some (by kernel_rfl))
 f217 := Tryz.func99.trans (congrArg some (by kernel_rfl))
 f218 := Tryz.func120.trans (congrArg some (by kernel_rfl))
 f219 := Tryz.func82.trans (congrArg some (by kernel_rfl))
 f221 := Tryz.func107.trans (congrArg some (by kernel_rfl))
 f224 := Tryz.func101.trans (congrArg some (by kernel_rfl))
 f225 := Tryz.func100.trans (congrArg some (by kernel_rfl))
 f260 := Tryz.func121.trans (congrArg some (by kernel_rfl))
 f266 := Tryz.func110.trans (congrArg some (by kernel_rfl))
 f267 := Tryz.func102.trans (congrArg some (by kernel_rfl))
 f268 := Tryz.func113.trans (congrArg some (by kernel_rfl))
 f314 := Tryz.func111.trans (congrArg some (by kernel_rfl))
 t0 := Tryz.underlying0
 a0 := Tryz.isAgg0
 z0 := Tryz.sizeOf0
 v0 := Tryz.zeroValue0
 t3 := Tryz.underlying3
 a3 := Tryz.isAgg3
 z3 := Tryz.sizeOf3
 v3 := Tryz.zeroValue3
 t4 := Tryz.underlying4
 a4 := Tryz.isAgg4
 z4 := Tryz.sizeOf4
 v4 := Tryz.zeroValue4
 t5 := Tryz.underlying5
 a5 := Tryz.isAgg5
 z5 := Tryz.sizeOf5
 v5 := Tryz.zeroValue5
 t9 := Tryz.underlying9
 a9 := Tryz.isAgg9
 z9 := Tryz.sizeOf9
 v9 := Tryz.zeroValue9
 t21 := Tryz.underlying21
 a21 := Tryz.isAgg21
 z21 := Tryz.sizeOf21
 v21 := Tryz.zeroValue21
 t31 := Tryz.underlying24
 a31 := Tryz.isAgg24
 z31 := Tryz.sizeOf24
 v31 := Tryz.zeroValue24
 t46 := Tryz.underlying108
 a46 := Tryz.isAgg108
 z46 := Tryz.sizeOf108
 v46 := Tryz.zeroValue108
 t51 := Tryz.underlying115
 a51 := Tryz.isAgg115
 z51 := Tryz.sizeOf115
 v51 := Tryz.zeroValue115
 t105 := Tryz.underlying125
 a105 := Tryz.isAgg125
 z105 := Tryz.sizeOf125
 v105 := Tryz.zeroValue125
 t119 := Tryz.underlying127
 a119 := Tryz.isAgg127
 z119 := Tryz.sizeOf127
 t138 := Tryz.underlying129
 a138 := Tryz.isAgg129
 z138 := Tryz.sizeOf129
 v138 := Tryz.zeroValue129
 t139 := Tryz.underlying130
 a139 := Tryz.isAgg130
 z139 := Tryz.sizeOf130
 v139 := Tryz.zeroValue130
 t146 := Tryz.underlying116
 a146 := Tryz.isAgg116
 z146 := Tryz.sizeOf116
 v146 := Tryz.zeroValue116
 g1 := by kernel_rfl
 g3 := by kernel_rfl
 g4 := by kernel_rfl }
open Go.RowKit Go.Lib in
theorem Tryz.strings_genSplit (s sep : ByteArray) (sv : Nat) (n : Int) (N : Nat) (m : Int) (w : World) (hs : s.size < 4294967281) (hm : w.cell? ⟨0, 0, none⟩ = some (.int .i64 m)) (h1 : 1 ≤ sep.size) (hsv : sv ≤ sep.size) (hn0 : n ≠ 0) (hn63 : n ≤ 9223372036854775807) (hN : (N : Int) = min (if n < 0 then (Lib.countB s sep : Int) + 1 else n) ((s.size : Int) + 1)) :
  Calls Tryz.prog 107 #[.string s, .string sep, .int .i64 sv, .int .i64 n] w fun e w' =>
   e = .returned (.slice (some ⟨w.heap.size, 0, none⟩) (Lib.splitB sep sv (N - 1) s).length N) ∧ w' = w.alloc (.cells (Lib.cellsOf (Lib.splitB sep sv (N - 1) s) N) 9) := Any.strings_genSplit Tryz.lays221 (by kernel_rfl) s sep sv n N m w hs hm h1 hsv hn0 hn63 hN
def Tryz.lays146_ren : Go.Shelf.Ren := ⟨fun | 146 => 89 | 221 => 107 | 268 => 113 | 138 => 114 | 143 => 115 | 195 => 118 | 197 => 119 | 218 => 120 | 219 => 82 | 260 => 121 | 217 => 99 | 225 => 100 | 224 => 101 | 267 => 102 | 266 => 110 | 314 => 111 | n => n, fun | 9 => 9 | 31 => 24 | 3 => 3 | 4 => 4 | 0 => 0 | 105 => 125 | 21 => 21 | 5 => 5 | 46 => 108 | 119 => 127 | 139 => 130 | 138 => 129 | 146 => 116 | 51 => 115 | n => n, fun | 1 => 0 | 3 => 1 | 4 => 2 | n => n⟩
theorem Tryz.lays146 : Go.Proofs.Lays.n146 Tryz.prog Tryz.lays146_ren := {
 mixed := by kernel_rfl
 f138 := Tryz.func114.trans (congrArg some (by kernel_rfl))
 f143 := Tryz.func115.trans (congrArg some (by kernel_rfl))
 f146 := Tryz.func89.trans (congrArg some (by kernel_rfl))
 f195 := Tryz.func118.trans (congrArg some (by kernel_rfl))
 f197 := Tryz.func119.trans (congrArg some (by kernel_rfl))
 f217 := Tryz.func99.trans (congrArg some (by kernel_rfl))
 f218 := Tryz.func120.trans (congrArg some (by kernel_rfl))
 f219 := Tryz.func82.trans (congrArg some (by kernel_rfl))
 f221 := Tryz.func107.trans (congrArg some (by kernel_rfl))
 f224 := Tryz.func101.trans (congrArg some (by kernel_rfl))
 f225 := Tryz.func100.trans (congrArg some (by kernel_rfl))
 f260 := Tryz.func121.trans (congrArg some (by kernel_rfl))
 f266 := Tryz.func110.trans (congrArg some (by kernel_rfl))
 f267 := Tryz.func102.trans (congrArg some (by kernel_rfl))
 f268 := Tryz.func113.trans (congrArg some (by kernel_rfl))
 f314 := Tryz.func111.trans (congrArg some (by kernel_rfl))
 t0 := Tryz.underlying0
 a0 := Tryz.isAgg0
 z0 := Tryz.sizeOf0
 v0 := Tryz.zeroValue0
 t3 := Tryz.underlying3
 a3 := Tryz.isAgg3
 z3 := Tryz.sizeOf3
 v3 := Tryz.zeroValue3
 t4 := Tryz.underlying4
 a4 := Tryz.isAgg4
 z4 := Tryz.sizeOf4
 v4 := Tryz.zeroValue4
 t5 := Tryz.underlying5
 a5 := Tryz.isAgg5
 z5 := Tryz.sizeOf5
 v5 := Tryz.zeroValue5
 t9 := Tryz.underlying9
 a9 := Tryz.isAgg9
 z9 := Tryz.sizeOf9
 v9 := Tryz.zeroValue9
 t21 := Tryz.underlying21
 a21 := Tryz.isAgg21
 z21 := Tryz.sizeOf21
 v21 := Tryz.zeroValue21
 t31 := Tryz.underlying24
 a31 := Tryz.isAgg24
 z31 := Tryz.sizeOf24
 v31 := Tryz.zeroValue24
 t46 := Tryz.underlying108
 a46 := Tryz.isAgg108
 z46 := Tryz.sizeOf108
 v46 := Tryz.zeroValue108
 t51 := Tryz.underlying115
 a51 := Tryz.isAgg115
 z51 := Tryz.sizeOf115
 v51 := Tryz.zeroValue115
 t105 := Tryz.underlying125
 a105 := Tryz.isAgg125
 z105 := Tryz.sizeOf125
 v105 := Tryz.zeroValue125
 t119 := Tryz.underlying127
 a119 := Tryz.isAgg127
 z119 := Tryz.sizeOf127
 t138 := Tryz.underlying129
 a138 := Tryz.isAgg129
 z138 := Tryz.sizeOf129
 v138 := Tryz.zeroValue129
 t139 := Tryz.underlying130
 a139 := Tryz.isAgg130
 z139 := Tryz.sizeOf130
 v139 := Tryz.zeroValue130
 t146 := Tryz.underlying116
 a146 := Tryz.isAgg116
 z146 := Tryz.sizeOf116
 v146 := Tryz.zeroValue116
 g1 := by kernel_rfl
 g3 := by kernel_rfl
 g4 := by kernel_rfl }
open Go.RowKit Go.Lib in
theorem Tryz.strings_Split (s sep : ByteArray) (m : Int) (w : World) (hs : s.size < 4294967281) (hm : w.cell? ⟨0, 0, none⟩ = some (.int .i64 m)) (h1 : 1 ≤ sep.size) :
  Calls Tryz.prog 89 #[.string s, .string sep] w fun e w' =>
   e = .returned (.slice (some ⟨w.heap.size, 0, none⟩) (Lib.countB s sep + 1) (Lib.countB s sep + 1)) ∧ w' = w.alloc (.cells ((Lib.splitB sep 0 (Lib.countB s sep) s).map Value.string).toArray 9) := Any.strings_Split Tryz.lays146 (by kernel_rfl) s sep m w hs hm h1
def Tryz.lays152_ren : Go.Shelf.Ren := ⟨fun | 152 => 84 | 137 => 103 | 119 => 104 | 224 => 101 | 225 => 100 | 217 => 99 | 266 => 110 | n => n, fun | 9 => 9 | 21 => 21 | 3 => 3 | 4 => 4 | 5 => 5 | 0 => 0 | 46 => 108 | n => n, fun | n => n⟩
theorem Tryz.lays152 : Go.Proofs.Lays.n152 Tryz.prog Tryz.lays152_ren := {
 mixed := by kernel_rfl
 f119 := Tryz.func104.trans (congrArg some (by kernel_rfl))
 f137 := Tryz.func103.trans (congrArg some (by kernel_rfl))
 f152 := Tryz.func84.trans (congrArg some (by kernel_rfl))
 f217 := Tryz.func99.trans (congrArg some (by kernel_rfl))
 f224 := Tryz.func101.trans (congrArg some (by kernel_rfl))
 f225 := Tryz.func100.trans (congrArg some (by kernel_rfl))
 f266 := Tryz.func110.trans (congrArg some (by kernel_rfl))
 t0 := Tryz.underlying0
 a0 := Tryz.isAgg0
 z0 := Tryz.sizeOf0
 v0 := Tryz.zeroValue0
 t3 := Tryz.underlying3
 a3 := Tryz.isAgg3
 z3 := Tryz.sizeOf3
 v3 := Tryz.zeroValue3
 t4 := Tryz.underlying4
 a4 := Tryz.isAgg4
 z4 := Tryz.sizeOf4
 v4 := Tryz.zeroValue4
 t5 := Tryz.underlying5
 a5 := Tryz.isAgg5
 z5 := Tryz.sizeOf5
 v5 := Tryz.zeroValue5
 t9 := Tryz.underlying9
 a9 := Tryz.isAgg9
 z9 := Tryz.sizeOf9
 v9 := Tryz.zeroValue9
 t21 := Tryz.underlying21
 a21 := Tryz.isAgg21
 z21 := Tryz.sizeOf21
 v21 := Tryz.zeroValue21
 t46 := Tryz.underlying108
 a46 := Tryz.isAgg108
 z46 := Tryz.sizeOf108
 v46 := Tryz.zeroValue108 }
open Go.RowKit Go.Lib in
theorem Tryz.strings_IndexRune_ascii (s : ByteArray) (r : Int) (w : World) (h0 : 0 ≤ r) (h1 : r < 128) :
  Calls Tryz.prog 84 #[.string s, .int .i32 r] w fun e w' => e = .returned (.int .i64 (Lib.indexByte s.data.toList r.toNat.toUInt8)) ∧ w' = w := Any.strings_IndexRune_ascii Tryz.lays152 s r w h0 h1
def Tryz.lays226_ren : Go.Shelf.Ren := ⟨fun | 226 => 85 | n => n, fun | 3 => 3 | 4 => 4 | n => n, fun | n => n⟩
theorem Tryz.lays226 : Go.Proofs.Lays.n226 Tryz.prog Tryz.lays226_ren := {
 mixed := by kernel_rfl
 f226 := Tryz.func85.trans (congrArg some (by kernel_rfl))
 t3 := Tryz.underlying3
 a3 := Tryz.isAgg3
 z3 := Tryz.sizeOf3
 v3 := Tryz.zeroValue3
 t4 := Tryz.underlying4
 a4 := Tryz.isAgg4
 z4 := Tryz.sizeOf4
 v4 := Tryz.zeroValue4 }
open Go.RowKit Go.Lib in
theorem Tryz.strings_shouldUseASCIISet (n : Int) (w : World) :
  Calls Tryz.prog 85 #[.int .i64 n] w fun e w' => e = .returned (.bool (decide (8 < n))) ∧ w' = w := Any.strings_shouldUseASCIISet Tryz.lays226 n w
def Tryz.lays153_ren : Go.Shelf.Ren := ⟨fun | 153 => 68 | 152 => 84 | 226 => 85 | 227 => 86 | 228 => 87 | 137 => 103 | 119 => 104 | 224 => 101 | 225 => 100 | 217 => 99 | 266 => 110 | n => n, fun | 9 => 9 | 3 => 3 | 4 => 4 | 5 => 5 | 21 => 21 | 117 => 92 | 116 => 91 | 0 => 0 | 46 => 108 | 124 => 110 | n => n, fun | n => n⟩
theorem Tryz.lays153 : Go.Proofs.Lays.n153 Tryz.prog Tryz.lays153_ren := {
 mixed := by kernel_rfl
 f119 := Tryz.func104.trans (congrArg some (by kernel_rfl))
 f137 := Tryz.func103.trans (congrArg some (by kernel_rfl))
 f152 := Tryz.func84.trans (congrArg some (by kernel_rfl))
 f153 := Tryz.func68.trans (congrArg some (by kernel_rfl))
 f217 := Tryz.func99.trans (congrArg some (by kernel_rfl))
 f224 := Tryz.func101.trans (congrArg some (by kernel_rfl))
 f225 := Tryz.func100.trans (congrArg some (by kernel_rfl))
 f226 := Tryz.func85.trans (congrArg some (by kernel_rfl))
 f227 := Tryz.func86.trans (congrArg some (by kernel_rfl))
 f228 := Tryz.func87.trans (congrArg some (by kernel_rfl))
 f266 := Tryz.func110.trans (congrArg some (by kernel_rfl))
 t0 := Tryz.underlying0
 a0 := Tryz.isAgg0
 z0 := Tryz.sizeOf0
 v0 := Tryz.zeroValue0
 t3 := Tryz.underlying3
 a3 := Tryz.isAgg3
 z3 := Tryz.sizeOf3
 v3 := Tryz.zeroValue3
 t4 := Tryz.underlying4
 a4 := Tryz.isAgg4
 z4 := Tryz.sizeOf4
 v4 := Tryz.zeroValue4
 t5 := Tryz.underlying5
 a5 := Tryz.isAgg5
 z5 := Tryz.sizeOf5
 v5 := Tryz.zeroValue5
 t9 := Tryz.underlying9
 a9 := Tryz.isAgg9
 z9 := Tryz.sizeOf9
 v9 := Tryz.zeroValue9
 t21 := Tryz.underlying21
 a21 := Tryz.isAgg21
 z21 := Tryz.sizeOf21
 v21 := Tryz.zeroValue21
 t46 := Tryz.underlying108
 a46 := Tryz.isAgg108
 z46 := Tryz.sizeOf108
 v46 := Tryz.zeroValue108
 t116 := Tryz.underlying91
 a116 := Tryz.isAgg91
 z116 := Tryz.sizeOf91
 t117 := Tryz.underlying92
 a117 := Tryz.isAgg92
 z117 := Tryz.sizeOf92
 v117 := Tryz.zeroValue92
 t124 := Tryz.underlying110
 a124 := Tryz.isAgg110
 z124 := Tryz.sizeOf110
 v124 := Tryz.zeroValue110 }
open Go.RowKit Go.Lib in
theorem Tryz.strings_IndexAny_long (hv116 : ∀ w, (zeroValue 91).run Tryz.prog w = .ok (.agg (Array.replicate 256 (.bool false))) w) (s chars : ByteArray) (w : World) (h2 : 2 ≤ chars.size) (h8 : 8 < s.size) (hs : s.size < 4294967281) (hcs : chars.size < 4294967281) (hascii : ∀ (j : Nat) b, chars.data.toList[j]? = some b → b.toNat < 128) :
  Calls Tryz.prog 68 #[.string s, .string chars] w fun e w' => e = .returned (.int .i64 (Lib.indexAny s.data.toList chars.data.toList)) ∧ w' = ((w.alloc (.cells (Lib.setCells chars.data.toList) 91)).alloc (.cells (Lib.setCells chars.data.toList) 91)) := Any.strings_IndexAny_long Tryz.lays153 hv116 (by kernel_rfl) s chars w h2 h8 hs hcs hascii
open Go.RowKit Go.Lib in
theorem Tryz.strings_IndexAny (hv116 : ∀ w, (zeroValue 91).run Tryz.prog w = .ok (.agg (Array.replicate 256 (.bool false))) w) (s chars : ByteArray) (w : World) (hs : s.size < 4294967281) (hcs : chars.size < 4294967281) (has : ∀ (j : Nat) b, s.data.toList[j]? = some b → b.toNat < 128) (hac : ∀ (j : Nat) b, chars.data.toList[j]? = some b → b.toNat < 128) :
  Calls Tryz.prog 68 #[.string s, .string chars] w fun e w' => e = .returned (.int .i64 (Lib.indexAny s.data.toList chars.data.toList)) ∧ Below w.heap.size w w' := Any.strings_IndexAny Tryz.lays153 hv116 (by kernel_rfl) s chars w hs hcs has hac
def Tryz.laysNm216_ren : Go.Shelf.Ren := ⟨fun | 16 => 77 | n => n, fun | 24 => 24 | 9 => 9 | 4 => 4 | n => n, fun | n => n⟩
theorem Tryz.laysNm216 : Go.Proofs.Lays2.n16 Tryz.prog Tryz.laysNm216_ren := {
 mixed := by kernel_rfl
 f16 := Tryz.func77.trans (congrArg some (by kernel_rfl))
 t4 := Tryz.underlying4
 a4 := Tryz.isAgg4
 z4 := Tryz.sizeOf4
 v4 := Tryz.zeroValue4
 t9 := Tryz.underlying9
 a9 := Tryz.isAgg9
 z9 := Tryz.sizeOf9
 v9 := Tryz.zeroValue9
 t24 := Tryz.underlying24
 a24 := Tryz.isAgg24
 z24 := Tryz.sizeOf24
 v24 := Tryz.zeroValue24
 i9 := by kernel_rfl }
open Go.RowKit Go.Lib in
theorem Tryz.slices_Clone_string (b off n c : Nat) (zs : List ByteArray) (w : World) (hz : n ≤ zs.length) (hbig : n * 16 ≤ 140737488355328) (hc : ∀ j, j < zs.length → w.cell? ⟨b, off + j, none⟩ = some (.string (zs.getD j ByteArray.empty))) :
  Calls Tryz.prog 77 #[.slice (some ⟨b, off, none⟩) n c] w fun e w' => ∃ v', e = .returned v' ∧ w'.ownsRow w.heap.size 9 1 v' n ((zs.take n).map (Value.string)) ∧ v' ≠ .slice none 0 0 ∧ Below w.heap.size w w' := Any.slices_Clone_string Tryz.laysNm216 b off n c zs w hz hbig hc
open Go.RowKit Go.Lib in
theorem Tryz.slices_Clone_string_nil (n c : Nat) (w : World) :
  Calls Tryz.prog 77 #[.slice none n c] w fun e w' => e = .returned (.slice none 0 0) ∧ w' = w := Any.slices_Clone_string_nil Tryz.laysNm216 n c w
open Go.RowKit Go.Lib in
theorem Tryz.slices_Clone_string_zero (a : Addr) (c : Nat) (w : World) :
  Calls Tryz.prog 77 #[.slice (some a) 0 c] w fun e w' => ∃ v', e = .returned v' ∧ w'.ownsRow w.heap.size 9 1 v' 0 [] ∧ v' ≠ .slice none 0 0 ∧ Below w.heap.size w w' := Any.slices_Clone_string_zero Tryz.laysNm216 a c w
end Go.Proofs
end
section
namespace Go.Proofs.YtpnedbnpnekahaaGreatDoor.P
open Go.RowKit Go.Proofs.YtpnedbnpnekahaaGreatDoorW.PrintWords Go.Proofs.YtpnedbnpnekahaaGreatDoorW.PrintLast Go.Proofs.YtpnedbnpnekahaaGreatDoorW.PrintMore Go.Proofs.YtpnedbnpnekahaaGreatDoor.B Go.Proofs.YtpnedbnpnekahaaGreatDoor.Ad
set_option linter.unusedVariables false
set_option linter.unusedSimpArgs false
theorem row_at {w : World} {A : Option Addr} {xs : List ByteArray} (h : Kd.C Kd.string w A xs.length xs) (hn : 0 < xs.length) :
  ∃ bk o, A = some ⟨bk, o, none⟩ ∧ bk < w.heap.size ∧ ∀ (j : Nat) x, xs[j]? = some x → w.cell? ⟨bk, o + j, none⟩ = some (.string x) := by
 obtain ⟨_, _, h3⟩ := h
 obtain ⟨ad, rfl, hc⟩ := h3 hn
 have cells : ∀ (j : Nat) x, xs[j]? = some x → w.cell? (ad.add j) = some (.string x) := by
  intro j x hx
  obtain ⟨c, hl, hk, hcell⟩ := hc j x hx
  have hk' : c = [Value.string x] := hk
  subst hk'
  have := hcell 0 (.string x) rfl
  rw [show j * Kd.string.sz + 0 = j from by show j * 1 + 0 = j; omega] at this
  exact this
 have h0 := cells 0 xs[0] (List.getElem?_eq_getElem hn)
 obtain ⟨bk, o, sp⟩ := ad
 have h0' : w.cell? ⟨bk, o, sp⟩ = some (.string xs[0]) := h0
 have hsp : sp = none := by
  cases sp with
  | none => rfl
  | some y =>
   unfold World.cell? at h0'
   simp at h0'
   split at h0' <;> simp at h0'
 subst hsp
 refine ⟨bk, o, rfl, ?_, fun j x hx => ?_⟩
 ·rcases Nat.lt_or_ge bk w.heap.size with h | h
  ·exact h
  ·unfold World.cell? at h0'
   simp [Array.getElem?_eq_none h] at h0'
 ·have := cells j x hx
  unfold Addr.add at this
  split at this
  ·rename_i hj; subst hj; exact this
  ·exact this
def strings_Join.f (l0 : List ByteArray) (a1 : ByteArray) : Option (ByteArray) :=
 if l0.length ≤ 140737488355328 ∧ (Lib.join (l0.map L) (L a1)).length ≤ 140737488355328 then some (ofL (Lib.join (l0.map L) (L a1))) else none
theorem strings_Join.calls (A0 : Option Addr) (c0 : Nat) (l0 : List ByteArray) (a1 : ByteArray) (r : ByteArray) (w : World) (hr0 : Kd.C Kd.string w A0 l0.length l0) (hc0 : l0.length ≤ c0) (h : strings_Join.f l0 a1 = some r) :
  Calls Tryz.prog 71 #[.slice A0 l0.length c0, .string a1] w fun e w' => e = .returned (.string r) ∧ Below w.heap.size w w' := by
 unfold strings_Join.f at h
 split at h
 ·rename_i hh
  obtain rfl := Option.some.inj h
  rcases Nat.eq_zero_or_pos l0.length with h0 | h0
  ·obtain rfl : l0 = [] := List.length_eq_zero_iff.1 h0
   exact (Tryz.strings_Join_none A0 c0 a1 w).mono fun e w' ⟨he, hw⟩ => ⟨he, hw ▸ Below.refl _ _⟩
  ·obtain ⟨bk, o, rfl, hb, hcells⟩ := row_at hr0 h0
   exact Tryz.strings_Join bk o c0 l0 a1 w hcells hb hh.1 hc0 hh.2
 ·cases h
end Go.Proofs.YtpnedbnpnekahaaGreatDoor.P
end
section
namespace Go.Proofs.YtpnedbnpnekahaaGreatDoor.P
open Go.RowKit Go.Proofs.YtpnedbnpnekahaaGreatDoorW.PrintWords Go.Proofs.YtpnedbnpnekahaaGreatDoorW.PrintLast Go.Proofs.YtpnedbnpnekahaaGreatDoorW.PrintMore
attribute [local go_sem] max2_int min2_int max_two min_two max_three min_three max_four min_four
set_option linter.unusedVariables false
set_option linter.unusedSimpArgs false
def impl_writePath.f (a0_0 : ByteArray) (l0_1 : List ByteArray) (a0_2 : Bool) (a0_3 : ByteArray) : Option (ByteArray) := (strings_Join.f l0_1 (⟨#[47]⟩ : ByteArray)).bind fun t412 => (if 1 + t412.size ≤ 9223372036854775807 then (if a0_2 = true then (if 1 + a0_3.size ≤ 9223372036854775807 then (if 1 + t412.size + 1 + a0_3.size ≤ 9223372036854775807 then (some (((⟨#[47]⟩ : ByteArray) ++ t412) ++ ((⟨#[63]⟩ : ByteArray) ++ a0_3))) else (none)) else (none)) else (some ((⟨#[47]⟩ : ByteArray) ++ t412))) else (none))
set_option maxHeartbeats 8000000 in
set_option maxRecDepth 100000 in
theorem impl_writePath.calls (a0_0 : ByteArray) (A0_1 : Option Addr) (c0_1 : Nat) (l0_1 : List ByteArray) (a0_2 : Bool) (a0_3 : ByteArray) (r : ByteArray) (w : World) (hr0_1 : Kd.C Kd.string w A0_1 l0_1.length l0_1) (hc0_1 : l0_1.length ≤ c0_1) (h : impl_writePath.f a0_0 l0_1 a0_2 a0_3 = some r) :
  Calls Tryz.prog 56 #[.agg #[.string a0_0, .slice A0_1 l0_1.length c0_1, .bool a0_2, .string a0_3]] w fun e w' => e = .returned (.string r) ∧ Below w.heap.size w w' := by
 have hu52 := Tryz.underlying52;have HR0_1 := Aside0.mk hr0_1;have HC0_1 := Aside0.mk hc0_1;clear hr0_1 hc0_1;have HB := Aside0.mk (Below.refl w.heap.size w);have H : ((strings_Join.f l0_1 (⟨#[47]⟩ : ByteArray)).bind fun t412 => (if 1 + t412.size ≤ 9223372036854775807 then (if a0_2 = true then (if 1 + a0_3.size ≤ 9223372036854775807 then (if 1 + t412.size + 1 + a0_3.size ≤ 9223372036854775807 then (some (((⟨#[47]⟩ : ByteArray) ++ t412) ++ ((⟨#[63]⟩ : ByteArray) ++ a0_3))) else (none)) else (none)) else (some ((⟨#[47]⟩ : ByteArray) ++ t412))) else (none))) = some r := h;clear h;replace H := bindA H;obtain ⟨t412, A2, H⟩ := H;by_cases c3 : 1 + t412.size ≤ 9223372036854775807
 ·rw [if_pos c3] at H
  have c3b0 := eq_true c3;have c3b1 : decide (1 + t412.size ≤ 9223372036854775807) = true := decide_eq_true c3;try have c3b2 : (9223372036854775807 < 1 + t412.size) = False := eq_false (Nat.not_lt.2 c3)
  by_cases c4 : a0_2 = true
  ·subst c4
   rw [if_pos rfl] at H;by_cases c5 : 1 + a0_3.size ≤ 9223372036854775807
   ·rw [if_pos c5] at H
    have c5b0 := eq_true c5;have c5b1 : decide (1 + a0_3.size ≤ 9223372036854775807) = true := decide_eq_true c5;try have c5b2 : (9223372036854775807 < 1 + a0_3.size) = False := eq_false (Nat.not_lt.2 c5)
    by_cases c6 : 1 + t412.size + 1 + a0_3.size ≤ 9223372036854775807
    ·rw [if_pos c6] at H
     have c6b0 := eq_true c6;have c6b1 : decide (1 + t412.size + 1 + a0_3.size ≤ 9223372036854775807) = true := decide_eq_true c6;try have c6b2 : (9223372036854775807 < 1 + t412.size + 1 + a0_3.size) = False := eq_false (Nat.not_lt.2 c6)
     obtain rfl := Option.some.inj H;go_enter Tryz.func56, Tryz.ntmps56;go_wp2_with (first | ((with_reducible refine gate_dst (N := 1) rfl ?_); refine boxE 1 #[.string a0_0, .slice A0_1 l0_1.length c0_1, .bool true, .string a0_3] 52 ?_; intro gb411 hg w7 hbox hb; have BK411 := Aside0.mk (hbox); have GE411 := geB hg (zz0 HB); replace HB := Aside0.mk (below_step (zz0 HB) hb); clear hb hbox hg; obtain ⟨_, _, _, _, _, _, _, _⟩ := cf4 BK411) | ((with_reducible refine gate_callee (f := 71) rfl ?_); refine gsL (some 6) Tryz.func71 #[.slice A0_1 l0_1.length c0_1, .string (⟨#[47]⟩ : ByteArray)] ?_; (with_reducible refine (strings_Join.calls _ _ l0_1 (⟨#[47]⟩ : ByteArray) t412 _ ?side1 ?side2 A2.out).mono ?_); (case side1 => exact (zz24 HR0_1 HB)); (case side2 => exact HC0_1.out); rintro e w9 ⟨rfl, hb⟩; refine ⟨_, rfl, ?_⟩; replace BK411 := Aside0.mk (blk_below (zz21 BK411) hb); replace HB := Aside0.mk (below_step (zz2 HB GE411) hb); (try clear hb); obtain ⟨_, _, _, _, _, _, _, _⟩ := cf4 BK411))
     go_ret
     exact ⟨zz1, (zz2 HB GE411)⟩
    ·rw [if_neg c6] at H
     exact absurd H (by simp)
   ·rw [if_neg c5] at H
    exact absurd H (by simp)
  ·replace c4 := Bool.eq_false_iff.mpr c4
   subst c4;rw [if_neg (show ¬ (false = true) by decide)] at H;obtain rfl := Option.some.inj H;go_enter Tryz.func56, Tryz.ntmps56;go_wp2_with (first | ((with_reducible refine gate_dst (N := 1) rfl ?_); refine boxE 1 #[.string a0_0, .slice A0_1 l0_1.length c0_1, .bool false, .string a0_3] 52 ?_; intro gb411 hg w11 hbox hb; have BK411 := Aside0.mk (hbox); have GE411 := geB hg (zz0 HB); replace HB := Aside0.mk (below_step (zz0 HB) hb); clear hb hbox hg; obtain ⟨_, _, _, _, _, _, _, _⟩ := cf4 BK411) | ((with_reducible refine gate_callee (f := 71) rfl ?_); refine gsL (some 6) Tryz.func71 #[.slice A0_1 l0_1.length c0_1, .string (⟨#[47]⟩ : ByteArray)] ?_; (with_reducible refine (strings_Join.calls _ _ l0_1 (⟨#[47]⟩ : ByteArray) t412 _ ?side1 ?side2 A2.out).mono ?_); (case side1 => exact (zz24 HR0_1 HB)); (case side2 => exact HC0_1.out); rintro e w13 ⟨rfl, hb⟩; refine ⟨_, rfl, ?_⟩; replace BK411 := Aside0.mk (blk_below (zz21 BK411) hb); replace HB := Aside0.mk (below_step (zz2 HB GE411) hb); (try clear hb); obtain ⟨_, _, _, _, _, _, _, _⟩ := cf4 BK411))
   go_ret
   exact ⟨zz1, (zz2 HB GE411)⟩
 ·rw [if_neg c3] at H
  exact absurd H (by simp)
def impl_writeAddr.f (a0_0 : ByteArray) (l0_1 : List ByteArray) (a0_2 : Bool) (a0_3 : ByteArray) : Option (ByteArray) := if 2 + a0_0.size ≤ 9223372036854775807 then ((impl_writePath.f a0_0 l0_1 a0_2 a0_3).bind fun t414 => (if 2 + a0_0.size + t414.size ≤ 9223372036854775807 then (some (((⟨#[47, 47]⟩ : ByteArray) ++ a0_0) ++ t414)) else (none))) else (none)
set_option maxHeartbeats 8000000 in
set_option maxRecDepth 100000 in
theorem impl_writeAddr.calls (a0_0 : ByteArray) (A0_1 : Option Addr) (c0_1 : Nat) (l0_1 : List ByteArray) (a0_2 : Bool) (a0_3 : ByteArray) (r : ByteArray) (w : World) (hr0_1 : Kd.C Kd.string w A0_1 l0_1.length l0_1) (hc0_1 : l0_1.length ≤ c0_1) (h : impl_writeAddr.f a0_0 l0_1 a0_2 a0_3 = some r) :
  Calls Tryz.prog 43 #[.agg #[.string a0_0, .slice A0_1 l0_1.length c0_1, .bool a0_2, .string a0_3]] w fun e w' => e = .returned (.string r) ∧ Below w.heap.size w w' := by
 have hu52 := Tryz.underlying52;have HR0_1 := Aside0.mk hr0_1;have HC0_1 := Aside0.mk hc0_1;clear hr0_1 hc0_1;have HB := Aside0.mk (Below.refl w.heap.size w);have H : (if 2 + a0_0.size ≤ 9223372036854775807 then ((impl_writePath.f a0_0 l0_1 a0_2 a0_3).bind fun t414 => (if 2 + a0_0.size + t414.size ≤ 9223372036854775807 then (some (((⟨#[47, 47]⟩ : ByteArray) ++ a0_0) ++ t414)) else (none))) else (none)) = some r := h;clear h;by_cases c2 : 2 + a0_0.size ≤ 9223372036854775807
 ·rw [if_pos c2] at H
  have c2b0 := eq_true c2;have c2b1 : decide (2 + a0_0.size ≤ 9223372036854775807) = true := decide_eq_true c2;try have c2b2 : (9223372036854775807 < 2 + a0_0.size) = False := eq_false (Nat.not_lt.2 c2)
  replace H := bindA H;obtain ⟨t414, A3, H⟩ := H;by_cases c4 : 2 + a0_0.size + t414.size ≤ 9223372036854775807
  ·rw [if_pos c4] at H
   have c4b0 := eq_true c4;have c4b1 : decide (2 + a0_0.size + t414.size ≤ 9223372036854775807) = true := decide_eq_true c4;try have c4b2 : (9223372036854775807 < 2 + a0_0.size + t414.size) = False := eq_false (Nat.not_lt.2 c4)
   obtain rfl := Option.some.inj H;go_enter Tryz.func43, Tryz.ntmps43;try go_wp2_with (first | ((with_reducible refine gate_dst (N := 1) rfl ?_); refine boxE 1 #[.string a0_0, .slice A0_1 l0_1.length c0_1, .bool a0_2, .string a0_3] 52 ?_; intro gb413 hg w5 hbox hb; have BK413 := Aside0.mk (hbox); have GE413 := geB hg (zz0 HB); replace HB := Aside0.mk (below_step (zz0 HB) hb); clear hb hbox hg))
   replace BK413 := Aside0.mk (blk_drew BK413.out);replace HB := Aside0.mk (below_drew1 HB.out);refine start_ (n := 7) (S := fun w' => w'.cell? ⟨gb413, 0, none⟩ = some (.string a0_0) ∧ w'.cell? ⟨gb413, 1, none⟩ = some (.slice A0_1 l0_1.length c0_1) ∧ w'.cell? ⟨gb413, 2, none⟩ = some (.bool a0_2) ∧ w'.cell? ⟨gb413, 3, none⟩ = some (.string a0_3)) (ds := []) #[false, false, false, false, false, false, false] (by kernel_rfl) rfl rfl ⟨(blk_cell BK413.out 0).trans rfl, (blk_cell BK413.out 1).trans rfl, (blk_cell BK413.out 2).trans rfl, (blk_cell BK413.out 3).trans rfl⟩ (fun hHeld => ?_);generalize w5.drew = w6 at BK413 HB hHeld ⊢;refine pureY 0 (some 3) #[true, false, false, false, false, false, false] ?_;refine takeY4 1 (some 4) #[true, true, false, false, false, false, false] hHeld ?_;refine pureY 2 (some 5) #[true, true, true, false, false, false, false] ?_;refine takeY4 3 (some 6) #[true, true, true, true, false, false, false] hHeld ?_;refine one_ (i := 4) (N := some 7) #[true, true, true, true, true, false, false] rfl rfl (by kernel_rfl) (by decide) (fun K hK => ?_);refine goes_ Tryz.func56 (by kernel_rfl) rfl #[.agg #[.string a0_0, .slice A0_1 l0_1.length c0_1, .bool a0_2, .string a0_3]] (by rfl) rfl rfl zz23 ?_;with_reducible refine (impl_writePath.calls a0_0 _ _ l0_1 a0_2 a0_3 t414 _ ?side1 ?side2 A3.out).mono ?_
   (case side1 => exact (zz24 HR0_1 HB))
   (case side2 => exact HC0_1.out)
   rintro e w7 ⟨rfl, hb⟩;refine ⟨_, rfl, ?_⟩;replace BK413 := Aside0.mk (blk_below (zz21 BK413) hb);replace HB := Aside0.mk (below_step (zz2 HB GE413) hb);(try clear hb)
   (try clear hb2)
   (try clear hk)
   (try clear hi)
   refine hK.out _ _ ⟨(blk_cell BK413.out 0).trans rfl, (blk_cell BK413.out 1).trans rfl, (blk_cell BK413.out 2).trans rfl, (blk_cell BK413.out 3).trans rfl⟩ (fun hHeld => ?_);clear hK K;refine norm_ (a' := ?_) ?_ ?_;rotate_left
   ·show Act.put _ (some 7) _ = _
    simp only [Act.put, List.setIfInBounds_toArray, List.set_cons_zero, List.set_cons_succ, i64_w, i32_w]
    rfl
   refine pureY 5 (some 8) #[true, true, true, true, true, true, false] ?_;refine pureY 6 (some 2) #[true, true, true, true, true, true, true] ?_;refine done_ (by kernel_rfl) ?_;try go_wp2
   go_ret
   exact ⟨zz1, (zz2 HB GE413)⟩
  ·rw [if_neg c4] at H
   exact absurd H (by simp)
 ·rw [if_neg c2] at H
  exact absurd H (by simp)
end Go.Proofs.YtpnedbnpnekahaaGreatDoor.P
end
section
namespace Go.Proofs.YtpnedbnpnekahaaGreatDoor.P
open Go.RowKit Go.Proofs.YtpnedbnpnekahaaGreatDoorW.PrintWords Go.Proofs.YtpnedbnpnekahaaGreatDoorW.PrintLast Go.Proofs.YtpnedbnpnekahaaGreatDoorW.PrintMore Go.Proofs.YtpnedbnpnekahaaGreatDoor.B Go.Proofs.YtpnedbnpnekahaaGreatDoor.Ad
set_option linter.unusedVariables false
set_option linter.unusedSimpArgs false
def stringslite_Index.f (a0 : ByteArray) (a1 : ByteArray) : Option (Int) := match L a1 with
 | [c] => some (Lib.indexByte (L a0) c)
 | _ => none
theorem one_of_L {a : ByteArray} {c : UInt8} (h : L a = [c]) : a = ⟨#[c]⟩ := L_inj (by rw [h])
theorem stringslite_Index.calls (a0 : ByteArray) (a1 : ByteArray) (r : Int) (w : World) (h : stringslite_Index.f a0 a1 = some r) :
  Calls Tryz.prog 82 #[.string a0, .string a1] w fun e w' => e = .returned (.int .i64 r) ∧ Below w.heap.size w w' := by
 unfold stringslite_Index.f at h
 split at h
 ·rename_i c hc
  obtain rfl := Option.some.inj h
  obtain rfl := one_of_L hc
  exact (Tryz.stringslite_Index_one a0 c w).mono fun e w' ⟨he, hw⟩ => ⟨he, hw ▸ Below.refl _ _⟩
 ·cases h
def strings_Count.f (a0 : ByteArray) (a1 : ByteArray) : Option (Int) := match L a1 with
 | [c] => some (Lib.countByte (L a0) c)
 | _ => none
theorem strings_Count.calls (a0 : ByteArray) (a1 : ByteArray) (r : Int) (w : World) (h : strings_Count.f a0 a1 = some r) :
  Calls Tryz.prog 114 #[.string a0, .string a1] w fun e w' => e = .returned (.int .i64 r) ∧ Below w.heap.size w w' := by
 unfold strings_Count.f at h
 split at h
 ·rename_i c hc
  obtain rfl := Option.some.inj h
  obtain rfl := one_of_L hc
  exact (Tryz.strings_Count_one a0 c w).mono fun e w' ⟨he, hw⟩ => ⟨he, hw ▸ Below.refl _ _⟩
 ·cases h
end Go.Proofs.YtpnedbnpnekahaaGreatDoor.P
end
section
namespace Go.Proofs.YtpnedbnpnekahaaGreatDoor.P
open Go.RowKit Go.Proofs.YtpnedbnpnekahaaGreatDoorW.PrintWords Go.Proofs.YtpnedbnpnekahaaGreatDoorW.PrintLast Go.Proofs.YtpnedbnpnekahaaGreatDoorW.PrintMore
attribute [local go_sem] max2_int min2_int max_two min_two max_three min_three max_four min_four
set_option linter.unusedVariables false
set_option linter.unusedSimpArgs false
def stringslite_Cut.f (a0 : ByteArray) (a1 : ByteArray) : Option (ByteArray × ByteArray × Bool) := (stringslite_Index.f a0 a1).bind fun t404 => (if t404 ≥ 0 then (if 0 ≤ t404 then (if t404 ≤ (a0.size : Int) then (if 0 ≤ (wrap64 (t404 + (a1.size : Int))) then (if (wrap64 (t404 + (a1.size : Int))) ≤ (a0.size : Int) then (some (a0.extract 0 (t404 : Int).toNat, a0.extract ((wrap64 (t404 + (a1.size : Int))) : Int).toNat a0.size, true)) else (none)) else (none)) else (none)) else (none)) else (some (a0, (⟨#[]⟩ : ByteArray), false)))
set_option maxHeartbeats 8000000 in
set_option maxRecDepth 100000 in
theorem stringslite_Cut.calls (a0 : ByteArray) (a1 : ByteArray) (r1 : ByteArray) (r2 : ByteArray) (r3 : Bool) (w : World) (h : stringslite_Cut.f a0 a1 = some (r1, r2, r3)) :
  Calls Tryz.prog 66 #[.string a0, .string a1] w fun e w' => e = .returned (.tuple #[.string r1, .string r2, .bool r3]) ∧ Below w.heap.size w w' := by
 have HB := Aside0.mk (Below.refl w.heap.size w);have H : ((stringslite_Index.f a0 a1).bind fun t404 => (if t404 ≥ 0 then (if 0 ≤ t404 then (if t404 ≤ (a0.size : Int) then (if 0 ≤ (wrap64 (t404 + (a1.size : Int))) then (if (wrap64 (t404 + (a1.size : Int))) ≤ (a0.size : Int) then (some (a0.extract 0 (t404 : Int).toNat, a0.extract ((wrap64 (t404 + (a1.size : Int))) : Int).toNat a0.size, true)) else (none)) else (none)) else (none)) else (none)) else (some (a0, (⟨#[]⟩ : ByteArray), false)))) = some (r1, r2, r3) := h;clear h;replace H := bindA H;obtain ⟨t404, A3, H⟩ := H;by_cases c4 : t404 ≥ 0
 ·rw [if_pos c4] at H
  have c4b0 : decide (0 ≤ t404) = true := decide_eq_true c4;clear c4;by_cases c5 : 0 ≤ t404
  ·rw [if_pos c5] at H
   have c5b0 := eq_true c5;have c5b1 : decide (0 ≤ t404) = true := decide_eq_true c5;clear c5;by_cases c6 : t404 ≤ (a0.size : Int)
   ·rw [if_pos c6] at H
    have c6b0 := eq_true c6;have c6b1 : decide (t404 ≤ (a0.size : Int)) = true := decide_eq_true c6;clear c6;obtain ⟨ji7, hji7⟩ : ∃ j_ : Int, (wrap64 (t404 + (a1.size : Int))) = j_ := ⟨_, rfl⟩;replace H : (if 0 ≤ (ji7) then (if (ji7) ≤ (a0.size : Int) then (some (a0.extract 0 (t404 : Int).toNat, a0.extract ((ji7) : Int).toNat a0.size, true)) else (none)) else (none)) = some (r1, r2, r3) := by first | (rw [hji7] at H; exact H) | (simp only [hji7] at H ⊢; exact H)
    (try rw [hji7] at A3)
    have hji7w : (IntKind.i64.wrap (t404 + (a1.size : Int))) = ji7 := (i64_w _).trans hji7;by_cases c8 : 0 ≤ (ji7)
    ·rw [if_pos c8] at H
     have c8b0 := eq_true c8;have c8b1 : decide (0 ≤ (ji7)) = true := decide_eq_true c8;clear c8;by_cases c9 : (ji7) ≤ (a0.size : Int)
     ·rw [if_pos c9] at H
      have c9b0 := eq_true c9;have c9b1 : decide ((ji7) ≤ (a0.size : Int)) = true := decide_eq_true c9;clear c9;simp only [Option.some.injEq, Prod.mk.injEq] at H
      obtain ⟨rfl, rfl, rfl⟩ := H;go_enter Tryz.func66, Tryz.ntmps66;go_wp2_with (first | (go_at_call 82; (with_reducible refine (stringslite_Index.calls a0 a1 t404 _ A3.out).mono ?_); rintro e w10 ⟨rfl, hb⟩; replace HB := Aside0.mk (below_step (zz0 HB) hb); (try clear hb)))
      repeat (go_quiet (first | (go_at_call 82; (with_reducible refine (stringslite_Index.calls a0 a1 t404 _ A3.out).mono ?_); rintro e w10 ⟨rfl, hb⟩; replace HB := Aside0.mk (below_step (zz0 HB) hb); (try clear hb))); try go_wp2_with (first | (go_at_call 82; (with_reducible refine (stringslite_Index.calls a0 a1 t404 _ A3.out).mono ?_); rintro e w10 ⟨rfl, hb⟩; replace HB := Aside0.mk (below_step (zz0 HB) hb); (try clear hb))))
      go_ret3
      exact ⟨(by first | rfl | (simp [errW_none, errW_some] <;> rfl) | (simp only [← hji7]; first | rfl | (simp [errW_none, errW_some] <;> rfl)) | (simp [*, errW_none, errW_some] <;> rfl)), (zz0 HB)⟩
     ·rw [if_neg c9] at H
      exact absurd H (by simp)
    ·rw [if_neg c8] at H
     exact absurd H (by simp)
   ·rw [if_neg c6] at H
    exact absurd H (by simp)
  ·rw [if_neg c5] at H
   exact absurd H (by simp)
 ·rw [if_neg c4] at H
  have c4b0 : decide (0 ≤ t404) = false := decide_eq_false c4;clear c4;simp only [Option.some.injEq, Prod.mk.injEq] at H
  obtain ⟨rfl, rfl, rfl⟩ := H;go_enter Tryz.func66, Tryz.ntmps66;go_wp2_with (first | (go_at_call 82; (with_reducible refine (stringslite_Index.calls a0 a1 t404 _ A3.out).mono ?_); rintro e w11 ⟨rfl, hb⟩; replace HB := Aside0.mk (below_step (zz0 HB) hb); (try clear hb)))
  repeat (go_quiet (first | (go_at_call 82; (with_reducible refine (stringslite_Index.calls a0 a1 t404 _ A3.out).mono ?_); rintro e w11 ⟨rfl, hb⟩; replace HB := Aside0.mk (below_step (zz0 HB) hb); (try clear hb))); try go_wp2_with (first | (go_at_call 82; (with_reducible refine (stringslite_Index.calls a0 a1 t404 _ A3.out).mono ?_); rintro e w11 ⟨rfl, hb⟩; replace HB := Aside0.mk (below_step (zz0 HB) hb); (try clear hb))))
  go_ret3
  exact ⟨zz1, (zz0 HB)⟩
def strings_Cut.f (a0 : ByteArray) (a1 : ByteArray) : Option (ByteArray × ByteArray × Bool) := (stringslite_Cut.f a0 a1).bind fun bt405 => (some (bt405.1, bt405.2.1, bt405.2.2))
set_option maxHeartbeats 8000000 in
set_option maxRecDepth 100000 in
theorem strings_Cut.calls (a0 : ByteArray) (a1 : ByteArray) (r1 : ByteArray) (r2 : ByteArray) (r3 : Bool) (w : World) (h : strings_Cut.f a0 a1 = some (r1, r2, r3)) :
  Calls Tryz.prog 54 #[.string a0, .string a1] w fun e w' => e = .returned (.tuple #[.string r1, .string r2, .bool r3]) ∧ Below w.heap.size w w' := by
 have HB := Aside0.mk (Below.refl w.heap.size w);have H : ((stringslite_Cut.f a0 a1).bind fun bt405 => (some (bt405.1, bt405.2.1, bt405.2.2))) = some (r1, r2, r3) := h;clear h;replace H := bindA H;obtain ⟨⟨t405, t406, t407⟩, A3, H⟩ := H;try dsimp -simprocs only at H
 simp only [Option.some.injEq, Prod.mk.injEq] at H
 obtain ⟨rfl, rfl, rfl⟩ := H;go_enter Tryz.func54, Tryz.ntmps54;go_wp2_with (first | ((with_reducible refine gate_callee (f := 66) rfl ?_); refine gsL (some 9) Tryz.func66 #[.string a0, .string a1] ?_; (with_reducible refine (stringslite_Cut.calls a0 a1 t405 t406 t407 _ A3.out).mono ?_); rintro e w4 ⟨rfl, hb⟩; refine ⟨_, rfl, ?_⟩; replace HB := Aside0.mk (below_step (zz0 HB) hb); (try clear hb)))
 go_ret3
 exact ⟨zz1, (zz0 HB)⟩
def stringslite_HasPrefix.f (a0 : ByteArray) (a1 : ByteArray) : Option (Bool) := if (a0.size : Int) ≥ (a1.size : Int) then (if 0 ≤ (a1.size : Int) then (if (a1.size : Int) ≤ (a0.size : Int) then (some ((a0.extract 0 ((a1.size : Int) : Int).toNat).toList == a1.toList)) else (none)) else (none)) else (some false)
set_option maxHeartbeats 8000000 in
set_option maxRecDepth 100000 in
theorem stringslite_HasPrefix.calls (a0 : ByteArray) (a1 : ByteArray) (r : Bool) (w : World) (h : stringslite_HasPrefix.f a0 a1 = some r) :
  Calls Tryz.prog 98 #[.string a0, .string a1] w fun e w' => e = .returned (.bool r) ∧ Drawn0 w w' := by
 have H : (if (a0.size : Int) ≥ (a1.size : Int) then (if 0 ≤ (a1.size : Int) then (if (a1.size : Int) ≤ (a0.size : Int) then (some ((a0.extract 0 ((a1.size : Int) : Int).toNat).toList == a1.toList)) else (none)) else (none)) else (some false)) = some r := h;clear h;by_cases c3 : (a0.size : Int) ≥ (a1.size : Int)
 ·rw [if_pos c3] at H
  have c3b0 : decide ((a1.size : Int) ≤ (a0.size : Int)) = true := decide_eq_true c3;have c3b1 : decide (a1.size ≤ a0.size) = true := decide_eq_true (Int.ofNat_le.mp c3);clear c3;by_cases c4 : 0 ≤ (a1.size : Int)
  ·rw [if_pos c4] at H
   have c4b0 := eq_true c4;have c4b1 : decide (0 ≤ (a1.size : Int)) = true := decide_eq_true c4;clear c4;by_cases c5 : (a1.size : Int) ≤ (a0.size : Int)
   ·rw [if_pos c5] at H
    have c5b0 := eq_true c5;have c5b1 : decide ((a1.size : Int) ≤ (a0.size : Int)) = true := decide_eq_true c5;clear c5;obtain rfl := Option.some.inj H;go_enter Tryz.func98, Tryz.ntmps98;go_wp2
    go_ret
    exact ⟨zz3, zz6⟩
   ·rw [if_neg c5] at H
    exact absurd H (by simp)
  ·rw [if_neg c4] at H
   exact absurd H (by simp)
 ·rw [if_neg c3] at H
  have c3b0 : decide ((a1.size : Int) ≤ (a0.size : Int)) = false := decide_eq_false c3;have c3b1 : decide (a1.size ≤ a0.size) = false := decide_eq_false (fun h => c3 (Int.ofNat_le.mpr h));clear c3;obtain rfl := Option.some.inj H;go_enter Tryz.func98, Tryz.ntmps98;go_wp2
  go_ret
  exact ⟨zz3, zz6⟩
def stringslite_CutPrefix.f (a0 : ByteArray) (a1 : ByteArray) : Option (ByteArray × Bool) := (stringslite_HasPrefix.f a0 a1).bind fun t408 => (if t408 = true then (if 0 ≤ (a1.size : Int) then (if (a1.size : Int) ≤ (a0.size : Int) then (some (a0.extract ((a1.size : Int) : Int).toNat a0.size, true)) else (none)) else (none)) else (some (a0, false)))
set_option maxHeartbeats 8000000 in
set_option maxRecDepth 100000 in
theorem stringslite_CutPrefix.calls (a0 : ByteArray) (a1 : ByteArray) (r1 : ByteArray) (r2 : Bool) (w : World) (h : stringslite_CutPrefix.f a0 a1 = some (r1, r2)) :
  Calls Tryz.prog 83 #[.string a0, .string a1] w fun e w' => e = .returned (.tuple #[.string r1, .bool r2]) ∧ Drawn0 w w' := by
 have H : ((stringslite_HasPrefix.f a0 a1).bind fun t408 => (if t408 = true then (if 0 ≤ (a1.size : Int) then (if (a1.size : Int) ≤ (a0.size : Int) then (some (a0.extract ((a1.size : Int) : Int).toNat a0.size, true)) else (none)) else (none)) else (some (a0, false)))) = some (r1, r2) := h;clear h;replace H := bindA H;obtain ⟨t408, A3, H⟩ := H;by_cases c4 : t408 = true
 ·subst c4
  rw [if_pos rfl] at H;by_cases c5 : 0 ≤ (a1.size : Int)
  ·rw [if_pos c5] at H
   have c5b0 := eq_true c5;have c5b1 : decide (0 ≤ (a1.size : Int)) = true := decide_eq_true c5;clear c5;by_cases c6 : (a1.size : Int) ≤ (a0.size : Int)
   ·rw [if_pos c6] at H
    have c6b0 := eq_true c6;have c6b1 : decide ((a1.size : Int) ≤ (a0.size : Int)) = true := decide_eq_true c6;clear c6;simp only [Option.some.injEq, Prod.mk.injEq] at H
    obtain ⟨rfl, rfl⟩ := H;go_enter Tryz.func83, Tryz.ntmps83;go_wp2_with (first | ((with_reducible refine gate_callee (f := 98) rfl ?_); refine gsL (some 8) Tryz.func98 #[.string a0, .string a1] ?_; (with_reducible refine (stringslite_HasPrefix.calls a0 a1 true _ A3.out).mono ?_); rintro e w' ⟨rfl, ⟨nd, rfl⟩⟩; refine ⟨_, rfl, ?_⟩))
    go_ret2
    exact ⟨zz3, zz6⟩
   ·rw [if_neg c6] at H
    exact absurd H (by simp)
  ·rw [if_neg c5] at H
   exact absurd H (by simp)
 ·replace c4 := Bool.eq_false_iff.mpr c4
  subst c4;rw [if_neg (show ¬ (false = true) by decide)] at H;simp only [Option.some.injEq, Prod.mk.injEq] at H
  obtain ⟨rfl, rfl⟩ := H;go_enter Tryz.func83, Tryz.ntmps83;go_wp2_with (first | ((with_reducible refine gate_callee (f := 98) rfl ?_); refine gsL (some 8) Tryz.func98 #[.string a0, .string a1] ?_; (with_reducible refine (stringslite_HasPrefix.calls a0 a1 false _ A3.out).mono ?_); rintro e w' ⟨rfl, ⟨nd, rfl⟩⟩; refine ⟨_, rfl, ?_⟩))
  go_ret2
  exact ⟨zz3, zz6⟩
def strings_CutPrefix.f (a0 : ByteArray) (a1 : ByteArray) : Option (ByteArray × Bool) := (stringslite_CutPrefix.f a0 a1).bind fun bt409 => (some (bt409.1, bt409.2))
set_option maxHeartbeats 8000000 in
set_option maxRecDepth 100000 in
theorem strings_CutPrefix.calls (a0 : ByteArray) (a1 : ByteArray) (r1 : ByteArray) (r2 : Bool) (w : World) (h : strings_CutPrefix.f a0 a1 = some (r1, r2)) :
  Calls Tryz.prog 67 #[.string a0, .string a1] w fun e w' => e = .returned (.tuple #[.string r1, .bool r2]) ∧ Drawn0 w w' := by
 have H : ((stringslite_CutPrefix.f a0 a1).bind fun bt409 => (some (bt409.1, bt409.2))) = some (r1, r2) := h;clear h;replace H := bindA H;obtain ⟨⟨t409, t410⟩, A3, H⟩ := H;try dsimp -simprocs only at H
 simp only [Option.some.injEq, Prod.mk.injEq] at H
 obtain ⟨rfl, rfl⟩ := H;go_enter Tryz.func67, Tryz.ntmps67;go_wp2_with (first | ((with_reducible refine gate_callee (f := 83) rfl ?_); refine gsL (some 8) Tryz.func83 #[.string a0, .string a1] ?_; (with_reducible refine (stringslite_CutPrefix.calls a0 a1 t409 t410 _ A3.out).mono ?_); rintro e w' ⟨rfl, ⟨nd, rfl⟩⟩; refine ⟨_, rfl, ?_⟩))
 go_ret2
 exact ⟨zz3, zz6⟩
end Go.Proofs.YtpnedbnpnekahaaGreatDoor.P
end
section
namespace Go.Proofs.YtpnedbnpnekahaaGreatDoor.P
open Go.RowKit Go.Proofs.YtpnedbnpnekahaaGreatDoorW.PrintWords Go.Proofs.YtpnedbnpnekahaaGreatDoorW.PrintLast Go.Proofs.YtpnedbnpnekahaaGreatDoorW.PrintMore
set_option linter.unusedVariables false
set_option linter.unusedSimpArgs false
def hexS : ByteArray := ⟨#[48, 49, 50, 51, 52, 53, 54, 55, 56, 57, 65, 66, 67, 68, 69, 70]⟩
def figAt (k : Nat) : Nat := if k < 10 then 48 + k else 55 + k
def figI (b : Int) : Int × Bool := if 48 ≤ b ∧ b ≤ 57 then (b - 48, true) else if 65 ≤ b ∧ b ≤ 70 then (b - 55, true) else (0, false)
def impl_figureValue.f (a0 : Int) : Option (Int × Bool) := if 0 ≤ a0 ∧ a0 < 256 then some (figI (if 97 ≤ a0 ∧ a0 ≤ 102 then a0 - 32 else a0)) else none
theorem hex_at : ∀ k : Nat, k < 16 → hexS.size = 16 ∧ ∃ h : k < hexS.size, (hexS[k]'h).toNat = figAt k := by decide +kernel
theorem fig_hit {k : Nat} {b : Int} (hk : k < 16) (h : (figAt k : Int) = b) : figI b = ((k : Int), true) := by
 unfold figAt at h; unfold figI
 split at h
 ·rw [if_pos (by omega)]; congr 1; omega
 ·rw [if_neg (by omega), if_pos (by omega)]; congr 1; omega
theorem fig_miss {b : Int} (h : ∀ j : Nat, j < 16 → (figAt j : Int) ≠ b) : figI b = (0, false) := by
 unfold figI
 split
 ·rename_i hh
  exact absurd (by unfold figAt; rw [if_pos (by omega)]; omega) (h (b - 48).toNat (by omega))
 ·split
  ·rename_i hh
   exact absurd (by unfold figAt; rw [if_neg (by omega)]; omega) (h (b - 55).toNat (by omega))
  ·rfl
set_option maxHeartbeats 1000000 in
set_option maxRecDepth 1000000 in
theorem impl_figureValue.calls (a0 : Int) (r0 : Int) (r1 : Bool) (w : World) (h : impl_figureValue.f a0 = some (r0, r1)) :
  Calls Tryz.prog 112 #[.int .u8 a0] w fun e w' => e = .returned (.tuple #[.int .i64 r0, .bool r1]) ∧ Below w.heap.size w w' := by
 unfold impl_figureValue.f at h
 split at h
 case isFalse => cases h
 rename_i hh
 have h := Option.some.inj h
 obtain ⟨b, hb⟩ : ∃ b, b = (if 97 ≤ a0 ∧ a0 ≤ 102 then a0 - 32 else a0) := ⟨_, rfl⟩
 rw [← hb] at h
 by_cases h1 : 97 ≤ a0
 ·by_cases h2 : a0 ≤ 102
  ·rw [if_pos ⟨h1, h2⟩] at hb
   go_enter Tryz.func112, Tryz.ntmps112
   go_wp2
   go_loopw [4] (fun n w' => ∃ k : Nat, k ≤ 16 ∧ w' = w.iter hexS k ∧ ∀ j : Nat, j < k → (figAt j : Int) ≠ (a0 - 32)) (fun _ w' => 16 - w'.iterPos w.heap.size)
   case atStart => exact ⟨0, by omega, rfl, fun j hj => absurd hj (by omega)⟩
   case round =>
    obtain ⟨k, hk, rfl, hne⟩ := hrel
    have hbel : ∀ p, Below w.heap.size w (w.iter hexS p) := fun p => (Below.refl _ _).alloc (Nat.le_refl _) _
    by_cases hlt : k < 16
    ·obtain ⟨hsz, hx, hf⟩ := hex_at k hlt
     have hnx : ∀ ty, (Instr.next (.pointer (some ⟨w.heap.size, 0, none⟩)) true ty).run Tryz.prog (w.iter hexS k) = .ok (.tuple #[.bool true, .int .i64 k, .int .i32 (figAt k : Nat)]) (w.iter hexS (k + 1)) := fun ty => by
      have hfl : figAt k < 128 := by unfold figAt; split <;> omega
      rw [← hf]
      exact run_next_ascii w hexS k ty hx (by rw [hf]; exact hfl)
     by_cases he : (figAt k : Int) = (a0 - 32)
     ·have hr := fig_hit hlt he
      rw [← hb, h, Prod.mk.injEq] at hr
      obtain ⟨rfl, rfl⟩ := hr
      go_wp2
      go_ret2
      exact ⟨rfl, hbel _⟩
     ·go_wp2
      refine ⟨⟨k + 1, by omega, rfl, fun j hj => ?_⟩, by simp; omega⟩
      by_cases e : j = k
      ·subst e; exact he
      ·exact hne j (by omega)
    ·obtain rfl : k = 16 := by omega
     have hr := fig_miss hne
     rw [← hb, h, Prod.mk.injEq] at hr
     obtain ⟨rfl, rfl⟩ := hr
     have hnx : ∀ ty, (Instr.next (.pointer (some ⟨w.heap.size, 0, none⟩)) true ty).run Tryz.prog (w.iter hexS 16) = _ := fun ty => run_next_end w hexS 16 ty (by decide)
     go_wp2
     go_ret2
     exact ⟨rfl, hbel _⟩
  ·rw [if_neg (fun e => h2 e.2)] at hb
   go_enter Tryz.func112, Tryz.ntmps112
   go_wp2
   go_loopw [4] (fun n w' => ∃ k : Nat, k ≤ 16 ∧ w' = w.iter hexS k ∧ ∀ j : Nat, j < k → (figAt j : Int) ≠ a0) (fun _ w' => 16 - w'.iterPos w.heap.size)
   case atStart => exact ⟨0, by omega, rfl, fun j hj => absurd hj (by omega)⟩
   case round =>
    obtain ⟨k, hk, rfl, hne⟩ := hrel
    have hbel : ∀ p, Below w.heap.size w (w.iter hexS p) := fun p => (Below.refl _ _).alloc (Nat.le_refl _) _
    by_cases hlt : k < 16
    ·obtain ⟨hsz, hx, hf⟩ := hex_at k hlt
     have hnx : ∀ ty, (Instr.next (.pointer (some ⟨w.heap.size, 0, none⟩)) true ty).run Tryz.prog (w.iter hexS k) = .ok (.tuple #[.bool true, .int .i64 k, .int .i32 (figAt k : Nat)]) (w.iter hexS (k + 1)) := fun ty => by
      have hfl : figAt k < 128 := by unfold figAt; split <;> omega
      rw [← hf]
      exact run_next_ascii w hexS k ty hx (by rw [hf]; exact hfl)
     by_cases he : (figAt k : Int) = a0
     ·have hr := fig_hit hlt he
      rw [← hb, h, Prod.mk.injEq] at hr
      obtain ⟨rfl, rfl⟩ := hr
      go_wp2
      go_ret2
      exact ⟨rfl, hbel _⟩
     ·go_wp2
      refine ⟨⟨k + 1, by omega, rfl, fun j hj => ?_⟩, by simp; omega⟩
      by_cases e : j = k
      ·subst e; exact he
      ·exact hne j (by omega)
    ·obtain rfl : k = 16 := by omega
     have hr := fig_miss hne
     rw [← hb, h, Prod.mk.injEq] at hr
     obtain ⟨rfl, rfl⟩ := hr
     have hnx : ∀ ty, (Instr.next (.pointer (some ⟨w.heap.size, 0, none⟩)) true ty).run Tryz.prog (w.iter hexS 16) = _ := fun ty => run_next_end w hexS 16 ty (by decide)
     go_wp2
     go_ret2
     exact ⟨rfl, hbel _⟩
 ·rw [if_neg (fun e => h1 e.1)] at hb
  go_enter Tryz.func112, Tryz.ntmps112
  go_wp2
  go_loopw [4] (fun n w' => ∃ k : Nat, k ≤ 16 ∧ w' = w.iter hexS k ∧ ∀ j : Nat, j < k → (figAt j : Int) ≠ a0) (fun _ w' => 16 - w'.iterPos w.heap.size)
  case atStart => exact ⟨0, by omega, rfl, fun j hj => absurd hj (by omega)⟩
  case round =>
   obtain ⟨k, hk, rfl, hne⟩ := hrel
   have hbel : ∀ p, Below w.heap.size w (w.iter hexS p) := fun p => (Below.refl _ _).alloc (Nat.le_refl _) _
   by_cases hlt : k < 16
   ·obtain ⟨hsz, hx, hf⟩ := hex_at k hlt
    have hnx : ∀ ty, (Instr.next (.pointer (some ⟨w.heap.size, 0, none⟩)) true ty).run Tryz.prog (w.iter hexS k) = .ok (.tuple #[.bool true, .int .i64 k, .int .i32 (figAt k : Nat)]) (w.iter hexS (k + 1)) := fun ty => by
     have hfl : figAt k < 128 := by unfold figAt; split <;> omega
     rw [← hf]
     exact run_next_ascii w hexS k ty hx (by rw [hf]; exact hfl)
    by_cases he : (figAt k : Int) = a0
    ·have hr := fig_hit hlt he
     rw [← hb, h, Prod.mk.injEq] at hr
     obtain ⟨rfl, rfl⟩ := hr
     go_wp2
     go_ret2
     exact ⟨rfl, hbel _⟩
    ·go_wp2
     refine ⟨⟨k + 1, by omega, rfl, fun j hj => ?_⟩, by simp; omega⟩
     by_cases e : j = k
     ·subst e; exact he
     ·exact hne j (by omega)
   ·obtain rfl : k = 16 := by omega
    have hr := fig_miss hne
    rw [← hb, h, Prod.mk.injEq] at hr
    obtain ⟨rfl, rfl⟩ := hr
    have hnx : ∀ ty, (Instr.next (.pointer (some ⟨w.heap.size, 0, none⟩)) true ty).run Tryz.prog (w.iter hexS 16) = _ := fun ty => run_next_end w hexS 16 ty (by decide)
    go_wp2
    go_ret2
    exact ⟨rfl, hbel _⟩
end Go.Proofs.YtpnedbnpnekahaaGreatDoor.P
end
section
namespace Go.Proofs.YtpnedbnpnekahaaGreatDoor.P
open Go.RowKit Go.Proofs.YtpnedbnpnekahaaGreatDoorW.PrintWords Go.Proofs.YtpnedbnpnekahaaGreatDoorW.PrintLast Go.Proofs.YtpnedbnpnekahaaGreatDoorW.PrintMore
attribute [local go_sem] max2_int min2_int max_two min_two max_three min_three max_four min_four
set_option linter.unusedVariables false
set_option linter.unusedSimpArgs false
def impl_signByte.f (a0 : ByteArray) (a1 : Int) : Option (Int × Bool) := if (wrap64 ((a0.size : Int) - a1)) < 3 then (some (0, false)) else (if 0 ≤ (wrap64 (a1 + 1)) then (if (wrap64 (a1 + 1)) < (a0.size : Int) then ((impl_figureValue.f (bt a0 (wrap64 (a1 + 1)))).bind fun bt416 => (if 0 ≤ (wrap64 (a1 + 2)) then (if (wrap64 (a1 + 2)) < (a0.size : Int) then ((impl_figureValue.f (bt a0 (wrap64 (a1 + 2)))).bind fun bt418 => (if bt416.2 = true then (if bt418.2 = true then (some ((wrap64 ((wrap64 (bt416.1 * 16)) + bt418.1)) % 256, true)) else (some (0, false))) else (some (0, false)))) else (none)) else (none))) else (none)) else (none))
set_option maxHeartbeats 8000000 in
set_option maxRecDepth 100000 in
theorem impl_signByte.calls (a0 : ByteArray) (a1 : Int) (r1 : Int) (r2 : Bool) (w : World) (h : impl_signByte.f a0 a1 = some (r1, r2)) :
  Calls Tryz.prog 105 #[.string a0, .int .i64 a1] w fun e w' => e = .returned (.tuple #[.int .u8 r1, .bool r2]) ∧ Below w.heap.size w w' := by
 have HB := Aside0.mk (Below.refl w.heap.size w);have H : (if (wrap64 ((a0.size : Int) - a1)) < 3 then (some (0, false)) else (if 0 ≤ (wrap64 (a1 + 1)) then (if (wrap64 (a1 + 1)) < (a0.size : Int) then ((impl_figureValue.f (bt a0 (wrap64 (a1 + 1)))).bind fun bt416 => (if 0 ≤ (wrap64 (a1 + 2)) then (if (wrap64 (a1 + 2)) < (a0.size : Int) then ((impl_figureValue.f (bt a0 (wrap64 (a1 + 2)))).bind fun bt418 => (if bt416.2 = true then (if bt418.2 = true then (some ((wrap64 ((wrap64 (bt416.1 * 16)) + bt418.1)) % 256, true)) else (some (0, false))) else (some (0, false)))) else (none)) else (none))) else (none)) else (none))) = some (r1, r2) := h;clear h;by_cases c3 : (wrap64 ((a0.size : Int) - a1)) < 3
 ·rw [if_pos c3] at H
  have c3b0 : decide ((wrap64 ((a0.size : Int) - a1)) < 3) = true := decide_eq_true c3;clear c3;simp only [Option.some.injEq, Prod.mk.injEq] at H
  obtain ⟨rfl, rfl⟩ := H;go_enter Tryz.func105, Tryz.ntmps105;go_wp2
  go_ret2
  exact ⟨zz1, (zz0 HB)⟩
 ·rw [if_neg c3] at H
  have c3b0 : decide ((wrap64 ((a0.size : Int) - a1)) < 3) = false := decide_eq_false c3;clear c3;obtain ⟨ji4, hji4⟩ : ∃ j_ : Int, (wrap64 (a1 + 1)) = j_ := ⟨_, rfl⟩;replace H : (if 0 ≤ (ji4) then (if (ji4) < (a0.size : Int) then ((impl_figureValue.f (bt a0 (ji4))).bind fun bt416 => (if 0 ≤ (wrap64 (a1 + 2)) then (if (wrap64 (a1 + 2)) < (a0.size : Int) then ((impl_figureValue.f (bt a0 (wrap64 (a1 + 2)))).bind fun bt418 => (if bt416.2 = true then (if bt418.2 = true then (some ((wrap64 ((wrap64 (bt416.1 * 16)) + bt418.1)) % 256, true)) else (some (0, false))) else (some (0, false)))) else (none)) else (none))) else (none)) else (none)) = some (r1, r2) := by first | (rw [hji4] at H; exact H) | (simp only [hji4] at H ⊢; exact H)
  have hji4w : (IntKind.i64.wrap (a1 + 1)) = ji4 := (i64_w _).trans hji4;by_cases c5 : 0 ≤ (ji4)
  ·rw [if_pos c5] at H
   have c5b0 : decide (0 ≤ (ji4)) = true := decide_eq_true c5;clear c5;by_cases c6 : (ji4) < (a0.size : Int)
   ·rw [if_pos c6] at H
    have c6b0 : decide ((ji4) < (a0.size : Int)) = true := decide_eq_true c6;clear c6;replace H := bindA H;obtain ⟨⟨t416, t417⟩, A8, H⟩ := H;try dsimp -simprocs only at H
    obtain ⟨ji9, hji9⟩ : ∃ j_ : Int, (wrap64 (a1 + 2)) = j_ := ⟨_, rfl⟩;replace H : (if 0 ≤ (ji9) then (if (ji9) < (a0.size : Int) then ((impl_figureValue.f (bt a0 (ji9))).bind fun bt418 => (if t417 = true then (if bt418.2 = true then (some ((wrap64 ((wrap64 (t416 * 16)) + bt418.1)) % 256, true)) else (some (0, false))) else (some (0, false)))) else (none)) else (none)) = some (r1, r2) := by first | (rw [hji9] at H; exact H) | (simp only [hji9] at H ⊢; exact H)
    (try rw [hji9] at A8)
    have hji9w : (IntKind.i64.wrap (a1 + 2)) = ji9 := (i64_w _).trans hji9;by_cases c10 : 0 ≤ (ji9)
    ·rw [if_pos c10] at H
     have c10b0 : decide (0 ≤ (ji9)) = true := decide_eq_true c10;clear c10;by_cases c11 : (ji9) < (a0.size : Int)
     ·rw [if_pos c11] at H
      have c11b0 : decide ((ji9) < (a0.size : Int)) = true := decide_eq_true c11;clear c11;replace H := bindA H;obtain ⟨⟨t418, t419⟩, A13, H⟩ := H;try dsimp -simprocs only at H
      by_cases c14 : t417 = true
      ·subst c14
       rw [if_pos rfl] at H;by_cases c15 : t419 = true
       ·subst c15
        rw [if_pos rfl] at H;simp only [Option.some.injEq, Prod.mk.injEq] at H
        obtain ⟨rfl, rfl⟩ := H;have p7 : 0 ≤ ((ji4) : Int) := ofD;have q7 : (ji4) < (a0.size : Int) := ofD;have hx7 := bt_at a0 (ji4);replace p7 := eq_true p7;replace q7 := eq_true q7;go_enter Tryz.func105, Tryz.ntmps105;go_wp2_with (first | ((with_reducible refine gate_callee (f := 112) rfl ?_); refine goesL_ (some 20) rfl rfl Tryz.func112 (by kernel_rfl) rfl #[.int .u8 (bt a0 (ji4))] rfl zz120 ?_; (with_reducible refine (impl_figureValue.calls (bt a0 (ji4)) t416 true _ A8.out).mono ?_); rintro e w16 ⟨rfl, hb⟩; refine ⟨_, rfl, ?_⟩; replace HB := Aside0.mk (below_step (zz0 HB) hb); (try clear hb); have p12 : 0 ≤ ((ji9) : Int) := ofD; have q12 : (ji9) < (a0.size : Int) := ofD; have hx12 := bt_at a0 (ji9); replace p12 := eq_true p12; replace q12 := eq_true q12) | ((with_reducible refine gate_callee (f := 112) rfl ?_); refine goesL_ (some 28) rfl rfl Tryz.func112 (by kernel_rfl) rfl #[.int .u8 (bt a0 (ji9))] rfl zz121 ?_; (with_reducible refine (impl_figureValue.calls (bt a0 (ji9)) t418 true _ A13.out).mono ?_); rintro e w17 ⟨rfl, hb⟩; refine ⟨_, rfl, ?_⟩; replace HB := Aside0.mk (below_step (zz0 HB) hb); (try clear hb)))
        go_ret2
        exact ⟨zz122, (zz0 HB)⟩
       ·replace c15 := Bool.eq_false_iff.mpr c15
        subst c15;rw [if_neg (show ¬ (false = true) by decide)] at H;simp only [Option.some.injEq, Prod.mk.injEq] at H
        obtain ⟨rfl, rfl⟩ := H;have p7 : 0 ≤ ((ji4) : Int) := ofD;have q7 : (ji4) < (a0.size : Int) := ofD;have hx7 := bt_at a0 (ji4);replace p7 := eq_true p7;replace q7 := eq_true q7;go_enter Tryz.func105, Tryz.ntmps105;go_wp2_with (first | ((with_reducible refine gate_callee (f := 112) rfl ?_); refine goesL_ (some 20) rfl rfl Tryz.func112 (by kernel_rfl) rfl #[.int .u8 (bt a0 (ji4))] rfl zz120 ?_; (with_reducible refine (impl_figureValue.calls (bt a0 (ji4)) t416 true _ A8.out).mono ?_); rintro e w18 ⟨rfl, hb⟩; refine ⟨_, rfl, ?_⟩; replace HB := Aside0.mk (below_step (zz0 HB) hb); (try clear hb); have p12 : 0 ≤ ((ji9) : Int) := ofD; have q12 : (ji9) < (a0.size : Int) := ofD; have hx12 := bt_at a0 (ji9); replace p12 := eq_true p12; replace q12 := eq_true q12) | ((with_reducible refine gate_callee (f := 112) rfl ?_); refine goesL_ (some 28) rfl rfl Tryz.func112 (by kernel_rfl) rfl #[.int .u8 (bt a0 (ji9))] rfl zz121 ?_; (with_reducible refine (impl_figureValue.calls (bt a0 (ji9)) t418 false _ A13.out).mono ?_); rintro e w19 ⟨rfl, hb⟩; refine ⟨_, rfl, ?_⟩; replace HB := Aside0.mk (below_step (zz0 HB) hb); (try clear hb)))
        go_ret2
        exact ⟨zz122, (zz0 HB)⟩
      ·replace c14 := Bool.eq_false_iff.mpr c14
       subst c14;rw [if_neg (show ¬ (false = true) by decide)] at H;simp only [Option.some.injEq, Prod.mk.injEq] at H
       obtain ⟨rfl, rfl⟩ := H;have p7 : 0 ≤ ((ji4) : Int) := ofD;have q7 : (ji4) < (a0.size : Int) := ofD;have hx7 := bt_at a0 (ji4);replace p7 := eq_true p7;replace q7 := eq_true q7;go_enter Tryz.func105, Tryz.ntmps105;go_wp2_with (first | ((with_reducible refine gate_callee (f := 112) rfl ?_); refine goesL_ (some 20) rfl rfl Tryz.func112 (by kernel_rfl) rfl #[.int .u8 (bt a0 (ji4))] rfl zz120 ?_; (with_reducible refine (impl_figureValue.calls (bt a0 (ji4)) t416 false _ A8.out).mono ?_); rintro e w20 ⟨rfl, hb⟩; refine ⟨_, rfl, ?_⟩; replace HB := Aside0.mk (below_step (zz0 HB) hb); (try clear hb); have p12 : 0 ≤ ((ji9) : Int) := ofD; have q12 : (ji9) < (a0.size : Int) := ofD; have hx12 := bt_at a0 (ji9); replace p12 := eq_true p12; replace q12 := eq_true q12) | ((with_reducible refine gate_callee (f := 112) rfl ?_); refine goesL_ (some 28) rfl rfl Tryz.func112 (by kernel_rfl) rfl #[.int .u8 (bt a0 (ji9))] rfl zz121 ?_; (with_reducible refine (impl_figureValue.calls (bt a0 (ji9)) t418 t419 _ A13.out).mono ?_); rintro e w21 ⟨rfl, hb⟩; refine ⟨_, rfl, ?_⟩; replace HB := Aside0.mk (below_step (zz0 HB) hb); (try clear hb)))
       go_ret2
       exact ⟨zz122, (zz0 HB)⟩
     ·rw [if_neg c11] at H
      exact absurd H (by simp)
    ·rw [if_neg c10] at H
     exact absurd H (by simp)
   ·rw [if_neg c6] at H
    exact absurd H (by simp)
  ·rw [if_neg c5] at H
   exact absurd H (by simp)
def impl_standsForItself.f (a0 : Int) : Option (Bool) := if a0 ≥ 97 then (if a0 ≤ 122 then (some true) else (if a0 ≥ 48 then (if a0 ≤ 57 then (some true) else (if a0 = 46 then (some true) else (some (a0 == 45)))) else (if a0 = 46 then (some true) else (some (a0 == 45))))) else (if a0 ≥ 48 then (if a0 ≤ 57 then (some true) else (if a0 = 46 then (some true) else (some (a0 == 45)))) else (if a0 = 46 then (some true) else (some (a0 == 45))))
set_option maxHeartbeats 8000000 in
set_option maxRecDepth 100000 in
theorem impl_standsForItself.calls (a0 : Int) (r : Bool) (w : World) (h : impl_standsForItself.f a0 = some r) :
  Calls Tryz.prog 106 #[.int .u8 a0] w fun e w' => e = .returned (.bool r) ∧ Drawn0 w w' := by
 have H : (if a0 ≥ 97 then (if a0 ≤ 122 then (some true) else (if a0 ≥ 48 then (if a0 ≤ 57 then (some true) else (if a0 = 46 then (some true) else (some (a0 == 45)))) else (if a0 = 46 then (some true) else (some (a0 == 45))))) else (if a0 ≥ 48 then (if a0 ≤ 57 then (some true) else (if a0 = 46 then (some true) else (some (a0 == 45)))) else (if a0 = 46 then (some true) else (some (a0 == 45))))) = some r := h;clear h;by_cases c2 : a0 ≥ 97
 ·rw [if_pos c2] at H
  have c2b0 : decide (97 ≤ a0) = true := decide_eq_true c2;clear c2;by_cases c3 : a0 ≤ 122
  ·rw [if_pos c3] at H
   have c3b0 : decide (a0 ≤ 122) = true := decide_eq_true c3;clear c3;obtain rfl := Option.some.inj H;go_enter Tryz.func106, Tryz.ntmps106;go_wp2
   go_ret
   exact ⟨zz3, zz6⟩
  ·rw [if_neg c3] at H
   have c3b0 : decide (a0 ≤ 122) = false := decide_eq_false c3;clear c3;by_cases c4 : a0 ≥ 48
   ·rw [if_pos c4] at H
    have c4b0 : decide (48 ≤ a0) = true := decide_eq_true c4;clear c4;by_cases c5 : a0 ≤ 57
    ·rw [if_pos c5] at H
     have c5b0 : decide (a0 ≤ 57) = true := decide_eq_true c5;clear c5;obtain rfl := Option.some.inj H;go_enter Tryz.func106, Tryz.ntmps106;go_wp2
     go_ret
     exact ⟨zz3, zz6⟩
    ·rw [if_neg c5] at H
     have c5b0 : decide (a0 ≤ 57) = false := decide_eq_false c5;clear c5;by_cases c6 : a0 = 46
     ·rw [if_pos c6] at H
      have c6b0 : (a0 == 46) = true := beq_iff_eq.mpr c6;have c6b1 : (a0 != 46) = false := bne_eq_false_iff_eq.mpr c6;clear c6;obtain rfl := Option.some.inj H;go_enter Tryz.func106, Tryz.ntmps106;go_wp2
      go_ret
      exact ⟨zz3, zz6⟩
     ·rw [if_neg c6] at H
      have c6b0 : (a0 == 46) = false := beq_eq_false_iff_ne.mpr c6;have c6b1 : (a0 != 46) = true := bne_iff_ne.mpr c6;obtain rfl := Option.some.inj H;go_enter Tryz.func106, Tryz.ntmps106;go_wp2
      go_ret
      exact ⟨zz3, zz6⟩
   ·rw [if_neg c4] at H
    have c4b0 : decide (48 ≤ a0) = false := decide_eq_false c4;clear c4;by_cases c7 : a0 = 46
    ·rw [if_pos c7] at H
     have c7b0 : (a0 == 46) = true := beq_iff_eq.mpr c7;have c7b1 : (a0 != 46) = false := bne_eq_false_iff_eq.mpr c7;clear c7;obtain rfl := Option.some.inj H;go_enter Tryz.func106, Tryz.ntmps106;go_wp2
     go_ret
     exact ⟨zz3, zz6⟩
    ·rw [if_neg c7] at H
     have c7b0 : (a0 == 46) = false := beq_eq_false_iff_ne.mpr c7;have c7b1 : (a0 != 46) = true := bne_iff_ne.mpr c7;obtain rfl := Option.some.inj H;go_enter Tryz.func106, Tryz.ntmps106;go_wp2
     go_ret
     exact ⟨zz3, zz6⟩
 ·rw [if_neg c2] at H
  have c2b0 : decide (97 ≤ a0) = false := decide_eq_false c2;clear c2;by_cases c8 : a0 ≥ 48
  ·rw [if_pos c8] at H
   have c8b0 : decide (48 ≤ a0) = true := decide_eq_true c8;clear c8;by_cases c9 : a0 ≤ 57
   ·rw [if_pos c9] at H
    have c9b0 : decide (a0 ≤ 57) = true := decide_eq_true c9;clear c9;obtain rfl := Option.some.inj H;go_enter Tryz.func106, Tryz.ntmps106;go_wp2
    go_ret
    exact ⟨zz3, zz6⟩
   ·rw [if_neg c9] at H
    have c9b0 : decide (a0 ≤ 57) = false := decide_eq_false c9;clear c9;by_cases c10 : a0 = 46
    ·rw [if_pos c10] at H
     have c10b0 : (a0 == 46) = true := beq_iff_eq.mpr c10;have c10b1 : (a0 != 46) = false := bne_eq_false_iff_eq.mpr c10;clear c10;obtain rfl := Option.some.inj H;go_enter Tryz.func106, Tryz.ntmps106;go_wp2
     go_ret
     exact ⟨zz3, zz6⟩
    ·rw [if_neg c10] at H
     have c10b0 : (a0 == 46) = false := beq_eq_false_iff_ne.mpr c10;have c10b1 : (a0 != 46) = true := bne_iff_ne.mpr c10;obtain rfl := Option.some.inj H;go_enter Tryz.func106, Tryz.ntmps106;go_wp2
     go_ret
     exact ⟨zz3, zz6⟩
  ·rw [if_neg c8] at H
   have c8b0 : decide (48 ≤ a0) = false := decide_eq_false c8;clear c8;by_cases c11 : a0 = 46
   ·rw [if_pos c11] at H
    have c11b0 : (a0 == 46) = true := beq_iff_eq.mpr c11;have c11b1 : (a0 != 46) = false := bne_eq_false_iff_eq.mpr c11;clear c11;obtain rfl := Option.some.inj H;go_enter Tryz.func106, Tryz.ntmps106;go_wp2
    go_ret
    exact ⟨zz3, zz6⟩
   ·rw [if_neg c11] at H
    have c11b0 : (a0 == 46) = false := beq_eq_false_iff_ne.mpr c11;have c11b1 : (a0 != 46) = true := bne_iff_ne.mpr c11;obtain rfl := Option.some.inj H;go_enter Tryz.func106, Tryz.ntmps106;go_wp2
    go_ret
    exact ⟨zz3, zz6⟩
def impl_EscNorm.l0 : Nat → ByteArray → List Int → Int → Option (ByteArray × Bool)
 | 0, _, _, _ => none
 | k + 1, x0, x4, x5 => if x5 < (x0.size : Int) then (if 0 ≤ x5 then (if (bt x0 x5) = 37 then ((impl_signByte.f x0 x5).bind fun bt420 => (if bt420.2 = true then ((impl_standsForItself.f bt420.1).bind fun t422 => (if t422 = true then (if x4.length < 140737488355328 then (impl_EscNorm.l0 k x0 (x4 ++ [bt420.1]) (wrap64 ((wrap64 (x5 + 2)) + 1))) else (none)) else (if 0 ≤ (bt420.1 / 16) then (if (bt420.1 / 16) < 16 then (if 0 ≤ (Go.bits .and .u8 bt420.1 15) then (if (Go.bits .and .u8 bt420.1 15) < 16 then ((some (([37, bt (⟨#[48, 49, 50, 51, 52, 53, 54, 55, 56, 57, 65, 66, 67, 68, 69, 70]⟩ : ByteArray) (bt420.1 / 16), bt (⟨#[48, 49, 50, 51, 52, 53, 54, 55, 56, 57, 65, 66, 67, 68, 69, 70]⟩ : ByteArray) (Go.bits .and .u8 bt420.1 15)] : List Int) : List Int)).bind fun y426 => (if x4.length + y426.length < 140737488355328 then (impl_EscNorm.l0 k x0 (x4 ++ y426) (wrap64 ((wrap64 (x5 + 2)) + 1))) else (none))) else (none)) else (none)) else (none)) else (none)))) else (some ((⟨#[]⟩ : ByteArray), false)))) else ((impl_standsForItself.f (bt x0 x5)).bind fun t432 => (if t432 = true then (if x4.length < 140737488355328 then (impl_EscNorm.l0 k x0 (x4 ++ [bt x0 x5]) (wrap64 (x5 + 1))) else (none)) else (if 0 ≤ ((bt x0 x5) / 16) then (if ((bt x0 x5) / 16) < 16 then (if 0 ≤ (Go.bits .and .u8 (bt x0 x5) 15) then (if (Go.bits .and .u8 (bt x0 x5) 15) < 16 then ((some (([37, bt (⟨#[48, 49, 50, 51, 52, 53, 54, 55, 56, 57, 65, 66, 67, 68, 69, 70]⟩ : ByteArray) ((bt x0 x5) / 16), bt (⟨#[48, 49, 50, 51, 52, 53, 54, 55, 56, 57, 65, 66, 67, 68, 69, 70]⟩ : ByteArray) (Go.bits .and .u8 (bt x0 x5) 15)] : List Int) : List Int)).bind fun y436 => (if x4.length + y436.length < 140737488355328 then (impl_EscNorm.l0 k x0 (x4 ++ y436) (wrap64 (x5 + 1))) else (none))) else (none)) else (none)) else (none)) else (none))))) else (none)) else (some (strOfNums x4, true))
def impl_EscNorm.f (k : Nat) (a0 : ByteArray) : Option (ByteArray × Bool) := if (a0.size : Int) > 60 then (some ((⟨#[]⟩ : ByteArray), false)) else (impl_EscNorm.l0 k a0 ([] : List Int) 0)
theorem impl_EscNorm.mono_l : ∀ k, (∀ y0 y1 y2, LeO (impl_EscNorm.l0 k y0 y1 y2) (impl_EscNorm.l0 (k + 1) y0 y1 y2))
 | 0 => fun _ _ _ r h => by simp [impl_EscNorm.l0] at h
 | k + 1 => by
  have ih0 := impl_EscNorm.mono_l k
  ·intro y0 y1 y2
   unfold impl_EscNorm.l0
   repeat' first | (with_reducible first | exact ih0 _ _ _ | exact LeO.refl _ | exact LeO.none _ | refine LeO.ite ?_ ?_ | refine LeO.bind ?_ (fun _ => ?_)) | exact LeO.none _ | refine LeO.ite ?_ ?_ | refine LeO.bind ?_ (fun _ => ?_)
theorem impl_EscNorm.mono : ∀ a0 k, LeO (impl_EscNorm.f k a0) (impl_EscNorm.f (k + 1) a0) := by
 intro a0 k;have ih0 := impl_EscNorm.mono_l k;unfold impl_EscNorm.f
 repeat' first | (with_reducible first | exact ih0 _ _ _ | exact LeO.refl _ | exact LeO.none _ | refine LeO.ite ?_ ?_ | refine LeO.bind ?_ (fun _ => ?_)) | exact LeO.none _ | refine LeO.ite ?_ ?_ | refine LeO.bind ?_ (fun _ => ?_)
def impl_EscNorm.T16 : Bool × List (List Nat × List Nat) := (true, [([], []), ([], []), ([1], [1]), ([2], [2]), ([], []), ([4], [4]), ([5], [5]), ([3, 6], [3, 6]), ([0, 7], [0, 7]), ([8, 8, 0, 1, 2, 3, 4, 5, 6, 7, 8], [0, 8])])
def impl_EscNorm.B16 : List Nat := [0, 0, 2, 6, 0, 16, 48, 126, 255, 511]
theorem impl_EscNorm.tab16 : rtab .any (opsOf Tryz.f88 16) = impl_EscNorm.T16 := by kernel_rfl
theorem impl_EscNorm.bits16 : waitsOk impl_EscNorm.T16.2 impl_EscNorm.B16 = true := by kernel_rfl
set_option maxHeartbeats 8000000 in
set_option maxRecDepth 100000 in
theorem impl_EscNorm.calls (k : Nat) (a0 : ByteArray) (r1 : ByteArray) (r2 : Bool) (w : World) (h : impl_EscNorm.f k a0 = some (r1, r2)) :
  Calls Tryz.prog 88 #[.string a0] w fun e w' => e = .returned (.tuple #[.string r1, .bool r2]) ∧ Below w.heap.size w w' := by
 have HB := Aside0.mk (Below.refl w.heap.size w);have H : (if (a0.size : Int) > 60 then (some ((⟨#[]⟩ : ByteArray), false)) else (impl_EscNorm.l0 k a0 ([] : List Int) 0)) = some (r1, r2) := h;clear h;by_cases c2 : (a0.size : Int) > 60
 ·rw [if_pos c2] at H
  have c2b0 : decide (60 < (a0.size : Int)) = true := decide_eq_true c2;have c2b1 : decide (60 < a0.size) = true := decide_eq_true (by omega);clear c2;simp only [Option.some.injEq, Prod.mk.injEq] at H
  obtain ⟨rfl, rfl⟩ := H;go_enter Tryz.func88, Tryz.ntmps88;go_wp2
  go_ret2
  exact ⟨zz1, (zz0 HB)⟩
 ·rw [if_neg c2] at H
  have c2b0 : decide (60 < (a0.size : Int)) = false := decide_eq_false c2;have c2b1 : decide (60 < a0.size) = false := decide_eq_false (by omega);clear c2;have H' := Aside0.mk H;clear H;go_enter Tryz.func88, Tryz.ntmps88;go_wp2
  go_loopg [4, 5] k (fun kq v4 v5 w' => ∃ (x4_1 : List Int) (x5_1 : Int), v5 = .int .i64 x5_1 ∧ Aside0 (impl_EscNorm.l0 kq a0 x4_1 x5_1 = some (r1, r2)) ∧ Aside0 (kq ≤ k) ∧ Aside0 (Kd.R (Kd.int .u8) 5 w' w.heap.size (fun _ => True) v4 x4_1) ∧ Aside0 (Below w.heap.size w w'))
  case atStart => exact ⟨(([] : List Int)), (0), zz3, H', ⟨Nat.le_refl _⟩, ⟨zz38⟩, ⟨(zz0 HB)⟩⟩
  case round =>
   clear H';obtain ⟨x4_1, x5_1, rfl, HA, HK1, HO_4, HB⟩ := hrel;cases gk with
   | zero => exact absurd HA.out (by simp [impl_EscNorm.l0])
   | succ k1 =>
    have H := HA.out;clear HA;simp only [impl_EscNorm.l0] at H
    by_cases c3 : x5_1 < (a0.size : Int)
    ·rw [if_pos c3] at H
     have c3b0 : decide (x5_1 < (a0.size : Int)) = true := decide_eq_true c3;clear c3;by_cases c4 : 0 ≤ x5_1
     ·rw [if_pos c4] at H
      have c4b0 : decide (0 ≤ x5_1) = true := decide_eq_true c4;clear c4;by_cases c6 : (bt a0 x5_1) = 37
      ·rw [if_pos c6] at H
       have c6b0 : ((bt a0 x5_1) == 37) = true := beq_iff_eq.mpr c6;have c6b1 : ((bt a0 x5_1) != 37) = false := bne_eq_false_iff_eq.mpr c6;clear c6;replace H := bindA H;obtain ⟨⟨t420, t421⟩, A7, H⟩ := H;try dsimp -simprocs only at H
       by_cases c8 : t421 = true
       ·subst c8
        rw [if_pos rfl] at H;replace H := bindA H;obtain ⟨t422, A9, H⟩ := H;by_cases c10 : t422 = true
        ·subst c10
         rw [if_pos rfl] at H;by_cases c11 : x4_1.length < 140737488355328
         ·rw [if_pos c11] at H
          have LMc11 := Aside0.mk c11;clear c11;obtain ⟨y423, Ny423⟩ := toY (x4_1 ++ [t420]);(first | with_reducible replace H := bindZ Ny423 H | rw [← Ny423.out] at H | skip)
          have H' := Aside0.mk H;clear H;have p5 : 0 ≤ (x5_1 : Int) := ofD;have q5 : x5_1 < (a0.size : Int) := ofD;have hx5 := bt_at a0 x5_1;replace p5 := eq_true p5;replace q5 := eq_true q5;go_wp2_with (first | ((with_reducible refine gate_callee (f := 105) rfl ?_); refine gsL (some 26) Tryz.func105 #[.string a0, .int .i64 x5_1] ?_; (with_reducible refine (impl_signByte.calls a0 x5_1 t420 true _ A7.out).mono ?_); rintro e w12 ⟨rfl, hb⟩; refine ⟨_, rfl, ?_⟩; replace HO_4 := Aside0.mk (Kd.R_below (zz28 HO_4) hb); replace HB := Aside0.mk (below_step (zz0 HB) hb); (try clear hb)) | ((with_reducible refine gate_callee (f := 106) rfl ?_); refine gsL (some 35) Tryz.func106 #[.int .u8 t420] ?_; (with_reducible refine (impl_standsForItself.calls t420 true _ A9.out).mono ?_); rintro e w' ⟨rfl, ⟨nd, rfl⟩⟩; refine ⟨_, rfl, ?_⟩) | ((with_reducible refine gate_builtin (b := .append) (xs := #[.tmp 36, .tmp 38]) rfl ?_); at_builtin; refine Kd.R_append (Kd.int .u8) (w0 := w) w.heap.size rfl (.tmp 36) (.tmp 38) 61 5 (.int .u8 0) 1 rfl Tryz.underlying61 info5 rfl (by decide) (by omega) u4 x4_1 t420 [.int .u8 t420] (fun _ => True) (fun _ => False) rfl rfl ?aP (fun _ hk => hk.elim) ?aF ?aO ?aB ?aS ?aL ?_; (case aP => exact rfl); (case aB => exact (zz0 HB)); (case aF => exact (fun _ _ => trivial)); (case aO => exact (zz28 HO_4)); (case aS => exact (below_size (zz0 HB))); (case aL => exact (zz5 LMc11)); intro v424 w13 ho hb hg hat; rw [← Ny423.out] at ho; replace HB := Aside0.mk (hb); have HO425 := Aside0.mk (ho); clear HO_4; clear ho hb hg hat))
          go_roundg k1
          case measure => have := HK1.out; omega
          case rel => exact ⟨(y423), (wrap64 ((wrap64 (x5_1 + 2)) + 1)), zz3, H', ⟨(zz5 HK1)⟩, ⟨(zz28 HO425)⟩, ⟨(zz0 HB)⟩⟩
         ·rw [if_neg c11] at H
          exact absurd H (by simp)
        ·replace c10 := Bool.eq_false_iff.mpr c10
         subst c10;rw [if_neg (show ¬ (false = true) by decide)] at H;obtain ⟨ji14, hji14⟩ : ∃ j_ : Int, (t420 / 16) = j_ := ⟨_, rfl⟩;replace H : (if 0 ≤ (ji14) then (if (ji14) < 16 then (if 0 ≤ (Go.bits .and .u8 t420 15) then (if (Go.bits .and .u8 t420 15) < 16 then ((some (([37, bt (⟨#[48, 49, 50, 51, 52, 53, 54, 55, 56, 57, 65, 66, 67, 68, 69, 70]⟩ : ByteArray) (ji14), bt (⟨#[48, 49, 50, 51, 52, 53, 54, 55, 56, 57, 65, 66, 67, 68, 69, 70]⟩ : ByteArray) (Go.bits .and .u8 t420 15)] : List Int) : List Int)).bind fun y426 => (if x4_1.length + y426.length < 140737488355328 then (impl_EscNorm.l0 k1 a0 (x4_1 ++ y426) (wrap64 ((wrap64 (x5_1 + 2)) + 1))) else (none))) else (none)) else (none)) else (none)) else (none)) = some (r1, r2) := by first | (rw [hji14] at H; exact H) | (simp only [hji14] at H ⊢; exact H)
         (try rw [hji14] at A7)
         (try rw [hji14] at A9)
         by_cases c15 : 0 ≤ (ji14)
         ·rw [if_pos c15] at H
          have c15b0 : decide (0 ≤ (ji14)) = true := decide_eq_true c15;clear c15;by_cases c16 : (ji14) < 16
          ·rw [if_pos c16] at H
           have c16b0 : decide ((ji14) < 16) = true := decide_eq_true c16;clear c16;by_cases c18 : 0 ≤ (Go.bits .and .u8 t420 15)
           ·rw [if_pos c18] at H
            have c18b0 : decide (0 ≤ (Go.bits .and .u8 t420 15)) = true := decide_eq_true c18;clear c18;by_cases c19 : (Go.bits .and .u8 t420 15) < 16
            ·rw [if_pos c19] at H
             have c19b0 : decide ((Go.bits .and .u8 t420 15) < 16) = true := decide_eq_true c19;clear c19;obtain ⟨y426, Ny426⟩ := toY (([37, bt (⟨#[48, 49, 50, 51, 52, 53, 54, 55, 56, 57, 65, 66, 67, 68, 69, 70]⟩ : ByteArray) (ji14), bt (⟨#[48, 49, 50, 51, 52, 53, 54, 55, 56, 57, 65, 66, 67, 68, 69, 70]⟩ : ByteArray) (Go.bits .and .u8 t420 15)] : List Int));(first | with_reducible replace H := bindZ Ny426 H | rw [← Ny426.out] at H | skip)
             by_cases c21 : x4_1.length + y426.length < 140737488355328
             ·rw [if_pos c21] at H
              have LMc21 := Aside0.mk c21;clear c21;obtain ⟨y429, Ny429⟩ := toY (x4_1 ++ y426);(first | with_reducible replace H := bindZ Ny429 H | rw [← Ny429.out] at H | skip)
              have H' := Aside0.mk H;clear H;have p5 : 0 ≤ (x5_1 : Int) := ofD;have q5 : x5_1 < (a0.size : Int) := ofD;have hx5 := bt_at a0 x5_1;replace p5 := eq_true p5;replace q5 := eq_true q5;try go_wp2_with (first | ((with_reducible refine gate_callee (f := 105) rfl ?_); refine gsL (some 26) Tryz.func105 #[.string a0, .int .i64 x5_1] ?_; (with_reducible refine (impl_signByte.calls a0 x5_1 t420 true _ A7.out).mono ?_); rintro e w22 ⟨rfl, hb⟩; refine ⟨_, rfl, ?_⟩; replace HO_4 := Aside0.mk (Kd.R_below (zz28 HO_4) hb); replace HB := Aside0.mk (below_step (zz0 HB) hb); (try clear hb)) | ((with_reducible refine gate_callee (f := 106) rfl ?_); refine gsL (some 35) Tryz.func106 #[.int .u8 t420] ?_; (with_reducible refine (impl_standsForItself.calls t420 false _ A9.out).mono ?_); rintro e w' ⟨rfl, ⟨nd, rfl⟩⟩; refine ⟨_, rfl, ?_⟩))
              (try (rw [drewN_self w22]; generalize hq_ : World.drewN w22 _ = w22; have n0_ : Aside0 (Kd.R (Kd.int .u8) 5 w22 w.heap.size (fun _ => True) u4 x4_1) := ⟨(by rw [← hq_]; exact (zz28 HO_4))⟩; have n1_ : Aside0 (Below w.heap.size w w22) := ⟨(by rw [← hq_]; exact (zz0 HB))⟩; clear HO_4 HB hq_; have HO_4 := n0_; have HB := n1_; clear n0_ n1_))
              replace HO_4 := Aside0.mk (Kd.R_drew HO_4.out);replace HB := Aside0.mk (below_drew1 HB.out);have p17 : 0 ≤ ((ji14) : Int) := ofD;have q17 : (ji14) < (16 : Int) := ofD;have hx17 := bt_at (⟨#[48, 49, 50, 51, 52, 53, 54, 55, 56, 57, 65, 66, 67, 68, 69, 70]⟩ : ByteArray) (ji14);replace p17 := eq_true p17;replace q17 := eq_true q17;have p20 : 0 ≤ ((Go.bits .and .u8 t420 15) : Int) := ofD;have q20 : (Go.bits .and .u8 t420 15) < (16 : Int) := ofD;have hx20 := bt_at (⟨#[48, 49, 50, 51, 52, 53, 54, 55, 56, 57, 65, 66, 67, 68, 69, 70]⟩ : ByteArray) (Go.bits .and .u8 t420 15);replace p20 := eq_true p20;replace q20 := eq_true q20;refine start_ (n := 10) (S := fun w' => True) (ds := []) #[false, false, false, false, false, false, false, false, false, false] (by kernel_rfl) rfl rfl trivial (fun hHeld => ?_); refine with_tabW impl_EscNorm.tab16 impl_EscNorm.bits16 (fun HT_ HW_ => ?_);generalize w22.drew = w23 at HO_4 HB hHeld ⊢;refine pureZ 0 (some 40) #[true, false, false, false, false, false, false, false, false, false] ?_;refine pureZ 1 (some 41) #[true, true, false, false, false, false, false, false, false, false] ?_;refine pureZ 2 (some 42) #[true, true, true, false, false, false, false, false, false, false] ?_;refine pureZ 4 (some 44) #[true, true, true, false, true, false, false, false, false, false] ?_;refine pureZ 5 (some 45) #[true, true, true, false, true, true, false, false, false, false] ?_;refine take_ (i := 3) (N := some 43) (v := ?_) (a' := ?_) #[true, true, true, true, true, true, false, false, false, false] rfl rfl (take_ofW HT_.out HW_.out (by kernel_rfl)) (fun _ _ _ h => h) (Or.inl ⟨by rfl, ?_⟩) hHeld ?_ ?_;rotate_left
              ·intro w' _
               go_simp
               with_reducible rfl
              rotate_left
              ·simp only [Act.put, List.setIfInBounds_toArray, List.set_cons_zero, List.set_cons_succ, i64_w, i32_w]
               rfl
              refine take_ (i := 6) (N := some 46) (v := ?_) (a' := ?_) #[true, true, true, true, true, true, true, false, false, false] rfl rfl (take_ofW HT_.out HW_.out (by kernel_rfl)) (fun _ _ _ h => h) (Or.inl ⟨by rfl, ?_⟩) hHeld ?_ ?_;rotate_left
              ·intro w' _
               go_simp
               with_reducible rfl
              rotate_left
              ·simp only [Act.put, List.setIfInBounds_toArray, List.set_cons_zero, List.set_cons_succ, i64_w, i32_w]
               rfl
              refine one_ (i := 7) (N := some 47) #[true, true, true, true, true, true, true, true, false, false] rfl rfl (one_of HT_.out (by kernel_rfl)) (by decide) (fun K hK => ?_);refine Kd.R_lit_step (Kd.int .u8) _ 5 ?hg (N := 47) ?hd (xs := ([37, bt (⟨#[48, 49, 50, 51, 52, 53, 54, 55, 56, 57, 65, 66, 67, 68, 69, 70]⟩ : ByteArray) (ji14), bt (⟨#[48, 49, 50, 51, 52, 53, 54, 55, 56, 57, 65, 66, 67, 68, 69, 70]⟩ : ByteArray) (Go.bits .and .u8 t420 15)] : List Int)) (inner := [.int .u8 37, .int .u8 (bt (⟨#[48, 49, 50, 51, 52, 53, 54, 55, 56, 57, 65, 66, 67, 68, 69, 70]⟩ : ByteArray) (ji14)), .int .u8 (bt (⟨#[48, 49, 50, 51, 52, 53, 54, 55, 56, 57, 65, 66, 67, 68, 69, 70]⟩ : ByteArray) (Go.bits .and .u8 t420 15))]) (ok := fun _ => True) (okp := fun _ => True) ?hr ?hp (fun _ hk => hk) trivial (Below.refl _ _) (Nat.le_refl _) (by simp) ?_; (case hd => rfl); (case hg => rfl); (case hr => exact zz19); (case hp => exact (Reps.one (show Kd.M (Kd.int .u8) _ _ _ 37 [.int .u8 37] from rfl) (Reps.one (show Kd.M (Kd.int .u8) _ _ _ (bt (⟨#[48, 49, 50, 51, 52, 53, 54, 55, 56, 57, 65, 66, 67, 68, 69, 70]⟩ : ByteArray) (ji14)) [.int .u8 (bt (⟨#[48, 49, 50, 51, 52, 53, 54, 55, 56, 57, 65, 66, 67, 68, 69, 70]⟩ : ByteArray) (ji14))] from rfl) (Reps.one (show Kd.M (Kd.int .u8) _ _ _ (bt (⟨#[48, 49, 50, 51, 52, 53, 54, 55, 56, 57, 65, 66, 67, 68, 69, 70]⟩ : ByteArray) (Go.bits .and .u8 t420 15)) [.int .u8 (bt (⟨#[48, 49, 50, 51, 52, 53, 54, 55, 56, 57, 65, 66, 67, 68, 69, 70]⟩ : ByteArray) (Go.bits .and .u8 t420 15))] from rfl) (Reps.none _ _)))));intro v427 w24 ho25 hb hg_ hnew_;clear hg_ hnew_;(first | rw [← Ny426.out] at ho25 | (simp only [Int.reduceToNat] at ho25; rw [← Ny426.out] at ho25))
              have HO428 := Aside0.mk (Kd.R_lower (Kd.R_new' ho25 (Kd.R_lt (zz28 HO_4))) (below_size (zz0 HB)));replace HO_4 := Aside0.mk (Kd.R_elder' (zz28 HO_4) (Kd.R_base ho25) hb);replace HB := Aside0.mk (below_step (zz0 HB) hb);clear hb ho25;obtain ⟨Ao27, co27, eo27⟩ := Kd.R_slice HO428.out;(first | subst eo27 | (injection eo27 with f1_ f2_ f3_; have f4_ := f1_.symm; have f5_ := f3_.symm; clear f1_ f2_ f3_; subst f4_; subst f5_))
              refine hK.out _ _ trivial (fun hHeld => ?_);clear hK K;refine norm_ (a' := ?_) ?_ ?_;rotate_left
              ·show Act.put _ (some 47) _ = _
               simp only [Act.put, List.setIfInBounds_toArray, List.set_cons_zero, List.set_cons_succ, i64_w, i32_w]
               rfl
              refine one_ (i := 8) (N := some 48) #[true, true, true, true, true, true, true, true, true, false] rfl rfl (one_of HT_.out (by kernel_rfl)) (by decide) (fun K hK => ?_);refine Kd.R_append_rows_step (Kd.int .u8) (w0 := w) w.heap.size (by rfl) (.tmp 40) (.tmp 47) 61 5 (.int .u8 0) 1 rfl Tryz.underlying61 info5 rfl (by decide) (by omega) u4 x4_1 y426 _ _ _ (fun k_ => some k_ ≠ (.slice Ao27 y426.length co27 : Value).ownBlock) (fun _ => False) rfl rfl ?aO ?aR (fun _ _ h => h) (fun _ h => h.elim) ?aF ?aB ?aS ?aL ?_;(case aR => exact (zz39 HO428))
              (case aB => exact (zz0 HB))
              (case aF => exact (fun k_ hk => Kd.fresh' (Kd.R_lt (zz28 HO428)) k_ hk))
              (case aO => exact (zz34 HO_4))
              (case aS => exact (below_size (zz0 HB)))
              (case aL => exact (zz5 LMc21))
              intro v430 w26 ho hb hg hat;rw [← Ny429.out] at ho;replace HO428 := Aside0.mk (Kd.R_after (ok := (fun _ => True)) (zz28 HO428) hg hat);replace HB := Aside0.mk (hb);have HO431 := Aside0.mk (ho);clear HO_4;clear ho hb hg hat;refine hK.out _ _ trivial (fun hHeld => ?_);clear hK K;refine norm_ (a' := ?_) ?_ ?_;rotate_left
              ·show Act.put _ (some 48) _ = _
               simp only [Act.put, List.setIfInBounds_toArray, List.set_cons_zero, List.set_cons_succ, i64_w, i32_w]
               rfl
              refine pureZ 9 (some 4) #[true, true, true, true, true, true, true, true, true, true] ?_;refine done_ (done_of HT_.out (by kernel_rfl)) ?_;try go_wp2
              go_roundg k1
              case measure => have := HK1.out; omega
              case rel => exact ⟨(y429), (wrap64 ((wrap64 (x5_1 + 2)) + 1)), zz3, H', ⟨(zz5 HK1)⟩, ⟨(zz70 HO431)⟩, ⟨(zz0 HB)⟩⟩
             ·rw [if_neg c21] at H
              exact absurd H (by simp)
            ·rw [if_neg c19] at H
             exact absurd H (by simp)
           ·rw [if_neg c18] at H
            exact absurd H (by simp)
          ·rw [if_neg c16] at H
           exact absurd H (by simp)
         ·rw [if_neg c15] at H
          exact absurd H (by simp)
       ·replace c8 := Bool.eq_false_iff.mpr c8
        subst c8;rw [if_neg (show ¬ (false = true) by decide)] at H;simp only [Option.some.injEq, Prod.mk.injEq] at H
        obtain ⟨rfl, rfl⟩ := H;have p5 : 0 ≤ (x5_1 : Int) := ofD;have q5 : x5_1 < (a0.size : Int) := ofD;have hx5 := bt_at a0 x5_1;replace p5 := eq_true p5;replace q5 := eq_true q5;go_wp2_with (first | ((with_reducible refine gate_callee (f := 105) rfl ?_); refine gsL (some 26) Tryz.func105 #[.string a0, .int .i64 x5_1] ?_; (with_reducible refine (impl_signByte.calls a0 x5_1 t420 false _ A7.out).mono ?_); rintro e w28 ⟨rfl, hb⟩; refine ⟨_, rfl, ?_⟩; replace HO_4 := Aside0.mk (Kd.R_below (zz28 HO_4) hb); replace HB := Aside0.mk (below_step (zz0 HB) hb); (try clear hb)))
        go_ret2
        exact ⟨zz1, (zz0 HB)⟩
      ·rw [if_neg c6] at H
       have c6b0 : ((bt a0 x5_1) == 37) = false := beq_eq_false_iff_ne.mpr c6;have c6b1 : ((bt a0 x5_1) != 37) = true := bne_iff_ne.mpr c6;replace H := bindA H;obtain ⟨t432, A29, H⟩ := H;by_cases c30 : t432 = true
       ·subst c30
        rw [if_pos rfl] at H;by_cases c31 : x4_1.length < 140737488355328
        ·rw [if_pos c31] at H
         have LMc31 := Aside0.mk c31;clear c31;obtain ⟨y433, Ny433⟩ := toY (x4_1 ++ [bt a0 x5_1]);(first | with_reducible replace H := bindZ Ny433 H | rw [← Ny433.out] at H | skip)
         have H' := Aside0.mk H;clear H;have p5 : 0 ≤ (x5_1 : Int) := ofD;have q5 : x5_1 < (a0.size : Int) := ofD;have hx5 := bt_at a0 x5_1;replace p5 := eq_true p5;replace q5 := eq_true q5;go_wp2_with (first | ((with_reducible refine gate_callee (f := 106) rfl ?_); refine gsL (some 35) Tryz.func106 #[.int .u8 (bt a0 x5_1)] ?_; (with_reducible refine (impl_standsForItself.calls (bt a0 x5_1) true _ A29.out).mono ?_); rintro e w' ⟨rfl, ⟨nd, rfl⟩⟩; refine ⟨_, rfl, ?_⟩) | ((with_reducible refine gate_builtin (b := .append) (xs := #[.tmp 36, .tmp 38]) rfl ?_); at_builtin; refine Kd.R_append (Kd.int .u8) (w0 := w) w.heap.size rfl (.tmp 36) (.tmp 38) 61 5 (.int .u8 0) 1 rfl Tryz.underlying61 info5 rfl (by decide) (by omega) u4 x4_1 (bt a0 x5_1) [.int .u8 (bt a0 x5_1)] (fun _ => True) (fun _ => False) rfl rfl ?aP (fun _ hk => hk.elim) ?aF ?aO ?aB ?aS ?aL ?_; (case aP => exact rfl); (case aB => exact (zz0 HB)); (case aF => exact (fun _ _ => trivial)); (case aO => exact (zz28 HO_4)); (case aS => exact (below_size (zz0 HB))); (case aL => exact (zz5 LMc31)); intro v434 w32 ho hb hg hat; rw [← Ny433.out] at ho; replace HB := Aside0.mk (hb); have HO435 := Aside0.mk (ho); clear HO_4; clear ho hb hg hat))
         go_roundg k1
         case measure => have := HK1.out; omega
         case rel => exact ⟨(y433), (wrap64 (x5_1 + 1)), zz3, H', ⟨(zz5 HK1)⟩, ⟨(zz28 HO435)⟩, ⟨(zz0 HB)⟩⟩
        ·rw [if_neg c31] at H
         exact absurd H (by simp)
       ·replace c30 := Bool.eq_false_iff.mpr c30
        subst c30;rw [if_neg (show ¬ (false = true) by decide)] at H;obtain ⟨ji33, hji33⟩ : ∃ j_ : Int, ((bt a0 x5_1) / 16) = j_ := ⟨_, rfl⟩;replace H : (if 0 ≤ (ji33) then (if (ji33) < 16 then (if 0 ≤ (Go.bits .and .u8 (bt a0 x5_1) 15) then (if (Go.bits .and .u8 (bt a0 x5_1) 15) < 16 then ((some (([37, bt (⟨#[48, 49, 50, 51, 52, 53, 54, 55, 56, 57, 65, 66, 67, 68, 69, 70]⟩ : ByteArray) (ji33), bt (⟨#[48, 49, 50, 51, 52, 53, 54, 55, 56, 57, 65, 66, 67, 68, 69, 70]⟩ : ByteArray) (Go.bits .and .u8 (bt a0 x5_1) 15)] : List Int) : List Int)).bind fun y436 => (if x4_1.length + y436.length < 140737488355328 then (impl_EscNorm.l0 k1 a0 (x4_1 ++ y436) (wrap64 (x5_1 + 1))) else (none))) else (none)) else (none)) else (none)) else (none)) = some (r1, r2) := by first | (rw [hji33] at H; exact H) | (simp only [hji33] at H ⊢; exact H)
        (try rw [hji33] at A29)
        by_cases c34 : 0 ≤ (ji33)
        ·rw [if_pos c34] at H
         have c34b0 : decide (0 ≤ (ji33)) = true := decide_eq_true c34;clear c34;by_cases c35 : (ji33) < 16
         ·rw [if_pos c35] at H
          have c35b0 : decide ((ji33) < 16) = true := decide_eq_true c35;clear c35;by_cases c37 : 0 ≤ (Go.bits .and .u8 (bt a0 x5_1) 15)
          ·rw [if_pos c37] at H
           have c37b0 : decide (0 ≤ (Go.bits .and .u8 (bt a0 x5_1) 15)) = true := decide_eq_true c37;clear c37;by_cases c38 : (Go.bits .and .u8 (bt a0 x5_1) 15) < 16
           ·rw [if_pos c38] at H
            have c38b0 : decide ((Go.bits .and .u8 (bt a0 x5_1) 15) < 16) = true := decide_eq_true c38;clear c38;obtain ⟨y436, Ny436⟩ := toY (([37, bt (⟨#[48, 49, 50, 51, 52, 53, 54, 55, 56, 57, 65, 66, 67, 68, 69, 70]⟩ : ByteArray) (ji33), bt (⟨#[48, 49, 50, 51, 52, 53, 54, 55, 56, 57, 65, 66, 67, 68, 69, 70]⟩ : ByteArray) (Go.bits .and .u8 (bt a0 x5_1) 15)] : List Int));(first | with_reducible replace H := bindZ Ny436 H | rw [← Ny436.out] at H | skip)
            by_cases c40 : x4_1.length + y436.length < 140737488355328
            ·rw [if_pos c40] at H
             have LMc40 := Aside0.mk c40;clear c40;obtain ⟨y439, Ny439⟩ := toY (x4_1 ++ y436);(first | with_reducible replace H := bindZ Ny439 H | rw [← Ny439.out] at H | skip)
             have H' := Aside0.mk H;clear H;have p5 : 0 ≤ (x5_1 : Int) := ofD;have q5 : x5_1 < (a0.size : Int) := ofD;have hx5 := bt_at a0 x5_1;replace p5 := eq_true p5;replace q5 := eq_true q5;try go_wp2_with (first | ((with_reducible refine gate_callee (f := 106) rfl ?_); refine gsL (some 35) Tryz.func106 #[.int .u8 (bt a0 x5_1)] ?_; (with_reducible refine (impl_standsForItself.calls (bt a0 x5_1) false _ A29.out).mono ?_); rintro e w' ⟨rfl, ⟨nd, rfl⟩⟩; refine ⟨_, rfl, ?_⟩))
             (try (rw [drewN_self wr]; generalize hq_ : World.drewN wr _ = wr; have n0_ : Aside0 (Kd.R (Kd.int .u8) 5 wr w.heap.size (fun _ => True) u4 x4_1) := ⟨(by rw [← hq_]; exact (zz28 HO_4))⟩; have n1_ : Aside0 (Below w.heap.size w wr) := ⟨(by rw [← hq_]; exact (zz0 HB))⟩; clear HO_4 HB hq_; have HO_4 := n0_; have HB := n1_; clear n0_ n1_))
             replace HO_4 := Aside0.mk (Kd.R_drew HO_4.out);replace HB := Aside0.mk (below_drew1 HB.out);have p36 : 0 ≤ ((ji33) : Int) := ofD;have q36 : (ji33) < (16 : Int) := ofD;have hx36 := bt_at (⟨#[48, 49, 50, 51, 52, 53, 54, 55, 56, 57, 65, 66, 67, 68, 69, 70]⟩ : ByteArray) (ji33);replace p36 := eq_true p36;replace q36 := eq_true q36;have p39 : 0 ≤ ((Go.bits .and .u8 (bt a0 x5_1) 15) : Int) := ofD;have q39 : (Go.bits .and .u8 (bt a0 x5_1) 15) < (16 : Int) := ofD;have hx39 := bt_at (⟨#[48, 49, 50, 51, 52, 53, 54, 55, 56, 57, 65, 66, 67, 68, 69, 70]⟩ : ByteArray) (Go.bits .and .u8 (bt a0 x5_1) 15);replace p39 := eq_true p39;replace q39 := eq_true q39;refine start_ (n := 10) (S := fun w' => True) (ds := []) #[false, false, false, false, false, false, false, false, false, false] (by kernel_rfl) rfl rfl trivial (fun hHeld => ?_); refine with_tabW impl_EscNorm.tab16 impl_EscNorm.bits16 (fun HT_ HW_ => ?_);generalize wr.drew = w41 at HO_4 HB hHeld ⊢;refine pureZ 0 (some 40) #[true, false, false, false, false, false, false, false, false, false] ?_;refine pureZ 1 (some 41) #[true, true, false, false, false, false, false, false, false, false] ?_;refine pureZ 2 (some 42) #[true, true, true, false, false, false, false, false, false, false] ?_;refine pureZ 4 (some 44) #[true, true, true, false, true, false, false, false, false, false] ?_;refine pureZ 5 (some 45) #[true, true, true, false, true, true, false, false, false, false] ?_;refine take_ (i := 3) (N := some 43) (v := ?_) (a' := ?_) #[true, true, true, true, true, true, false, false, false, false] rfl rfl (take_ofW HT_.out HW_.out (by kernel_rfl)) (fun _ _ _ h => h) (Or.inl ⟨by rfl, ?_⟩) hHeld ?_ ?_;rotate_left
             ·intro w' _
              go_simp
              with_reducible rfl
             rotate_left
             ·simp only [Act.put, List.setIfInBounds_toArray, List.set_cons_zero, List.set_cons_succ, i64_w, i32_w]
              rfl
             refine take_ (i := 6) (N := some 46) (v := ?_) (a' := ?_) #[true, true, true, true, true, true, true, false, false, false] rfl rfl (take_ofW HT_.out HW_.out (by kernel_rfl)) (fun _ _ _ h => h) (Or.inl ⟨by rfl, ?_⟩) hHeld ?_ ?_;rotate_left
             ·intro w' _
              go_simp
              with_reducible rfl
             rotate_left
             ·simp only [Act.put, List.setIfInBounds_toArray, List.set_cons_zero, List.set_cons_succ, i64_w, i32_w]
              rfl
             refine one_ (i := 7) (N := some 47) #[true, true, true, true, true, true, true, true, false, false] rfl rfl (one_of HT_.out (by kernel_rfl)) (by decide) (fun K hK => ?_);refine Kd.R_lit_step (Kd.int .u8) _ 5 ?hg (N := 47) ?hd (xs := ([37, bt (⟨#[48, 49, 50, 51, 52, 53, 54, 55, 56, 57, 65, 66, 67, 68, 69, 70]⟩ : ByteArray) (ji33), bt (⟨#[48, 49, 50, 51, 52, 53, 54, 55, 56, 57, 65, 66, 67, 68, 69, 70]⟩ : ByteArray) (Go.bits .and .u8 (bt a0 x5_1) 15)] : List Int)) (inner := [.int .u8 37, .int .u8 (bt (⟨#[48, 49, 50, 51, 52, 53, 54, 55, 56, 57, 65, 66, 67, 68, 69, 70]⟩ : ByteArray) (ji33)), .int .u8 (bt (⟨#[48, 49, 50, 51, 52, 53, 54, 55, 56, 57, 65, 66, 67, 68, 69, 70]⟩ : ByteArray) (Go.bits .and .u8 (bt a0 x5_1) 15))]) (ok := fun _ => True) (okp := fun _ => True) ?hr ?hp (fun _ hk => hk) trivial (Below.refl _ _) (Nat.le_refl _) (by simp) ?_; (case hd => rfl); (case hg => rfl); (case hr => exact zz19); (case hp => exact (Reps.one (show Kd.M (Kd.int .u8) _ _ _ 37 [.int .u8 37] from rfl) (Reps.one (show Kd.M (Kd.int .u8) _ _ _ (bt (⟨#[48, 49, 50, 51, 52, 53, 54, 55, 56, 57, 65, 66, 67, 68, 69, 70]⟩ : ByteArray) (ji33)) [.int .u8 (bt (⟨#[48, 49, 50, 51, 52, 53, 54, 55, 56, 57, 65, 66, 67, 68, 69, 70]⟩ : ByteArray) (ji33))] from rfl) (Reps.one (show Kd.M (Kd.int .u8) _ _ _ (bt (⟨#[48, 49, 50, 51, 52, 53, 54, 55, 56, 57, 65, 66, 67, 68, 69, 70]⟩ : ByteArray) (Go.bits .and .u8 (bt a0 x5_1) 15)) [.int .u8 (bt (⟨#[48, 49, 50, 51, 52, 53, 54, 55, 56, 57, 65, 66, 67, 68, 69, 70]⟩ : ByteArray) (Go.bits .and .u8 (bt a0 x5_1) 15))] from rfl) (Reps.none _ _)))));intro v437 w42 ho43 hb hg_ hnew_;clear hg_ hnew_;(first | rw [← Ny436.out] at ho43 | (simp only [Int.reduceToNat] at ho43; rw [← Ny436.out] at ho43))
             have HO438 := Aside0.mk (Kd.R_lower (Kd.R_new' ho43 (Kd.R_lt (zz28 HO_4))) (below_size (zz0 HB)));replace HO_4 := Aside0.mk (Kd.R_elder' (zz28 HO_4) (Kd.R_base ho43) hb);replace HB := Aside0.mk (below_step (zz0 HB) hb);clear hb ho43;obtain ⟨Ao45, co45, eo45⟩ := Kd.R_slice HO438.out;(first | subst eo45 | (injection eo45 with f1_ f2_ f3_; have f4_ := f1_.symm; have f5_ := f3_.symm; clear f1_ f2_ f3_; subst f4_; subst f5_))
             refine hK.out _ _ trivial (fun hHeld => ?_);clear hK K;refine norm_ (a' := ?_) ?_ ?_;rotate_left
             ·show Act.put _ (some 47) _ = _
              simp only [Act.put, List.setIfInBounds_toArray, List.set_cons_zero, List.set_cons_succ, i64_w, i32_w]
              rfl
             refine one_ (i := 8) (N := some 48) #[true, true, true, true, true, true, true, true, true, false] rfl rfl (one_of HT_.out (by kernel_rfl)) (by decide) (fun K hK => ?_);refine Kd.R_append_rows_step (Kd.int .u8) (w0 := w) w.heap.size (by rfl) (.tmp 40) (.tmp 47) 61 5 (.int .u8 0) 1 rfl Tryz.underlying61 info5 rfl (by decide) (by omega) u4 x4_1 y436 _ _ _ (fun k_ => some k_ ≠ (.slice Ao45 y436.length co45 : Value).ownBlock) (fun _ => False) rfl rfl ?aO ?aR (fun _ _ h => h) (fun _ h => h.elim) ?aF ?aB ?aS ?aL ?_;(case aR => exact (zz39 HO438))
             (case aB => exact (zz0 HB))
             (case aF => exact (fun k_ hk => Kd.fresh' (Kd.R_lt (zz28 HO438)) k_ hk))
             (case aO => exact (zz34 HO_4))
             (case aS => exact (below_size (zz0 HB)))
             (case aL => exact (zz5 LMc40))
             intro v440 w44 ho hb hg hat;rw [← Ny439.out] at ho;replace HO438 := Aside0.mk (Kd.R_after (ok := (fun _ => True)) (zz28 HO438) hg hat);replace HB := Aside0.mk (hb);have HO441 := Aside0.mk (ho);clear HO_4;clear ho hb hg hat;refine hK.out _ _ trivial (fun hHeld => ?_);clear hK K;refine norm_ (a' := ?_) ?_ ?_;rotate_left
             ·show Act.put _ (some 48) _ = _
              simp only [Act.put, List.setIfInBounds_toArray, List.set_cons_zero, List.set_cons_succ, i64_w, i32_w]
              rfl
             refine pureZ 9 (some 4) #[true, true, true, true, true, true, true, true, true, true] ?_;refine done_ (done_of HT_.out (by kernel_rfl)) ?_;try go_wp2
             go_roundg k1
             case measure => have := HK1.out; omega
             case rel => exact ⟨(y439), (wrap64 (x5_1 + 1)), zz3, H', ⟨(zz5 HK1)⟩, ⟨(zz70 HO441)⟩, ⟨(zz0 HB)⟩⟩
            ·rw [if_neg c40] at H
             exact absurd H (by simp)
           ·rw [if_neg c38] at H
            exact absurd H (by simp)
          ·rw [if_neg c37] at H
           exact absurd H (by simp)
         ·rw [if_neg c35] at H
          exact absurd H (by simp)
        ·rw [if_neg c34] at H
         exact absurd H (by simp)
     ·rw [if_neg c4] at H
      exact absurd H (by simp)
    ·rw [if_neg c3] at H
     have c3b0 : decide (x5_1 < (a0.size : Int)) = false := decide_eq_false c3;clear c3;simp only [Option.some.injEq, Prod.mk.injEq] at H
     obtain ⟨rfl, rfl⟩ := H;have hcv46 := own_string (P := Tryz.prog) Tryz.underlying61 Tryz.underlying5 Tryz.underlying9 (Kd.own_of_R HO_4.out);go_wp2
     go_ret2
     exact ⟨zz1, (zz0 HB)⟩
def impl_allSmallLetters.l0 : Nat → ByteArray → Int → Option (Bool)
 | 0, _, _ => none
 | k + 1, x0, x3 => if x3 < (x0.size : Int) then (if 0 ≤ x3 then (if (bt x0 x3) < 97 then (some false) else (if (bt x0 x3) > 122 then (some false) else (impl_allSmallLetters.l0 k x0 (wrap64 (x3 + 1))))) else (none)) else (some true)
def impl_allSmallLetters.f (k : Nat) (a0 : ByteArray) : Option (Bool) := impl_allSmallLetters.l0 k a0 0
theorem impl_allSmallLetters.mono_l : ∀ k, (∀ y0 y1, LeO (impl_allSmallLetters.l0 k y0 y1) (impl_allSmallLetters.l0 (k + 1) y0 y1))
 | 0 => fun _ _ r h => by simp [impl_allSmallLetters.l0] at h
 | k + 1 => by
  have ih0 := impl_allSmallLetters.mono_l k
  ·intro y0 y1
   unfold impl_allSmallLetters.l0
   repeat' first | (with_reducible first | exact ih0 _ _ | exact LeO.refl _ | exact LeO.none _ | refine LeO.ite ?_ ?_ | refine LeO.bind ?_ (fun _ => ?_)) | exact LeO.none _ | refine LeO.ite ?_ ?_ | refine LeO.bind ?_ (fun _ => ?_)
theorem impl_allSmallLetters.mono : ∀ a0 k, LeO (impl_allSmallLetters.f k a0) (impl_allSmallLetters.f (k + 1) a0) := by
 intro a0 k;have ih0 := impl_allSmallLetters.mono_l k;unfold impl_allSmallLetters.f
 repeat' first | (with_reducible first | exact ih0 _ _ | exact LeO.refl _ | exact LeO.none _ | refine LeO.ite ?_ ?_ | refine LeO.bind ?_ (fun _ => ?_)) | exact LeO.none _ | refine LeO.ite ?_ ?_ | refine LeO.bind ?_ (fun _ => ?_)
set_option maxHeartbeats 8000000 in
set_option maxRecDepth 100000 in
theorem impl_allSmallLetters.calls (k : Nat) (a0 : ByteArray) (r : Bool) (w : World) (h : impl_allSmallLetters.f k a0 = some r) :
  Calls Tryz.prog 94 #[.string a0] w fun e w' => e = .returned (.bool r) ∧ Drawn0 w w' := by
 have H : (impl_allSmallLetters.l0 k a0 0) = some r := h;clear h;have H' := Aside0.mk H;clear H;go_enter Tryz.func94, Tryz.ntmps94;go_wp2
 go_loopg [3] k (fun kq v3 w' => ∃ (x3_1 : Int), v3 = .int .i64 x3_1 ∧ Aside0 (impl_allSmallLetters.l0 kq a0 x3_1 = some r) ∧ Aside0 (kq ≤ k) ∧ Drawn0 w w')
 case atStart => exact ⟨(0), zz3, H', ⟨Nat.le_refl _⟩, zz6⟩
 case round =>
  clear H';obtain ⟨x3_1, rfl, HA, HK1, ⟨m1, rfl⟩⟩ := hrel;cases gk with
  | zero => exact absurd HA.out (by simp [impl_allSmallLetters.l0])
  | succ k1 =>
   have H := HA.out;clear HA;simp only [impl_allSmallLetters.l0] at H
   by_cases c2 : x3_1 < (a0.size : Int)
   ·rw [if_pos c2] at H
    have c2b0 : decide (x3_1 < (a0.size : Int)) = true := decide_eq_true c2;clear c2;by_cases c3 : 0 ≤ x3_1
    ·rw [if_pos c3] at H
     have c3b0 : decide (0 ≤ x3_1) = true := decide_eq_true c3;clear c3;by_cases c5 : (bt a0 x3_1) < 97
     ·rw [if_pos c5] at H
      have c5b0 : decide ((bt a0 x3_1) < 97) = true := decide_eq_true c5;clear c5;obtain rfl := Option.some.inj H;have p4 : 0 ≤ (x3_1 : Int) := ofD;have q4 : x3_1 < (a0.size : Int) := ofD;have hx4 := bt_at a0 x3_1;replace p4 := eq_true p4;replace q4 := eq_true q4;go_wp2
      go_ret
      exact ⟨zz3, zz6⟩
     ·rw [if_neg c5] at H
      have c5b0 : decide ((bt a0 x3_1) < 97) = false := decide_eq_false c5;clear c5;by_cases c7 : (bt a0 x3_1) > 122
      ·rw [if_pos c7] at H
       have c7b0 : decide (122 < (bt a0 x3_1)) = true := decide_eq_true c7;clear c7;obtain rfl := Option.some.inj H;have p4 : 0 ≤ (x3_1 : Int) := ofD;have q4 : x3_1 < (a0.size : Int) := ofD;have hx4 := bt_at a0 x3_1;replace p4 := eq_true p4;replace q4 := eq_true q4;have p6 : 0 ≤ (x3_1 : Int) := ofD;have q6 : x3_1 < (a0.size : Int) := ofD;have hx6 := bt_at a0 x3_1;replace p6 := eq_true p6;replace q6 := eq_true q6;go_wp2
       go_ret
       exact ⟨zz3, zz6⟩
      ·rw [if_neg c7] at H
       have c7b0 : decide (122 < (bt a0 x3_1)) = false := decide_eq_false c7;clear c7;have H' := Aside0.mk H;clear H;have p4 : 0 ≤ (x3_1 : Int) := ofD;have q4 : x3_1 < (a0.size : Int) := ofD;have hx4 := bt_at a0 x3_1;replace p4 := eq_true p4;replace q4 := eq_true q4;have p6 : 0 ≤ (x3_1 : Int) := ofD;have q6 : x3_1 < (a0.size : Int) := ofD;have hx6 := bt_at a0 x3_1;replace p6 := eq_true p6;replace q6 := eq_true q6;go_wp2
       go_roundg k1
       case measure => have := HK1.out; omega
       case rel => exact ⟨(wrap64 (x3_1 + 1)), zz3, H', ⟨(zz5 HK1)⟩, zz6⟩
    ·rw [if_neg c3] at H
     exact absurd H (by simp)
   ·rw [if_neg c2] at H
    have c2b0 : decide (x3_1 < (a0.size : Int)) = false := decide_eq_false c2;clear c2;obtain rfl := Option.some.inj H;go_wp2
    go_ret
    exact ⟨zz3, zz6⟩
def impl_isHouse.f (k : Nat) (a0 : ByteArray) : Option (Bool) := if (a0.size : Int) ≥ 1 then (if (a0.size : Int) ≤ 5 then ((impl_allSmallLetters.f k a0).bind fun t415 => (some t415)) else (some false)) else (some false)
theorem impl_isHouse.mono : ∀ a0 k, LeO (impl_isHouse.f k a0) (impl_isHouse.f (k + 1) a0) := by
 intro a0 k;unfold impl_isHouse.f
 repeat' first | (with_reducible first | exact impl_allSmallLetters.mono _ _ | exact LeO.refl _ | exact LeO.none _ | refine LeO.ite ?_ ?_ | refine LeO.bind ?_ (fun _ => ?_)) | exact LeO.none _ | refine LeO.ite ?_ ?_ | refine LeO.bind ?_ (fun _ => ?_)
set_option maxHeartbeats 8000000 in
set_option maxRecDepth 100000 in
theorem impl_isHouse.calls (k : Nat) (a0 : ByteArray) (r : Bool) (w : World) (h : impl_isHouse.f k a0 = some r) :
  Calls Tryz.prog 72 #[.string a0] w fun e w' => e = .returned (.bool r) ∧ Drawn0 w w' := by
 have H : (if (a0.size : Int) ≥ 1 then (if (a0.size : Int) ≤ 5 then ((impl_allSmallLetters.f k a0).bind fun t415 => (some t415)) else (some false)) else (some false)) = some r := h;clear h;by_cases c2 : (a0.size : Int) ≥ 1
 ·rw [if_pos c2] at H
  have c2b0 : decide (1 ≤ (a0.size : Int)) = true := decide_eq_true c2;have c2b1 : decide (1 ≤ a0.size) = true := decide_eq_true (by omega);clear c2;by_cases c3 : (a0.size : Int) ≤ 5
  ·rw [if_pos c3] at H
   have c3b0 : decide ((a0.size : Int) ≤ 5) = true := decide_eq_true c3;have c3b1 : decide (a0.size ≤ 5) = true := decide_eq_true (by omega);clear c3;replace H := bindA H;obtain ⟨t415, A4, H⟩ := H;obtain rfl := Option.some.inj H;go_enter Tryz.func72, Tryz.ntmps72;go_wp2_with (first | (go_at_call 94; (with_reducible refine (impl_allSmallLetters.calls k a0 t415 _ A4.out).mono ?_); rintro e w' ⟨rfl, ⟨nd, rfl⟩⟩))
   go_ret
   exact ⟨zz3, zz6⟩
  ·rw [if_neg c3] at H
   have c3b0 : decide ((a0.size : Int) ≤ 5) = false := decide_eq_false c3;have c3b1 : decide (a0.size ≤ 5) = false := decide_eq_false (by omega);clear c3;obtain rfl := Option.some.inj H;go_enter Tryz.func72, Tryz.ntmps72;go_wp2
   go_ret
   exact ⟨zz3, zz6⟩
 ·rw [if_neg c2] at H
  have c2b0 : decide (1 ≤ (a0.size : Int)) = false := decide_eq_false c2;have c2b1 : decide (1 ≤ a0.size) = false := decide_eq_false (by omega);clear c2;obtain rfl := Option.some.inj H;go_enter Tryz.func72, Tryz.ntmps72;go_wp2
  go_ret
  exact ⟨zz3, zz6⟩
def impl_isNormal.f (k : Nat) (a0 : ByteArray) : Option (Bool) := (impl_EscNorm.f k a0).bind fun bt442 => (if bt442.2 = true then (some (bt442.1.toList == a0.toList)) else (some false))
theorem impl_isNormal.mono : ∀ a0 k, LeO (impl_isNormal.f k a0) (impl_isNormal.f (k + 1) a0) := by
 intro a0 k;unfold impl_isNormal.f
 repeat' first | (with_reducible first | exact impl_EscNorm.mono _ _ | exact LeO.refl _ | exact LeO.none _ | refine LeO.ite ?_ ?_ | refine LeO.bind ?_ (fun _ => ?_)) | exact LeO.none _ | refine LeO.ite ?_ ?_ | refine LeO.bind ?_ (fun _ => ?_)
set_option maxHeartbeats 8000000 in
set_option maxRecDepth 100000 in
theorem impl_isNormal.calls (k : Nat) (a0 : ByteArray) (r : Bool) (w : World) (h : impl_isNormal.f k a0 = some r) :
  Calls Tryz.prog 73 #[.string a0] w fun e w' => e = .returned (.bool r) ∧ Below w.heap.size w w' := by
 have HB := Aside0.mk (Below.refl w.heap.size w);have H : ((impl_EscNorm.f k a0).bind fun bt442 => (if bt442.2 = true then (some (bt442.1.toList == a0.toList)) else (some false))) = some r := h;clear h;replace H := bindA H;obtain ⟨⟨t442, t443⟩, A2, H⟩ := H;try dsimp -simprocs only at H
 by_cases c3 : t443 = true
 ·subst c3
  rw [if_pos rfl] at H;obtain rfl := Option.some.inj H;go_enter Tryz.func73, Tryz.ntmps73;go_wp2_with (first | ((with_reducible refine gate_callee (f := 88) rfl ?_); refine gsL (some 7) Tryz.func88 #[.string a0] ?_; (with_reducible refine (impl_EscNorm.calls k a0 t442 true _ A2.out).mono ?_); rintro e w4 ⟨rfl, hb⟩; refine ⟨_, rfl, ?_⟩; replace HB := Aside0.mk (below_step (zz0 HB) hb); (try clear hb)))
  go_ret
  exact ⟨zz1, (zz0 HB)⟩
 ·replace c3 := Bool.eq_false_iff.mpr c3
  subst c3;rw [if_neg (show ¬ (false = true) by decide)] at H;obtain rfl := Option.some.inj H;go_enter Tryz.func73, Tryz.ntmps73;go_wp2_with (first | ((with_reducible refine gate_callee (f := 88) rfl ?_); refine gsL (some 7) Tryz.func88 #[.string a0] ?_; (with_reducible refine (impl_EscNorm.calls k a0 t442 false _ A2.out).mono ?_); rintro e w5 ⟨rfl, hb⟩; refine ⟨_, rfl, ?_⟩; replace HB := Aside0.mk (below_step (zz0 HB) hb); (try clear hb)))
  go_ret
  exact ⟨zz1, (zz0 HB)⟩
mutual
def impl_AddrOk.j0 : Nat → Bool → ByteArray → List ByteArray → Bool → ByteArray → Option (Bool)
 | 0, _, _, _, _, _ => none
 | k + 1, x14, x445000, x445001, x445002, x445003 => if x14 = true then (some false) else (impl_AddrOk.l0 k x445001 (x445001.length : Int) 0 x445000 x445001 x445002 x445003)
def impl_AddrOk.l0 : Nat → List ByteArray → Int → Int → ByteArray → List ByteArray → Bool → ByteArray → Option (Bool)
 | 0, _, _, _, _, _, _, _ => none
 | k + 1, x16, x17, x18, x445000, x445001, x445002, x445003 => if x18 < x17 then (if 0 ≤ x18 then (if x18 < (x16.length : Int) then (if (rdOf ByteArray.empty x16 x18).toList = ([] : List UInt8) then (some false) else (if (rdOf ByteArray.empty x16 x18).toList = ([46] : List UInt8) then (some false) else (if (rdOf ByteArray.empty x16 x18).toList = ([46, 46] : List UInt8) then (some false) else ((impl_isNormal.f k (rdOf ByteArray.empty x16 x18)).bind fun t447 => (if t447 = true then (impl_AddrOk.l0 k x16 x17 (wrap64 (x18 + 1)) x445000 x445001 x445002 x445003) else (some false)))))) else (none)) else (none)) else ((impl_isNormal.f k x445003).bind fun t448 => (if t448 = true then (if x445002 = true then ((impl_writeAddr.f x445000 x445001 x445002 x445003).bind fun t449 => (some (decide ((t449.size : Int) ≤ 60)))) else (if x445003.toList = ([] : List UInt8) then ((impl_writeAddr.f x445000 x445001 x445002 x445003).bind fun t450 => (some (decide ((t450.size : Int) ≤ 60)))) else (some false))) else (some false)))
end
def impl_AddrOk.f (k : Nat) (a0_0 : ByteArray) (l0_1 : List ByteArray) (a0_2 : Bool) (a0_3 : ByteArray) : Option (Bool) := (impl_isHouse.f k a0_0).bind fun t445 => (if t445 = true then (impl_AddrOk.j0 k (decide ((l0_1.length : Int) > 5)) a0_0 l0_1 a0_2 a0_3) else (impl_AddrOk.j0 k true a0_0 l0_1 a0_2 a0_3))
theorem impl_AddrOk.mono_l : ∀ k, (∀ y0 y1 y2 y3 y4, LeO (impl_AddrOk.j0 k y0 y1 y2 y3 y4) (impl_AddrOk.j0 (k + 1) y0 y1 y2 y3 y4)) ∧ (∀ y0 y1 y2 y3 y4 y5 y6, LeO (impl_AddrOk.l0 k y0 y1 y2 y3 y4 y5 y6) (impl_AddrOk.l0 (k + 1) y0 y1 y2 y3 y4 y5 y6))
 | 0 => ⟨fun _ _ _ _ _ r h => by simp [impl_AddrOk.j0] at h, fun _ _ _ _ _ _ _ r h => by simp [impl_AddrOk.l0] at h⟩
 | k + 1 => by
  obtain ⟨ih0, ih1⟩ := impl_AddrOk.mono_l k;refine ⟨?_, ?_⟩
  ·intro y0 y1 y2 y3 y4
   unfold impl_AddrOk.j0
   repeat' first | (with_reducible first | exact ih0 _ _ _ _ _ | exact ih1 _ _ _ _ _ _ _ | exact impl_isHouse.mono _ _ | exact impl_isNormal.mono _ _ | exact LeO.refl _ | exact LeO.none _ | refine LeO.ite ?_ ?_ | refine LeO.bind ?_ (fun _ => ?_)) | exact LeO.none _ | refine LeO.ite ?_ ?_ | refine LeO.bind ?_ (fun _ => ?_)
  ·intro y0 y1 y2 y3 y4 y5 y6
   unfold impl_AddrOk.l0
   repeat' first | (with_reducible first | exact ih0 _ _ _ _ _ | exact ih1 _ _ _ _ _ _ _ | exact impl_isHouse.mono _ _ | exact impl_isNormal.mono _ _ | exact LeO.refl _ | exact LeO.none _ | refine LeO.ite ?_ ?_ | refine LeO.bind ?_ (fun _ => ?_)) | exact LeO.none _ | refine LeO.ite ?_ ?_ | refine LeO.bind ?_ (fun _ => ?_)
theorem impl_AddrOk.mono : ∀ a0 a1 a2 a3 k, LeO (impl_AddrOk.f k a0 a1 a2 a3) (impl_AddrOk.f (k + 1) a0 a1 a2 a3) := by
 intro a0 a1 a2 a3 k;obtain ⟨ih0, ih1⟩ := impl_AddrOk.mono_l k;unfold impl_AddrOk.f
 repeat' first | (with_reducible first | exact ih0 _ _ _ _ _ | exact ih1 _ _ _ _ _ _ _ | exact impl_isHouse.mono _ _ | exact impl_isNormal.mono _ _ | exact LeO.refl _ | exact LeO.none _ | refine LeO.ite ?_ ?_ | refine LeO.bind ?_ (fun _ => ?_)) | exact LeO.none _ | refine LeO.ite ?_ ?_ | refine LeO.bind ?_ (fun _ => ?_)
set_option maxHeartbeats 8000000 in
set_option maxRecDepth 100000 in
theorem impl_AddrOk.calls (k : Nat) (a0_0 : ByteArray) (A0_1 : Option Addr) (c0_1 : Nat) (l0_1 : List ByteArray) (a0_2 : Bool) (a0_3 : ByteArray) (r : Bool) (w : World) (hr0_1 : Kd.C Kd.string w A0_1 l0_1.length l0_1) (hc0_1 : l0_1.length ≤ c0_1) (h : impl_AddrOk.f k a0_0 l0_1 a0_2 a0_3 = some r) :
  Calls Tryz.prog 57 #[.agg #[.string a0_0, .slice A0_1 l0_1.length c0_1, .bool a0_2, .string a0_3]] w fun e w' => e = .returned (.bool r) ∧ Below w.heap.size w w' := by
 have hu52 := Tryz.underlying52;have HR0_1 := Aside0.mk hr0_1;have HC0_1 := Aside0.mk hc0_1;clear hr0_1 hc0_1;have HB := Aside0.mk (Below.refl w.heap.size w);have H : ((impl_isHouse.f k a0_0).bind fun t445 => (if t445 = true then (impl_AddrOk.j0 k (decide ((l0_1.length : Int) > 5)) a0_0 l0_1 a0_2 a0_3) else (impl_AddrOk.j0 k true a0_0 l0_1 a0_2 a0_3))) = some r := h;clear h;have HC2 := Aside0.mk H;clear H;go_enter Tryz.func57, Tryz.ntmps57;go_upto_region 1 with (first | ((with_reducible refine gate_dst (N := 1) rfl ?_); (try (refine gate_guard (by rfl) ?_; dsimp only)); refine boxE 1 #[.string a0_0, .slice A0_1 l0_1.length c0_1, .bool a0_2, .string a0_3] 52 ?_; intro gb444 hg w3 hbox hb; have BK444 := Aside0.mk (hbox); have GE444 := geB hg (zz0 HB); replace HB := Aside0.mk (below_step (zz0 HB) hb); clear hb hbox hg))
 (try simp only [Act.put, List.setIfInBounds_toArray, List.set_cons_zero, List.set_cons_succ])
 go_cut [14] (fun v14 wc => ∃ (kq : Nat) (x14_1 : Bool), v14 = .bool x14_1 ∧ Aside0 (impl_AddrOk.j0 kq x14_1 a0_0 l0_1 a0_2 a0_3 = some r) ∧ Aside0 (kq ≤ k) ∧ Aside0 (wc.heap[gb444]? = some (.cells #[.string a0_0, (.slice A0_1 l0_1.length c0_1), .bool a0_2, .string a0_3] 52 (0, 0))) ∧ Aside0 (Below w.heap.size w wc))
 case first =>
  have H := HC2.out;clear HC2;replace H := bindA H;obtain ⟨t445, A4, H⟩ := H;by_cases c5 : t445 = true
  ·subst c5
   rw [if_pos rfl] at H;have H' := Aside0.mk H;clear H;obtain ⟨_, _, _, _, _, _, _, _⟩ := cf4 BK444;go_wp2_with (first | ((with_reducible refine gate_callee (f := 72) rfl ?_); refine gsL (some 7) Tryz.func72 #[.string a0_0] ?_; (with_reducible refine (impl_isHouse.calls k a0_0 true _ A4.out).mono ?_); rintro e w' ⟨rfl, ⟨nd, rfl⟩⟩; refine ⟨_, rfl, ?_⟩))
   go_meet
   case rel => exact ⟨_, (decide ((l0_1.length : Int) > 5)), zz3, H', ⟨zz9⟩, ⟨(zz21 BK444)⟩, ⟨(zz2 HB GE444)⟩⟩
  ·replace c5 := Bool.eq_false_iff.mpr c5
   subst c5;rw [if_neg (show ¬ (false = true) by decide)] at H;have H' := Aside0.mk H;clear H;obtain ⟨_, _, _, _, _, _, _, _⟩ := cf4 BK444;go_wp2_with (first | ((with_reducible refine gate_callee (f := 72) rfl ?_); refine gsL (some 7) Tryz.func72 #[.string a0_0] ?_; (with_reducible refine (impl_isHouse.calls k a0_0 false _ A4.out).mono ?_); rintro e w' ⟨rfl, ⟨nd, rfl⟩⟩; refine ⟨_, rfl, ?_⟩))
   go_meet
   case rel => exact ⟨_, (true), zz3, H', ⟨zz9⟩, ⟨(zz21 BK444)⟩, ⟨(zz2 HB GE444)⟩⟩
 case rest =>
  clear HC2;obtain ⟨kq, x14_1, rfl, HA, HJ1, BK444, HB⟩ := hcut;cases kq with
  | zero => exact absurd HA.out (by simp [impl_AddrOk.j0])
  | succ kj1 =>
   have H := HA.out;clear HA;simp only [impl_AddrOk.j0] at H
   by_cases c8 : x14_1 = true
   ·subst c8
    rw [if_pos rfl] at H;obtain rfl := Option.some.inj H;go_wp2
    go_ret
    exact ⟨zz1, (zz2 HB GE444)⟩
   ·replace c8 := Bool.eq_false_iff.mpr c8
    subst c8;rw [if_neg (show ¬ (false = true) by decide)] at H;have H' := Aside0.mk H;clear H;obtain ⟨_, _, _, _, _, _, _, _⟩ := cf4 BK444;go_wp2
    go_loopg [18] kj1 (fun kq v18 w' => ∃ (x18_2 : Int), v18 = .int .i64 x18_2 ∧ Aside0 (impl_AddrOk.l0 kq l0_1 (l0_1.length : Int) x18_2 a0_0 l0_1 a0_2 a0_3 = some r) ∧ Aside0 (kq ≤ kj1) ∧ Aside0 (w'.heap[gb444]? = some (.cells #[.string a0_0, (.slice A0_1 l0_1.length c0_1), .bool a0_2, .string a0_3] 52 (0, 0))) ∧ Aside0 (Below w.heap.size w w'))
    case atStart => exact ⟨(0), zz3, H', ⟨Nat.le_refl _⟩, ⟨(zz21 BK444)⟩, ⟨(zz2 HB GE444)⟩⟩
    case round =>
     clear H';obtain ⟨x18_2, rfl, HA, HK2, BK444, HB⟩ := hrel;cases gk with
     | zero => exact absurd HA.out (by simp [impl_AddrOk.l0])
     | succ k2 =>
      have H := HA.out;clear HA;simp only [impl_AddrOk.l0] at H
      by_cases c10 : x18_2 < (l0_1.length : Int)
      ·rw [if_pos c10] at H
       have c10b0 : decide (x18_2 < (l0_1.length : Int)) = true := decide_eq_true c10;clear c10;by_cases c11 : 0 ≤ x18_2
       ·rw [if_pos c11] at H
        have c11b0 : decide (0 ≤ x18_2) = true := decide_eq_true c11;clear c11;by_cases c12 : x18_2 < (l0_1.length : Int)
        ·rw [if_pos c12] at H
         have c12b0 : decide (x18_2 < (l0_1.length : Int)) = true := decide_eq_true c12;clear c12;by_cases c13 : (rdOf ByteArray.empty l0_1 x18_2).toList = ([] : List UInt8)
         ·rw [if_pos c13] at H
          have c13b0 : ((rdOf ByteArray.empty l0_1 x18_2).toList == ([] : List UInt8)) = true := beq_iff_eq.mpr c13;have c13b1 : ((rdOf ByteArray.empty l0_1 x18_2).toList != ([] : List UInt8)) = false := bne_eq_false_iff_eq.mpr c13;clear c13;obtain rfl := Option.some.inj H;have p446 : 0 ≤ (x18_2 : Int) := ofD;have q446 : x18_2 < (l0_1.length : Int) := ofD;obtain ⟨ad446, e446, hx446_0⟩ := Kd.at_string HR0_1.out x18_2 p446 q446;cases e446
          replace hx446_0 := cbl HB hx446_0;replace p446 := eq_true p446;replace q446 := eq_true q446;go_wp2
          go_ret
          exact ⟨zz1, (zz2 HB GE444)⟩
         ·rw [if_neg c13] at H
          have c13b0 : ((rdOf ByteArray.empty l0_1 x18_2).toList == ([] : List UInt8)) = false := beq_eq_false_iff_ne.mpr c13;have c13b1 : ((rdOf ByteArray.empty l0_1 x18_2).toList != ([] : List UInt8)) = true := bne_iff_ne.mpr c13;by_cases c14 : (rdOf ByteArray.empty l0_1 x18_2).toList = ([46] : List UInt8)
          ·rw [if_pos c14] at H
           have c14b0 : ((rdOf ByteArray.empty l0_1 x18_2).toList == ([46] : List UInt8)) = true := beq_iff_eq.mpr c14;have c14b1 : ((rdOf ByteArray.empty l0_1 x18_2).toList != ([46] : List UInt8)) = false := bne_eq_false_iff_eq.mpr c14;clear c14;obtain rfl := Option.some.inj H;have p446 : 0 ≤ (x18_2 : Int) := ofD;have q446 : x18_2 < (l0_1.length : Int) := ofD;obtain ⟨ad446, e446, hx446_0⟩ := Kd.at_string HR0_1.out x18_2 p446 q446;cases e446
           replace hx446_0 := cbl HB hx446_0;replace p446 := eq_true p446;replace q446 := eq_true q446;go_wp2
           go_ret
           exact ⟨zz1, (zz2 HB GE444)⟩
          ·rw [if_neg c14] at H
           have c14b0 : ((rdOf ByteArray.empty l0_1 x18_2).toList == ([46] : List UInt8)) = false := beq_eq_false_iff_ne.mpr c14;have c14b1 : ((rdOf ByteArray.empty l0_1 x18_2).toList != ([46] : List UInt8)) = true := bne_iff_ne.mpr c14;by_cases c15 : (rdOf ByteArray.empty l0_1 x18_2).toList = ([46, 46] : List UInt8)
           ·rw [if_pos c15] at H
            have c15b0 : ((rdOf ByteArray.empty l0_1 x18_2).toList == ([46, 46] : List UInt8)) = true := beq_iff_eq.mpr c15;have c15b1 : ((rdOf ByteArray.empty l0_1 x18_2).toList != ([46, 46] : List UInt8)) = false := bne_eq_false_iff_eq.mpr c15;clear c15;obtain rfl := Option.some.inj H;have p446 : 0 ≤ (x18_2 : Int) := ofD;have q446 : x18_2 < (l0_1.length : Int) := ofD;obtain ⟨ad446, e446, hx446_0⟩ := Kd.at_string HR0_1.out x18_2 p446 q446;cases e446
            replace hx446_0 := cbl HB hx446_0;replace p446 := eq_true p446;replace q446 := eq_true q446;go_wp2
            go_ret
            exact ⟨zz1, (zz2 HB GE444)⟩
           ·rw [if_neg c15] at H
            have c15b0 : ((rdOf ByteArray.empty l0_1 x18_2).toList == ([46, 46] : List UInt8)) = false := beq_eq_false_iff_ne.mpr c15;have c15b1 : ((rdOf ByteArray.empty l0_1 x18_2).toList != ([46, 46] : List UInt8)) = true := bne_iff_ne.mpr c15;replace H := bindA H;obtain ⟨t447, A16, H⟩ := H;by_cases c17 : t447 = true
            ·subst c17
             rw [if_pos rfl] at H;have H' := Aside0.mk H;clear H;have p446 : 0 ≤ (x18_2 : Int) := ofD;have q446 : x18_2 < (l0_1.length : Int) := ofD;obtain ⟨ad446, e446, hx446_0⟩ := Kd.at_string HR0_1.out x18_2 p446 q446;cases e446
             replace hx446_0 := cbl HB hx446_0;replace p446 := eq_true p446;replace q446 := eq_true q446;go_wp2_with (first | (go_at_call 73; (with_reducible refine (impl_isNormal.calls k2 (rdOf ByteArray.empty l0_1 x18_2) true _ A16.out).mono ?_); rintro e w18 ⟨rfl, hb⟩; replace BK444 := Aside0.mk (blk_below (zz21 BK444) hb); replace HB := Aside0.mk (below_step (zz2 HB GE444) hb); (try clear hb)))
             go_roundg k2
             case measure => have := HJ1.out; have := HK2.out; omega
             case rel => exact ⟨(wrap64 (x18_2 + 1)), zz3, H', ⟨(zz20 HJ1 HK2)⟩, ⟨(zz21 BK444)⟩, ⟨(zz2 HB GE444)⟩⟩
            ·replace c17 := Bool.eq_false_iff.mpr c17
             subst c17;rw [if_neg (show ¬ (false = true) by decide)] at H;obtain rfl := Option.some.inj H;have p446 : 0 ≤ (x18_2 : Int) := ofD;have q446 : x18_2 < (l0_1.length : Int) := ofD;obtain ⟨ad446, e446, hx446_0⟩ := Kd.at_string HR0_1.out x18_2 p446 q446;cases e446
             replace hx446_0 := cbl HB hx446_0;replace p446 := eq_true p446;replace q446 := eq_true q446;go_wp2_with (first | (go_at_call 73; (with_reducible refine (impl_isNormal.calls k2 (rdOf ByteArray.empty l0_1 x18_2) false _ A16.out).mono ?_); rintro e w19 ⟨rfl, hb⟩; replace BK444 := Aside0.mk (blk_below (zz21 BK444) hb); replace HB := Aside0.mk (below_step (zz2 HB GE444) hb); (try clear hb)))
             go_ret
             exact ⟨zz1, (zz2 HB GE444)⟩
        ·rw [if_neg c12] at H
         exact absurd H (by simp)
       ·rw [if_neg c11] at H
        exact absurd H (by simp)
      ·rw [if_neg c10] at H
       have c10b0 : decide (x18_2 < (l0_1.length : Int)) = false := decide_eq_false c10;clear c10;replace H := bindA H;obtain ⟨t448, A20, H⟩ := H;by_cases c21 : t448 = true
       ·subst c21
        rw [if_pos rfl] at H;by_cases c22 : a0_2 = true
        ·subst c22
         rw [if_pos rfl] at H;replace H := bindA H;obtain ⟨t449, A23, H⟩ := H;obtain rfl := Option.some.inj H;obtain ⟨_, _, _, _, _, _, _, _⟩ := cf4 BK444;go_wp2_with (first | ((with_reducible refine gate_callee (f := 73) rfl ?_); refine gsL (some 40) Tryz.func73 #[.string a0_3] ?_; (with_reducible refine (impl_isNormal.calls k2 a0_3 true _ A20.out).mono ?_); rintro e w25 ⟨rfl, hb⟩; refine ⟨_, rfl, ?_⟩; replace BK444 := Aside0.mk (blk_below (zz21 BK444) hb); replace HB := Aside0.mk (below_step (zz2 HB GE444) hb); (try clear hb); obtain ⟨_, _, _, _, _, _, _, _⟩ := cf4 BK444) | ((with_reducible refine gate_callee (f := 43) rfl ?_); refine gsL (some 53) Tryz.func43 #[.agg #[.string a0_0, .slice A0_1 l0_1.length c0_1, .bool true, .string a0_3]] ?_; (with_reducible refine (impl_writeAddr.calls a0_0 _ _ l0_1 true a0_3 t449 _ ?side1 ?side2 A23.out).mono ?_); (case side1 => exact (zz24 HR0_1 HB)); (case side2 => exact HC0_1.out); rintro e w27 ⟨rfl, hb⟩; refine ⟨_, rfl, ?_⟩; replace BK444 := Aside0.mk (blk_below (zz21 BK444) hb); replace HB := Aside0.mk (below_step (zz2 HB GE444) hb); (try clear hb)))
         go_ret
         exact ⟨zz1, (zz2 HB GE444)⟩
        ·replace c22 := Bool.eq_false_iff.mpr c22
         subst c22;rw [if_neg (show ¬ (false = true) by decide)] at H;by_cases c28 : a0_3.toList = ([] : List UInt8)
         ·rw [if_pos c28] at H
          have c28b0 : (a0_3.toList == ([] : List UInt8)) = true := beq_iff_eq.mpr c28;have c28b1 : (a0_3.toList != ([] : List UInt8)) = false := bne_eq_false_iff_eq.mpr c28;clear c28;replace H := bindA H;obtain ⟨t450, A29, H⟩ := H;obtain rfl := Option.some.inj H;obtain ⟨_, _, _, _, _, _, _, _⟩ := cf4 BK444;go_wp2_with (first | ((with_reducible refine gate_callee (f := 73) rfl ?_); refine gsL (some 40) Tryz.func73 #[.string a0_3] ?_; (with_reducible refine (impl_isNormal.calls k2 a0_3 true _ A20.out).mono ?_); rintro e w31 ⟨rfl, hb⟩; refine ⟨_, rfl, ?_⟩; replace BK444 := Aside0.mk (blk_below (zz21 BK444) hb); replace HB := Aside0.mk (below_step (zz2 HB GE444) hb); (try clear hb); obtain ⟨_, _, _, _, _, _, _, _⟩ := cf4 BK444) | ((with_reducible refine gate_callee (f := 43) rfl ?_); refine gsL (some 53) Tryz.func43 #[.agg #[.string a0_0, .slice A0_1 l0_1.length c0_1, .bool false, .string a0_3]] ?_; (with_reducible refine (impl_writeAddr.calls a0_0 _ _ l0_1 false a0_3 t450 _ ?side1 ?side2 A29.out).mono ?_); (case side1 => exact (zz24 HR0_1 HB)); (case side2 => exact HC0_1.out); rintro e w33 ⟨rfl, hb⟩; refine ⟨_, rfl, ?_⟩; replace BK444 := Aside0.mk (blk_below (zz21 BK444) hb); replace HB := Aside0.mk (below_step (zz2 HB GE444) hb); (try clear hb)))
          go_ret
          exact ⟨zz1, (zz2 HB GE444)⟩
         ·rw [if_neg c28] at H
          have c28b0 : (a0_3.toList == ([] : List UInt8)) = false := beq_eq_false_iff_ne.mpr c28;have c28b1 : (a0_3.toList != ([] : List UInt8)) = true := bne_iff_ne.mpr c28;obtain rfl := Option.some.inj H;obtain ⟨_, _, _, _, _, _, _, _⟩ := cf4 BK444;go_wp2_with (first | ((with_reducible refine gate_callee (f := 73) rfl ?_); refine gsL (some 40) Tryz.func73 #[.string a0_3] ?_; (with_reducible refine (impl_isNormal.calls k2 a0_3 true _ A20.out).mono ?_); rintro e w35 ⟨rfl, hb⟩; refine ⟨_, rfl, ?_⟩; replace BK444 := Aside0.mk (blk_below (zz21 BK444) hb); replace HB := Aside0.mk (below_step (zz2 HB GE444) hb); (try clear hb); obtain ⟨_, _, _, _, _, _, _, _⟩ := cf4 BK444))
          go_ret
          exact ⟨zz1, (zz2 HB GE444)⟩
       ·replace c21 := Bool.eq_false_iff.mpr c21
        subst c21;rw [if_neg (show ¬ (false = true) by decide)] at H;obtain rfl := Option.some.inj H;obtain ⟨_, _, _, _, _, _, _, _⟩ := cf4 BK444;go_wp2_with (first | ((with_reducible refine gate_callee (f := 73) rfl ?_); refine gsL (some 40) Tryz.func73 #[.string a0_3] ?_; (with_reducible refine (impl_isNormal.calls k2 a0_3 false _ A20.out).mono ?_); rintro e w38 ⟨rfl, hb⟩; refine ⟨_, rfl, ?_⟩; replace BK444 := Aside0.mk (blk_below (zz21 BK444) hb); replace HB := Aside0.mk (below_step (zz2 HB GE444) hb); (try clear hb)))
        go_ret
        exact ⟨zz1, (zz2 HB GE444)⟩
def strings_Index.f (a0 : ByteArray) (a1 : ByteArray) : Option (Int) := (stringslite_Index.f a0 a1).bind fun t451 => (some t451)
set_option maxHeartbeats 8000000 in
set_option maxRecDepth 100000 in
theorem strings_Index.calls (a0 : ByteArray) (a1 : ByteArray) (r : Int) (w : World) (h : strings_Index.f a0 a1 = some r) :
  Calls Tryz.prog 115 #[.string a0, .string a1] w fun e w' => e = .returned (.int .i64 r) ∧ Below w.heap.size w w' := by
 have HB := Aside0.mk (Below.refl w.heap.size w);have H : ((stringslite_Index.f a0 a1).bind fun t451 => (some t451)) = some r := h;clear h;replace H := bindA H;obtain ⟨t451, A3, H⟩ := H;obtain rfl := Option.some.inj H;go_enter Tryz.func115, Tryz.ntmps115;go_wp2_with (first | ((with_reducible refine gate_callee (f := 82) rfl ?_); refine gsL (some 7) Tryz.func82 #[.string a0, .string a1] ?_; (with_reducible refine (stringslite_Index.calls a0 a1 t451 _ A3.out).mono ?_); rintro e w4 ⟨rfl, hb⟩; refine ⟨_, rfl, ?_⟩; replace HB := Aside0.mk (below_step (zz0 HB) hb); (try clear hb)))
 go_ret
 exact ⟨zz1, (zz0 HB)⟩
end Go.Proofs.YtpnedbnpnekahaaGreatDoor.P
end
section
namespace Go.Proofs.YtpnedbnpnekahaaGreatDoor.P
open Go.RowKit Go.Proofs.YtpnedbnpnekahaaGreatDoorW.PrintWords Go.Proofs.YtpnedbnpnekahaaGreatDoorW.PrintLast Go.Proofs.YtpnedbnpnekahaaGreatDoorW.PrintMore
set_option linter.unusedVariables false
def strings_explode.f (a0 : ByteArray) (a1 : Int) : Option (List ByteArray) := none
theorem strings_explode.calls (a0 : ByteArray) (a1 : Int) (r : List ByteArray) (w : World) (h : strings_explode.f a0 a1 = some r) :
  Calls Tryz.prog 113 #[.string a0, .int .i64 a1] w fun e w' => ∃ v0_ : Value, e = .returned (v0_) ∧ Kd.R Kd.string 9 w' w.heap.size (fun _ => True) v0_ r ∧ Below w.heap.size w w' := by
 cases h
end Go.Proofs.YtpnedbnpnekahaaGreatDoor.P
end
section
namespace Go.Proofs.YtpnedbnpnekahaaGreatDoor.P
open Go.RowKit Go.Proofs.YtpnedbnpnekahaaGreatDoorW.PrintWords Go.Proofs.YtpnedbnpnekahaaGreatDoorW.PrintLast Go.Proofs.YtpnedbnpnekahaaGreatDoorW.PrintMore
attribute [local go_sem] max2_int min2_int max_two min_two max_three min_three max_four min_four
set_option linter.unusedVariables false
set_option linter.unusedSimpArgs false
mutual
def strings_genSplit.j0 : Nat → ByteArray → ByteArray → Int → Int → Option (List ByteArray)
 | 0, _, _, _, _ => none
 | k + 1, x0, x1, x2, x3 => if 0 ≤ (mn x3 (wrap64 ((x0.size : Int) + 1))) then (if (mn x3 (wrap64 ((x0.size : Int) + 1)) : Int).toNat ≤ 17592186044416 then (strings_genSplit.l0 k x0 x1 x2 (wrap64 ((mn x3 (wrap64 ((x0.size : Int) + 1))) - 1)) (List.replicate (mn x3 (wrap64 ((x0.size : Int) + 1)) : Int).toNat (⟨#[]⟩ : ByteArray)) 0) else (none)) else (none)
def strings_genSplit.l0 : Nat → ByteArray → ByteArray → Int → Int → List ByteArray → Int → Option (List ByteArray)
 | 0, _, _, _, _, _, _ => none
 | k + 1, x0, x1, x2, x3, x9, x10 => if x10 < x3 then ((strings_Index.f x0 x1).bind fun t459 => (if t459 < 0 then (if 0 ≤ x10 then (if x10 < (x9.length : Int) then (if 0 ≤ (wrap64 (x10 + 1)) then (if (wrap64 (x10 + 1)) ≤ (x9.length : Int) then (some ((x9.set (x10 : Int).toNat x0).take ((wrap64 (x10 + 1)) : Int).toNat)) else (none)) else (none)) else (none)) else (none)) else (if 0 ≤ (wrap64 (t459 + x2)) then (if (wrap64 (t459 + x2)) ≤ (x0.size : Int) then (if 0 ≤ x10 then (if x10 < (x9.length : Int) then (if 0 ≤ (wrap64 (t459 + (x1.size : Int))) then (if (wrap64 (t459 + (x1.size : Int))) ≤ (x0.size : Int) then (strings_genSplit.l0 k (x0.extract ((wrap64 (t459 + (x1.size : Int))) : Int).toNat x0.size) x1 x2 x3 (x9.set (x10 : Int).toNat (x0.extract 0 ((wrap64 (t459 + x2)) : Int).toNat)) (wrap64 (x10 + 1))) else (none)) else (none)) else (none)) else (none)) else (none)) else (none)))) else (if 0 ≤ x10 then (if x10 < (x9.length : Int) then (if 0 ≤ (wrap64 (x10 + 1)) then (if (wrap64 (x10 + 1)) ≤ (x9.length : Int) then (some ((x9.set (x10 : Int).toNat x0).take ((wrap64 (x10 + 1)) : Int).toNat)) else (none)) else (none)) else (none)) else (none))
end
def strings_genSplit.f (k : Nat) (a0 : ByteArray) (a1 : ByteArray) (a2 : Int) (a3 : Int) : Option (List ByteArray) := if a3 = 0 then (some ([] : List ByteArray)) else (if a1.toList = ([] : List UInt8) then ((strings_explode.f a0 a3).bind fun t452 => (some t452)) else (if a3 < 0 then ((strings_Count.f a0 a1).bind fun t455 => (strings_genSplit.j0 k a0 a1 a2 (wrap64 (t455 + 1)))) else (strings_genSplit.j0 k a0 a1 a2 a3)))
theorem strings_genSplit.mono_l : ∀ k, (∀ y0 y1 y2 y3, LeO (strings_genSplit.j0 k y0 y1 y2 y3) (strings_genSplit.j0 (k + 1) y0 y1 y2 y3)) ∧ (∀ y0 y1 y2 y3 y4 y5, LeO (strings_genSplit.l0 k y0 y1 y2 y3 y4 y5) (strings_genSplit.l0 (k + 1) y0 y1 y2 y3 y4 y5))
 | 0 => ⟨fun _ _ _ _ r h => by simp [strings_genSplit.j0] at h, fun _ _ _ _ _ _ r h => by simp [strings_genSplit.l0] at h⟩
 | k + 1 => by
  obtain ⟨ih0, ih1⟩ := strings_genSplit.mono_l k;refine ⟨?_, ?_⟩
  ·intro y0 y1 y2 y3
   unfold strings_genSplit.j0
   repeat' first | (with_reducible first | exact ih0 _ _ _ _ | exact ih1 _ _ _ _ _ _ | exact LeO.refl _ | exact LeO.none _ | refine LeO.ite ?_ ?_ | refine LeO.bind ?_ (fun _ => ?_)) | exact LeO.none _ | refine LeO.ite ?_ ?_ | refine LeO.bind ?_ (fun _ => ?_)
  ·intro y0 y1 y2 y3 y4 y5
   unfold strings_genSplit.l0
   repeat' first | (with_reducible first | exact ih0 _ _ _ _ | exact ih1 _ _ _ _ _ _ | exact LeO.refl _ | exact LeO.none _ | refine LeO.ite ?_ ?_ | refine LeO.bind ?_ (fun _ => ?_)) | exact LeO.none _ | refine LeO.ite ?_ ?_ | refine LeO.bind ?_ (fun _ => ?_)
theorem strings_genSplit.mono : ∀ a0 a1 a2 a3 k, LeO (strings_genSplit.f k a0 a1 a2 a3) (strings_genSplit.f (k + 1) a0 a1 a2 a3) := by
 intro a0 a1 a2 a3 k;obtain ⟨ih0, ih1⟩ := strings_genSplit.mono_l k;unfold strings_genSplit.f
 repeat' first | (with_reducible first | exact ih0 _ _ _ _ | exact ih1 _ _ _ _ _ _ | exact LeO.refl _ | exact LeO.none _ | refine LeO.ite ?_ ?_ | refine LeO.bind ?_ (fun _ => ?_)) | exact LeO.none _ | refine LeO.ite ?_ ?_ | refine LeO.bind ?_ (fun _ => ?_)
set_option maxHeartbeats 8000000 in
set_option maxRecDepth 100000 in
theorem strings_genSplit.calls (k : Nat) (a0 : ByteArray) (a1 : ByteArray) (a2 : Int) (a3 : Int) (r : List ByteArray) (w : World) (h : strings_genSplit.f k a0 a1 a2 a3 = some r) :
  Calls Tryz.prog 107 #[.string a0, .string a1, .int .i64 a2, .int .i64 a3] w fun e w' => ∃ v0_ : Value, e = .returned (v0_) ∧ Kd.R Kd.string 9 w' w.heap.size (fun _ => True) v0_ r ∧ Below w.heap.size w w' := by
 have HB := Aside0.mk (Below.refl w.heap.size w);have H : (if a3 = 0 then (some ([] : List ByteArray)) else (if a1.toList = ([] : List UInt8) then ((strings_explode.f a0 a3).bind fun t452 => (some t452)) else (if a3 < 0 then ((strings_Count.f a0 a1).bind fun t455 => (strings_genSplit.j0 k a0 a1 a2 (wrap64 (t455 + 1)))) else (strings_genSplit.j0 k a0 a1 a2 a3)))) = some r := h;clear h;by_cases c5 : a3 = 0
 ·rw [if_pos c5] at H
  have c5b0 : (a3 == 0) = true := beq_iff_eq.mpr c5;have c5b1 : (a3 != 0) = false := bne_eq_false_iff_eq.mpr c5;clear c5;obtain rfl := Option.some.inj H;go_enter Tryz.func107, Tryz.ntmps107;go_wp2
  go_ret
  exact ⟨_, zz1, zz38, (zz0 HB)⟩
 ·rw [if_neg c5] at H
  have c5b0 : (a3 == 0) = false := beq_eq_false_iff_ne.mpr c5;have c5b1 : (a3 != 0) = true := bne_iff_ne.mpr c5;by_cases c6 : a1.toList = ([] : List UInt8)
  ·rw [if_pos c6] at H
   have c6b0 : (a1.toList == ([] : List UInt8)) = true := beq_iff_eq.mpr c6;have c6b1 : (a1.toList != ([] : List UInt8)) = false := bne_eq_false_iff_eq.mpr c6;clear c6;replace H := bindA H;obtain ⟨t452, A7, H⟩ := H;obtain rfl := Option.some.inj H;go_enter Tryz.func107, Tryz.ntmps107;go_wp2_with (first | ((with_reducible refine gate_callee (f := 113) rfl ?_); refine gsL (some 18) Tryz.func113 #[.string a0, .int .i64 a3] ?_; (with_reducible refine (strings_explode.calls a0 a3 t452 _ A7.out).mono ?_); rintro e w8 ⟨v453, rfl, ho0, hb⟩; refine ⟨_, rfl, ?_⟩; have HO454 := Aside0.mk (Kd.R_lower ho0 (below_size (zz0 HB))); replace HB := Aside0.mk (below_step (zz0 HB) hb); (try clear hb ho0)))
   go_ret
   exact ⟨_, zz1, (zz28 HO454), (zz0 HB)⟩
  ·rw [if_neg c6] at H
   have c6b0 : (a1.toList == ([] : List UInt8)) = false := beq_eq_false_iff_ne.mpr c6;have c6b1 : (a1.toList != ([] : List UInt8)) = true := bne_iff_ne.mpr c6;have HC9 := Aside0.mk H;clear H;go_enter Tryz.func107, Tryz.ntmps107;go_upto_if 20 with (fail)
   go_cut [3] (fun v3 wc => ∃ (kq : Nat) (x3_8 : Int), v3 = .int .i64 x3_8 ∧ Aside0 (strings_genSplit.j0 kq a0 a1 a2 x3_8 = some r) ∧ Aside0 (kq ≤ k) ∧ Aside0 (Below w.heap.size w wc))
   case first =>
    have H := HC9.out;clear HC9;by_cases c10 : a3 < 0
    ·rw [if_pos c10] at H
     have c10b0 : decide (a3 < 0) = true := decide_eq_true c10;clear c10;(first | rw [c10b0] | (simp only [i64_w, i32_w]; rw [c10b0]) | skip)
     replace H := bindA H;obtain ⟨t455, A11, H⟩ := H;have H' := Aside0.mk H;clear H;go_wp2_with (first | ((with_reducible refine gate_callee (f := 114) rfl ?_); refine gsL (some 23) Tryz.func114 #[.string a0, .string a1] ?_; (with_reducible refine (strings_Count.calls a0 a1 t455 _ A11.out).mono ?_); rintro e w12 ⟨rfl, hb⟩; refine ⟨_, rfl, ?_⟩; replace HB := Aside0.mk (below_step (zz0 HB) hb); (try clear hb)))
     go_meet
     case rel => exact ⟨_, (wrap64 (t455 + 1)), zz3, H', ⟨zz9⟩, ⟨(zz0 HB)⟩⟩
    ·rw [if_neg c10] at H
     have c10b0 : decide (a3 < 0) = false := decide_eq_false c10;clear c10;(first | rw [c10b0] | (simp only [i64_w, i32_w]; rw [c10b0]) | skip)
     have H' := Aside0.mk H;clear H;go_wp2
     go_meet
     case rel => exact ⟨_, (a3), zz3, H', ⟨zz9⟩, ⟨(zz0 HB)⟩⟩
   case rest =>
    clear HC9;obtain ⟨kq, x3_8, rfl, HA, HJ8, HB⟩ := hcut;cases kq with
    | zero => exact absurd HA.out (by simp [strings_genSplit.j0])
    | succ kj8 =>
     have H := HA.out;clear HA;simp only [strings_genSplit.j0] at H
     obtain ⟨ji13, hji13⟩ : ∃ j_ : Int, (mn x3_8 (wrap64 ((a0.size : Int) + 1))) = j_ := ⟨_, rfl⟩;replace H : (if 0 ≤ (ji13) then (if (ji13 : Int).toNat ≤ 17592186044416 then (strings_genSplit.l0 kj8 a0 a1 a2 (wrap64 ((ji13) - 1)) (List.replicate (ji13 : Int).toNat (⟨#[]⟩ : ByteArray)) 0) else (none)) else (none)) = some r := by first | (rw [hji13] at H; exact H) | (simp only [hji13] at H ⊢; exact H)
     have hji13_ : (if (wrap64 ((a0.size : Int) + 1)) < x3_8 then (wrap64 ((a0.size : Int) + 1)) else x3_8) = ji13 := hji13;by_cases c14 : 0 ≤ (ji13)
     ·rw [if_pos c14] at H
      have c14b0 := eq_true c14;have c14b1 : decide (0 ≤ (ji13)) = true := decide_eq_true c14;clear c14;by_cases c15 : (ji13 : Int).toNat ≤ 17592186044416
      ·rw [if_pos c15] at H
       have c15b0 := eq_true c15;have c15b1 : decide ((ji13 : Int).toNat ≤ 17592186044416) = true := decide_eq_true c15;clear c15;obtain ⟨y456, Ny456⟩ := toY (List.replicate (ji13 : Int).toNat (⟨#[]⟩ : ByteArray));(first | with_reducible replace H := bindZ Ny456 H | rw [← Ny456.out] at H | skip)
       have H' := Aside0.mk H;clear H;go_wp2_with (first | ((with_reducible refine gate_dst (N := 31) rfl ?_); refine Kd.R_make Kd.string _ 9 rfl (N := 31) rfl 24 _ _ rfl ji13 rfl rfl Tryz.underlying24 (.string ⟨#[]⟩) 16 info9 rfl (by decide) (by omega) (⟨#[]⟩ : ByteArray) (ok := fun _ => True) (okp := fun _ => True) rfl (fun _ hk => hk) trivial ofD (Nat.le_trans (Nat.mul_le_mul_right _ (ofD : ji13.toNat ≤ 17592186044416)) (by omega)) (Below.refl _ _) (Nat.le_refl _) ?_; intro v457 w16 ho17 hb hg_ hnew_; clear hg_ hnew_; (first | rw [← Ny456.out] at ho17 | (simp only [Int.reduceToNat] at ho17; rw [← Ny456.out] at ho17)); have HO458 := Aside0.mk (Kd.R_lower ho17 (below_size (zz0 HB))); replace HB := Aside0.mk (below_step (zz0 HB) hb); clear hb ho17))
       go_loopg [0, 10] kj8 (fun kq v0 v10 w' => ∃ (x0_2 : ByteArray) (x9_2 : List ByteArray) (x10_2 : Int), v0 = .string x0_2 ∧ v10 = .int .i64 x10_2 ∧ Aside0 (strings_genSplit.l0 kq x0_2 a1 a2 (wrap64 ((ji13) - 1)) x9_2 x10_2 = some r) ∧ Aside0 (kq ≤ kj8) ∧ Aside0 (Kd.R Kd.string 9 w' w.heap.size (fun _ => True) v457 x9_2) ∧ Aside0 (Below w.heap.size w w'))
       case atStart => exact ⟨(a0), (y456), (0), zz3, zz3, H', ⟨Nat.le_refl _⟩, ⟨(zz28 HO458)⟩, ⟨(zz0 HB)⟩⟩
       case round =>
        clear H';obtain ⟨x0_2, x9_2, x10_2, rfl, rfl, HA, HK2, HO_9, HB⟩ := hrel;cases gk with
        | zero => exact absurd HA.out (by simp [strings_genSplit.l0])
        | succ k2 =>
         have H := HA.out;clear HA;simp only [strings_genSplit.l0] at H
         by_cases c18 : x10_2 < (wrap64 ((ji13) - 1))
         ·rw [if_pos c18] at H
          have c18b0 : decide (x10_2 < (wrap64 ((ji13) - 1))) = true := decide_eq_true c18;clear c18;replace H := bindA H;obtain ⟨t459, A19, H⟩ := H;by_cases c20 : t459 < 0
          ·rw [if_pos c20] at H
           have c20b0 : decide (t459 < 0) = true := decide_eq_true c20;clear c20;by_cases c21 : 0 ≤ x10_2
           ·rw [if_pos c21] at H
            have c21b0 : decide (0 ≤ x10_2) = true := decide_eq_true c21;clear c21;by_cases c22 : x10_2 < (x9_2.length : Int)
            ·rw [if_pos c22] at H
             have c22b0 : decide (x10_2 < (x9_2.length : Int)) = true := decide_eq_true c22;clear c22;obtain ⟨y460, hy460⟩ : ∃ y_ : List ByteArray, y_ = (x9_2.set (x10_2 : Int).toNat x0_2) := ⟨_, rfl⟩;replace H : (if 0 ≤ (wrap64 (x10_2 + 1)) then (if (wrap64 (x10_2 + 1)) ≤ (x9_2.length : Int) then (some (y460.take ((wrap64 (x10_2 + 1)) : Int).toNat)) else (none)) else (none)) = some r := by first | (rw [hy460]; with_reducible exact H) | (have H2_ := (Option.bind_some _ _).symm.trans H; rw [hy460]; with_reducible exact H2_) | (have H2_ := (Option.bind_some _ _).symm.trans H; with_reducible exact H2_) | with_reducible exact H | (rw [hy460]; exact H) | exact H
             have Ny460 := Aside0.mk hy460;have Ly460 : y460.length ≤ x9_2.length ∧ x9_2.length ≤ y460.length := by rw [hy460, List.length_set]; exact ⟨Nat.le_refl _, Nat.le_refl _⟩
             have My460 := Ly460.1;replace Ly460 := Ly460.2;clear hy460;obtain ⟨ji24, hji24⟩ : ∃ j_ : Int, (wrap64 (x10_2 + 1)) = j_ := ⟨_, rfl⟩;replace H : (if 0 ≤ (ji24) then (if (ji24) ≤ (x9_2.length : Int) then (some (y460.take ((ji24) : Int).toNat)) else (none)) else (none)) = some r := by first | (rw [hji24] at H; exact H) | (simp only [hji24] at H ⊢; exact H)
             (try rw [hji24] at A19)
             have hji24w : (IntKind.i64.wrap (x10_2 + 1)) = ji24 := (i64_w _).trans hji24;by_cases c25 : 0 ≤ (ji24)
             ·rw [if_pos c25] at H
              have c25b0 := eq_true c25;have c25b1 : decide (0 ≤ (ji24)) = true := decide_eq_true c25;clear c25;by_cases c26 : (ji24) ≤ (x9_2.length : Int)
              ·rw [if_pos c26] at H
               have c26b0 := eq_true c26;have c26b1 : decide ((ji24) ≤ (x9_2.length : Int)) = true := decide_eq_true c26;clear c26;obtain ⟨y461, Ny461⟩ := toY (y460.take ((ji24) : Int).toNat);(first | with_reducible replace H := bindZ Ny461 H | rw [← Ny461.out] at H | skip)
               obtain rfl := Option.some.inj H;go_wp2_with (first | ((with_reducible refine gate_callee (f := 115) rfl ?_); refine gsL (some 39) Tryz.func115 #[.string x0_2, .string a1] ?_; (with_reducible refine (strings_Index.calls x0_2 a1 t459 _ A19.out).mono ?_); rintro e w27 ⟨rfl, hb⟩; refine ⟨_, rfl, ?_⟩; replace HO_9 := Aside0.mk (Kd.R_below (zz28 HO_9) hb); replace HB := Aside0.mk (below_step (zz0 HB) hb); (try clear hb); have p23 : 0 ≤ (x10_2 : Int) := ofD; have q23 : (x10_2 : Int) < ((x9_2.length : Int) : Int) := ofD; obtain ⟨go23, co23, eo23, gb23, gl23, cl23, HG23⟩ := Kd.R_form HO_9.out (by omega); (first | cases eo23 | (injection eo23 with ea_ en_ ec_; (first | subst ea_ | (injection ea_ with ea_; subst ea_)); subst ec_; clear en_)); have GB23 := Aside0.mk gb23; have GG23 := Aside0.mk HG23; clear gb23 gl23 HG23; obtain ⟨hx23_0, hf23_0⟩ := Kd.R_celln (⟨#[]⟩ : ByteArray) HO_9.out (x10_2 : Int) p23 q23; replace p23 := eq_true p23; replace q23 := eq_true q23; obtain ⟨hy28_, hz28_⟩ := Kd.R_celln (⟨#[]⟩ : ByteArray) HO_9.out (x10_2 : Int) ofD ofD; have HP28 := Kd.R_putg HO_9.out (x10_2 : Int) x0_2) | ((with_reducible refine gate_store (t := 9) (p := 61) rfl ?_); refine store_event (t := 9) (p := 61) (v := ?vo_w29) (w1 := (w27.setCell ⟨go23, (x10_2 : Int).toNat, none⟩ (.string x0_2))) ?hg ?ho ?hn ?hr ?_; (case ho => rfl); (case hg => rfl); (case hn => rfl); (case hr => exact zz19); intro w29 hw; have hg : w27.grownBy w29 (some go23) := (by rw [hw]; exact HP28.2); have hp_ : Kd.R Kd.string 9 w29 w.heap.size (fun _ => True) (.slice (some ⟨go23, 0, none⟩) x9_2.length co23) y460 := (by rw [hw, Ny460.out]; exact HP28.1); clear HP28; replace HO_9 := Aside0.mk (hp_); replace HB := Aside0.mk ((by rw [hw]; exact below_set (HB.out) GB23.out : Below w.heap.size w w29)); clear hg hw hp_; have q30 : ((ji24) : Int) ≤ ((x9_2.length : Int) : Int) := ofD; obtain ⟨i030, hi030, _, hsz30, _⟩ := info_parts info9; have hcut30 := cut_to (P := Tryz.prog) 24 9 .i64 Tryz.underlying24 hi030 (some ⟨go23, 0, none⟩) x9_2.length co23 (ji24) ofD q30 (Kd.R_reads' HO_9.out).2.1; have hr30 := Kd.R_take (m := ((ji24) : Int).toNat) HO_9.out (by omega); have hy30 : y461.length = ((ji24) : Int).toNat := (by rw [Ny461.out, List.length_take]; omega); rw [← Ny461.out] at hr30; rw [← hy30] at hr30 hcut30; clear hy30 hi030 hsz30 HO_9; have HO463 := Aside0.mk hr30; clear hr30; replace q30 := eq_true q30))
               go_ret
               exact ⟨_, (by first | rfl | (simp [errW_none, errW_some] <;> rfl) | (simp only [← hji13, ← hji24]; first | rfl | (simp [errW_none, errW_some] <;> rfl)) | (simp [*, errW_none, errW_some] <;> rfl)), (zz28 HO463), (zz0 HB)⟩
              ·rw [if_neg c26] at H
               exact absurd H (by simp)
             ·rw [if_neg c25] at H
              exact absurd H (by simp)
            ·rw [if_neg c22] at H
             exact absurd H (by simp)
           ·rw [if_neg c21] at H
            exact absurd H (by simp)
          ·rw [if_neg c20] at H
           have c20b0 : decide (t459 < 0) = false := decide_eq_false c20;clear c20;obtain ⟨ji31, hji31⟩ : ∃ j_ : Int, (wrap64 (t459 + a2)) = j_ := ⟨_, rfl⟩;replace H : (if 0 ≤ (ji31) then (if (ji31) ≤ (x0_2.size : Int) then (if 0 ≤ x10_2 then (if x10_2 < (x9_2.length : Int) then (if 0 ≤ (wrap64 (t459 + (a1.size : Int))) then (if (wrap64 (t459 + (a1.size : Int))) ≤ (x0_2.size : Int) then (strings_genSplit.l0 k2 (x0_2.extract ((wrap64 (t459 + (a1.size : Int))) : Int).toNat x0_2.size) a1 a2 (wrap64 ((ji13) - 1)) (x9_2.set (x10_2 : Int).toNat (x0_2.extract 0 ((ji31) : Int).toNat)) (wrap64 (x10_2 + 1))) else (none)) else (none)) else (none)) else (none)) else (none)) else (none)) = some r := by first | (rw [hji31] at H; exact H) | (simp only [hji31] at H ⊢; exact H)
           (try rw [hji31] at A19)
           have hji31w : (IntKind.i64.wrap (t459 + a2)) = ji31 := (i64_w _).trans hji31;by_cases c32 : 0 ≤ (ji31)
           ·rw [if_pos c32] at H
            have c32b0 := eq_true c32;have c32b1 : decide (0 ≤ (ji31)) = true := decide_eq_true c32;clear c32;by_cases c33 : (ji31) ≤ (x0_2.size : Int)
            ·rw [if_pos c33] at H
             have c33b0 := eq_true c33;have c33b1 : decide ((ji31) ≤ (x0_2.size : Int)) = true := decide_eq_true c33;clear c33;by_cases c34 : 0 ≤ x10_2
             ·rw [if_pos c34] at H
              have c34b0 : decide (0 ≤ x10_2) = true := decide_eq_true c34;clear c34;by_cases c35 : x10_2 < (x9_2.length : Int)
              ·rw [if_pos c35] at H
               have c35b0 : decide (x10_2 < (x9_2.length : Int)) = true := decide_eq_true c35;clear c35;obtain ⟨y464, hy464⟩ : ∃ y_ : List ByteArray, y_ = (x9_2.set (x10_2 : Int).toNat (x0_2.extract 0 ((ji31) : Int).toNat)) := ⟨_, rfl⟩;replace H : (if 0 ≤ (wrap64 (t459 + (a1.size : Int))) then (if (wrap64 (t459 + (a1.size : Int))) ≤ (x0_2.size : Int) then (strings_genSplit.l0 k2 (x0_2.extract ((wrap64 (t459 + (a1.size : Int))) : Int).toNat x0_2.size) a1 a2 (wrap64 ((ji13) - 1)) y464 (wrap64 (x10_2 + 1))) else (none)) else (none)) = some r := by first | (rw [hy464]; with_reducible exact H) | (have H2_ := (Option.bind_some _ _).symm.trans H; rw [hy464]; with_reducible exact H2_) | (have H2_ := (Option.bind_some _ _).symm.trans H; with_reducible exact H2_) | with_reducible exact H | (rw [hy464]; exact H) | exact H
               have Ny464 := Aside0.mk hy464;have Ly464 : y464.length ≤ x9_2.length ∧ x9_2.length ≤ y464.length := by rw [hy464, List.length_set]; exact ⟨Nat.le_refl _, Nat.le_refl _⟩
               have My464 := Ly464.1;replace Ly464 := Ly464.2;clear hy464;obtain ⟨ji37, hji37⟩ : ∃ j_ : Int, (wrap64 (t459 + (a1.size : Int))) = j_ := ⟨_, rfl⟩;replace H : (if 0 ≤ (ji37) then (if (ji37) ≤ (x0_2.size : Int) then (strings_genSplit.l0 k2 (x0_2.extract ((ji37) : Int).toNat x0_2.size) a1 a2 (wrap64 ((ji13) - 1)) y464 (wrap64 (x10_2 + 1))) else (none)) else (none)) = some r := by first | (rw [hji37] at H; exact H) | (simp only [hji37] at H ⊢; exact H)
               (try rw [hji37] at A19)
               have hji37w : (IntKind.i64.wrap (t459 + (a1.size : Int))) = ji37 := (i64_w _).trans hji37;by_cases c38 : 0 ≤ (ji37)
               ·rw [if_pos c38] at H
                have c38b0 := eq_true c38;have c38b1 : decide (0 ≤ (ji37)) = true := decide_eq_true c38;clear c38;by_cases c39 : (ji37) ≤ (x0_2.size : Int)
                ·rw [if_pos c39] at H
                 have c39b0 := eq_true c39;have c39b1 : decide ((ji37) ≤ (x0_2.size : Int)) = true := decide_eq_true c39;clear c39;have H' := Aside0.mk H;clear H;go_wp2_with (first | ((with_reducible refine gate_callee (f := 115) rfl ?_); refine gsL (some 39) Tryz.func115 #[.string x0_2, .string a1] ?_; (with_reducible refine (strings_Index.calls x0_2 a1 t459 _ A19.out).mono ?_); rintro e w40 ⟨rfl, hb⟩; refine ⟨_, rfl, ?_⟩; replace HO_9 := Aside0.mk (Kd.R_below (zz28 HO_9) hb); replace HB := Aside0.mk (below_step (zz0 HB) hb); (try clear hb); have p36 : 0 ≤ (x10_2 : Int) := ofD; have q36 : (x10_2 : Int) < ((x9_2.length : Int) : Int) := ofD; obtain ⟨go36, co36, eo36, gb36, gl36, cl36, HG36⟩ := Kd.R_form HO_9.out (by omega); (first | cases eo36 | (injection eo36 with ea_ en_ ec_; (first | subst ea_ | (injection ea_ with ea_; subst ea_)); subst ec_; clear en_)); have GB36 := Aside0.mk gb36; have GG36 := Aside0.mk HG36; clear gb36 gl36 HG36; obtain ⟨hx36_0, hf36_0⟩ := Kd.R_celln (⟨#[]⟩ : ByteArray) HO_9.out (x10_2 : Int) p36 q36; replace p36 := eq_true p36; replace q36 := eq_true q36; obtain ⟨hy41_, hz41_⟩ := Kd.R_celln (⟨#[]⟩ : ByteArray) HO_9.out (x10_2 : Int) ofD ofD; have HP41 := Kd.R_putg HO_9.out (x10_2 : Int) (x0_2.extract 0 ((ji31) : Int).toNat)) | ((with_reducible refine gate_store (t := 9) (p := 49) rfl ?_); refine store_event (t := 9) (p := 49) (v := ?vo_w42) (w1 := (w40.setCell ⟨go36, (x10_2 : Int).toNat, none⟩ (.string (x0_2.extract 0 ((ji31) : Int).toNat)))) ?hg ?ho ?hn ?hr ?_; (case ho => rfl); (case hg => rfl); (case hn => rfl); (case hr => exact zz19); intro w42 hw; have hg : w40.grownBy w42 (some go36) := (by rw [hw]; exact HP41.2); have hp_ : Kd.R Kd.string 9 w42 w.heap.size (fun _ => True) (.slice (some ⟨go36, 0, none⟩) x9_2.length co36) y464 := (by rw [hw, Ny464.out]; exact HP41.1); clear HP41; replace HO_9 := Aside0.mk (hp_); replace HB := Aside0.mk ((by rw [hw]; exact below_set (HB.out) GB36.out : Below w.heap.size w w42)); clear hg hw hp_))
                 go_roundg k2
                 case measure => have := HJ8.out; have := HK2.out; omega
                 case rel => exact ⟨(x0_2.extract ((ji37) : Int).toNat x0_2.size), (y464), (wrap64 (x10_2 + 1)), (by first | rfl | (simp only [i64_w, i32_w]; done) | (simp only [aid_isEmpty, aid_isEmpty2]; done) | (simp; done) | ((simp only [← hji37] <;> (first | rfl | simp)); done) | (simp [*]; done)), zz3, H', ⟨(zz20 HJ8 HK2)⟩, ⟨(zz28 HO_9)⟩, ⟨(zz0 HB)⟩⟩
                ·rw [if_neg c39] at H
                 exact absurd H (by simp)
               ·rw [if_neg c38] at H
                exact absurd H (by simp)
              ·rw [if_neg c35] at H
               exact absurd H (by simp)
             ·rw [if_neg c34] at H
              exact absurd H (by simp)
            ·rw [if_neg c33] at H
             exact absurd H (by simp)
           ·rw [if_neg c32] at H
            exact absurd H (by simp)
         ·rw [if_neg c18] at H
          have c18b0 : decide (x10_2 < (wrap64 ((ji13) - 1))) = false := decide_eq_false c18;clear c18;by_cases c43 : 0 ≤ x10_2
          ·rw [if_pos c43] at H
           have c43b0 : decide (0 ≤ x10_2) = true := decide_eq_true c43;clear c43;by_cases c44 : x10_2 < (x9_2.length : Int)
           ·rw [if_pos c44] at H
            have c44b0 : decide (x10_2 < (x9_2.length : Int)) = true := decide_eq_true c44;clear c44;obtain ⟨y465, hy465⟩ : ∃ y_ : List ByteArray, y_ = (x9_2.set (x10_2 : Int).toNat x0_2) := ⟨_, rfl⟩;replace H : (if 0 ≤ (wrap64 (x10_2 + 1)) then (if (wrap64 (x10_2 + 1)) ≤ (x9_2.length : Int) then (some (y465.take ((wrap64 (x10_2 + 1)) : Int).toNat)) else (none)) else (none)) = some r := by first | (rw [hy465]; with_reducible exact H) | (have H2_ := (Option.bind_some _ _).symm.trans H; rw [hy465]; with_reducible exact H2_) | (have H2_ := (Option.bind_some _ _).symm.trans H; with_reducible exact H2_) | with_reducible exact H | (rw [hy465]; exact H) | exact H
            have Ny465 := Aside0.mk hy465;have Ly465 : y465.length ≤ x9_2.length ∧ x9_2.length ≤ y465.length := by rw [hy465, List.length_set]; exact ⟨Nat.le_refl _, Nat.le_refl _⟩
            have My465 := Ly465.1;replace Ly465 := Ly465.2;clear hy465;obtain ⟨ji46, hji46⟩ : ∃ j_ : Int, (wrap64 (x10_2 + 1)) = j_ := ⟨_, rfl⟩;replace H : (if 0 ≤ (ji46) then (if (ji46) ≤ (x9_2.length : Int) then (some (y465.take ((ji46) : Int).toNat)) else (none)) else (none)) = some r := by first | (rw [hji46] at H; exact H) | (simp only [hji46] at H ⊢; exact H)
            have hji46w : (IntKind.i64.wrap (x10_2 + 1)) = ji46 := (i64_w _).trans hji46;by_cases c47 : 0 ≤ (ji46)
            ·rw [if_pos c47] at H
             have c47b0 := eq_true c47;have c47b1 : decide (0 ≤ (ji46)) = true := decide_eq_true c47;clear c47;by_cases c48 : (ji46) ≤ (x9_2.length : Int)
             ·rw [if_pos c48] at H
              have c48b0 := eq_true c48;have c48b1 : decide ((ji46) ≤ (x9_2.length : Int)) = true := decide_eq_true c48;clear c48;obtain ⟨y466, Ny466⟩ := toY (y465.take ((ji46) : Int).toNat);(first | with_reducible replace H := bindZ Ny466 H | rw [← Ny466.out] at H | skip)
              obtain rfl := Option.some.inj H;have p45 : 0 ≤ (x10_2 : Int) := ofD;have q45 : (x10_2 : Int) < ((x9_2.length : Int) : Int) := ofD;obtain ⟨go45, co45, eo45, gb45, gl45, cl45, HG45⟩ := Kd.R_form HO_9.out (by omega);(first | cases eo45 | (injection eo45 with ea_ en_ ec_; (first | subst ea_ | (injection ea_ with ea_; subst ea_)); subst ec_; clear en_))
              have GB45 := Aside0.mk gb45;have GG45 := Aside0.mk HG45;clear gb45 gl45 HG45;obtain ⟨hx45_0, hf45_0⟩ := Kd.R_celln (⟨#[]⟩ : ByteArray) HO_9.out (x10_2 : Int) p45 q45;replace p45 := eq_true p45;replace q45 := eq_true q45;have HP49 := Kd.R_putg HO_9.out (x10_2 : Int) x0_2;go_wp2_with (first | ((with_reducible refine gate_store (t := 9) (p := 61) rfl ?_); refine store_event (t := 9) (p := 61) (v := ?vo_w50) (w1 := (wr.setCell ⟨go45, (x10_2 : Int).toNat, none⟩ (.string x0_2))) ?hg ?ho ?hn ?hr ?_; (case ho => rfl); (case hg => rfl); (case hn => rfl); (case hr => exact zz19); intro w50 hw; have hg : wr.grownBy w50 (some go45) := (by rw [hw]; exact HP49.2); have hp_ : Kd.R Kd.string 9 w50 w.heap.size (fun _ => True) (.slice (some ⟨go45, 0, none⟩) x9_2.length co45) y465 := (by rw [hw, Ny465.out]; exact HP49.1); clear HP49; replace HO_9 := Aside0.mk (hp_); replace HB := Aside0.mk ((by rw [hw]; exact below_set (HB.out) GB45.out : Below w.heap.size w w50)); clear hg hw hp_; have q51 : ((ji46) : Int) ≤ ((x9_2.length : Int) : Int) := ofD; obtain ⟨i051, hi051, _, hsz51, _⟩ := info_parts info9; have hcut51 := cut_to (P := Tryz.prog) 24 9 .i64 Tryz.underlying24 hi051 (some ⟨go45, 0, none⟩) x9_2.length co45 (ji46) ofD q51 (Kd.R_reads' HO_9.out).2.1; have hr51 := Kd.R_take (m := ((ji46) : Int).toNat) HO_9.out (by omega); have hy51 : y466.length = ((ji46) : Int).toNat := (by rw [Ny466.out, List.length_take]; omega); rw [← Ny466.out] at hr51; rw [← hy51] at hr51 hcut51; clear hy51 hi051 hsz51 HO_9; have HO468 := Aside0.mk hr51; clear hr51; replace q51 := eq_true q51))
              go_ret
              exact ⟨_, (by first | rfl | (simp [errW_none, errW_some] <;> rfl) | (simp only [← hji13, ← hji46]; first | rfl | (simp [errW_none, errW_some] <;> rfl)) | (simp [*, errW_none, errW_some] <;> rfl)), (zz28 HO468), (zz0 HB)⟩
             ·rw [if_neg c48] at H
              exact absurd H (by simp)
            ·rw [if_neg c47] at H
             exact absurd H (by simp)
           ·rw [if_neg c44] at H
            exact absurd H (by simp)
          ·rw [if_neg c43] at H
           exact absurd H (by simp)
      ·rw [if_neg c15] at H
       exact absurd H (by simp)
     ·rw [if_neg c14] at H
      exact absurd H (by simp)
def strings_Split.f (k : Nat) (a0 : ByteArray) (a1 : ByteArray) : Option (List ByteArray) := (strings_genSplit.f k a0 a1 0 (-1)).bind fun t469 => (some t469)
theorem strings_Split.mono : ∀ a0 a1 k, LeO (strings_Split.f k a0 a1) (strings_Split.f (k + 1) a0 a1) := by
 intro a0 a1 k;unfold strings_Split.f
 repeat' first | (with_reducible first | exact strings_genSplit.mono _ _ _ _ _ | exact LeO.refl _ | exact LeO.none _ | refine LeO.ite ?_ ?_ | refine LeO.bind ?_ (fun _ => ?_)) | exact LeO.none _ | refine LeO.ite ?_ ?_ | refine LeO.bind ?_ (fun _ => ?_)
set_option maxHeartbeats 8000000 in
set_option maxRecDepth 100000 in
theorem strings_Split.calls (k : Nat) (a0 : ByteArray) (a1 : ByteArray) (r : List ByteArray) (w : World) (h : strings_Split.f k a0 a1 = some r) :
  Calls Tryz.prog 89 #[.string a0, .string a1] w fun e w' => ∃ v0_ : Value, e = .returned (v0_) ∧ Kd.R Kd.string 9 w' w.heap.size (fun _ => True) v0_ r ∧ Below w.heap.size w w' := by
 have HB := Aside0.mk (Below.refl w.heap.size w);have H : ((strings_genSplit.f k a0 a1 0 (-1)).bind fun t469 => (some t469)) = some r := h;clear h;replace H := bindA H;obtain ⟨t469, A3, H⟩ := H;obtain rfl := Option.some.inj H;go_enter Tryz.func89, Tryz.ntmps89;go_wp2_with (first | ((with_reducible refine gate_callee (f := 107) rfl ?_); refine gsL (some 7) Tryz.func107 #[.string a0, .string a1, .int .i64 0, .int .i64 (-1)] ?_; (with_reducible refine (strings_genSplit.calls k a0 a1 0 (-1) t469 _ A3.out).mono ?_); rintro e w4 ⟨v470, rfl, ho0, hb⟩; refine ⟨_, rfl, ?_⟩; have HO471 := Aside0.mk (Kd.R_lower ho0 (below_size (zz0 HB))); replace HB := Aside0.mk (below_step (zz0 HB) hb); (try clear hb ho0)))
 go_ret
 exact ⟨_, zz1, (zz28 HO471), (zz0 HB)⟩
mutual
def impl_PathClean.l0 : Nat → List ByteArray → List ByteArray → Int → Int → Option (List ByteArray)
 | 0, _, _, _, _ => none
 | k + 1, x3, x6, x7, x8 => if x8 < x7 then (if 0 ≤ x8 then (if x8 < (x6.length : Int) then (if (rdOf ByteArray.empty x6 x8).toList = ([] : List UInt8) then (impl_PathClean.j1 k x3 (rdOf ByteArray.empty x6 x8) x6 x7 x8 (rdOf ByteArray.empty x6 x8) ((rdOf ByteArray.empty x6 x8).toList == ([] : List UInt8))) else (impl_PathClean.j1 k x3 (rdOf ByteArray.empty x6 x8) x6 x7 x8 (rdOf ByteArray.empty x6 x8) ((rdOf ByteArray.empty x6 x8).toList == ([46] : List UInt8)))) else (none)) else (none)) else (some x3)
def impl_PathClean.j1 : Nat → List ByteArray → ByteArray → List ByteArray → Int → Int → ByteArray → Bool → Option (List ByteArray)
 | 0, _, _, _, _, _, _, _ => none
 | k + 1, x3, x5, x6, x7, x8, x12, x13 => if x13 = true then (impl_PathClean.l0 k x3 x6 x7 (wrap64 (x8 + 1))) else (if x12.toList = ([46, 46] : List UInt8) then (if (x3.length : Int) > 0 then (if 0 ≤ (wrap64 ((x3.length : Int) - 1)) then (if (wrap64 ((x3.length : Int) - 1)) ≤ (x3.length : Int) then (impl_PathClean.l0 k (x3.take ((wrap64 ((x3.length : Int) - 1)) : Int).toNat) x6 x7 (wrap64 (x8 + 1))) else (none)) else (none)) else (impl_PathClean.l0 k x3 x6 x7 (wrap64 (x8 + 1)))) else (if x3.length < 8796093022208 then (impl_PathClean.l0 k (x3 ++ [x5]) x6 x7 (wrap64 (x8 + 1))) else (none)))
end
def impl_PathClean.f (k : Nat) (l0 : List ByteArray) : Option (List ByteArray) := impl_PathClean.l0 k ([] : List ByteArray) l0 (l0.length : Int) 0
theorem impl_PathClean.mono_l : ∀ k, (∀ y0 y1 y2 y3, LeO (impl_PathClean.l0 k y0 y1 y2 y3) (impl_PathClean.l0 (k + 1) y0 y1 y2 y3)) ∧ (∀ y0 y1 y2 y3 y4 y5 y6, LeO (impl_PathClean.j1 k y0 y1 y2 y3 y4 y5 y6) (impl_PathClean.j1 (k + 1) y0 y1 y2 y3 y4 y5 y6))
 | 0 => ⟨fun _ _ _ _ r h => by simp [impl_PathClean.l0] at h, fun _ _ _ _ _ _ _ r h => by simp [impl_PathClean.j1] at h⟩
 | k + 1 => by
  obtain ⟨ih0, ih1⟩ := impl_PathClean.mono_l k;refine ⟨?_, ?_⟩
  ·intro y0 y1 y2 y3
   unfold impl_PathClean.l0
   repeat' first | (with_reducible first | exact ih0 _ _ _ _ | exact ih1 _ _ _ _ _ _ _ | exact LeO.refl _ | exact LeO.none _ | refine LeO.ite ?_ ?_ | refine LeO.bind ?_ (fun _ => ?_)) | exact LeO.none _ | refine LeO.ite ?_ ?_ | refine LeO.bind ?_ (fun _ => ?_)
  ·intro y0 y1 y2 y3 y4 y5 y6
   unfold impl_PathClean.j1
   repeat' first | (with_reducible first | exact ih0 _ _ _ _ | exact ih1 _ _ _ _ _ _ _ | exact LeO.refl _ | exact LeO.none _ | refine LeO.ite ?_ ?_ | refine LeO.bind ?_ (fun _ => ?_)) | exact LeO.none _ | refine LeO.ite ?_ ?_ | refine LeO.bind ?_ (fun _ => ?_)
theorem impl_PathClean.mono : ∀ a0 k, LeO (impl_PathClean.f k a0) (impl_PathClean.f (k + 1) a0) := by
 intro a0 k;obtain ⟨ih0, ih1⟩ := impl_PathClean.mono_l k;unfold impl_PathClean.f
 repeat' first | (with_reducible first | exact ih0 _ _ _ _ | exact ih1 _ _ _ _ _ _ _ | exact LeO.refl _ | exact LeO.none _ | refine LeO.ite ?_ ?_ | refine LeO.bind ?_ (fun _ => ?_)) | exact LeO.none _ | refine LeO.ite ?_ ?_ | refine LeO.bind ?_ (fun _ => ?_)
set_option maxHeartbeats 8000000 in
set_option maxRecDepth 100000 in
theorem impl_PathClean.calls (k : Nat) (A0 : Option Addr) (c0 : Nat) (l0 : List ByteArray) (r : List ByteArray) (w : World) (hr0 : Kd.C Kd.string w A0 l0.length l0) (hc0 : l0.length ≤ c0) (h : impl_PathClean.f k l0 = some r) :
  Calls Tryz.prog 90 #[.slice A0 l0.length c0] w fun e w' => ∃ v0_ : Value, e = .returned (v0_) ∧ Kd.R Kd.string 9 w' w.heap.size (fun _ => True) v0_ r ∧ Below w.heap.size w w' := by
 have HR0 := Aside0.mk hr0;have HC0 := Aside0.mk hc0;clear hr0 hc0;have HB := Aside0.mk (Below.refl w.heap.size w);have H : (impl_PathClean.l0 k ([] : List ByteArray) l0 (l0.length : Int) 0) = some r := h;clear h;have H' := Aside0.mk H;clear H;go_enter Tryz.func90, Tryz.ntmps90;go_wp2
 go_step3
 go_wp2
 go_step3
 go_wp2
 go_loopg [3, 8] k (fun kq v3 v8 w' => ∃ (x3_1 : List ByteArray) (x8_1 : Int), v8 = .int .i64 x8_1 ∧ Aside0 (impl_PathClean.l0 kq x3_1 l0 (l0.length : Int) x8_1 = some r) ∧ Aside0 (kq ≤ k) ∧ Aside0 (Kd.R Kd.string 9 w' w.heap.size (fun _ => True) v3 x3_1) ∧ Aside0 (Below w.heap.size w w'))
 case atStart => exact ⟨(([] : List ByteArray)), (0), zz3, H', ⟨Nat.le_refl _⟩, ⟨zz38⟩, ⟨(zz0 HB)⟩⟩
 case round =>
  clear H';obtain ⟨x3_1, x8_1, rfl, HA, HK1, HO_3, HB⟩ := hrel;cases gk with
  | zero => exact absurd HA.out (by simp [impl_PathClean.l0])
  | succ k1 =>
   have H := HA.out;clear HA;simp only [impl_PathClean.l0] at H
   by_cases c2 : x8_1 < (l0.length : Int)
   ·rw [if_pos c2] at H
    have c2b0 : decide (x8_1 < (l0.length : Int)) = true := decide_eq_true c2;clear c2;by_cases c3 : 0 ≤ x8_1
    ·rw [if_pos c3] at H
     have c3b0 : decide (0 ≤ x8_1) = true := decide_eq_true c3;clear c3;by_cases c4 : x8_1 < (l0.length : Int)
     ·rw [if_pos c4] at H
      have c4b0 : decide (x8_1 < (l0.length : Int)) = true := decide_eq_true c4;clear c4;have HC5 := Aside0.mk H;clear H;have p472 : 0 ≤ (x8_1 : Int) := ofD;have q472 : x8_1 < (l0.length : Int) := ofD;obtain ⟨ad472, e472, hx472_0⟩ := Kd.at_string HR0.out x8_1 p472 q472;cases e472
      replace hx472_0 := cbl HB hx472_0;replace p472 := eq_true p472;replace q472 := eq_true q472;go_upto_if 13 with (fail)
      go_cut [13] (fun v13 wc => ∃ (kq : Nat) (x13_4 : Bool), v13 = .bool x13_4 ∧ Aside0 (impl_PathClean.j1 kq x3_1 (rdOf ByteArray.empty l0 x8_1) l0 (l0.length : Int) x8_1 (rdOf ByteArray.empty l0 x8_1) x13_4 = some r) ∧ Aside0 (kq ≤ k1) ∧ Aside0 (Kd.R Kd.string 9 wc w.heap.size (fun _ => True) u3 x3_1) ∧ Aside0 (Below w.heap.size w wc))
      case first =>
       have H := HC5.out;clear HC5;by_cases c6 : (rdOf ByteArray.empty l0 x8_1).toList = ([] : List UInt8)
       ·rw [if_pos c6] at H
        have c6b0 : ((rdOf ByteArray.empty l0 x8_1).toList == ([] : List UInt8)) = true := beq_iff_eq.mpr c6;have c6i0 : (rdOf ByteArray.empty l0 x8_1).toList.isEmpty = true := (aid_isEmpty2 _).symm.trans c6b0;have c6b1 : ((rdOf ByteArray.empty l0 x8_1).toList != ([] : List UInt8)) = false := bne_eq_false_iff_eq.mpr c6;clear c6;(first | rw [c6b0] | (simp only [i64_w, i32_w]; rw [c6b0]) | skip)
        have H' := Aside0.mk H;clear H;go_wp2
        all_goals (first | (exfalso; have h_ : (rdOf ByteArray.empty l0 x8_1).toList.isEmpty = false := (by assumption); rw [c6i0] at h_; cases h_; done) | skip)
        go_meet
        case rel => exact ⟨_, (((rdOf ByteArray.empty l0 x8_1).toList == ([] : List UInt8))), zz3, H', ⟨(zz11 HK1)⟩, ⟨(zz28 HO_3)⟩, ⟨(zz0 HB)⟩⟩
       ·rw [if_neg c6] at H
        have c6b0 : ((rdOf ByteArray.empty l0 x8_1).toList == ([] : List UInt8)) = false := beq_eq_false_iff_ne.mpr c6;have c6i0 : (rdOf ByteArray.empty l0 x8_1).toList.isEmpty = false := (aid_isEmpty2 _).symm.trans c6b0;have c6b1 : ((rdOf ByteArray.empty l0 x8_1).toList != ([] : List UInt8)) = true := bne_iff_ne.mpr c6;(first | rw [c6b0] | (simp only [i64_w, i32_w]; rw [c6b0]) | skip)
        have H' := Aside0.mk H;clear H;go_wp2
        all_goals (first | (exfalso; have h_ : (rdOf ByteArray.empty l0 x8_1).toList.isEmpty = true := (by assumption); rw [c6i0] at h_; cases h_; done) | skip)
        go_meet
        case rel => exact ⟨_, (((rdOf ByteArray.empty l0 x8_1).toList == ([46] : List UInt8))), zz3, H', ⟨(zz11 HK1)⟩, ⟨(zz28 HO_3)⟩, ⟨(zz0 HB)⟩⟩
      case rest =>
       clear HC5;obtain ⟨kq, x13_4, rfl, HA, HJ4, HO_3, HB⟩ := hcut;cases kq with
       | zero => exact absurd HA.out (by simp [impl_PathClean.j1])
       | succ kj4 =>
        have H := HA.out;clear HA;simp only [impl_PathClean.j1] at H
        by_cases c7 : x13_4 = true
        ·subst c7
         rw [if_pos rfl] at H;have H' := Aside0.mk H;clear H;go_wp2
         go_roundg kj4
         case measure => have := HK1.out; have := HJ4.out; omega
         case rel => exact ⟨(x3_1), (wrap64 (x8_1 + 1)), zz3, H', ⟨(zz20 HK1 HJ4)⟩, ⟨(zz28 HO_3)⟩, ⟨(zz0 HB)⟩⟩
        ·replace c7 := Bool.eq_false_iff.mpr c7
         subst c7;rw [if_neg (show ¬ (false = true) by decide)] at H;by_cases c8 : (rdOf ByteArray.empty l0 x8_1).toList = ([46, 46] : List UInt8)
         ·rw [if_pos c8] at H
          have c8b0 : ((rdOf ByteArray.empty l0 x8_1).toList == ([46, 46] : List UInt8)) = true := beq_iff_eq.mpr c8;have c8b1 : ((rdOf ByteArray.empty l0 x8_1).toList != ([46, 46] : List UInt8)) = false := bne_eq_false_iff_eq.mpr c8;clear c8;by_cases c9 : (x3_1.length : Int) > 0
          ·rw [if_pos c9] at H
           have c9b0 : decide (0 < (x3_1.length : Int)) = true := decide_eq_true c9;have c9b1 : decide (0 < x3_1.length) = true := decide_eq_true (by omega);clear c9;obtain ⟨ji10, hji10⟩ : ∃ j_ : Int, (wrap64 ((x3_1.length : Int) - 1)) = j_ := ⟨_, rfl⟩;replace H : (if 0 ≤ (ji10) then (if (ji10) ≤ (x3_1.length : Int) then (impl_PathClean.l0 kj4 (x3_1.take ((ji10) : Int).toNat) l0 (l0.length : Int) (wrap64 (x8_1 + 1))) else (none)) else (none)) = some r := by first | (rw [hji10] at H; exact H) | (simp only [hji10] at H ⊢; exact H)
           have hji10w : (IntKind.i64.wrap ((x3_1.length : Int) - 1)) = ji10 := (i64_w _).trans hji10;by_cases c11 : 0 ≤ (ji10)
           ·rw [if_pos c11] at H
            have c11b0 := eq_true c11;have c11b1 : decide (0 ≤ (ji10)) = true := decide_eq_true c11;clear c11;by_cases c12 : (ji10) ≤ (x3_1.length : Int)
            ·rw [if_pos c12] at H
             have c12b0 := eq_true c12;have c12b1 : decide ((ji10) ≤ (x3_1.length : Int)) = true := decide_eq_true c12;clear c12;obtain ⟨y473, Ny473⟩ := toY (x3_1.take ((ji10) : Int).toNat);(first | with_reducible replace H := bindZ Ny473 H | rw [← Ny473.out] at H | skip)
             have H' := Aside0.mk H;clear H;obtain ⟨Ao13, co13, eo13⟩ := Kd.R_slice HO_3.out;subst eo13;have q14 : ((ji10) : Int) ≤ ((x3_1.length : Int) : Int) := ofD;obtain ⟨i014, hi014, _, hsz14, _⟩ := info_parts info9;have hcut14 := cut_to (P := Tryz.prog) 24 9 .i64 Tryz.underlying24 hi014 Ao13 x3_1.length co13 (ji10) ofD q14 (Kd.R_reads' HO_3.out).2.1;have hr14 := Kd.R_take (m := ((ji10) : Int).toNat) HO_3.out (by omega);have hy14 : y473.length = ((ji10) : Int).toNat := (by rw [Ny473.out, List.length_take]; omega);rw [← Ny473.out] at hr14;rw [← hy14] at hr14 hcut14;clear hy14 hi014 hsz14 HO_3;have HO475 := Aside0.mk hr14;clear hr14;replace q14 := eq_true q14;go_wp2
             go_roundg kj4
             case measure => have := HK1.out; have := HJ4.out; omega
             case rel => exact ⟨(y473), (wrap64 (x8_1 + 1)), zz3, H', ⟨(zz20 HK1 HJ4)⟩, ⟨(zz28 HO475)⟩, ⟨(zz0 HB)⟩⟩
            ·rw [if_neg c12] at H
             exact absurd H (by simp)
           ·rw [if_neg c11] at H
            exact absurd H (by simp)
          ·rw [if_neg c9] at H
           have c9b0 : decide (0 < (x3_1.length : Int)) = false := decide_eq_false c9;have c9b1 : decide (0 < x3_1.length) = false := decide_eq_false (by omega);clear c9;have H' := Aside0.mk H;clear H;obtain ⟨Ao15, co15, eo15⟩ := Kd.R_slice HO_3.out;subst eo15;go_wp2
           go_roundg kj4
           case measure => have := HK1.out; have := HJ4.out; omega
           case rel => exact ⟨(x3_1), (wrap64 (x8_1 + 1)), zz3, H', ⟨(zz20 HK1 HJ4)⟩, ⟨(zz28 HO_3)⟩, ⟨(zz0 HB)⟩⟩
         ·rw [if_neg c8] at H
          have c8b0 : ((rdOf ByteArray.empty l0 x8_1).toList == ([46, 46] : List UInt8)) = false := beq_eq_false_iff_ne.mpr c8;have c8b1 : ((rdOf ByteArray.empty l0 x8_1).toList != ([46, 46] : List UInt8)) = true := bne_iff_ne.mpr c8;by_cases c16 : x3_1.length < 8796093022208
          ·rw [if_pos c16] at H
           have LMc16 := Aside0.mk c16;clear c16;obtain ⟨y476, Ny476⟩ := toY (x3_1 ++ [(rdOf ByteArray.empty l0 x8_1)]);(first | with_reducible replace H := bindZ Ny476 H | rw [← Ny476.out] at H | skip)
           have H' := Aside0.mk H;clear H;go_wp2_with (first | ((with_reducible refine gate_builtin (b := .append) (xs := #[.tmp 26, .tmp 28]) rfl ?_); at_builtin; refine Kd.R_append Kd.string (w0 := w) w.heap.size rfl (.tmp 26) (.tmp 28) 24 9 (.string ⟨#[]⟩) 16 rfl Tryz.underlying24 info9 rfl (by decide) (by omega) u3 x3_1 (rdOf ByteArray.empty l0 x8_1) [.string (rdOf ByteArray.empty l0 x8_1)] (fun _ => True) (fun _ => False) rfl rfl ?aP (fun _ hk => hk.elim) ?aF ?aO ?aB ?aS ?aL ?_; (case aP => exact rfl); (case aB => exact (zz0 HB)); (case aF => exact (fun _ _ => trivial)); (case aO => exact (zz28 HO_3)); (case aS => exact (below_size (zz0 HB))); (case aL => exact (zz5 LMc16)); intro v477 w17 ho hb hg hat; rw [← Ny476.out] at ho; replace HB := Aside0.mk (hb); have HO478 := Aside0.mk (ho); clear HO_3; clear ho hb hg hat))
           go_roundg kj4
           case measure => have := HK1.out; have := HJ4.out; omega
           case rel => exact ⟨(y476), (wrap64 (x8_1 + 1)), zz3, H', ⟨(zz20 HK1 HJ4)⟩, ⟨(zz28 HO478)⟩, ⟨(zz0 HB)⟩⟩
          ·rw [if_neg c16] at H
           exact absurd H (by simp)
     ·rw [if_neg c4] at H
      exact absurd H (by simp)
    ·rw [if_neg c3] at H
     exact absurd H (by simp)
   ·rw [if_neg c2] at H
    have c2b0 : decide (x8_1 < (l0.length : Int)) = false := decide_eq_false c2;clear c2;obtain rfl := Option.some.inj H;go_wp2
    go_ret
    exact ⟨_, zz1, (zz28 HO_3), (zz0 HB)⟩
end Go.Proofs.YtpnedbnpnekahaaGreatDoor.P
end
section
namespace Go.Proofs.YtpnedbnpnekahaaGreatDoor.P
open Go.RowKit Go.Proofs.YtpnedbnpnekahaaGreatDoorW.PrintWords Go.Proofs.YtpnedbnpnekahaaGreatDoorW.PrintLast Go.Proofs.YtpnedbnpnekahaaGreatDoorW.PrintMore Go.Proofs.YtpnedbnpnekahaaGreatDoor.B Go.Proofs.YtpnedbnpnekahaaGreatDoor.Ad
set_option linter.unusedVariables false
set_option linter.unusedSimpArgs false
def slices_Clone_string_string.f (l0 : List ByteArray) : Option (List ByteArray) := if l0.length * 16 ≤ 140737488355328 then some l0 else none
theorem slices_Clone_string_string.calls (A0 : Option Addr) (c0 : Nat) (l0 : List ByteArray) (r : List ByteArray) (w : World) (hr0 : Kd.C Kd.string w A0 l0.length l0) (hc0 : l0.length ≤ c0) (h : slices_Clone_string_string.f l0 = some r) :
  Calls Tryz.prog 77 #[.slice A0 l0.length c0] w fun e w' => ∃ v0_ : Value, e = .returned (v0_) ∧ Kd.R Kd.string 9 w' w.heap.size (fun _ => True) v0_ r ∧ Below w.heap.size w w' := by
 unfold slices_Clone_string_string.f at h
 split at h
 ·rename_i hh
  obtain rfl := Option.some.inj h
  rcases Nat.eq_zero_or_pos l0.length with h0 | h0
  ·obtain rfl : l0 = [] := List.length_eq_zero_iff.1 h0
   cases A0 with
   | none => exact (Tryz.slices_Clone_string_nil 0 c0 w).mono fun e w' ⟨he, hw⟩ => ⟨_, he, Kd.R_nil _ _ _ _ _, hw ▸ Below.refl _ _⟩
   | some a => exact (Tryz.slices_Clone_string_zero a c0 w).mono fun e w' ⟨v, he, ho, _, hb⟩ => ⟨v, he, Kd.R_of_own ho (fun _ _ => trivial), hb⟩
  ·obtain ⟨bk, o, rfl, hb, hcells⟩ := row_at hr0 h0
   refine (Tryz.slices_Clone_string bk o l0.length c0 l0 w (Nat.le_refl _) hh (fun j hj => ?_)).mono fun e w' ⟨v, he, ho, _, hb'⟩ => ⟨v, he, Kd.R_of_own ?_ (fun _ _ => trivial), hb'⟩
   ·rw [List.getD_eq_getElem?_getD, List.getElem?_eq_getElem hj]
    exact hcells j _ (List.getElem?_eq_getElem hj)
   ·rw [List.take_length] at ho
    exact ho
 ·cases h
end Go.Proofs.YtpnedbnpnekahaaGreatDoor.P
end
section
namespace Go.Proofs.YtpnedbnpnekahaaGreatDoor.P
open Go.RowKit Go.Proofs.YtpnedbnpnekahaaGreatDoorW.PrintWords Go.Proofs.YtpnedbnpnekahaaGreatDoorW.PrintLast Go.Proofs.YtpnedbnpnekahaaGreatDoorW.PrintMore
attribute [local go_sem] max2_int min2_int max_two min_two max_three min_three max_four min_four
set_option linter.unusedVariables false
set_option linter.unusedSimpArgs false
def impl_readWay.l0 : Nat → ByteArray → ByteArray → Bool → List ByteArray → List ByteArray → Int → Int → Option (ByteArray × List ByteArray × Bool × ByteArray × Bool)
 | 0, _, _, _, _, _, _, _ => none
 | k + 1, x0, x9, x10, x12, x35, x36, x37 => if x37 < x36 then (if 0 ≤ x37 then (if x37 < (x35.length : Int) then ((impl_EscNorm.f k (rdOf ByteArray.empty x35 x37)).bind fun bt492 => (if bt492.2 = true then (if x12.length < 8796093022208 then (impl_readWay.l0 k x0 x9 x10 (x12 ++ [bt492.1]) x35 x36 (wrap64 (x37 + 1))) else (none)) else (some ((⟨#[]⟩ : ByteArray), ([] : List ByteArray), false, (⟨#[]⟩ : ByteArray), false)))) else (none)) else (none)) else ((impl_PathClean.f k x12).bind fun t497 => ((impl_AddrOk.f k x0 t497 x10 x9).bind fun t501 => (if t501 = true then (some (x0, t497, x10, x9, true)) else (some ((⟨#[]⟩ : ByteArray), ([] : List ByteArray), false, (⟨#[]⟩ : ByteArray), false)))))
def impl_readWay.f (k : Nat) (a0 : ByteArray) (l1 : List ByteArray) (a2 : ByteArray) : Option (ByteArray × List ByteArray × Bool × ByteArray × Bool) := (strings_Cut.f a2 (⟨#[63]⟩ : ByteArray)).bind fun bt480 => ((impl_EscNorm.f k bt480.2.1).bind fun bt483 => (if bt483.2 = true then ((slices_Clone_string_string.f l1).bind fun t485 => ((strings_Split.f k bt480.1 (⟨#[47]⟩ : ByteArray)).bind fun t488 => (impl_readWay.l0 k a0 bt483.1 bt480.2.2 t485 t488 (t488.length : Int) 0))) else (some ((⟨#[]⟩ : ByteArray), ([] : List ByteArray), false, (⟨#[]⟩ : ByteArray), false))))
theorem impl_readWay.mono_l : ∀ k, (∀ y0 y1 y2 y3 y4 y5 y6, LeO (impl_readWay.l0 k y0 y1 y2 y3 y4 y5 y6) (impl_readWay.l0 (k + 1) y0 y1 y2 y3 y4 y5 y6))
 | 0 => fun _ _ _ _ _ _ _ r h => by simp [impl_readWay.l0] at h
 | k + 1 => by
  have ih0 := impl_readWay.mono_l k
  ·intro y0 y1 y2 y3 y4 y5 y6
   unfold impl_readWay.l0
   repeat' first | (with_reducible first | exact ih0 _ _ _ _ _ _ _ | exact impl_AddrOk.mono _ _ _ _ _ | exact impl_EscNorm.mono _ _ | exact impl_PathClean.mono _ _ | exact strings_Split.mono _ _ _ | exact LeO.refl _ | exact LeO.none _ | refine LeO.ite ?_ ?_ | refine LeO.bind ?_ (fun _ => ?_)) | exact LeO.none _ | refine LeO.ite ?_ ?_ | refine LeO.bind ?_ (fun _ => ?_)
theorem impl_readWay.mono : ∀ a0 a1 a2 k, LeO (impl_readWay.f k a0 a1 a2) (impl_readWay.f (k + 1) a0 a1 a2) := by
 intro a0 a1 a2 k;have ih0 := impl_readWay.mono_l k;unfold impl_readWay.f
 repeat' first | (with_reducible first | exact ih0 _ _ _ _ _ _ _ | exact impl_AddrOk.mono _ _ _ _ _ | exact impl_EscNorm.mono _ _ | exact impl_PathClean.mono _ _ | exact strings_Split.mono _ _ _ | exact LeO.refl _ | exact LeO.none _ | refine LeO.ite ?_ ?_ | refine LeO.bind ?_ (fun _ => ?_)) | exact LeO.none _ | refine LeO.ite ?_ ?_ | refine LeO.bind ?_ (fun _ => ?_)
set_option maxHeartbeats 8000000 in
set_option maxRecDepth 100000 in
theorem impl_readWay.calls (k : Nat) (a0 : ByteArray) (A1 : Option Addr) (c1 : Nat) (l1 : List ByteArray) (a2 : ByteArray) (r1 : ByteArray) (r2 : List ByteArray) (r3 : Bool) (r4 : ByteArray) (r5 : Bool) (w : World) (hr1 : Kd.C Kd.string w A1 l1.length l1) (hc1 : l1.length ≤ c1) (h : impl_readWay.f k a0 l1 a2 = some (r1, r2, r3, r4, r5)) :
  Calls Tryz.prog 69 #[.string a0, .slice A1 l1.length c1, .string a2] w fun e w' => ∃ v1_ : Value, e = .returned (.tuple #[.agg #[.string r1, v1_, .bool r3, .string r4], .bool r5]) ∧ Kd.R Kd.string 9 w' w.heap.size (fun _ => True) v1_ r2 ∧ Below w.heap.size w w' := by
 have hu52 := Tryz.underlying52;have HR1 := Aside0.mk hr1;have HC1 := Aside0.mk hc1;clear hr1 hc1;have HB := Aside0.mk (Below.refl w.heap.size w);have H : ((strings_Cut.f a2 (⟨#[63]⟩ : ByteArray)).bind fun bt480 => ((impl_EscNorm.f k bt480.2.1).bind fun bt483 => (if bt483.2 = true then ((slices_Clone_string_string.f l1).bind fun t485 => ((strings_Split.f k bt480.1 (⟨#[47]⟩ : ByteArray)).bind fun t488 => (impl_readWay.l0 k a0 bt483.1 bt480.2.2 t485 t488 (t488.length : Int) 0))) else (some ((⟨#[]⟩ : ByteArray), ([] : List ByteArray), false, (⟨#[]⟩ : ByteArray), false))))) = some (r1, r2, r3, r4, r5) := h;clear h;replace H := bindA H;obtain ⟨⟨t480, t481, t482⟩, A4, H⟩ := H;try dsimp -simprocs only at H
 replace H := bindA H;obtain ⟨⟨t483, t484⟩, A5, H⟩ := H;try dsimp -simprocs only at H
 by_cases c6 : t484 = true
 ·subst c6
  rw [if_pos rfl] at H;replace H := bindA H;obtain ⟨t485, A7, H⟩ := H;replace H := bindA H;obtain ⟨t488, A8, H⟩ := H;have H' := Aside0.mk H;clear H;go_enter Tryz.func69, Tryz.ntmps69;go_wp2_with (first | ((with_reducible refine gate_dst (N := 6) rfl ?_); refine boxE 6 #[.string (⟨#[]⟩ : ByteArray), .slice none 0 0, .bool false, .string (⟨#[]⟩ : ByteArray)] 52 ?_; intro gb479 hg w9 hbox hb; have BK479 := Aside0.mk (hbox); have GE479 := geB hg (zz0 HB); replace HB := Aside0.mk (below_step (zz0 HB) hb); clear hb hbox hg) | ((with_reducible refine gate_callee (f := 54) rfl ?_); refine gsL (some 20) Tryz.func54 #[.string a2, .string (⟨#[63]⟩ : ByteArray)] ?_; (with_reducible refine (strings_Cut.calls a2 (⟨#[63]⟩ : ByteArray) t480 t481 t482 _ A4.out).mono ?_); rintro e w10 ⟨rfl, hb⟩; refine ⟨_, rfl, ?_⟩; replace BK479 := Aside0.mk (blk_below (zz21 BK479) hb); replace HB := Aside0.mk (below_step (zz2 HB GE479) hb); (try clear hb)) | ((with_reducible refine gate_callee (f := 88) rfl ?_); refine gsL (some 26) Tryz.func88 #[.string t481] ?_; (with_reducible refine (impl_EscNorm.calls k t481 t483 true _ A5.out).mono ?_); rintro e w11 ⟨rfl, hb⟩; refine ⟨_, rfl, ?_⟩; replace BK479 := Aside0.mk (blk_below (zz21 BK479) hb); replace HB := Aside0.mk (below_step (zz2 HB GE479) hb); (try clear hb)) | ((with_reducible refine gate_callee (f := 77) rfl ?_); refine gsL (some 33) Tryz.func77 #[.slice A1 l1.length c1] ?_; (with_reducible refine (slices_Clone_string_string.calls _ _ l1 t485 _ ?side1 ?side2 A7.out).mono ?_); (case side1 => exact (zz24 HR1 HB)); (case side2 => exact HC1.out); rintro e w12 ⟨v486, rfl, ho0, hb⟩; refine ⟨_, rfl, ?_⟩; have HO487 := Aside0.mk (Kd.R_lower ho0 (below_size (zz2 HB GE479))); replace BK479 := Aside0.mk (blk_below (zz21 BK479) hb); replace HB := Aside0.mk (below_step (zz2 HB GE479) hb); (try clear hb ho0)) | ((with_reducible refine gate_callee (f := 89) rfl ?_); refine gsL (some 35) Tryz.func89 #[.string t480, .string (⟨#[47]⟩ : ByteArray)] ?_; (with_reducible refine (strings_Split.calls k t480 (⟨#[47]⟩ : ByteArray) t488 _ A8.out).mono ?_); rintro e w13 ⟨v489, rfl, ho0, hb⟩; refine ⟨_, rfl, ?_⟩; have HO490 := Aside0.mk (Kd.R_lower (Kd.R_new' ho0 (Kd.R_lt (zz28 HO487))) (below_size (zz2 HB GE479))); replace HO487 := Aside0.mk (Kd.R_elder' (zz28 HO487) (Kd.R_base ho0) hb); replace BK479 := Aside0.mk (blk_below (zz21 BK479) hb); replace HB := Aside0.mk (below_step (zz2 HB GE479) hb); (try clear hb ho0); obtain ⟨Ao14, co14, eo14⟩ := Kd.R_slice HO490.out; subst eo14))
  go_loopg [12, 37] k (fun kq v12 v37 w' => ∃ (x12_1 : List ByteArray) (x37_1 : Int) (x480000_1 : ByteArray) (x480002_1 : Bool) (x480003_1 : ByteArray), v37 = .int .i64 x37_1 ∧ Aside0 (impl_readWay.l0 kq a0 t483 t482 x12_1 t488 (t488.length : Int) x37_1 = some (r1, r2, r3, r4, r5)) ∧ Aside0 (kq ≤ k) ∧ Aside0 (Kd.R Kd.string 9 w' w.heap.size (fun k_ => some k_ ≠ ((.slice Ao14 t488.length co14) : Value).ownBlock) v12 x12_1) ∧ Aside0 (Kd.R Kd.string 9 w' w.heap.size (fun k_ => some k_ ≠ (v12 : Value).ownBlock) (.slice Ao14 t488.length co14) t488) ∧ Aside0 (w'.heap[gb479]? = some (.cells #[.string x480000_1, (.slice none 0 0), .bool x480002_1, .string x480003_1] 52 (0, 0))) ∧ Aside0 (Below w.heap.size w w'))
  case atStart => exact ⟨(t485), (0), ((⟨#[]⟩ : ByteArray)), (false), ((⟨#[]⟩ : ByteArray)), zz3, H', ⟨Nat.le_refl _⟩, ⟨(zz34 HO487)⟩, ⟨(zz34 HO490)⟩, ⟨(zz21 BK479)⟩, ⟨(zz2 HB GE479)⟩⟩
  case round =>
   clear H';obtain ⟨x12_1, x37_1, x480000_1, x480002_1, x480003_1, rfl, HA, HK1, HO_12, HO_35, BK479, HB⟩ := hrel;cases gk with
   | zero => exact absurd HA.out (by simp [impl_readWay.l0])
   | succ k1 =>
    have H := HA.out;clear HA;simp only [impl_readWay.l0] at H
    by_cases c15 : x37_1 < (t488.length : Int)
    ·rw [if_pos c15] at H
     have c15b0 : decide (x37_1 < (t488.length : Int)) = true := decide_eq_true c15;clear c15;by_cases c16 : 0 ≤ x37_1
     ·rw [if_pos c16] at H
      have c16b0 : decide (0 ≤ x37_1) = true := decide_eq_true c16;clear c16;by_cases c17 : x37_1 < (t488.length : Int)
      ·rw [if_pos c17] at H
       have c17b0 : decide (x37_1 < (t488.length : Int)) = true := decide_eq_true c17;clear c17;replace H := bindA H;obtain ⟨⟨t492, t493⟩, A18, H⟩ := H;try dsimp -simprocs only at H
       by_cases c19 : t493 = true
       ·subst c19
        rw [if_pos rfl] at H;by_cases c20 : x12_1.length < 8796093022208
        ·rw [if_pos c20] at H
         have LMc20 := Aside0.mk c20;clear c20;obtain ⟨y494, Ny494⟩ := toY (x12_1 ++ [t492]);(first | with_reducible replace H := bindZ Ny494 H | rw [← Ny494.out] at H | skip)
         have H' := Aside0.mk H;clear H;have p491 : 0 ≤ (x37_1 : Int) := ofD;have q491 : x37_1 < (t488.length : Int) := ofD;obtain ⟨ad491, e491, hx491_0⟩ := Kd.at_string (Kd.R_reads' HO_35.out).2.2 x37_1 p491 q491;cases e491
         replace p491 := eq_true p491;replace q491 := eq_true q491;go_wp2_with (first | ((with_reducible refine gate_callee (f := 88) rfl ?_); refine gsL (some 43) Tryz.func88 #[.string (rdOf ByteArray.empty t488 x37_1)] ?_; (with_reducible refine (impl_EscNorm.calls k1 (rdOf ByteArray.empty t488 x37_1) t492 true _ A18.out).mono ?_); rintro e w21 ⟨rfl, hb⟩; refine ⟨_, rfl, ?_⟩; replace HO_12 := Aside0.mk (Kd.R_below (zz28 HO_12) hb); replace HO_35 := Aside0.mk (Kd.R_below (zz28 HO_35) hb); replace BK479 := Aside0.mk (blk_below (zz21 BK479) hb); replace HB := Aside0.mk (below_step (zz2 HB GE479) hb); (try clear hb)) | ((with_reducible refine gate_builtin (b := .append) (xs := #[.tmp 49, .tmp 51]) rfl ?_); at_builtin; refine Kd.R_append Kd.string (w0 := w) w.heap.size rfl (.tmp 49) (.tmp 51) 24 9 (.string ⟨#[]⟩) 16 rfl Tryz.underlying24 info9 rfl (by decide) (by omega) u12 x12_1 t492 [.string t492] (fun k_ => some k_ ≠ (.slice (some ad491) t488.length co14 : Value).ownBlock) (fun _ => False) rfl rfl ?aP (fun _ hk => hk.elim) ?aF ?aO ?aB ?aS ?aL ?_; (case aP => exact rfl); (case aB => exact (zz2 HB GE479)); (case aF => exact (fun k_ hk => Kd.fresh' (Kd.R_lt (zz28 HO_35)) k_ hk)); (case aO => exact (zz28 HO_12)); (case aS => exact (below_size (zz2 HB GE479))); (case aL => exact (zz5 LMc20)); intro v495 w22 ho hb hg hat; rw [← Ny494.out] at ho; replace HO_35 := Aside0.mk (Kd.R_after (ok := (fun _ => True)) (zz36 HO_35) hg hat); replace BK479 := Aside0.mk (blk_grown (zz21 BK479) hg (Kd.R_ne HO_12.out BK479.out (by decide))); replace HB := Aside0.mk (hb); have HO496 := Aside0.mk (ho); clear HO_12; clear ho hb hg hat))
         go_roundg k1
         case measure => have := HK1.out; omega
         case rel => exact ⟨(y494), (wrap64 (x37_1 + 1)), (x480000_1), (x480002_1), (x480003_1), zz3, H', ⟨(zz5 HK1)⟩, ⟨(zz28 HO496)⟩, ⟨(zz34 HO_35)⟩, ⟨(zz21 BK479)⟩, ⟨(zz2 HB GE479)⟩⟩
        ·rw [if_neg c20] at H
         exact absurd H (by simp)
       ·replace c19 := Bool.eq_false_iff.mpr c19
        subst c19;rw [if_neg (show ¬ (false = true) by decide)] at H;simp only [Option.some.injEq, Prod.mk.injEq] at H
        obtain ⟨rfl, rfl, rfl, rfl, rfl⟩ := H;have p491 : 0 ≤ (x37_1 : Int) := ofD;have q491 : x37_1 < (t488.length : Int) := ofD;obtain ⟨ad491, e491, hx491_0⟩ := Kd.at_string (Kd.R_reads' HO_35.out).2.2 x37_1 p491 q491;cases e491
        replace p491 := eq_true p491;replace q491 := eq_true q491;go_wp2_with (first | ((with_reducible refine gate_callee (f := 88) rfl ?_); refine gsL (some 43) Tryz.func88 #[.string (rdOf ByteArray.empty t488 x37_1)] ?_; (with_reducible refine (impl_EscNorm.calls k1 (rdOf ByteArray.empty t488 x37_1) t492 false _ A18.out).mono ?_); rintro e w23 ⟨rfl, hb⟩; refine ⟨_, rfl, ?_⟩; replace HO_12 := Aside0.mk (Kd.R_below (zz28 HO_12) hb); replace HO_35 := Aside0.mk (Kd.R_below (zz28 HO_35) hb); replace BK479 := Aside0.mk (blk_below (zz21 BK479) hb); replace HB := Aside0.mk (below_step (zz2 HB GE479) hb); (try clear hb); obtain ⟨_, _, _, _, _, _, _, _⟩ := cf4 BK479))
        refine bodyPost_ret (results_ct rfl _ _ gb479 52 #[.string (⟨#[]⟩ : ByteArray), .slice none 0 0, .bool false, .string (⟨#[]⟩ : ByteArray)] (0, 0) _ rfl (zz37 BK479) Tryz.underlying52 rfl (by kernel_rfl)) rfl ?_;exact ⟨_, zz1, zz38, (zz2 HB GE479)⟩
      ·rw [if_neg c17] at H
       exact absurd H (by simp)
     ·rw [if_neg c16] at H
      exact absurd H (by simp)
    ·rw [if_neg c15] at H
     have c15b0 : decide (x37_1 < (t488.length : Int)) = false := decide_eq_false c15;clear c15;replace H := bindA H;obtain ⟨t497, A25, H⟩ := H;replace H := bindA H;obtain ⟨t501, A26, H⟩ := H;by_cases c27 : t501 = true
     ·subst c27
      rw [if_pos rfl] at H;simp only [Option.some.injEq, Prod.mk.injEq] at H
      obtain ⟨rfl, rfl, rfl, rfl, rfl⟩ := H;obtain ⟨Ao28, co28, eo28⟩ := Kd.R_slice HO_12.out;subst eo28;go_wp2_with (first | ((with_reducible refine gate_callee (f := 90) rfl ?_); refine gsL (some 56) Tryz.func90 #[.slice Ao28 x12_1.length co28] ?_; (with_reducible refine (impl_PathClean.calls k1 _ _ x12_1 t497 _ ?side1 ?side2 A25.out).mono ?_); (case side1 => exact (zz39 HO_12)); (case side2 => exact (Kd.R_reads' HO_12.out).2.1); rintro e w29 ⟨v498, rfl, ho0, hb⟩; refine ⟨_, rfl, ?_⟩; have HO499 := Aside0.mk (Kd.R_lower (Kd.R_new' (Kd.R_new' ho0 (Kd.R_lt (zz28 HO_12))) (Kd.R_lt (zz28 HO_35))) (below_size (zz2 HB GE479))); replace HO_12 := Aside0.mk (Kd.R_elder' (zz28 HO_12) (Kd.R_base ho0) hb); replace HO_35 := Aside0.mk (Kd.R_elder' (zz28 HO_35) (Kd.R_base ho0) hb); replace BK479 := Aside0.mk (blk_below (zz21 BK479) hb); replace HB := Aside0.mk (below_step (zz2 HB GE479) hb); (try clear hb ho0); obtain ⟨Ao30, co30, eo30⟩ := Kd.R_slice HO499.out; subst eo30) | ((with_reducible refine gate_dst (N := 17) rfl ?_); refine boxE 17 #[.string (⟨#[]⟩ : ByteArray), .slice none 0 0, .bool false, .string (⟨#[]⟩ : ByteArray)] 52 ?_; intro gb500 hg w31 hbox hb; replace HO_12 := Aside0.mk (Kd.R_below (zz28 HO_12) hb); replace HO_35 := Aside0.mk (Kd.R_below (zz28 HO_35) hb); replace HO499 := Aside0.mk (Kd.R_below (zz28 HO499) hb); have BK500 := Aside0.mk (hbox); have GE500 := geB hg (zz2 HB GE479); replace HB := Aside0.mk (below_step (zz2 HB GE479) hb); have NB479_500 := Aside0.mk ((by rw [hg]; exact Nat.ne_of_lt (blk_lt (zz21 BK479)) : gb479 ≠ gb500)); have NB500_479 := Aside0.mk ((by rw [hg]; exact Nat.ne_of_gt (blk_lt (zz21 BK479)) : gb500 ≠ gb479)); replace BK479 := Aside0.mk (blk_below (zz21 BK479) hb); clear hb hbox hg; have hnb32 := NB500_479.out; have hnc32 := NB479_500.out; obtain ⟨_, _, _, _, _, _, _, _⟩ := cf4 BK500) | ((with_reducible refine gate_callee (f := 57) rfl ?_); refine gsL (some 61) Tryz.func57 #[.agg #[.string a0, .slice Ao30 t497.length co30, .bool t482, .string t483]] ?_; (with_reducible refine (impl_AddrOk.calls k1 a0 _ _ t497 t482 t483 true _ ?side1 ?side2 A26.out).mono ?_); (case side1 => exact (by refine (Kd.R_reads' (e := 9) (base := w.heap.size) (ok := fun k_ => ((True ∧ some k_ ≠ (.slice Ao28 x12_1.length co28 : Value).ownBlock) ∧ some k_ ≠ (.slice Ao14 t488.length co14 : Value).ownBlock)) (n := t497.length) (c := co30) ?_).2.2; exact (zz143 HO499 BK500))); (case side2 => exact (Kd.R_reads' HO499.out).2.1); rintro e w34 ⟨rfl, hb⟩; refine ⟨_, rfl, ?_⟩; replace HO_12 := Aside0.mk (Kd.R_below (zz143 HO_12 BK500) hb); replace HO_35 := Aside0.mk (Kd.R_below (zz143 HO_35 BK500) hb); replace HO499 := Aside0.mk (Kd.R_below (zz143 HO499 BK500) hb); replace BK479 := Aside0.mk (blk_below (g := gb479) (o := .cells #[.string x480000_1, .slice none 0 0, .bool x480002_1, .string x480003_1] 52 (0, 0)) (zz45 BK479 NB479_500) hb); replace BK500 := Aside0.mk (blk_below (g := gb500) (o := .cells #[.string a0, .slice Ao30 t497.length co30, .bool t482, .string t483] 52 (0, 0)) (zz37 BK500) hb); replace HB := Aside0.mk (below_step (zz33 HB GE479 GE500) hb); (try clear hb); obtain ⟨_, _, _, _, _, _, _, _⟩ := cf4 BK500; obtain ⟨_, _, _, _, _, _, _, _⟩ := cf4 BK479))
      refine bodyPost_ret (results_ct rfl _ _ gb479 52 #[.string a0, .slice Ao30 t497.length co30, .bool t482, .string t483] (0, 0) _ rfl (zz37 BK479) Tryz.underlying52 rfl (by kernel_rfl)) rfl ?_;exact ⟨_, zz1, (zz46 (rt HO499 BK479)), (zz33 HB GE479 GE500)⟩
     ·replace c27 := Bool.eq_false_iff.mpr c27
      subst c27;rw [if_neg (show ¬ (false = true) by decide)] at H;simp only [Option.some.injEq, Prod.mk.injEq] at H
      obtain ⟨rfl, rfl, rfl, rfl, rfl⟩ := H;obtain ⟨Ao37, co37, eo37⟩ := Kd.R_slice HO_12.out;subst eo37;go_wp2_with (first | ((with_reducible refine gate_callee (f := 90) rfl ?_); refine gsL (some 56) Tryz.func90 #[.slice Ao37 x12_1.length co37] ?_; (with_reducible refine (impl_PathClean.calls k1 _ _ x12_1 t497 _ ?side1 ?side2 A25.out).mono ?_); (case side1 => exact (zz39 HO_12)); (case side2 => exact (Kd.R_reads' HO_12.out).2.1); rintro e w38 ⟨v498, rfl, ho0, hb⟩; refine ⟨_, rfl, ?_⟩; have HO499 := Aside0.mk (Kd.R_lower (Kd.R_new' (Kd.R_new' ho0 (Kd.R_lt (zz28 HO_12))) (Kd.R_lt (zz28 HO_35))) (below_size (zz2 HB GE479))); replace HO_12 := Aside0.mk (Kd.R_elder' (zz28 HO_12) (Kd.R_base ho0) hb); replace HO_35 := Aside0.mk (Kd.R_elder' (zz28 HO_35) (Kd.R_base ho0) hb); replace BK479 := Aside0.mk (blk_below (zz21 BK479) hb); replace HB := Aside0.mk (below_step (zz2 HB GE479) hb); (try clear hb ho0); obtain ⟨Ao39, co39, eo39⟩ := Kd.R_slice HO499.out; subst eo39) | ((with_reducible refine gate_dst (N := 17) rfl ?_); refine boxE 17 #[.string (⟨#[]⟩ : ByteArray), .slice none 0 0, .bool false, .string (⟨#[]⟩ : ByteArray)] 52 ?_; intro gb500 hg w40 hbox hb; replace HO_12 := Aside0.mk (Kd.R_below (zz28 HO_12) hb); replace HO_35 := Aside0.mk (Kd.R_below (zz28 HO_35) hb); replace HO499 := Aside0.mk (Kd.R_below (zz28 HO499) hb); have BK500 := Aside0.mk (hbox); have GE500 := geB hg (zz2 HB GE479); replace HB := Aside0.mk (below_step (zz2 HB GE479) hb); have NB479_500 := Aside0.mk ((by rw [hg]; exact Nat.ne_of_lt (blk_lt (zz21 BK479)) : gb479 ≠ gb500)); have NB500_479 := Aside0.mk ((by rw [hg]; exact Nat.ne_of_gt (blk_lt (zz21 BK479)) : gb500 ≠ gb479)); replace BK479 := Aside0.mk (blk_below (zz21 BK479) hb); clear hb hbox hg; have hnb41 := NB500_479.out; have hnc41 := NB479_500.out; obtain ⟨_, _, _, _, _, _, _, _⟩ := cf4 BK500) | ((with_reducible refine gate_callee (f := 57) rfl ?_); refine gsL (some 61) Tryz.func57 #[.agg #[.string a0, .slice Ao39 t497.length co39, .bool t482, .string t483]] ?_; (with_reducible refine (impl_AddrOk.calls k1 a0 _ _ t497 t482 t483 false _ ?side1 ?side2 A26.out).mono ?_); (case side1 => exact (by refine (Kd.R_reads' (e := 9) (base := w.heap.size) (ok := fun k_ => ((True ∧ some k_ ≠ (.slice Ao37 x12_1.length co37 : Value).ownBlock) ∧ some k_ ≠ (.slice Ao14 t488.length co14 : Value).ownBlock)) (n := t497.length) (c := co39) ?_).2.2; exact (zz145 HO499 BK500))); (case side2 => exact (Kd.R_reads' HO499.out).2.1); rintro e w43 ⟨rfl, hb⟩; refine ⟨_, rfl, ?_⟩; replace HO_12 := Aside0.mk (Kd.R_below (zz145 HO_12 BK500) hb); replace HO_35 := Aside0.mk (Kd.R_below (zz145 HO_35 BK500) hb); replace HO499 := Aside0.mk (Kd.R_below (zz145 HO499 BK500) hb); replace BK479 := Aside0.mk (blk_below (g := gb479) (o := .cells #[.string x480000_1, .slice none 0 0, .bool x480002_1, .string x480003_1] 52 (0, 0)) (zz45 BK479 NB479_500) hb); replace BK500 := Aside0.mk (blk_below (g := gb500) (o := .cells #[.string a0, .slice Ao39 t497.length co39, .bool t482, .string t483] 52 (0, 0)) (zz37 BK500) hb); replace HB := Aside0.mk (below_step (zz33 HB GE479 GE500) hb); (try clear hb); obtain ⟨_, _, _, _, _, _, _, _⟩ := cf4 BK479))
      refine bodyPost_ret (results_ct rfl _ _ gb479 52 #[.string (⟨#[]⟩ : ByteArray), .slice none 0 0, .bool false, .string (⟨#[]⟩ : ByteArray)] (0, 0) _ rfl (zz37 BK479) Tryz.underlying52 rfl (by kernel_rfl)) rfl ?_;exact ⟨_, zz1, zz38, (zz33 HB GE479 GE500)⟩
 ·replace c6 := Bool.eq_false_iff.mpr c6
  subst c6;rw [if_neg (show ¬ (false = true) by decide)] at H;simp only [Option.some.injEq, Prod.mk.injEq] at H
  obtain ⟨rfl, rfl, rfl, rfl, rfl⟩ := H;go_enter Tryz.func69, Tryz.ntmps69;go_wp2_with (first | ((with_reducible refine gate_dst (N := 6) rfl ?_); refine boxE 6 #[.string (⟨#[]⟩ : ByteArray), .slice none 0 0, .bool false, .string (⟨#[]⟩ : ByteArray)] 52 ?_; intro gb479 hg w45 hbox hb; have BK479 := Aside0.mk (hbox); have GE479 := geB hg (zz0 HB); replace HB := Aside0.mk (below_step (zz0 HB) hb); clear hb hbox hg) | ((with_reducible refine gate_callee (f := 54) rfl ?_); refine gsL (some 20) Tryz.func54 #[.string a2, .string (⟨#[63]⟩ : ByteArray)] ?_; (with_reducible refine (strings_Cut.calls a2 (⟨#[63]⟩ : ByteArray) t480 t481 t482 _ A4.out).mono ?_); rintro e w46 ⟨rfl, hb⟩; refine ⟨_, rfl, ?_⟩; replace BK479 := Aside0.mk (blk_below (zz21 BK479) hb); replace HB := Aside0.mk (below_step (zz2 HB GE479) hb); (try clear hb)) | ((with_reducible refine gate_callee (f := 88) rfl ?_); refine gsL (some 26) Tryz.func88 #[.string t481] ?_; (with_reducible refine (impl_EscNorm.calls k t481 t483 false _ A5.out).mono ?_); rintro e w47 ⟨rfl, hb⟩; refine ⟨_, rfl, ?_⟩; replace BK479 := Aside0.mk (blk_below (zz21 BK479) hb); replace HB := Aside0.mk (below_step (zz2 HB GE479) hb); (try clear hb); obtain ⟨_, _, _, _, _, _, _, _⟩ := cf4 BK479))
  refine bodyPost_ret (results_ct rfl _ _ gb479 52 #[.string (⟨#[]⟩ : ByteArray), .slice none 0 0, .bool false, .string (⟨#[]⟩ : ByteArray)] (0, 0) _ rfl (zz37 BK479) Tryz.underlying52 rfl (by kernel_rfl)) rfl ?_;exact ⟨_, zz1, zz38, (zz2 HB GE479)⟩
end Go.Proofs.YtpnedbnpnekahaaGreatDoor.P
end
section
namespace Go.Proofs.YtpnedbnpnekahaaGreatDoor.P
open Go.RowKit Go.Proofs.YtpnedbnpnekahaaGreatDoorW.PrintWords Go.Proofs.YtpnedbnpnekahaaGreatDoorW.PrintLast Go.Proofs.YtpnedbnpnekahaaGreatDoorW.PrintMore Go.Proofs.YtpnedbnpnekahaaGreatDoor.B Go.Proofs.YtpnedbnpnekahaaGreatDoor.Ad
set_option linter.unusedVariables false
set_option linter.unusedSimpArgs false
def impl_smallLetters.f (a0 : ByteArray) : Option (ByteArray) := if a0.size ≤ 140737488351232 then some (smallB a0) else none
set_option maxHeartbeats 400000 in
set_option maxRecDepth 100000 in
theorem impl_smallLetters.calls (a0 r : ByteArray) (w : World) (h : impl_smallLetters.f a0 = some r) :
  Calls Tryz.prog 70 #[.string a0] w fun e w' => e = .returned (.string r) ∧ Below w.heap.size w w' := by
 unfold impl_smallLetters.f at h
 by_cases hs : a0.size ≤ 140737488351232
 ·rw [if_pos hs] at h
  obtain rfl := Option.some.inj h
  clear h
  have hcv := Lib.run_convert_string_bytes (P := Tryz.prog) w 9 61 5 a0 Tryz.underlying9 Tryz.underlying61 Tryz.underlying5
  go_enter Tryz.func70, Tryz.ntmps70
  go_wp2_with fail
  clear hcv
  go_loopw [10] (fun i wr => ∃ k : Nat, k ≤ a0.size ∧ i = .int .i64 k ∧ Aside0 (SmRow w.heap.size a0 k wr) ∧ Aside0 (Below w.heap.size w wr))
   (fun i _ => a0.size - (intOf i).toNat)
  case atStart =>
   refine ⟨0, Nat.zero_le _, rfl, ⟨sm_start w 5 a0⟩, ⟨?_⟩⟩
   exact sm_below w 5 a0
  case round =>
   obtain ⟨k, hk, rfl, hI, hB⟩ := hrel
   by_cases hlt : k < a0.size
   ·have hc := (hI.out.2 k hlt).1
    have hf := (hI.out.2 k hlt).2
    rw [if_neg (by omega)] at hc
    have hset := Aside0.mk (sm_set hI.out hlt)
    have hskip := Aside0.mk (sm_skip hI.out hlt)
    clear hI
    generalize (L a0).getD k 0 = b at hc hset hskip
    have hb := b.toNat_lt
    by_cases h1 : 65 ≤ b.toNat
    ·by_cases h2 : b.toNat ≤ 90
     ·have e1 : (sm b).toNat = b.toNat + 32 := by
       unfold sm
       rw [if_pos ⟨h1, h2⟩, UInt8.toNat_add]
       have : (32 : UInt8).toNat = 32 := rfl
       omega
      rw [e1, show ((b.toNat + 32 : Nat) : Int) = (b.toNat : Int) + 32 from by omega] at hset
      clear hskip e1
      go_wp2
      exact ⟨⟨k + 1, by omega, by go_num, hset, ⟨hB.out.setCell (Nat.le_refl _) _⟩⟩, by simp [intOf]; omega⟩
     ·have e1 : sm b = b := by unfold sm; rw [if_neg (by omega)]
      have hS : Aside0 (SmRow w.heap.size a0 (k + 1) wr) := ⟨hskip.out e1⟩
      clear e1 hset hskip
      go_wp2
      exact ⟨⟨k + 1, by omega, by go_num, hS, hB⟩, by simp [intOf]; omega⟩
    ·have e1 : sm b = b := by unfold sm; rw [if_neg (by omega)]
     have hS : Aside0 (SmRow w.heap.size a0 (k + 1) wr) := ⟨hskip.out e1⟩
     clear e1 hset hskip
     go_wp2
     exact ⟨⟨k + 1, by omega, by go_num, hS, hB⟩, by simp [intOf]; omega⟩
   ·have ek : k = a0.size := by omega
    have hcells : ∀ j (hj : j < (L (smallB a0)).length), wr.cell? ((⟨w.heap.size, 0, none⟩ : Addr).add j) = some (.int .u8 ((L (smallB a0))[j].toNat : Int)) := by
     intro j hj
     have hj' : j < a0.size := by rw [L_size, smallB, ofL_size, List.length_map, L_size] at hj; exact hj
     rw [add_plain, (hI.out.2 j hj').1, if_pos (by omega)]
     simp [smallB, L_of, List.getD_eq_getElem?_getD, List.getElem?_eq_getElem (show j < (L a0).length by rw [L_size]; exact hj')]
    have hcv := run_convert_bytes_back (P := Tryz.prog) wr 61 9 5 ⟨w.heap.size, 0, none⟩ (grownCap w a0.size 0 5) (L (smallB a0)) Tryz.underlying61 Tryz.underlying5 Tryz.underlying9 hcells
    have hl : (L (smallB a0)).length = a0.size := by rw [L_size, smallB, ofL_size, List.length_map, L_size]
    rw [hl, show (⟨(L (smallB a0)).toArray⟩ : ByteArray) = smallB a0 from of_L _] at hcv
    have Hk := Aside0.mk ek
    clear ek hcells hl
    go_wp2
    go_ret
    exact ⟨rfl, hB.out⟩
 ·rw [if_neg hs] at h; cases h
end Go.Proofs.YtpnedbnpnekahaaGreatDoor.P
end
section
namespace Go.Proofs.YtpnedbnpnekahaaGreatDoor.P
open Go.RowKit Go.Proofs.YtpnedbnpnekahaaGreatDoorW.PrintWords Go.Proofs.YtpnedbnpnekahaaGreatDoorW.PrintLast Go.Proofs.YtpnedbnpnekahaaGreatDoorW.PrintMore Go.Proofs.YtpnedbnpnekahaaGreatDoor.B Go.Proofs.YtpnedbnpnekahaaGreatDoor.Ad
set_option linter.unusedVariables false
set_option linter.unusedSimpArgs false
def sq : ByteArray := ⟨#[47, 63]⟩
theorem sq_at : sq.size = 2 ∧ (∀ h : 0 < sq.size, (sq[0]'h).toNat = 47) ∧ (∀ h : 1 < sq.size, (sq[1]'h).toNat = 63) := by decide +kernel
theorem valid_same (r : Int) : Utf8.valid r = Lib.validRune r := by
 unfold Utf8.valid Lib.validRune
 rw [Bool.eq_iff_iff]
 simp only [Bool.or_eq_true, Bool.and_eq_true, decide_eq_true_eq]
 omega
theorem decode_skip (s : ByteArray) (pos : Nat) (h : pos < s.size) (ha : 128 ≤ (s[pos]'h).toNat) :
  pos + (Utf8.decode s pos).2 ≤ s.size ∧ ∀ j, pos ≤ j → j < pos + (Utf8.decode s pos).2 → ∀ hj : j < s.size, 128 ≤ (s[j]'hj).toNat := by
 have hn : ¬ (s[pos]'h).toNat < 128 := by omega
 have one : pos + 1 ≤ s.size ∧ ∀ j, pos ≤ j → j < pos + 1 → ∀ hj : j < s.size, 128 ≤ (s[j]'hj).toNat := by
  refine ⟨h, fun j h1 h2 hj => ?_⟩
  obtain rfl : j = pos := by omega
  exact ha
 have cont : ∀ k, (decide (pos + k < s.size) && ((s.get! (pos + k)).toNat / 64 == 2)) = true → pos + k < s.size ∧ ∀ hj : pos + k < s.size, 128 ≤ (s[pos + k]'hj).toNat := by
  intro k hk
  simp only [Bool.and_eq_true, decide_eq_true_eq, beq_iff_eq] at hk
  refine ⟨hk.1, fun hj => ?_⟩
  have e := get_at s (pos + k) hj
  rw [Nat.add_zero] at e
  rw [e] at hk
  omega
 simp only [Utf8.decode, get_at s pos h, hn, if_false]
 split
 ·rename_i h1
  simp only [Bool.and_eq_true] at h1
  obtain ⟨l1, b1⟩ := cont 1 (by simpa using h1.2)
  split
  ·refine ⟨by show pos + 2 ≤ _; omega, fun j h2 h3 hj => ?_⟩
   have h3' : j < pos + 2 := h3
   rcases (by omega : j = pos ∨ j = pos + 1) with e | e
   ·subst e; exact ha
   ·subst e; exact b1 hj
  ·exact one
 ·split
  ·rename_i _ h1
   simp only [Bool.and_eq_true] at h1
   obtain ⟨l1, b1⟩ := cont 1 (by simpa using h1.1.2)
   obtain ⟨l2, b2⟩ := cont 2 (by simpa using h1.2)
   split
   ·refine ⟨by show pos + 3 ≤ _; omega, fun j h2 h3 hj => ?_⟩
    have h3' : j < pos + 3 := h3
    rcases (by omega : j = pos ∨ j = pos + 1 ∨ j = pos + 2) with e | e | e
    ·subst e; exact ha
    ·subst e; exact b1 hj
    ·subst e; exact b2 hj
   ·exact one
  ·split
   ·rename_i _ _ h1
    simp only [Bool.and_eq_true] at h1
    obtain ⟨l1, b1⟩ := cont 1 (by simpa using h1.1.1.2)
    obtain ⟨l2, b2⟩ := cont 2 (by simpa using h1.1.2)
    obtain ⟨l3, b3⟩ := cont 3 (by simpa using h1.2)
    split
    ·refine ⟨by show pos + 4 ≤ _; omega, fun j h2 h3 hj => ?_⟩
     have h3' : j < pos + 4 := h3
     rcases (by omega : j = pos ∨ j = pos + 1 ∨ j = pos + 2 ∨ j = pos + 3) with e | e | e | e
     ·subst e; exact ha
     ·subst e; exact b1 hj
     ·subst e; exact b2 hj
     ·subst e; exact b3 hj
    ·exact one
   ·exact one
theorem noAny_skip {s : ByteArray} {pos n : Nat} (h : Lib.NoAny (L s) (L sq) pos) (hb : ∀ j, pos ≤ j → j < pos + n → ∀ hj : j < s.size, 128 ≤ (s[j]'hj).toNat) : Lib.NoAny (L s) (L sq) (pos + n) := by
 intro j b hj hx
 rcases Nat.lt_or_ge j pos with hlt | hge
 ·exact h j b hlt hx
 ·obtain ⟨hl, he⟩ := List.getElem?_eq_some_iff.1 hx
  have hjs : j < s.size := by rw [← L_size]; exact hl
  have h1 := hb j hge hj hjs
  have h2 : (s[j]'hjs) = b := by rw [← he]; rfl
  rw [h2] at h1
  have : L sq = [47, 63] := rfl
  rw [this]
  simp only [List.contains_cons, List.contains_nil, Bool.or_false, Bool.or_eq_false_iff, beq_eq_false_iff_ne]
  constructor
  ·rintro rfl; exact absurd h1 (by decide)
  ·rintro rfl; exact absurd h1 (by decide)
set_option maxHeartbeats 4000000 in
set_option maxRecDepth 1000000 in
theorem indexRune_far (r : Int) (w : World) (h0 : 128 ≤ r) (h1 : r ≤ 2147483647) :
  Calls Tryz.prog 84 #[.string sq, .int .i32 r] w fun e w' => e = .returned (.int .i64 (-1)) ∧ Below w.heap.size w w' := by
 have g0 : decide (0 ≤ r) = true := decide_eq_true (by omega)
 have g1 : decide (r < 128) = false := decide_eq_false (by omega)
 obtain ⟨hsz, hs0, hs1⟩ := sq_at
 by_cases hr : r = 65533
 ·subst hr
  have n0 := fun ty => run_next_ascii (P := Tryz.prog) w sq 0 ty (by rw [hsz]; decide) (by rw [hs0]; decide)
  have n1 := fun ty => run_next_ascii (P := Tryz.prog) w sq 1 ty (by rw [hsz]; decide) (by rw [hs1]; decide)
  rw [hs0] at n0
  rw [hs1] at n1
  have n2 := fun ty => run_next_end (P := Tryz.prog) w sq 2 ty (by rw [hsz]; decide)
  clear hsz hs0 hs1 h0 h1 g0 g1
  go_enter Tryz.func84, Tryz.ntmps84
  go_wp2
  go_loopg [5, 6] 2 (fun g _ _ wx => ∃ i : Nat, i + g = 2 ∧ wx = w.iter sq i)
  case atStart => exact ⟨0, by omega, rfl⟩
  case round =>
   obtain ⟨i, hig, rfl⟩ := hrel
   cases gk with
   | zero =>
    obtain rfl : i = 2 := by omega
    go_wp2
    go_ret
    exact ⟨rfl, (Below.refl _ _).alloc (Nat.le_refl _) _⟩
   | succ g =>
    rcases (by omega : i = 0 ∨ i = 1) with e | e
    ·subst e
     go_wp2
     go_roundg g
     case measure => omega
     case rel => exact ⟨1, by omega, rfl⟩
    ·subst e
     go_wp2
     go_roundg g
     case measure => omega
     case rel => exact ⟨2, by omega, rfl⟩
 ·have g2 : (r == 65533) = false := by simp [hr]
  cases hv : Lib.validRune r with
  | false =>
   go_enter Tryz.func84, Tryz.ntmps84
   go_wp2_with (go_at_call 104; refine (Tryz.utf8_ValidRune _ _).mono ?_; rintro e w' ⟨rfl, hw⟩; rw [hw, hv])
   go_ret
   exact ⟨rfl, Below.refl _ _⟩
  | true =>
   obtain ⟨e1, e2, e3⟩ := encode_facts r (by rw [valid_same]; exact hv) h0
   go_enter Tryz.func84, Tryz.ntmps84
   go_wp2_with (go_at_call 104; refine (Tryz.utf8_ValidRune _ _).mono ?_; rintro e w' ⟨rfl, hw⟩; rw [hw, hv])
   go_step3
   go_wp2
   generalize Utf8.encode r = nd at e1 e2 e3 ⊢
   refine wp_loop_rounds 1 ?_
   rw [rounds_succ]
   by_cases hn : nd.size = 2
   ·obtain ⟨x, hx⟩ : ∃ x : UInt8, ∀ h : 1 < nd.size, nd[1]'h = x := ⟨nd[1]'(by omega), fun _ => rfl⟩
    have hx1 : 128 ≤ x.toNat := by
     have := e3 (by omega)
     simp only [hn] at this
     rw [← hx (by omega)]; exact this
    clear e3
    have hne : ((63 : Int) != (x.toNat : Int)) = true := by simp; omega
    have hnz : ((nd.size : Nat) : Int) - 1 = 1 := by omega
    rw [hnz]
    have HN := Aside0.mk hn
    have hlt : (1 : Int) < (nd.size : Int) := by omega
    clear hn hnz e1 e2
    have hs1' := hs1 (by rw [hsz]; decide)
    have hi1 : (1 : Int) < (sq.size : Int) := by rw [hsz]; decide
    have hs2 : (2 : Int) ≤ (sq.size : Int) := by rw [hsz]; decide
    go_wp2
    go_step3
    go_wp2
    go_quiet (fail)
    have HB : Aside0 (Below w.heap.size w (w.drewN nq)) := ⟨pw_below_drewN (Below.refl _ _) nq⟩
    generalize w.drewN nq = w1 at HB ⊢
    have hib : Lib.indexByte (sq.extract 2 2).data.toList ((x.toNat : Int)).toNat.toUInt8 = -1 := rfl
    go_wp2
    go_quiet ((go_at_call 103; exact Calls.quiet_of_same (Tryz.strings_IndexByte _ _ _)))
    go_wp2
    rw [Exit.noGoto_ret]
    go_wp2
    rw [Exit.noGoto_ret]
    go_ret
    exact ⟨rfl, pw_below_drewN HB.out _⟩
   ·have hge : decide ((nd.size : Int) - 1 < 2) = false := decide_eq_false (by omega)
    go_wp2
    rw [Exit.noGoto_ret]
    go_ret
    exact ⟨rfl, Below.refl _ _⟩
def strings_IndexAny.f (a0 a1 : ByteArray) : Option Int := if L a1 = [47, 63] ∧ a0.size < 4294967281 then some (Lib.indexAny (L a0) (L a1)) else none
def iterTo (w : World) (b : Nat) (s : ByteArray) (p : Nat) : World := { w with heap := w.heap.setIfInBounds b (.stringIter s p) }
theorem iterTo_at {w : World} {b : Nat} {s : ByteArray} {p q : Nat} (h : w.heap[b]? = some (.stringIter s q)) : (iterTo w b s p).heap[b]? = some (.stringIter s p) := by
 obtain ⟨hl, _⟩ := Array.getElem?_eq_some_iff.1 h
 simp [iterTo, hl]
theorem iterTo_below {w0 w : World} {b : Nat} {s : ByteArray} {p : Nat} (h : Below w0.heap.size w0 w) (hb : w0.heap.size ≤ b) : Below w0.heap.size w0 (iterTo w b s p) :=
 ⟨h.os, h.tape, h.output, by simp [iterTo]; exact h.size, fun i hi => by
  rw [← h.block i hi]
  simp only [iterTo]
  exact Array.getElem?_setIfInBounds_ne (by omega)⟩
theorem run_next_in {P : Program} (w : World) (b : Nat) (s : ByteArray) (pos : Nat) (hb : w.heap[b]? = some (.stringIter s pos)) (h : pos < s.size) (ty : TypeId) :
  (Instr.next (.pointer (some ⟨b, 0, none⟩)) true ty).run P w = .ok (.tuple #[.bool true, .int .i64 pos, .int .i32 (Utf8.decode s pos).1]) (iterTo w b s (pos + (Utf8.decode s pos).2)) := by
 simp only [Instr.next, getObj, setObj, Sem.run_bind, Sem.run, hb, Result.andThen, h, if_true, iterTo]
 simp [goInt]
theorem run_next_out {P : Program} (w : World) (b : Nat) (s : ByteArray) (pos : Nat) (hb : w.heap[b]? = some (.stringIter s pos)) (h : ¬ pos < s.size) (ty : TypeId) :
  (Instr.next (.pointer (some ⟨b, 0, none⟩)) true ty).run P w = .ok (.tuple #[.bool false]) w := by
 simp [Instr.next, getObj, Sem.run, hb, h]
set_option maxHeartbeats 4000000 in
set_option maxRecDepth 1000000 in
theorem indexAny_few (s : ByteArray) (w : World) (h8 : s.size ≤ 8) :
  Calls Tryz.prog 68 #[.string s, .string sq] w fun e w' => e = .returned (.int .i64 (Lib.indexAny (L s) (L sq))) ∧ Below w.heap.size w w' := by
 have hemp : sq.toList.isEmpty = false := by decide +kernel
 have hn1 : ((sq.size : Int) == 1) = false := by decide +kernel
 have h8z : decide ((8 : Int) < (s.size : Int)) = false := decide_eq_false (by omega)
 go_enter Tryz.func68, Tryz.ntmps68
 go_wp2_with (go_at_call 85; refine (Tryz.strings_shouldUseASCIISet _ _).mono ?_; rintro e w' ⟨rfl, hw⟩; rw [hw, h8z])
 go_loopg [9, 10] s.size (fun g _ _ wx => ∃ i : Nat, i + g = s.size ∧ Aside0 (wx.heap[w.heap.size]? = some (.stringIter s i)) ∧ Aside0 (Lib.NoAny (L s) (L sq) i) ∧ Aside0 (Below w.heap.size w wx))
 case atStart => exact ⟨0, by omega, ⟨World.iter_heap w s 0⟩, ⟨Lib.NoAny.zero _ _⟩, ⟨(Below.refl _ _).alloc (Nat.le_refl _) _⟩⟩
 case round =>
  obtain ⟨i, hig, hI, HN, HB⟩ := hrel
  cases gk with
  | zero =>
   obtain rfl : i = s.size := by omega
   have hnx := run_next_out (P := Tryz.prog) wr w.heap.size s s.size hI.out (by omega)
   go_wp2
   go_ret
   exact ⟨by rw [Lib.indexAny_none (by rw [L_size]; exact HN.out)]; rfl, HB.out⟩
  | succ g =>
   have hi : i < s.size := by omega
   have hnx := run_next_in (P := Tryz.prog) wr w.heap.size s i hI.out hi
   obtain ⟨x, hx⟩ : ∃ x : UInt8, s[i]'hi = x := ⟨_, rfl⟩
   have Hx : Aside0 ((L s)[i]? = some x) := ⟨by rw [← hx]; exact Lib.data_getElem? s i hi⟩
   by_cases hlt : x.toNat < 128
   ·have hd := decode_ascii s i hi (by rw [hx]; exact hlt)
    rw [hx] at hd
    rw [hd] at hnx
    clear hd
    have HI2 : Aside0 ((iterTo wr w.heap.size s (i + 1)).heap[w.heap.size]? = some (.stringIter s (i + 1))) := ⟨iterTo_at hI.out⟩
    have HB2 : Aside0 (Below w.heap.size w (iterTo wr w.heap.size s (i + 1))) := ⟨iterTo_below HB.out (Nat.le_refl _)⟩
    simp only at hnx
    have hcon := Lib.contains_iff_indexByte (L sq) x
    have hback : ((x.toNat : Int)).toNat.toUInt8 = x := by simp
    obtain ⟨q, hq⟩ : ∃ q, Lib.indexByte sq.data.toList x = q := ⟨_, rfl⟩
    have hcon : (L sq).contains x = decide (0 ≤ q) := by rw [← hq]; exact hcon
    clear hx HB hI
    generalize iterTo wr w.heap.size s (i + 1) = w2 at hnx HI2 HB2
    cases hin : (L sq).contains x
    ·rw [hin] at hcon
     have hlt0 : ¬ ((0 : Int) ≤ q) := of_decide_eq_false hcon.symm
     clear hcon
     have HS : Aside0 (Lib.NoAny (L s) (L sq) (i + 1)) := ⟨HN.out.succ Hx.out hin⟩
     clear hin
     go_wp2_with (go_at_call 84; refine (Tryz.strings_IndexRune_ascii _ _ _ (by omega) (by omega)).mono ?_; rintro e w' ⟨rfl, hw⟩; rw [hw, hback, hq])
     go_roundg g
     case measure => omega
     case rel => exact ⟨i + 1, by omega, HI2, HS, HB2⟩
    ·rw [hin] at hcon
     have hge : (0 : Int) ≤ q := of_decide_eq_true hcon.symm
     clear hcon
     have HE : Aside0 (Lib.indexAny (L s) (L sq) = i) := ⟨Lib.indexAny_hit HN.out Hx.out hin⟩
     clear hin
     go_wp2_with (go_at_call 84; refine (Tryz.strings_IndexRune_ascii _ _ _ (by omega) (by omega)).mono ?_; rintro e w' ⟨rfl, hw⟩; rw [hw, hback, hq])
     go_ret
     exact ⟨by rw [HE.out]; rfl, HB2.out⟩
   ·obtain ⟨hd1, hd2⟩ := decode_high s i hi (by rw [hx]; omega)
    have hd3 := decode_le s i
    obtain ⟨hk1, hk2⟩ := decode_skip s i hi (by rw [hx]; omega)
    generalize (Utf8.decode s i).2 = n at hnx hd2 hk1 hk2
    generalize (Utf8.decode s i).1 = c at hnx hd1 hd3
    have HI2 : Aside0 ((iterTo wr w.heap.size s (i + n)).heap[w.heap.size]? = some (.stringIter s (i + n))) := ⟨iterTo_at hI.out⟩
    have HB2 : Aside0 (Below w.heap.size w (iterTo wr w.heap.size s (i + n))) := ⟨iterTo_below HB.out (Nat.le_refl _)⟩
    have HS : Aside0 (Lib.NoAny (L s) (L sq) (i + n)) := ⟨noAny_skip HN.out hk2⟩
    have hlo : (128 : Int) ≤ (c : Int) := by omega
    have hhi : (c : Int) ≤ 2147483647 := by omega
    have HK := Aside0.mk hk1
    have HD := Aside0.mk hd2
    clear hx HB hI HN Hx hk1 hk2 hd1 hd2 hd3 hlt
    generalize iterTo wr w.heap.size s (i + n) = w2 at hnx HI2 HB2
    go_wp2_with (go_at_call 84; refine (indexRune_far _ _ hlo hhi).mono ?_; rintro e w' ⟨rfl, hb⟩)
    have HC := Aside0.mk hb
    clear hb
    go_roundg (g + 1 - n)
    case measure => have := HK.out; have := HD.out; omega
    case rel => exact ⟨i + n, by have := HK.out; omega, ⟨(HC.out.block _ (by obtain ⟨hl, _⟩ := Array.getElem?_eq_some_iff.1 HI2.out; exact hl)).trans HI2.out⟩, HS, ⟨HB2.out.trans (HC.out.mono HB2.out.size)⟩⟩
theorem strings_IndexAny.calls (a0 a1 : ByteArray) (r : Int) (w : World) (h : strings_IndexAny.f a0 a1 = some r) :
  Calls Tryz.prog 68 #[.string a0, .string a1] w fun e w' => e = .returned (.int .i64 r) ∧ Below w.heap.size w w' := by
 unfold strings_IndexAny.f at h
 split at h
 ·rename_i hh
  obtain rfl := Option.some.inj h
  obtain rfl : a1 = sq := L_inj (by rw [hh.1]; rfl)
  rcases Nat.lt_or_ge 8 a0.size with h8 | h8
  ·refine (Tryz.strings_IndexAny_long (fun w => by kernel_rfl) a0 sq w (by decide +kernel) h8 hh.2 (by decide +kernel) (fun j b hb => ?_)).mono fun e w' ⟨he, hw⟩ => ⟨he, hw ▸ ((Below.refl _ _).alloc (Nat.le_refl _) _).alloc (by simp) _⟩
   have hb' : ([47, 63] : List UInt8)[j]? = some b := hb
   match j, hb' with
   | 0, hb' => injection hb' with hb'; subst hb'; decide
   | 1, hb' => injection hb' with hb'; subst hb'; decide
  ·exact indexAny_few a0 w h8
 ·cases h
end Go.Proofs.YtpnedbnpnekahaaGreatDoor.P
end
