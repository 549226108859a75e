/- Part 5 of the proof of FnExactPageAddrs: the plain functions of what it reaches, that Go comes to just their answers, what they answer, and the words that the walks use; conditions: each theorem's own. -/
import Derived.Test.YtgjfegfopjfdpaaGreatDoorZFnExactPageAddrsb
import Derived.Test.YtgjfegfopjfdpaaGreatDoorZFnExactPageAddrsd
import Derived.Test.YtgjfegfopjfdpaaGreatDoorZFnExactPageAddrsc

section
namespace Go.Proofs.YtgjfegfopjfdpaaGreatDoor.P
open Go.RowKit Go.Proofs.YtgjfegfopjfdpaaGreatDoorW.PrintWords Go.Proofs.YtgjfegfopjfdpaaGreatDoorW.PrintLast Go.Proofs.YtgjfegfopjfdpaaGreatDoorW.PrintMore
attribute [local go_sem] max2_int min2_int max_two min_two max_three min_three max_four min_four
set_option linter.unusedVariables false
set_option linter.unusedSimpArgs false
mutual
def impl_PageAddrs.j0 : Nat → ByteArray → ByteArray → List ByteArray → Bool → ByteArray → Option (List ByteArray)
 | 0, _, _, _, _, _ => none
 | k + 1, x1, x514000, x514001, x514002, x514003 => (impl_PageLinks.f k x1).bind fun t524 => (impl_PageAddrs.l0 k ([] : List ByteArray) t524 (t524.length : Int) 0 x514000 x514001 x514002 x514003)
def impl_PageAddrs.l0 : Nat → List ByteArray → List ByteArray → Int → Int → ByteArray → List ByteArray → Bool → ByteArray → Option (List ByteArray)
 | 0, _, _, _, _, _, _, _, _ => none
 | k + 1, x10, x35, x36, x37, x514000, x514001, x514002, x514003 => if x37 < x36 then (if 0 ≤ x37 then (if x37 < (x35.length : Int) then ((impl_AddrJoin.f k x514000 x514001 x514002 x514003 (rdOf ByteArray.empty x35 x37)).bind fun bt528 => (if bt528.2.2.2.2 = true then ((impl_AddrText.f k bt528.1 bt528.2.1 bt528.2.2.1 bt528.2.2.2.1).bind fun t536 => ((slices_Contains_string_string.f k x10 t536).bind fun t537 => (if t537 = true then (impl_PageAddrs.l0 k x10 x35 x36 (wrap64 (x37 + 1)) x514000 x514001 x514002 x514003) else (if x10.length < 8796093022208 then (impl_PageAddrs.l0 k (x10 ++ [t536]) x35 x36 (wrap64 (x37 + 1)) x514000 x514001 x514002 x514003) else (none))))) else (impl_PageAddrs.l0 k x10 x35 x36 (wrap64 (x37 + 1)) x514000 x514001 x514002 x514003))) else (none)) else (none)) else (some x10)
end
def impl_PageAddrs.f (k : Nat) (a0_0 : ByteArray) (l0_1 : List ByteArray) (a0_2 : Bool) (a0_3 : ByteArray) (a1 : ByteArray) : Option (List ByteArray) := (impl_AddrOk.f k a0_0 l0_1 a0_2 a0_3).bind fun t512 => (if t512 = true then ((impl_PageBase.f k a1).bind fun bt514 => (if bt514.2 = true then ((impl_AddrJoin.f k a0_0 l0_1 a0_2 a0_3 bt514.1).bind fun bt516 => (if bt516.2.2.2.2 = true then (impl_PageAddrs.j0 k a1 bt516.1 bt516.2.1 bt516.2.2.1 bt516.2.2.2.1) else (impl_PageAddrs.j0 k a1 a0_0 l0_1 a0_2 a0_3))) else (impl_PageAddrs.j0 k a1 a0_0 l0_1 a0_2 a0_3))) else (some ([] : List ByteArray)))
set_option maxHeartbeats 8000000 in
set_option maxRecDepth 100000 in
theorem impl_PageAddrs.calls (k : Nat) (a0_0 : ByteArray) (P0_1_ : Nat → Prop) (A0_1 : Option Addr) (c0_1 : Nat) (l0_1 : List ByteArray) (a0_2 : Bool) (a0_3 : ByteArray) (a1 : ByteArray) (r : List ByteArray) (w : World) (hs0_1 : Kd.V Kd.string 9 w w.heap.size (fun k_ => P0_1_ k_) (.slice A0_1 l0_1.length c0_1) l0_1) (h : impl_PageAddrs.f k a0_0 l0_1 a0_2 a0_3 a1 = some r) :
  Calls Tryz.prog 10 #[.agg #[.string a0_0, .slice A0_1 l0_1.length c0_1, .bool a0_2, .string a0_3], .string a1] w fun e w' => ∃ v0_ : Value, e = .returned (v0_) ∧ Kd.R Kd.string 9 w' w.heap.size (fun k_ => (w.heap.size ≤ k_)) v0_ r ∧ Below w.heap.size w w' := by
 have hu27 := Tryz.underlying27;have HO0_1 := Aside0.mk (show Kd.V Kd.string 9 w w.heap.size (fun k_ => (P0_1_ k_ ∨ w.heap.size ≤ k_)) (.slice A0_1 l0_1.length c0_1) l0_1 from Kd.V_mono hs0_1 (fun k_ hk => .inl hk));have HB := Aside0.mk (Below.refl w.heap.size w);have H : ((impl_AddrOk.f k a0_0 l0_1 a0_2 a0_3).bind fun t512 => (if t512 = true then ((impl_PageBase.f k a1).bind fun bt514 => (if bt514.2 = true then ((impl_AddrJoin.f k a0_0 l0_1 a0_2 a0_3 bt514.1).bind fun bt516 => (if bt516.2.2.2.2 = true then (impl_PageAddrs.j0 k a1 bt516.1 bt516.2.1 bt516.2.2.1 bt516.2.2.2.1) else (impl_PageAddrs.j0 k a1 a0_0 l0_1 a0_2 a0_3))) else (impl_PageAddrs.j0 k a1 a0_0 l0_1 a0_2 a0_3))) else (some ([] : List ByteArray)))) = some r := h;clear h;replace H := bindA H;obtain ⟨t512, A3, H⟩ := H;by_cases c4 : t512 = true
 ·subst c4
  rw [if_pos rfl] at H;replace H := bindA H;obtain ⟨⟨t514, t515⟩, A5, H⟩ := H;try dsimp -simprocs only at H
  have HC6 := Aside0.mk H;clear H;go_enter Tryz.func10, Tryz.ntmps10;go_upto_if 25 with (first | ((with_reducible refine gate_dst (N := 2) rfl ?_); refine boxE 2 #[.string a0_0, .slice A0_1 l0_1.length c0_1, .bool a0_2, .string a0_3] 27 ?_; intro gb511 hg w7 hbox hb; have n0_ := Aside0.mk (Kd.V_below (Kd.V_elderB (zz65 HO0_1) gb511 (Nat.le_of_eq hg.symm)) hb); have n1_ := Aside0.mk (below_step (zz4 HB) hb); have n2_ := Aside0.mk (hbox); have n3_ := Aside0.mk ((by rw [hg]; exact (below_size (zz4 HB)) : w.heap.size ≤ gb511)); have n4_ := Aside0.mk ((by rw [hg]; exact (below_size (zz4 HB)) : w.heap.size ≤ gb511)); clear HO0_1; clear HB; have HO0_1 := n0_; have HB := n1_; have BK511 := n2_; have GW511 := n3_; have GE511 := n4_; clear n0_ n1_ n2_ n3_ n4_; clear hb hbox hg; obtain ⟨_, _, _, _, _, _, _, _⟩ := cf4 BK511) | ((with_reducible refine gate_callee (f := 34) rfl ?_); refine gsL (some 17) Tryz.func34 #[.agg #[.string a0_0, .slice A0_1 l0_1.length c0_1, .bool a0_2, .string a0_3]] ?_; (with_reducible refine (impl_AddrOk.calls k a0_0 _ _ l0_1 a0_2 a0_3 true _ ?side1 ?side2 A3.out).mono ?_); (case side1 => exact (zz66 HO0_1)); (case side2 => exact (Kd.V_reads' HO0_1.out).2.1); rintro e w9 ⟨rfl, hb⟩; refine ⟨_, rfl, ?_⟩; have n0_ := Aside0.mk (Kd.V_below (zz65 HO0_1) hb); have n1_ := Aside0.mk (blk_below (zz27 BK511) hb); have n2_ := Aside0.mk (below_step (zz6 HB GE511) hb); clear HO0_1; clear BK511; clear HB; have HO0_1 := n0_; have BK511 := n1_; have HB := n2_; clear n0_ n1_ n2_; (try clear hb); obtain ⟨_, _, _, _, _, _, _, _⟩ := cf4 BK511) | ((with_reducible refine gate_dst (N := 5) rfl ?_); refine boxE 5 #[.string (⟨#[]⟩ : ByteArray), .slice none 0 0, .bool false, .string (⟨#[]⟩ : ByteArray)] 27 ?_; intro gb513 hg w11 hbox hb; have n0_ := Aside0.mk (Kd.V_below (Kd.V_elderB (zz65 HO0_1) gb513 (Nat.le_of_eq hg.symm)) hb); have n1_ := Aside0.mk (blk_below (zz27 BK511) hb); have n2_ := Aside0.mk (below_step (zz6 HB GE511) hb); have n3_ := Aside0.mk (hbox); have n4_ := Aside0.mk ((by rw [hg]; exact (below_size (zz6 HB GE511)) : w.heap.size ≤ gb513)); have n5_ := Aside0.mk ((by rw [hg]; exact (below_size (zz6 HB GE511)) : w.heap.size ≤ gb513)); have n6_ := Aside0.mk ((by rw [hg]; exact Nat.ne_of_lt (blk_lt (zz27 BK511)) : gb511 ≠ gb513)); have n7_ := Aside0.mk ((by rw [hg]; exact Nat.ne_of_gt (blk_lt (zz27 BK511)) : gb513 ≠ gb511)); clear HO0_1; clear BK511; clear HB; have HO0_1 := n0_; have BK511 := n1_; have HB := n2_; have BK513 := n3_; have GW513 := n4_; have GE513 := n5_; have NB511_513 := n6_; have NB513_511 := n7_; clear n0_ n1_ n2_ n3_ n4_ n5_ n6_ n7_; clear hb hbox hg; have hnb12 := NB513_511.out; have hnc12 := NB511_513.out; obtain ⟨_, _, _, _, _, _, _, _⟩ := cf4 BK513) | ((with_reducible refine gate_callee (f := 22) rfl ?_); refine gsL (some 22) Tryz.func22 #[.string a1] ?_; (with_reducible refine (impl_PageBase.calls k a1 t514 t515 _ A5.out).mono ?_); rintro e w14 ⟨rfl, hb⟩; refine ⟨_, rfl, ?_⟩; have n0_ := Aside0.mk (Kd.V_below (by (with_reducible repeat (first | apply Kd.V_alloc | apply Kd.V_drewN | apply Kd.V_drew)); exact (Kd.V_mono (Kd.V_far (p := ⟨gb513, 3, none⟩) (Kd.V_far (p := ⟨gb513, 2, none⟩) (Kd.V_far (p := ⟨gb513, 1, none⟩) (Kd.V_far (p := ⟨gb513, 0, none⟩) (Kd.V_mono HO0_1.out (fun k_ hk => (⟨hk, hk.2⟩ : _ ∧ k_ ≠ gb513))) (fun _ hk => hk.2) (.string a0_0)) (fun _ hk => hk.2) (.slice A0_1 l0_1.length c0_1)) (fun _ hk => hk.2) (.bool a0_2)) (fun _ hk => hk.2) (.string a0_3)) (fun _ h_ => h_.1))) hb); have n1_ := Aside0.mk (blk_below (g := gb511) (o := .cells #[.string a0_0, .slice A0_1 l0_1.length c0_1, .bool a0_2, .string a0_3] 27 (0, 0)) (zz50 BK511 NB511_513) hb); have n2_ := Aside0.mk (blk_below (g := gb513) (o := .cells #[.string a0_0, .slice A0_1 l0_1.length c0_1, .bool a0_2, .string a0_3] 27 (0, 0)) (zz42 BK513) hb); have n3_ := Aside0.mk (below_step (zz38 HB GE511 GE513) hb); clear HO0_1; clear BK511; clear BK513; clear HB; have HO0_1 := n0_; have BK511 := n1_; have BK513 := n2_; have HB := n3_; clear n0_ n1_ n2_ n3_; (try clear hb)))
  (try simp only [Act.put, List.setIfInBounds_toArray, List.set_cons_zero, List.set_cons_succ])
  go_cut [] (fun wc => ∃ (kq : Nat) (x514000_5 : ByteArray) (x514001_5 : List ByteArray) (x514002_5 : Bool) (x514003_5 : ByteArray) (u514001 : Value), Aside0 (impl_PageAddrs.j0 kq a1 x514000_5 x514001_5 x514002_5 x514003_5 = some r) ∧ Aside0 (kq ≤ k) ∧ Aside0 (Kd.V Kd.string 9 wc w.heap.size (fun k_ => (P0_1_ k_ ∨ w.heap.size ≤ k_) ∧ k_ ≠ gb511 ∧ k_ ≠ gb513) (.slice A0_1 l0_1.length c0_1) l0_1) ∧ Aside0 (Kd.V Kd.string 9 wc w.heap.size (fun k_ => (P0_1_ k_ ∨ w.heap.size ≤ k_) ∧ k_ ≠ gb511 ∧ k_ ≠ gb513) u514001 x514001_5) ∧ Aside0 (wc.heap[gb511]? = some (.cells #[.string a0_0, (.slice A0_1 l0_1.length c0_1), .bool a0_2, .string a0_3] 27 (0, 0))) ∧ Aside0 (wc.heap[gb513]? = some (.cells #[.string x514000_5, u514001, .bool x514002_5, .string x514003_5] 27 (0, 0))) ∧ Aside0 (Below w.heap.size w wc))
  case first =>
   have H := HC6.out;clear HC6;by_cases c15 : t515 = true
   ·subst c15
    rw [if_pos rfl] at H;replace H := bindA H;obtain ⟨⟨t516, t517, t520, t521, t522⟩, A16, H⟩ := H;try dsimp -simprocs only at H
    by_cases c17 : t522 = true
    ·subst c17
     rw [if_pos rfl] at H;have H' := Aside0.mk H;clear H;have hnb18 := NB511_513.out;have hnc18 := NB513_511.out;obtain ⟨_, _, _, _, _, _, _, _⟩ := cf4 BK511;go_wp2_with (first | ((with_reducible refine gate_callee (f := 23) rfl ?_); refine gsL (some 29) Tryz.func23 #[.agg #[.string a0_0, .slice A0_1 l0_1.length c0_1, .bool a0_2, .string a0_3], .string t514] ?_; (with_reducible refine (impl_AddrJoin.calls k a0_0 _ _ l0_1 a0_2 a0_3 t514 t516 t517 t520 t521 true _ ?side1 ?side2 A16.out).mono ?_); (case side1 => exact (zz66 HO0_1)); (case side2 => exact (Kd.V_reads' HO0_1.out).2.1); rintro e w20 ⟨v518, rfl, ho0, hb⟩; refine ⟨_, rfl, ?_⟩; have n0_ := Aside0.mk (Kd.V_elder' (zz65 HO0_1) (Kd.R_base ho0) hb); have n1_ := Aside0.mk (Kd.R_lower (Kd.R_newM (M := fun k_ => (w.heap.size ≤ k_)) ho0 (below_size (zz38 HB GE511 GE513)) (fun k_ h_ => h_)) (below_size (zz38 HB GE511 GE513))); have n2_ := Aside0.mk (blk_below (zz27 BK511) hb); have n3_ := Aside0.mk (blk_below (zz27 BK513) hb); have n4_ := Aside0.mk (below_step (zz38 HB GE511 GE513) hb); clear HO0_1; clear BK511; clear BK513; clear HB; have HO0_1 := n0_; have HO519 := n1_; have BK511 := n2_; have BK513 := n3_; have HB := n4_; clear n0_ n1_ n2_ n3_ n4_; (try clear hb ho0)) | ((with_reducible refine gate_dst (N := 8) rfl ?_); refine boxE 8 #[.string (⟨#[]⟩ : ByteArray), .slice none 0 0, .bool false, .string (⟨#[]⟩ : ByteArray)] 27 ?_; intro gb523 hg w21 hbox hb; have n0_ := Aside0.mk (Kd.V_below (Kd.V_elderB (zz65 HO0_1) gb523 (Nat.le_of_eq hg.symm)) hb); have n1_ := Aside0.mk (Kd.R_below (zz9 HO519) hb); have n2_ := Aside0.mk (blk_below (zz27 BK511) hb); have n3_ := Aside0.mk (blk_below (zz27 BK513) hb); have n4_ := Aside0.mk (below_step (zz38 HB GE511 GE513) hb); have n5_ := Aside0.mk (hbox); have n6_ := Aside0.mk ((by rw [hg]; exact (below_size (zz38 HB GE511 GE513)) : w.heap.size ≤ gb523)); have n7_ := Aside0.mk ((by rw [hg]; exact (below_size (zz38 HB GE511 GE513)) : w.heap.size ≤ gb523)); have n8_ := Aside0.mk ((by rw [hg]; exact Nat.ne_of_lt (blk_lt (zz27 BK511)) : gb511 ≠ gb523)); have n9_ := Aside0.mk ((by rw [hg]; exact Nat.ne_of_gt (blk_lt (zz27 BK511)) : gb523 ≠ gb511)); have n10_ := Aside0.mk ((by rw [hg]; exact Nat.ne_of_lt (blk_lt (zz27 BK513)) : gb513 ≠ gb523)); have n11_ := Aside0.mk ((by rw [hg]; exact Nat.ne_of_gt (blk_lt (zz27 BK513)) : gb523 ≠ gb513)); clear HO0_1; clear HO519; clear BK511; clear BK513; clear HB; have HO0_1 := n0_; have HO519 := n1_; have BK511 := n2_; have BK513 := n3_; have HB := n4_; have BK523 := n5_; have GW523 := n6_; have GE523 := n7_; have NB511_523 := n8_; have NB523_511 := n9_; have NB513_523 := n10_; have NB523_513 := n11_; clear n0_ n1_ n2_ n3_ n4_ n5_ n6_ n7_ n8_ n9_ n10_ n11_; clear hb hbox hg; have hnb22 := NB523_511.out; have hnc22 := NB511_523.out; have hnb23 := NB523_513.out; have hnc23 := NB513_523.out; obtain ⟨_, _, _, _, _, _, _, _⟩ := cf4 BK523; obtain ⟨Ao25, co25, eo25⟩ := Kd.R_slice HO519.out; subst eo25; obtain ⟨_, _, _, _, _, _, _, _⟩ := cf4 BK513))
     go_meet
     case rel => exact ⟨_, (t516), (t517), (t520), (t521), (.slice Ao25 t517.length co25), H', ⟨zz18⟩, ⟨(by (with_reducible repeat (first | apply Kd.V_alloc | apply Kd.V_drewN | apply Kd.V_drew)); exact Kd.V_mono (Kd.V_far (p := ⟨gb513, 3, none⟩) (Kd.V_far (p := ⟨gb513, 2, none⟩) (Kd.V_far (p := ⟨gb513, 1, none⟩) (Kd.V_far (p := ⟨gb513, 0, none⟩) (Kd.V_far (p := ⟨gb523, 3, none⟩) (Kd.V_far (p := ⟨gb523, 2, none⟩) (Kd.V_far (p := ⟨gb523, 1, none⟩) (Kd.V_far (p := ⟨gb523, 0, none⟩) (Kd.V_mono (Kd.V_mono HO0_1.out (fun k_ hk => (⟨hk, hk.2⟩ : _ ∧ k_ ≠ gb523))) (fun k_ hk => (⟨hk, hk.1.1.1.2⟩ : _ ∧ k_ ≠ gb513))) (fun _ hk => hk.1.2) (.string t516)) (fun _ hk => hk.1.2) (.slice Ao25 t517.length co25)) (fun _ hk => hk.1.2) (.bool t520)) (fun _ hk => hk.1.2) (.string t521)) (fun _ hk => hk.2) (.string t516)) (fun _ hk => hk.2) (.slice Ao25 t517.length co25)) (fun _ hk => hk.2) (.bool t520)) (fun _ hk => hk.2) (.string t521)) (fun _ hk => ⟨hk.1.1.1.1.1.1, ⟨hk.1.1.1.1.1.2, hk.1.1.1.1.2⟩⟩))⟩, ⟨Kd.V_mono (Kd.R_V (by (with_reducible repeat (first | apply Kd.R_alloc | apply Kd.R_drewN | apply Kd.R_drew)); exact Kd.R_mono (ok' := fun k_ => (w.heap.size ≤ k_) ∧ k_ ≠ gb511 ∧ k_ ≠ gb513) (Kd.R_far (p := ⟨gb513, 3, none⟩) (Kd.R_far (p := ⟨gb513, 2, none⟩) (Kd.R_far (p := ⟨gb513, 1, none⟩) (Kd.R_far (p := ⟨gb513, 0, none⟩) (Kd.R_far (p := ⟨gb523, 3, none⟩) (Kd.R_far (p := ⟨gb523, 2, none⟩) (Kd.R_far (p := ⟨gb523, 1, none⟩) (Kd.R_far (p := ⟨gb523, 0, none⟩) (Kd.R_types (Kd.R_types (Kd.R_types (Kd.R_types HO519.out BK511.out (by decide)) BK513.out (by decide)) BK523.out (by decide)) BK513.out (by decide)) (fun _ hk => hk.1.2) (.string t516)) (fun _ hk => hk.1.2) (.slice Ao25 t517.length co25)) (fun _ hk => hk.1.2) (.bool t520)) (fun _ hk => hk.1.2) (.string t521)) (fun _ hk => hk.2) (.string t516)) (fun _ hk => hk.2) (.slice Ao25 t517.length co25)) (fun _ hk => hk.2) (.bool t520)) (fun _ hk => hk.2) (.string t521)) (fun _ hk => ⟨hk.1.1.1.1.1, ⟨hk.1.1.1.2, hk.1.1.2⟩⟩))) (fun k_ hk => by first | exact ⟨(.inr (hk.1)), hk.2⟩ | exact (.inr (hk)))⟩, ⟨(by (repeat (first | (with_reducible first | exact BK511.out | refine blk_drewN ?_ _ | refine blk_drew ?_ | refine blk_alloc ?_ _ | apply blk_put | apply blk_far) | exact BK511.out)); all_goals first | rfl | exact NB511_513.out | exact NB511_523.out)⟩, ⟨(zz50 BK513 NB513_523)⟩, ⟨(zz47 HB GE511 GE513 GE523)⟩⟩
    ·replace c17 := Bool.eq_false_iff.mpr c17
     subst c17;rw [if_neg (show ¬ (false = true) by decide)] at H;have H' := Aside0.mk H;clear H;have hnb27 := NB511_513.out;have hnc27 := NB513_511.out;obtain ⟨_, _, _, _, _, _, _, _⟩ := cf4 BK511;go_wp2_with (first | ((with_reducible refine gate_callee (f := 23) rfl ?_); refine gsL (some 29) Tryz.func23 #[.agg #[.string a0_0, .slice A0_1 l0_1.length c0_1, .bool a0_2, .string a0_3], .string t514] ?_; (with_reducible refine (impl_AddrJoin.calls k a0_0 _ _ l0_1 a0_2 a0_3 t514 t516 t517 t520 t521 false _ ?side1 ?side2 A16.out).mono ?_); (case side1 => exact (zz66 HO0_1)); (case side2 => exact (Kd.V_reads' HO0_1.out).2.1); rintro e w29 ⟨v518, rfl, ho0, hb⟩; refine ⟨_, rfl, ?_⟩; have n0_ := Aside0.mk (Kd.V_elder' (zz65 HO0_1) (Kd.R_base ho0) hb); have n1_ := Aside0.mk (Kd.R_lower (Kd.R_newM (M := fun k_ => (w.heap.size ≤ k_)) ho0 (below_size (zz38 HB GE511 GE513)) (fun k_ h_ => h_)) (below_size (zz38 HB GE511 GE513))); have n2_ := Aside0.mk (blk_below (zz27 BK511) hb); have n3_ := Aside0.mk (blk_below (zz27 BK513) hb); have n4_ := Aside0.mk (below_step (zz38 HB GE511 GE513) hb); clear HO0_1; clear BK511; clear BK513; clear HB; have HO0_1 := n0_; have HO519 := n1_; have BK511 := n2_; have BK513 := n3_; have HB := n4_; clear n0_ n1_ n2_ n3_ n4_; (try clear hb ho0)) | ((with_reducible refine gate_dst (N := 8) rfl ?_); refine boxE 8 #[.string (⟨#[]⟩ : ByteArray), .slice none 0 0, .bool false, .string (⟨#[]⟩ : ByteArray)] 27 ?_; intro gb523 hg w30 hbox hb; have n0_ := Aside0.mk (Kd.V_below (Kd.V_elderB (zz65 HO0_1) gb523 (Nat.le_of_eq hg.symm)) hb); have n1_ := Aside0.mk (Kd.R_below (zz9 HO519) hb); have n2_ := Aside0.mk (blk_below (zz27 BK511) hb); have n3_ := Aside0.mk (blk_below (zz27 BK513) hb); have n4_ := Aside0.mk (below_step (zz38 HB GE511 GE513) hb); have n5_ := Aside0.mk (hbox); have n6_ := Aside0.mk ((by rw [hg]; exact (below_size (zz38 HB GE511 GE513)) : w.heap.size ≤ gb523)); have n7_ := Aside0.mk ((by rw [hg]; exact (below_size (zz38 HB GE511 GE513)) : w.heap.size ≤ gb523)); have n8_ := Aside0.mk ((by rw [hg]; exact Nat.ne_of_lt (blk_lt (zz27 BK511)) : gb511 ≠ gb523)); have n9_ := Aside0.mk ((by rw [hg]; exact Nat.ne_of_gt (blk_lt (zz27 BK511)) : gb523 ≠ gb511)); have n10_ := Aside0.mk ((by rw [hg]; exact Nat.ne_of_lt (blk_lt (zz27 BK513)) : gb513 ≠ gb523)); have n11_ := Aside0.mk ((by rw [hg]; exact Nat.ne_of_gt (blk_lt (zz27 BK513)) : gb523 ≠ gb513)); clear HO0_1; clear HO519; clear BK511; clear BK513; clear HB; have HO0_1 := n0_; have HO519 := n1_; have BK511 := n2_; have BK513 := n3_; have HB := n4_; have BK523 := n5_; have GW523 := n6_; have GE523 := n7_; have NB511_523 := n8_; have NB523_511 := n9_; have NB513_523 := n10_; have NB523_513 := n11_; clear n0_ n1_ n2_ n3_ n4_ n5_ n6_ n7_ n8_ n9_ n10_ n11_; clear hb hbox hg; have hnb31 := NB523_511.out; have hnc31 := NB511_523.out; have hnb32 := NB523_513.out; have hnc32 := NB513_523.out; obtain ⟨_, _, _, _, _, _, _, _⟩ := cf4 BK523; obtain ⟨Ao34, co34, eo34⟩ := Kd.R_slice HO519.out; subst eo34))
     go_meet
     case rel => exact ⟨_, (a0_0), (l0_1), (a0_2), (a0_3), (.slice A0_1 l0_1.length c0_1), H', ⟨zz18⟩, ⟨(zz138 HO0_1)⟩, ⟨(zz138 HO0_1)⟩, ⟨(zz50 BK511 NB511_523)⟩, ⟨(zz50 BK513 NB513_523)⟩, ⟨(zz47 HB GE511 GE513 GE523)⟩⟩
   ·replace c15 := Bool.eq_false_iff.mpr c15
    subst c15;rw [if_neg (show ¬ (false = true) by decide)] at H;have H' := Aside0.mk H;clear H;go_wp2
    go_meet
    case rel => exact ⟨_, (a0_0), (l0_1), (a0_2), (a0_3), (.slice A0_1 l0_1.length c0_1), H', ⟨zz18⟩, ⟨(zz139 HO0_1)⟩, ⟨(zz139 HO0_1)⟩, ⟨(zz27 BK511)⟩, ⟨(zz27 BK513)⟩, ⟨(zz38 HB GE511 GE513)⟩⟩
  case rest =>
   clear HC6;obtain ⟨kq, x514000_5, x514001_5, x514002_5, x514003_5, u514001, HA, HJ5, HO_512001, HO_514001, BK511, BK513, HB⟩ := hcut;cases kq with
   | zero => exact absurd HA.out (by simp [impl_PageAddrs.j0])
   | succ kj5 =>
    have H := HA.out;clear HA;simp only [impl_PageAddrs.j0] at H
    replace H := bindA H;obtain ⟨t524, A35, H⟩ := H;have H' := Aside0.mk H;clear H;go_wp2_with (first | ((with_reducible refine gate_callee (f := 24) rfl ?_); refine gsL (some 35) Tryz.func24 #[.string a1] ?_; (with_reducible refine (impl_PageLinks.calls kj5 a1 t524 _ A35.out).mono ?_); rintro e w36 ⟨v525, rfl, ho0, hb⟩; refine ⟨_, rfl, ?_⟩; have n0_ := Aside0.mk (Kd.V_elder' (zz65 HO_512001) (Kd.R_base ho0) hb); have n1_ := Aside0.mk (Kd.V_elder' (zz65 HO_514001) (Kd.R_base ho0) hb); have n2_ := Aside0.mk (Kd.R_lower (Kd.R_newM (M := fun k_ => (w.heap.size ≤ k_)) ho0 (below_size (zz38 HB GE511 GE513)) (fun k_ h_ => h_)) (below_size (zz38 HB GE511 GE513))); have n3_ := Aside0.mk (blk_below (zz27 BK511) hb); have n4_ := Aside0.mk (blk_below (zz27 BK513) hb); have n5_ := Aside0.mk (below_step (zz38 HB GE511 GE513) hb); clear HO_512001; clear HO_514001; clear BK511; clear BK513; clear HB; have HO_512001 := n0_; have HO_514001 := n1_; have HO526 := n2_; have BK511 := n3_; have BK513 := n4_; have HB := n5_; clear n0_ n1_ n2_ n3_ n4_ n5_; (try clear hb ho0); obtain ⟨Ao37, co37, eo37⟩ := Kd.R_slice HO526.out; subst eo37))
    go_loopg [10, 37] kj5 (fun kq v10 v37 w' => ∃ (x10_2 : List ByteArray) (x37_2 : Int), v37 = .int .i64 x37_2 ∧ Aside0 (impl_PageAddrs.l0 kq x10_2 t524 (t524.length : Int) x37_2 x514000_5 x514001_5 x514002_5 x514003_5 = some r) ∧ Aside0 (kq ≤ kj5) ∧ Aside0 (Kd.R Kd.string 9 w' w.heap.size (fun k_ => (w.heap.size ≤ k_) ∧ some k_ ≠ ((.slice Ao37 t524.length co37) : Value).ownBlock) v10 x10_2) ∧ Aside0 (Kd.R Kd.string 9 w' w.heap.size (fun k_ => (w.heap.size ≤ k_) ∧ some k_ ≠ (v10 : Value).ownBlock) (.slice Ao37 t524.length co37) t524) ∧ Aside0 (Kd.V Kd.string 9 w' w.heap.size (fun k_ => (P0_1_ k_ ∨ w.heap.size ≤ k_) ∧ some k_ ≠ (v10 : Value).ownBlock ∧ some k_ ≠ ((.slice Ao37 t524.length co37) : Value).ownBlock ∧ k_ ≠ gb511 ∧ k_ ≠ gb513) (.slice A0_1 l0_1.length c0_1) l0_1) ∧ Aside0 (Kd.V Kd.string 9 w' w.heap.size (fun k_ => (P0_1_ k_ ∨ w.heap.size ≤ k_) ∧ some k_ ≠ (v10 : Value).ownBlock ∧ some k_ ≠ ((.slice Ao37 t524.length co37) : Value).ownBlock ∧ k_ ≠ gb511 ∧ k_ ≠ gb513) u514001 x514001_5) ∧ Aside0 (w'.heap[gb511]? = some (.cells #[.string a0_0, (.slice A0_1 l0_1.length c0_1), .bool a0_2, .string a0_3] 27 (0, 0))) ∧ Aside0 (w'.heap[gb513]? = some (.cells #[.string x514000_5, u514001, .bool x514002_5, .string x514003_5] 27 (0, 0))) ∧ Aside0 (Below w.heap.size w w'))
    case atStart => exact ⟨(([] : List ByteArray)), (0), zz0, H', ⟨Nat.le_refl _⟩, ⟨zz43⟩, ⟨(by (with_reducible repeat (first | apply Kd.R_alloc | apply Kd.R_drewN | apply Kd.R_drew)); exact Kd.R_mono HO526.out (fun _ hk => ⟨hk.1, (by simp [Value.ownBlock])⟩))⟩, ⟨(zz142 HO_512001)⟩, ⟨(zz142 HO_514001)⟩, ⟨(zz27 BK511)⟩, ⟨(zz27 BK513)⟩, ⟨(zz38 HB GE511 GE513)⟩⟩
    case round =>
     clear H';obtain ⟨x10_2, x37_2, rfl, HA, HK2, HO_10, HO_35, HO_512001, HO_514001, BK511, BK513, HB⟩ := hrel;cases gk with
     | zero => exact absurd HA.out (by simp [impl_PageAddrs.l0])
     | succ k2 =>
      have H := HA.out;clear HA;simp only [impl_PageAddrs.l0] at H
      by_cases c38 : x37_2 < (t524.length : Int)
      ·rw [if_pos c38] at H
       have c38b0 : decide (x37_2 < (t524.length : Int)) = true := decide_eq_true c38;clear c38;by_cases c39 : 0 ≤ x37_2
       ·rw [if_pos c39] at H
        have c39b0 : decide (0 ≤ x37_2) = true := decide_eq_true c39;clear c39;by_cases c40 : x37_2 < (t524.length : Int)
        ·rw [if_pos c40] at H
         have c40b0 : decide (x37_2 < (t524.length : Int)) = true := decide_eq_true c40;clear c40;replace H := bindA H;obtain ⟨⟨t528, t529, t532, t533, t534⟩, A41, H⟩ := H;try dsimp -simprocs only at H
         by_cases c42 : t534 = true
         ·subst c42
          rw [if_pos rfl] at H;replace H := bindA H;obtain ⟨t536, A43, H⟩ := H;replace H := bindA H;obtain ⟨t537, A44, H⟩ := H;by_cases c45 : t537 = true
          ·subst c45
           rw [if_pos rfl] at H;have H' := Aside0.mk H;clear H;have p527 : 0 ≤ (x37_2 : Int) := ofD;have q527 : x37_2 < (t524.length : Int) := ofD;obtain ⟨ad527, e527, hx527_0⟩ := Kd.at_string (Kd.R_reads' HO_35.out).2.2 x37_2 p527 q527;cases e527
           replace p527 := eq_true p527;replace q527 := eq_true q527;have hnb46 := NB513_511.out;have hnc46 := NB511_513.out;obtain ⟨_, _, _, _, _, _, _, _⟩ := cf4 BK513;obtain ⟨Ao48, co48, eo48⟩ := Kd.V_slice HO_514001.out;subst eo48;go_wp2_with (first | ((with_reducible refine gate_callee (f := 23) rfl ?_); refine gsL (some 44) Tryz.func23 #[.agg #[.string x514000_5, .slice Ao48 x514001_5.length co48, .bool x514002_5, .string x514003_5], .string (rdOf ByteArray.empty t524 x37_2)] ?_; (with_reducible refine (impl_AddrJoin.calls k2 x514000_5 _ _ x514001_5 x514002_5 x514003_5 (rdOf ByteArray.empty t524 x37_2) t528 t529 t532 t533 true _ ?side1 ?side2 A41.out).mono ?_); (case side1 => exact (zz66 HO_514001)); (case side2 => exact (Kd.V_reads' HO_514001.out).2.1); rintro e w49 ⟨v530, rfl, ho0, hb⟩; refine ⟨_, rfl, ?_⟩; have n0_ := Aside0.mk (Kd.R_elder' (zz9 HO_10) (Kd.R_base ho0) hb); have n1_ := Aside0.mk (Kd.R_elder' (zz9 HO_35) (Kd.R_base ho0) hb); have n2_ := Aside0.mk (Kd.V_elder' (zz65 HO_512001) (Kd.R_base ho0) hb); have n3_ := Aside0.mk (Kd.V_elder' (zz65 HO_514001) (Kd.R_base ho0) hb); have n4_ := Aside0.mk (Kd.R_lower (Kd.R_new' (Kd.R_new' (Kd.R_newM (M := fun k_ => (w.heap.size ≤ k_)) ho0 (below_size (zz38 HB GE511 GE513)) (fun k_ h_ => h_)) (Kd.R_lt (zz9 HO_10))) (Kd.R_lt (zz9 HO_35))) (below_size (zz38 HB GE511 GE513))); have n5_ := Aside0.mk (blk_below (zz27 BK511) hb); have n6_ := Aside0.mk (blk_below (zz27 BK513) hb); have n7_ := Aside0.mk (below_step (zz38 HB GE511 GE513) hb); clear HO_10; clear HO_35; clear HO_512001; clear HO_514001; clear BK511; clear BK513; clear HB; have HO_10 := n0_; have HO_35 := n1_; have HO_512001 := n2_; have HO_514001 := n3_; have HO531 := n4_; have BK511 := n5_; have BK513 := n6_; have HB := n7_; clear n0_ n1_ n2_ n3_ n4_ n5_ n6_ n7_; (try clear hb ho0)) | ((with_reducible refine gate_dst (N := 13) rfl ?_); refine boxE 13 #[.string (⟨#[]⟩ : ByteArray), .slice none 0 0, .bool false, .string (⟨#[]⟩ : ByteArray)] 27 ?_; intro gb535 hg w50 hbox hb; have n0_ := Aside0.mk (Kd.R_below (zz9 HO_10) hb); have n1_ := Aside0.mk (Kd.R_below (zz9 HO_35) hb); have n2_ := Aside0.mk (Kd.V_below (Kd.V_elderB (zz65 HO_512001) gb535 (Nat.le_of_eq hg.symm)) hb); have n3_ := Aside0.mk (Kd.V_below (Kd.V_elderB (zz65 HO_514001) gb535 (Nat.le_of_eq hg.symm)) hb); have n4_ := Aside0.mk (Kd.R_below (zz9 HO531) hb); have n5_ := Aside0.mk (blk_below (zz27 BK511) hb); have n6_ := Aside0.mk (blk_below (zz27 BK513) hb); have n7_ := Aside0.mk (below_step (zz38 HB GE511 GE513) hb); have n8_ := Aside0.mk (hbox); have n9_ := Aside0.mk ((by rw [hg]; exact (below_size (zz38 HB GE511 GE513)) : w.heap.size ≤ gb535)); have n10_ := Aside0.mk ((by rw [hg]; exact (below_size (zz38 HB GE511 GE513)) : w.heap.size ≤ gb535)); have n11_ := Aside0.mk ((by rw [hg]; exact Nat.ne_of_lt (blk_lt (zz27 BK511)) : gb511 ≠ gb535)); have n12_ := Aside0.mk ((by rw [hg]; exact Nat.ne_of_gt (blk_lt (zz27 BK511)) : gb535 ≠ gb511)); have n13_ := Aside0.mk ((by rw [hg]; exact Nat.ne_of_lt (blk_lt (zz27 BK513)) : gb513 ≠ gb535)); have n14_ := Aside0.mk ((by rw [hg]; exact Nat.ne_of_gt (blk_lt (zz27 BK513)) : gb535 ≠ gb513)); clear HO_10; clear HO_35; clear HO_512001; clear HO_514001; clear HO531; clear BK511; clear BK513; clear HB; have HO_10 := n0_; have HO_35 := n1_; have HO_512001 := n2_; have HO_514001 := n3_; have HO531 := n4_; have BK511 := n5_; have BK513 := n6_; have HB := n7_; have BK535 := n8_; have GW535 := n9_; have GE535 := n10_; have NB511_535 := n11_; have NB535_511 := n12_; have NB513_535 := n13_; have NB535_513 := n14_; clear n0_ n1_ n2_ n3_ n4_ n5_ n6_ n7_ n8_ n9_ n10_ n11_ n12_ n13_ n14_; clear hb hbox hg; have hnb51 := NB535_511.out; have hnc51 := NB511_535.out; have hnb52 := NB535_513.out; have hnc52 := NB513_535.out; obtain ⟨_, _, _, _, _, _, _, _⟩ := cf4 BK535; obtain ⟨Ao54, co54, eo54⟩ := Kd.R_slice HO531.out; subst eo54) | ((with_reducible refine gate_callee (f := 21) rfl ?_); refine gsL (some 50) Tryz.func21 #[.agg #[.string t528, .slice Ao54 t529.length co54, .bool t532, .string t533]] ?_; (with_reducible refine (impl_AddrText.calls k2 t528 _ _ t529 t532 t533 t536 _ ?side1 ?side2 A43.out).mono ?_); (case side1 => exact (by refine (Kd.R_reads' (e := 9) (base := w.heap.size) (ok := fun k_ => ((((w.heap.size ≤ k_) ∧ True) ∧ some k_ ≠ (u10 : Value).ownBlock) ∧ some k_ ≠ (.slice (some ad527) t524.length co37 : Value).ownBlock)) (n := t529.length) (c := co54) ?_).2.2; exact (zz144 HO531 BK535))); (case side2 => exact (Kd.R_reads' HO531.out).2.1); rintro e w55 ⟨rfl, hb⟩; refine ⟨_, rfl, ?_⟩; have n0_ := Aside0.mk (Kd.R_below (zz144 HO_10 BK535) hb); have n1_ := Aside0.mk (Kd.R_below (zz144 HO_35 BK535) hb); have n2_ := Aside0.mk (Kd.V_below (zz146 HO_512001) hb); have n3_ := Aside0.mk (Kd.V_below (zz146 HO_514001) hb); have n4_ := Aside0.mk (Kd.R_below (zz144 HO531 BK535) hb); have n5_ := Aside0.mk (blk_below (g := gb511) (o := .cells #[.string a0_0, .slice A0_1 l0_1.length c0_1, .bool a0_2, .string a0_3] 27 (0, 0)) (zz50 BK511 NB511_535) hb); have n6_ := Aside0.mk (blk_below (g := gb513) (o := .cells #[.string x514000_5, .slice Ao48 x514001_5.length co48, .bool x514002_5, .string x514003_5] 27 (0, 0)) (zz50 BK513 NB513_535) hb); have n7_ := Aside0.mk (blk_below (g := gb535) (o := .cells #[.string t528, .slice Ao54 t529.length co54, .bool t532, .string t533] 27 (0, 0)) (zz42 BK535) hb); have n8_ := Aside0.mk (below_step (zz47 HB GE511 GE513 GE535) hb); clear HO_10; clear HO_35; clear HO_512001; clear HO_514001; clear HO531; clear BK511; clear BK513; clear BK535; clear HB; have HO_10 := n0_; have HO_35 := n1_; have HO_512001 := n2_; have HO_514001 := n3_; have HO531 := n4_; have BK511 := n5_; have BK513 := n6_; have BK535 := n7_; have HB := n8_; clear n0_ n1_ n2_ n3_ n4_ n5_ n6_ n7_ n8_; (try clear hb); obtain ⟨Ao56, co56, eo56⟩ := Kd.R_slice HO_10.out; subst eo56) | ((with_reducible refine gate_callee (f := 35) rfl ?_); refine gsL (some 53) Tryz.func35 #[.slice Ao56 x10_2.length co56, .string t536] ?_; (with_reducible refine (slices_Contains_string_string.calls k2 _ _ x10_2 t536 true _ ?side1 ?side2 A44.out).mono ?_); (case side1 => exact (zz44 HO_10)); (case side2 => exact (Kd.R_reads' HO_10.out).2.1); rintro e w' ⟨rfl, ⟨nd, rfl⟩⟩; refine ⟨_, rfl, ?_⟩))
           go_roundg k2
           case measure => have := HJ5.out; have := HK2.out; omega
           case rel => exact ⟨(x10_2), (wrap64 (x37_2 + 1)), zz0, H', ⟨(zz26 HJ5 HK2)⟩, ⟨(zz147 HO_10)⟩, ⟨(zz147 HO_35)⟩, ⟨(zz148 HO_512001)⟩, ⟨(zz148 HO_514001)⟩, ⟨(zz27 BK511)⟩, ⟨(zz27 BK513)⟩, ⟨(zz47 HB GE511 GE513 GE535)⟩⟩
          ·replace c45 := Bool.eq_false_iff.mpr c45
           subst c45;rw [if_neg (show ¬ (false = true) by decide)] at H;by_cases c57 : x10_2.length < 8796093022208
           ·rw [if_pos c57] at H
            have LMc57 := Aside0.mk c57;clear c57;obtain ⟨y538, Ny538⟩ := toY (x10_2 ++ [t536]);(first | with_reducible replace H := bindZ Ny538 H | rw [← Ny538.out] at H | skip)
            have H' := Aside0.mk H;clear H;have p527 : 0 ≤ (x37_2 : Int) := ofD;have q527 : x37_2 < (t524.length : Int) := ofD;obtain ⟨ad527, e527, hx527_0⟩ := Kd.at_string (Kd.R_reads' HO_35.out).2.2 x37_2 p527 q527;cases e527
            replace p527 := eq_true p527;replace q527 := eq_true q527;have hnb58 := NB513_511.out;have hnc58 := NB511_513.out;obtain ⟨_, _, _, _, _, _, _, _⟩ := cf4 BK513;obtain ⟨Ao60, co60, eo60⟩ := Kd.V_slice HO_514001.out;subst eo60;go_wp2_with (first | ((with_reducible refine gate_callee (f := 23) rfl ?_); refine gsL (some 44) Tryz.func23 #[.agg #[.string x514000_5, .slice Ao60 x514001_5.length co60, .bool x514002_5, .string x514003_5], .string (rdOf ByteArray.empty t524 x37_2)] ?_; (with_reducible refine (impl_AddrJoin.calls k2 x514000_5 _ _ x514001_5 x514002_5 x514003_5 (rdOf ByteArray.empty t524 x37_2) t528 t529 t532 t533 true _ ?side1 ?side2 A41.out).mono ?_); (case side1 => exact (zz66 HO_514001)); (case side2 => exact (Kd.V_reads' HO_514001.out).2.1); rintro e w61 ⟨v530, rfl, ho0, hb⟩; refine ⟨_, rfl, ?_⟩; have n0_ := Aside0.mk (Kd.R_elder' (zz9 HO_10) (Kd.R_base ho0) hb); have n1_ := Aside0.mk (Kd.R_elder' (zz9 HO_35) (Kd.R_base ho0) hb); have n2_ := Aside0.mk (Kd.V_elder' (zz65 HO_512001) (Kd.R_base ho0) hb); have n3_ := Aside0.mk (Kd.V_elder' (zz65 HO_514001) (Kd.R_base ho0) hb); have n4_ := Aside0.mk (Kd.R_lower (Kd.R_new' (Kd.R_new' (Kd.R_newM (M := fun k_ => (w.heap.size ≤ k_)) ho0 (below_size (zz38 HB GE511 GE513)) (fun k_ h_ => h_)) (Kd.R_lt (zz9 HO_10))) (Kd.R_lt (zz9 HO_35))) (below_size (zz38 HB GE511 GE513))); have n5_ := Aside0.mk (blk_below (zz27 BK511) hb); have n6_ := Aside0.mk (blk_below (zz27 BK513) hb); have n7_ := Aside0.mk (below_step (zz38 HB GE511 GE513) hb); clear HO_10; clear HO_35; clear HO_512001; clear HO_514001; clear BK511; clear BK513; clear HB; have HO_10 := n0_; have HO_35 := n1_; have HO_512001 := n2_; have HO_514001 := n3_; have HO531 := n4_; have BK511 := n5_; have BK513 := n6_; have HB := n7_; clear n0_ n1_ n2_ n3_ n4_ n5_ n6_ n7_; (try clear hb ho0)) | ((with_reducible refine gate_dst (N := 13) rfl ?_); refine boxE 13 #[.string (⟨#[]⟩ : ByteArray), .slice none 0 0, .bool false, .string (⟨#[]⟩ : ByteArray)] 27 ?_; intro gb535 hg w62 hbox hb; have n0_ := Aside0.mk (Kd.R_below (zz9 HO_10) hb); have n1_ := Aside0.mk (Kd.R_below (zz9 HO_35) hb); have n2_ := Aside0.mk (Kd.V_below (Kd.V_elderB (zz65 HO_512001) gb535 (Nat.le_of_eq hg.symm)) hb); have n3_ := Aside0.mk (Kd.V_below (Kd.V_elderB (zz65 HO_514001) gb535 (Nat.le_of_eq hg.symm)) hb); have n4_ := Aside0.mk (Kd.R_below (zz9 HO531) hb); have n5_ := Aside0.mk (blk_below (zz27 BK511) hb); have n6_ := Aside0.mk (blk_below (zz27 BK513) hb); have n7_ := Aside0.mk (below_step (zz38 HB GE511 GE513) hb); have n8_ := Aside0.mk (hbox); have n9_ := Aside0.mk ((by rw [hg]; exact (below_size (zz38 HB GE511 GE513)) : w.heap.size ≤ gb535)); have n10_ := Aside0.mk ((by rw [hg]; exact (below_size (zz38 HB GE511 GE513)) : w.heap.size ≤ gb535)); have n11_ := Aside0.mk ((by rw [hg]; exact Nat.ne_of_lt (blk_lt (zz27 BK511)) : gb511 ≠ gb535)); have n12_ := Aside0.mk ((by rw [hg]; exact Nat.ne_of_gt (blk_lt (zz27 BK511)) : gb535 ≠ gb511)); have n13_ := Aside0.mk ((by rw [hg]; exact Nat.ne_of_lt (blk_lt (zz27 BK513)) : gb513 ≠ gb535)); have n14_ := Aside0.mk ((by rw [hg]; exact Nat.ne_of_gt (blk_lt (zz27 BK513)) : gb535 ≠ gb513)); clear HO_10; clear HO_35; clear HO_512001; clear HO_514001; clear HO531; clear BK511; clear BK513; clear HB; have HO_10 := n0_; have HO_35 := n1_; have HO_512001 := n2_; have HO_514001 := n3_; have HO531 := n4_; have BK511 := n5_; have BK513 := n6_; have HB := n7_; have BK535 := n8_; have GW535 := n9_; have GE535 := n10_; have NB511_535 := n11_; have NB535_511 := n12_; have NB513_535 := n13_; have NB535_513 := n14_; clear n0_ n1_ n2_ n3_ n4_ n5_ n6_ n7_ n8_ n9_ n10_ n11_ n12_ n13_ n14_; clear hb hbox hg; have hnb63 := NB535_511.out; have hnc63 := NB511_535.out; have hnb64 := NB535_513.out; have hnc64 := NB513_535.out; obtain ⟨_, _, _, _, _, _, _, _⟩ := cf4 BK535; obtain ⟨Ao66, co66, eo66⟩ := Kd.R_slice HO531.out; subst eo66) | ((with_reducible refine gate_callee (f := 21) rfl ?_); refine gsL (some 50) Tryz.func21 #[.agg #[.string t528, .slice Ao66 t529.length co66, .bool t532, .string t533]] ?_; (with_reducible refine (impl_AddrText.calls k2 t528 _ _ t529 t532 t533 t536 _ ?side1 ?side2 A43.out).mono ?_); (case side1 => exact (by refine (Kd.R_reads' (e := 9) (base := w.heap.size) (ok := fun k_ => ((((w.heap.size ≤ k_) ∧ True) ∧ some k_ ≠ (u10 : Value).ownBlock) ∧ some k_ ≠ (.slice (some ad527) t524.length co37 : Value).ownBlock)) (n := t529.length) (c := co66) ?_).2.2; exact (zz149 HO531 BK535))); (case side2 => exact (Kd.R_reads' HO531.out).2.1); rintro e w67 ⟨rfl, hb⟩; refine ⟨_, rfl, ?_⟩; have n0_ := Aside0.mk (Kd.R_below (zz149 HO_10 BK535) hb); have n1_ := Aside0.mk (Kd.R_below (zz149 HO_35 BK535) hb); have n2_ := Aside0.mk (Kd.V_below (zz151 HO_512001) hb); have n3_ := Aside0.mk (Kd.V_below (zz151 HO_514001) hb); have n4_ := Aside0.mk (Kd.R_below (zz149 HO531 BK535) hb); have n5_ := Aside0.mk (blk_below (g := gb511) (o := .cells #[.string a0_0, .slice A0_1 l0_1.length c0_1, .bool a0_2, .string a0_3] 27 (0, 0)) (zz50 BK511 NB511_535) hb); have n6_ := Aside0.mk (blk_below (g := gb513) (o := .cells #[.string x514000_5, .slice Ao60 x514001_5.length co60, .bool x514002_5, .string x514003_5] 27 (0, 0)) (zz50 BK513 NB513_535) hb); have n7_ := Aside0.mk (blk_below (g := gb535) (o := .cells #[.string t528, .slice Ao66 t529.length co66, .bool t532, .string t533] 27 (0, 0)) (zz42 BK535) hb); have n8_ := Aside0.mk (below_step (zz47 HB GE511 GE513 GE535) hb); clear HO_10; clear HO_35; clear HO_512001; clear HO_514001; clear HO531; clear BK511; clear BK513; clear BK535; clear HB; have HO_10 := n0_; have HO_35 := n1_; have HO_512001 := n2_; have HO_514001 := n3_; have HO531 := n4_; have BK511 := n5_; have BK513 := n6_; have BK535 := n7_; have HB := n8_; clear n0_ n1_ n2_ n3_ n4_ n5_ n6_ n7_ n8_; (try clear hb); obtain ⟨Ao68, co68, eo68⟩ := Kd.R_slice HO_10.out; subst eo68) | ((with_reducible refine gate_callee (f := 35) rfl ?_); refine gsL (some 53) Tryz.func35 #[.slice Ao68 x10_2.length co68, .string t536] ?_; (with_reducible refine (slices_Contains_string_string.calls k2 _ _ x10_2 t536 false _ ?side1 ?side2 A44.out).mono ?_); (case side1 => exact (zz44 HO_10)); (case side2 => exact (Kd.R_reads' HO_10.out).2.1); rintro e w' ⟨rfl, ⟨nd, rfl⟩⟩; refine ⟨_, rfl, ?_⟩) | ((with_reducible refine gate_builtin (b := .append) (xs := #[.tmp 55, .tmp 57]) rfl ?_); at_builtin; refine Kd.R_append Kd.string (w0 := w) w.heap.size rfl (.tmp 55) (.tmp 57) 22 9 (.string ⟨#[]⟩) 16 rfl Tryz.underlying22 info9 rfl (by decide) (by omega) (.slice Ao68 x10_2.length co68) x10_2 t536 [.string t536] (fun k_ => (w.heap.size ≤ k_) ∧ some k_ ≠ (.slice (some ad527) t524.length co37 : Value).ownBlock ∧ some k_ ≠ (.slice Ao66 t529.length co66 : Value).ownBlock) (fun _ => False) rfl rfl ?aP (fun _ hk => hk.elim) ?aF ?aO ?aB ?aS ?aL ?_; (case aP => exact rfl); (case aB => exact (zz47 HB GE511 GE513 GE535)); (case aF => exact (fun k_ hk => ⟨(Nat.le_trans (below_size (zz47 HB GE511 GE513 GE535)) hk), Kd.fresh' (Kd.R_lt (zz9 HO_35)) k_ hk, Kd.fresh' (Kd.R_lt (zz9 HO531)) k_ hk⟩)); (case aO => exact (by (with_reducible repeat (first | apply Kd.R_alloc | apply Kd.R_drewN | apply Kd.R_drew)); exact Kd.R_mono HO_10.out (fun _ hk => ⟨hk.1.1, ⟨hk.1.2, hk.2⟩⟩))); (case aS => exact (below_size (zz47 HB GE511 GE513 GE535))); (case aL => exact (zz3 LMc57)); intro v539 w69 ho hb hg hat; rw [← Ny538.out] at ho; have n0_ := Aside0.mk (Kd.R_after (ok := (fun k_ => (w.heap.size ≤ k_) ∧ some k_ ≠ (.slice Ao66 t529.length co66 : Value).ownBlock)) (by (with_reducible repeat (first | apply Kd.R_alloc | apply Kd.R_drewN | apply Kd.R_drew)); exact Kd.R_mono HO_35.out (fun _ hk => ⟨⟨hk.1.1, hk.2⟩, hk.1.2⟩)) hg hat); have n1_ := Aside0.mk (Kd.V_afterv (ok := (fun k_ => (P0_1_ k_ ∨ w.heap.size ≤ k_) ∧ some k_ ≠ (.slice (some ad527) t524.length co37 : Value).ownBlock ∧ some k_ ≠ (.slice Ao66 t529.length co66 : Value).ownBlock ∧ k_ ≠ gb511 ∧ k_ ≠ gb513 ∧ k_ ≠ gb535)) (zz154 HO_512001) hg hat); have n2_ := Aside0.mk (Kd.V_afterv (ok := (fun k_ => (P0_1_ k_ ∨ w.heap.size ≤ k_) ∧ some k_ ≠ (.slice (some ad527) t524.length co37 : Value).ownBlock ∧ some k_ ≠ (.slice Ao66 t529.length co66 : Value).ownBlock ∧ k_ ≠ gb511 ∧ k_ ≠ gb513 ∧ k_ ≠ gb535)) (zz154 HO_514001) hg hat); have n3_ := Aside0.mk (blk_grown (zz27 BK511) hg (Kd.R_ne HO_10.out BK511.out (by decide))); have n4_ := Aside0.mk (blk_grown (zz27 BK513) hg (Kd.R_ne HO_10.out BK513.out (by decide))); have n5_ := Aside0.mk (Kd.R_after (ok := (fun k_ => (w.heap.size ≤ k_) ∧ some k_ ≠ (.slice (some ad527) t524.length co37 : Value).ownBlock)) (by (with_reducible repeat (first | apply Kd.R_alloc | apply Kd.R_drewN | apply Kd.R_drew)); exact Kd.R_mono HO531.out (fun _ hk => ⟨⟨hk.1.1.1, hk.2⟩, hk.1.2⟩)) hg hat); have n6_ := Aside0.mk (blk_grown (zz27 BK535) hg (Kd.R_ne HO_10.out BK535.out (by decide))); have n7_ := Aside0.mk (hb); have n8_ := Aside0.mk (ho); clear HO_35; clear HO_512001; clear HO_514001; clear BK511; clear BK513; clear HO531; clear BK535; clear HB; clear HO_10; have HO_35 := n0_; have HO_512001 := n1_; have HO_514001 := n2_; have BK511 := n3_; have BK513 := n4_; have HO531 := n5_; have BK535 := n6_; have HB := n7_; have HO540 := n8_; clear n0_ n1_ n2_ n3_ n4_ n5_ n6_ n7_ n8_; clear ho hb hg hat))
            go_roundg k2
            case measure => have := HJ5.out; have := HK2.out; omega
            case rel => exact ⟨(y538), (wrap64 (x37_2 + 1)), zz0, H', ⟨(zz26 HJ5 HK2)⟩, ⟨(zz83 HO540)⟩, ⟨(zz72 HO_35)⟩, ⟨(zz156 HO_512001)⟩, ⟨(zz156 HO_514001)⟩, ⟨(zz27 BK511)⟩, ⟨(zz27 BK513)⟩, ⟨(zz47 HB GE511 GE513 GE535)⟩⟩
           ·rw [if_neg c57] at H
            exact absurd H (by simp)
         ·replace c42 := Bool.eq_false_iff.mpr c42
          subst c42;rw [if_neg (show ¬ (false = true) by decide)] at H;have H' := Aside0.mk H;clear H;have p527 : 0 ≤ (x37_2 : Int) := ofD;have q527 : x37_2 < (t524.length : Int) := ofD;obtain ⟨ad527, e527, hx527_0⟩ := Kd.at_string (Kd.R_reads' HO_35.out).2.2 x37_2 p527 q527;cases e527
          replace p527 := eq_true p527;replace q527 := eq_true q527;have hnb70 := NB513_511.out;have hnc70 := NB511_513.out;obtain ⟨_, _, _, _, _, _, _, _⟩ := cf4 BK513;obtain ⟨Ao72, co72, eo72⟩ := Kd.V_slice HO_514001.out;subst eo72;go_wp2_with (first | ((with_reducible refine gate_callee (f := 23) rfl ?_); refine gsL (some 44) Tryz.func23 #[.agg #[.string x514000_5, .slice Ao72 x514001_5.length co72, .bool x514002_5, .string x514003_5], .string (rdOf ByteArray.empty t524 x37_2)] ?_; (with_reducible refine (impl_AddrJoin.calls k2 x514000_5 _ _ x514001_5 x514002_5 x514003_5 (rdOf ByteArray.empty t524 x37_2) t528 t529 t532 t533 false _ ?side1 ?side2 A41.out).mono ?_); (case side1 => exact (zz66 HO_514001)); (case side2 => exact (Kd.V_reads' HO_514001.out).2.1); rintro e w73 ⟨v530, rfl, ho0, hb⟩; refine ⟨_, rfl, ?_⟩; have n0_ := Aside0.mk (Kd.R_elder' (zz9 HO_10) (Kd.R_base ho0) hb); have n1_ := Aside0.mk (Kd.R_elder' (zz9 HO_35) (Kd.R_base ho0) hb); have n2_ := Aside0.mk (Kd.V_elder' (zz65 HO_512001) (Kd.R_base ho0) hb); have n3_ := Aside0.mk (Kd.V_elder' (zz65 HO_514001) (Kd.R_base ho0) hb); have n4_ := Aside0.mk (Kd.R_lower (Kd.R_new' (Kd.R_new' (Kd.R_newM (M := fun k_ => (w.heap.size ≤ k_)) ho0 (below_size (zz38 HB GE511 GE513)) (fun k_ h_ => h_)) (Kd.R_lt (zz9 HO_10))) (Kd.R_lt (zz9 HO_35))) (below_size (zz38 HB GE511 GE513))); have n5_ := Aside0.mk (blk_below (zz27 BK511) hb); have n6_ := Aside0.mk (blk_below (zz27 BK513) hb); have n7_ := Aside0.mk (below_step (zz38 HB GE511 GE513) hb); clear HO_10; clear HO_35; clear HO_512001; clear HO_514001; clear BK511; clear BK513; clear HB; have HO_10 := n0_; have HO_35 := n1_; have HO_512001 := n2_; have HO_514001 := n3_; have HO531 := n4_; have BK511 := n5_; have BK513 := n6_; have HB := n7_; clear n0_ n1_ n2_ n3_ n4_ n5_ n6_ n7_; (try clear hb ho0)) | ((with_reducible refine gate_dst (N := 13) rfl ?_); refine boxE 13 #[.string (⟨#[]⟩ : ByteArray), .slice none 0 0, .bool false, .string (⟨#[]⟩ : ByteArray)] 27 ?_; intro gb535 hg w74 hbox hb; have n0_ := Aside0.mk (Kd.R_below (zz9 HO_10) hb); have n1_ := Aside0.mk (Kd.R_below (zz9 HO_35) hb); have n2_ := Aside0.mk (Kd.V_below (Kd.V_elderB (zz65 HO_512001) gb535 (Nat.le_of_eq hg.symm)) hb); have n3_ := Aside0.mk (Kd.V_below (Kd.V_elderB (zz65 HO_514001) gb535 (Nat.le_of_eq hg.symm)) hb); have n4_ := Aside0.mk (Kd.R_below (zz9 HO531) hb); have n5_ := Aside0.mk (blk_below (zz27 BK511) hb); have n6_ := Aside0.mk (blk_below (zz27 BK513) hb); have n7_ := Aside0.mk (below_step (zz38 HB GE511 GE513) hb); have n8_ := Aside0.mk (hbox); have n9_ := Aside0.mk ((by rw [hg]; exact (below_size (zz38 HB GE511 GE513)) : w.heap.size ≤ gb535)); have n10_ := Aside0.mk ((by rw [hg]; exact (below_size (zz38 HB GE511 GE513)) : w.heap.size ≤ gb535)); have n11_ := Aside0.mk ((by rw [hg]; exact Nat.ne_of_lt (blk_lt (zz27 BK511)) : gb511 ≠ gb535)); have n12_ := Aside0.mk ((by rw [hg]; exact Nat.ne_of_gt (blk_lt (zz27 BK511)) : gb535 ≠ gb511)); have n13_ := Aside0.mk ((by rw [hg]; exact Nat.ne_of_lt (blk_lt (zz27 BK513)) : gb513 ≠ gb535)); have n14_ := Aside0.mk ((by rw [hg]; exact Nat.ne_of_gt (blk_lt (zz27 BK513)) : gb535 ≠ gb513)); clear HO_10; clear HO_35; clear HO_512001; clear HO_514001; clear HO531; clear BK511; clear BK513; clear HB; have HO_10 := n0_; have HO_35 := n1_; have HO_512001 := n2_; have HO_514001 := n3_; have HO531 := n4_; have BK511 := n5_; have BK513 := n6_; have HB := n7_; have BK535 := n8_; have GW535 := n9_; have GE535 := n10_; have NB511_535 := n11_; have NB535_511 := n12_; have NB513_535 := n13_; have NB535_513 := n14_; clear n0_ n1_ n2_ n3_ n4_ n5_ n6_ n7_ n8_ n9_ n10_ n11_ n12_ n13_ n14_; clear hb hbox hg; have hnb75 := NB535_511.out; have hnc75 := NB511_535.out; have hnb76 := NB535_513.out; have hnc76 := NB513_535.out; obtain ⟨_, _, _, _, _, _, _, _⟩ := cf4 BK535; obtain ⟨Ao78, co78, eo78⟩ := Kd.R_slice HO531.out; subst eo78))
          go_roundg k2
          case measure => have := HJ5.out; have := HK2.out; omega
          case rel => exact ⟨(x10_2), (wrap64 (x37_2 + 1)), zz0, H', ⟨(zz26 HJ5 HK2)⟩, ⟨(zz51 (rt HO_10 BK535))⟩, ⟨(zz51 (rt HO_35 BK535))⟩, ⟨(zz157 HO_512001)⟩, ⟨(zz157 HO_514001)⟩, ⟨(zz50 BK511 NB511_535)⟩, ⟨(zz50 BK513 NB513_535)⟩, ⟨(zz47 HB GE511 GE513 GE535)⟩⟩
        ·rw [if_neg c40] at H
         exact absurd H (by simp)
       ·rw [if_neg c39] at H
        exact absurd H (by simp)
      ·rw [if_neg c38] at H
       have c38b0 : decide (x37_2 < (t524.length : Int)) = false := decide_eq_false c38;clear c38;obtain rfl := Option.some.inj H;go_wp2
       go_ret
       exact ⟨_, zz5, (zz69 HO_10), (zz38 HB GE511 GE513)⟩
 ·replace c4 := Bool.eq_false_iff.mpr c4
  subst c4;rw [if_neg (show ¬ (false = true) by decide)] at H;obtain rfl := Option.some.inj H;go_enter Tryz.func10, Tryz.ntmps10;go_wp2_with (first | ((with_reducible refine gate_dst (N := 2) rfl ?_); refine boxE 2 #[.string a0_0, .slice A0_1 l0_1.length c0_1, .bool a0_2, .string a0_3] 27 ?_; intro gb511 hg w79 hbox hb; have n0_ := Aside0.mk (Kd.V_below (Kd.V_elderB (zz65 HO0_1) gb511 (Nat.le_of_eq hg.symm)) hb); have n1_ := Aside0.mk (below_step (zz4 HB) hb); have n2_ := Aside0.mk (hbox); have n3_ := Aside0.mk ((by rw [hg]; exact (below_size (zz4 HB)) : w.heap.size ≤ gb511)); have n4_ := Aside0.mk ((by rw [hg]; exact (below_size (zz4 HB)) : w.heap.size ≤ gb511)); clear HO0_1; clear HB; have HO0_1 := n0_; have HB := n1_; have BK511 := n2_; have GW511 := n3_; have GE511 := n4_; clear n0_ n1_ n2_ n3_ n4_; clear hb hbox hg; obtain ⟨_, _, _, _, _, _, _, _⟩ := cf4 BK511) | ((with_reducible refine gate_callee (f := 34) rfl ?_); refine gsL (some 17) Tryz.func34 #[.agg #[.string a0_0, .slice A0_1 l0_1.length c0_1, .bool a0_2, .string a0_3]] ?_; (with_reducible refine (impl_AddrOk.calls k a0_0 _ _ l0_1 a0_2 a0_3 false _ ?side1 ?side2 A3.out).mono ?_); (case side1 => exact (zz66 HO0_1)); (case side2 => exact (Kd.V_reads' HO0_1.out).2.1); rintro e w81 ⟨rfl, hb⟩; refine ⟨_, rfl, ?_⟩; have n0_ := Aside0.mk (Kd.V_below (zz65 HO0_1) hb); have n1_ := Aside0.mk (blk_below (zz27 BK511) hb); have n2_ := Aside0.mk (below_step (zz6 HB GE511) hb); clear HO0_1; clear BK511; clear HB; have HO0_1 := n0_; have BK511 := n1_; have HB := n2_; clear n0_ n1_ n2_; (try clear hb)))
  go_ret
  exact ⟨_, zz5, zz43, (zz6 HB GE511)⟩
def laws_eqStringS.l0 : Nat → List ByteArray → List ByteArray → Int → Option (Bool)
 | 0, _, _, _ => none
 | k + 1, x0, x1, x5 => if x5 < (x0.length : Int) then (if 0 ≤ x5 then (if x5 < (x1.length : Int) then (if (rdOf ByteArray.empty x0 x5).toList = (rdOf ByteArray.empty x1 x5).toList then (laws_eqStringS.l0 k x0 x1 (wrap64 (x5 + 1))) else (some false)) else (none)) else (none)) else (some true)
def laws_eqStringS.f (k : Nat) (l0 : List ByteArray) (l1 : List ByteArray) : Option (Bool) := if (l0.length : Int) = (l1.length : Int) then (laws_eqStringS.l0 k l0 l1 0) else (some false)
theorem laws_eqStringS.mono_l : ∀ k, (∀ y0 y1 y2, LeO (laws_eqStringS.l0 k y0 y1 y2) (laws_eqStringS.l0 (k + 1) y0 y1 y2))
 | 0 => fun _ _ _ r h => by simp [laws_eqStringS.l0] at h
 | k + 1 => by
  have ih0 := laws_eqStringS.mono_l k
  ·intro y0 y1 y2
   unfold laws_eqStringS.l0
   repeat' first | (with_reducible first | exact ih0 _ _ _ | exact LeO.refl _ | exact LeO.none _ | refine LeO.ite ?_ ?_ | refine LeO.bind ?_ (fun _ => ?_)) | exact LeO.none _ | refine LeO.ite ?_ ?_ | refine LeO.bind ?_ (fun _ => ?_)
set_option maxHeartbeats 8000000 in
set_option maxRecDepth 100000 in
theorem laws_eqStringS.calls (k : Nat) (A0 : Option Addr) (c0 : Nat) (l0 : List ByteArray) (A1 : Option Addr) (c1 : Nat) (l1 : List ByteArray) (r : Bool) (w : World) (hr0 : Kd.C Kd.string w A0 l0.length l0) (hc0 : l0.length ≤ c0) (hr1 : Kd.C Kd.string w A1 l1.length l1) (hc1 : l1.length ≤ c1) (h : laws_eqStringS.f k l0 l1 = some r) :
  Calls Tryz.prog 11 #[.slice A0 l0.length c0, .slice A1 l1.length c1] w fun e w' => e = .returned (.bool r) ∧ Drawn0 w w' := by
 have HR0 := Aside0.mk hr0;have HC0 := Aside0.mk hc0;clear hr0 hc0;have HR1 := Aside0.mk hr1;have HC1 := Aside0.mk hc1;clear hr1 hc1;have H : (if (l0.length : Int) = (l1.length : Int) then (laws_eqStringS.l0 k l0 l1 0) else (some false)) = some r := h;clear h;by_cases c3 : (l0.length : Int) = (l1.length : Int)
 ·rw [if_pos c3] at H
  have c3b0 : ((l0.length : Int) == (l1.length : Int)) = true := beq_iff_eq.mpr c3;have c3b1 : ((l0.length : Int) != (l1.length : Int)) = false := bne_eq_false_iff_eq.mpr c3;have c3b2 : (l0.length == l1.length) = true := by first | simpa using c3 | (simp at c3 ⊢; omega)
  clear c3;have H' := Aside0.mk H;clear H;go_enter Tryz.func11, Tryz.ntmps11;go_wp2
  repeat (go_quiet (fail); try go_wp2)
  go_loopg [5] k (fun kq v5 w' => ∃ (x5_1 : Int), v5 = .int .i64 x5_1 ∧ Aside0 (laws_eqStringS.l0 kq l0 l1 x5_1 = some r) ∧ Aside0 (kq ≤ k) ∧ Drawn0 w w')
  case atStart => exact ⟨(0), zz0, H', ⟨Nat.le_refl _⟩, zz1⟩
  case round =>
   clear H';obtain ⟨x5_1, rfl, HA, HK1, ⟨m1, rfl⟩⟩ := hrel;cases gk with
   | zero => exact absurd HA.out (by simp [laws_eqStringS.l0])
   | succ k1 =>
    have H := HA.out;clear HA;simp only [laws_eqStringS.l0] at H
    by_cases c4 : x5_1 < (l0.length : Int)
    ·rw [if_pos c4] at H
     have c4b0 : decide (x5_1 < (l0.length : Int)) = true := decide_eq_true c4;clear c4;by_cases c5 : 0 ≤ x5_1
     ·rw [if_pos c5] at H
      have c5b0 : decide (0 ≤ x5_1) = true := decide_eq_true c5;clear c5;by_cases c6 : x5_1 < (l1.length : Int)
      ·rw [if_pos c6] at H
       have c6b0 : decide (x5_1 < (l1.length : Int)) = true := decide_eq_true c6;clear c6;by_cases c7 : (rdOf ByteArray.empty l0 x5_1).toList = (rdOf ByteArray.empty l1 x5_1).toList
       ·rw [if_pos c7] at H
        have c7b0 : ((rdOf ByteArray.empty l0 x5_1).toList == (rdOf ByteArray.empty l1 x5_1).toList) = true := beq_iff_eq.mpr c7;have c7b1 : ((rdOf ByteArray.empty l0 x5_1).toList != (rdOf ByteArray.empty l1 x5_1).toList) = false := bne_eq_false_iff_eq.mpr c7;clear c7;have H' := Aside0.mk H;clear H;have p541 : 0 ≤ (x5_1 : Int) := ofD;have q541 : x5_1 < (l0.length : Int) := ofD;obtain ⟨ad541, e541, hx541_0⟩ := Kd.at_string HR0.out x5_1 p541 q541;cases e541
        replace p541 := eq_true p541;replace q541 := eq_true q541;have p542 : 0 ≤ (x5_1 : Int) := ofD;have q542 : x5_1 < (l1.length : Int) := ofD;obtain ⟨ad542, e542, hx542_0⟩ := Kd.at_string HR1.out x5_1 p542 q542;cases e542
        replace p542 := eq_true p542;replace q542 := eq_true q542;go_wp2
        repeat (go_quiet (fail); try go_wp2)
        go_roundg k1
        case measure => have := HK1.out; omega
        case rel => exact ⟨(wrap64 (x5_1 + 1)), zz0, H', ⟨(zz3 HK1)⟩, zz1⟩
       ·rw [if_neg c7] at H
        have c7b0 : ((rdOf ByteArray.empty l0 x5_1).toList == (rdOf ByteArray.empty l1 x5_1).toList) = false := beq_eq_false_iff_ne.mpr c7;have c7b1 : ((rdOf ByteArray.empty l0 x5_1).toList != (rdOf ByteArray.empty l1 x5_1).toList) = true := bne_iff_ne.mpr c7;obtain rfl := Option.some.inj H;have p541 : 0 ≤ (x5_1 : Int) := ofD;have q541 : x5_1 < (l0.length : Int) := ofD;obtain ⟨ad541, e541, hx541_0⟩ := Kd.at_string HR0.out x5_1 p541 q541;cases e541
        replace p541 := eq_true p541;replace q541 := eq_true q541;have p542 : 0 ≤ (x5_1 : Int) := ofD;have q542 : x5_1 < (l1.length : Int) := ofD;obtain ⟨ad542, e542, hx542_0⟩ := Kd.at_string HR1.out x5_1 p542 q542;cases e542
        replace p542 := eq_true p542;replace q542 := eq_true q542;go_wp2
        repeat (go_quiet (fail); try go_wp2)
        go_ret
        exact ⟨zz0, zz1⟩
      ·rw [if_neg c6] at H
       exact absurd H (by simp)
     ·rw [if_neg c5] at H
      exact absurd H (by simp)
    ·rw [if_neg c4] at H
     have c4b0 : decide (x5_1 < (l0.length : Int)) = false := decide_eq_false c4;clear c4;obtain rfl := Option.some.inj H;go_wp2
     repeat (go_quiet (fail); try go_wp2)
     go_ret
     exact ⟨zz0, zz1⟩
 ·rw [if_neg c3] at H
  have c3b0 : ((l0.length : Int) == (l1.length : Int)) = false := beq_eq_false_iff_ne.mpr c3;have c3b1 : ((l0.length : Int) != (l1.length : Int)) = true := bne_iff_ne.mpr c3;have c3b2 : (l0.length == l1.length) = false := by first | simpa using c3 | (simp at c3 ⊢; omega)
  obtain rfl := Option.some.inj H;go_enter Tryz.func11, Tryz.ntmps11;go_wp2
  repeat (go_quiet (fail); try go_wp2)
  go_ret
  exact ⟨zz0, zz1⟩
def laws_eqAddr.f (k : Nat) (a0_0 : ByteArray) (l0_1 : List ByteArray) (a0_2 : Bool) (a0_3 : ByteArray) (a1_0 : ByteArray) (l1_1 : List ByteArray) (a1_2 : Bool) (a1_3 : ByteArray) : Option (Bool) := if a0_0.toList = a1_0.toList then ((laws_eqStringS.f k l0_1 l1_1).bind fun t545 => (if t545 = true then (if (a0_2 != a1_2) = true then (some false) else (if a0_3.toList = a1_3.toList then (some true) else (some false))) else (some false))) else (some false)
set_option maxHeartbeats 8000000 in
set_option maxRecDepth 100000 in
theorem laws_eqAddr.calls (k : Nat) (a0_0 : ByteArray) (A0_1 : Option Addr) (c0_1 : Nat) (l0_1 : List ByteArray) (a0_2 : Bool) (a0_3 : ByteArray) (a1_0 : ByteArray) (A1_1 : Option Addr) (c1_1 : Nat) (l1_1 : List ByteArray) (a1_2 : Bool) (a1_3 : ByteArray) (r : Bool) (w : World) (hr0_1 : Kd.C Kd.string w A0_1 l0_1.length l0_1) (hc0_1 : l0_1.length ≤ c0_1) (hr1_1 : Kd.C Kd.string w A1_1 l1_1.length l1_1) (hc1_1 : l1_1.length ≤ c1_1) (h : laws_eqAddr.f k a0_0 l0_1 a0_2 a0_3 a1_0 l1_1 a1_2 a1_3 = some r) :
  Calls Tryz.prog 12 #[.agg #[.string a0_0, .slice A0_1 l0_1.length c0_1, .bool a0_2, .string a0_3], .agg #[.string a1_0, .slice A1_1 l1_1.length c1_1, .bool a1_2, .string a1_3]] w fun e w' => e = .returned (.bool r) ∧ Below w.heap.size w w' := by
 have hu27 := Tryz.underlying27;have HR0_1 := Aside0.mk hr0_1;have HC0_1 := Aside0.mk hc0_1;clear hr0_1 hc0_1;have HR1_1 := Aside0.mk hr1_1;have HC1_1 := Aside0.mk hc1_1;clear hr1_1 hc1_1;have HB := Aside0.mk (Below.refl w.heap.size w);have H : (if a0_0.toList = a1_0.toList then ((laws_eqStringS.f k l0_1 l1_1).bind fun t545 => (if t545 = true then (if (a0_2 != a1_2) = true then (some false) else (if a0_3.toList = a1_3.toList then (some true) else (some false))) else (some false))) else (some false)) = some r := h;clear h;by_cases c3 : a0_0.toList = a1_0.toList
 ·rw [if_pos c3] at H
  have c3b0 : (a0_0.toList == a1_0.toList) = true := beq_iff_eq.mpr c3;have c3b1 : (a0_0.toList != a1_0.toList) = false := bne_eq_false_iff_eq.mpr c3;clear c3;replace H := bindA H;obtain ⟨t545, A4, H⟩ := H;by_cases c5 : t545 = true
  ·subst c5
   rw [if_pos rfl] at H;by_cases c6 : (a0_2 != a1_2) = true
   ·rw [if_pos c6] at H
    have c6b0 : (a0_2 != a1_2) = true := c6;(try (have c6b1 : decide (a0_2 = a1_2) = false := by simpa using c6))
    (try (have c6b2 : (a0_2 == a1_2) = false := by simpa using c6))
    (try (have c6b3 : ¬ (a0_2 = a1_2) := by simpa using c6))
    clear c6;obtain rfl := Option.some.inj H;go_enter Tryz.func12, Tryz.ntmps12;go_wp2_with (first | ((with_reducible refine gate_dst (N := 2) rfl ?_); refine boxE 2 #[.string a0_0, .slice A0_1 l0_1.length c0_1, .bool a0_2, .string a0_3] 27 ?_; intro gb543 hg w7 hbox hb; have n0_ := Aside0.mk (below_step (zz4 HB) hb); have n1_ := Aside0.mk (hbox); have n2_ := Aside0.mk ((by rw [hg]; exact (below_size (zz4 HB)) : w.heap.size ≤ gb543)); have n3_ := Aside0.mk ((by rw [hg]; exact (below_size (zz4 HB)) : w.heap.size ≤ gb543)); clear HB; have HB := n0_; have BK543 := n1_; have GW543 := n2_; have GE543 := n3_; clear n0_ n1_ n2_ n3_; clear hb hbox hg) | ((with_reducible refine gate_dst (N := 3) rfl ?_); refine boxE 3 #[.string a1_0, .slice A1_1 l1_1.length c1_1, .bool a1_2, .string a1_3] 27 ?_; intro gb544 hg w8 hbox hb; have n0_ := Aside0.mk (blk_below (zz27 BK543) hb); have n1_ := Aside0.mk (below_step (zz6 HB GE543) hb); have n2_ := Aside0.mk (hbox); have n3_ := Aside0.mk ((by rw [hg]; exact (below_size (zz6 HB GE543)) : w.heap.size ≤ gb544)); have n4_ := Aside0.mk ((by rw [hg]; exact (below_size (zz6 HB GE543)) : w.heap.size ≤ gb544)); have n5_ := Aside0.mk ((by rw [hg]; exact Nat.ne_of_lt (blk_lt (zz27 BK543)) : gb543 ≠ gb544)); have n6_ := Aside0.mk ((by rw [hg]; exact Nat.ne_of_gt (blk_lt (zz27 BK543)) : gb544 ≠ gb543)); clear BK543; clear HB; have BK543 := n0_; have HB := n1_; have BK544 := n2_; have GW544 := n3_; have GE544 := n4_; have NB543_544 := n5_; have NB544_543 := n6_; clear n0_ n1_ n2_ n3_ n4_ n5_ n6_; clear hb hbox hg; have hnb9 := NB543_544.out; have hnc9 := NB544_543.out; obtain ⟨_, _, _, _, _, _, _, _⟩ := cf4 BK543; obtain ⟨_, _, _, _, _, _, _, _⟩ := cf4 BK544) | ((with_reducible refine gate_callee (f := 11) rfl ?_); refine gsL (some 14) Tryz.func11 #[.slice A0_1 l0_1.length c0_1, .slice A1_1 l1_1.length c1_1] ?_; (with_reducible refine (laws_eqStringS.calls k _ _ l0_1 _ _ l1_1 true _ ?side1 ?side2 ?side3 ?side4 A4.out).mono ?_); (case side1 => exact (zz7 HR0_1 HB)); (case side2 => exact HC0_1.out); (case side3 => exact (zz7 HR1_1 HB)); (case side4 => exact HC1_1.out); rintro e w' ⟨rfl, ⟨nd, rfl⟩⟩; refine ⟨_, rfl, ?_⟩))
    go_ret
    exact ⟨zz5, (zz38 HB GE543 GE544)⟩
   ·rw [if_neg c6] at H
    have c6b0 : (a0_2 != a1_2) = false := by simpa using c6
    (try (have c6b1 : decide (a0_2 = a1_2) = true := by simpa using c6))
    (try (have c6b2 : (a0_2 == a1_2) = true := by simpa using c6))
    clear c6;by_cases c12 : a0_3.toList = a1_3.toList
    ·rw [if_pos c12] at H
     have c12b0 : (a0_3.toList == a1_3.toList) = true := beq_iff_eq.mpr c12;have c12b1 : (a0_3.toList != a1_3.toList) = false := bne_eq_false_iff_eq.mpr c12;clear c12;obtain rfl := Option.some.inj H;go_enter Tryz.func12, Tryz.ntmps12;go_wp2_with (first | ((with_reducible refine gate_dst (N := 2) rfl ?_); refine boxE 2 #[.string a0_0, .slice A0_1 l0_1.length c0_1, .bool a0_2, .string a0_3] 27 ?_; intro gb543 hg w13 hbox hb; have n0_ := Aside0.mk (below_step (zz4 HB) hb); have n1_ := Aside0.mk (hbox); have n2_ := Aside0.mk ((by rw [hg]; exact (below_size (zz4 HB)) : w.heap.size ≤ gb543)); have n3_ := Aside0.mk ((by rw [hg]; exact (below_size (zz4 HB)) : w.heap.size ≤ gb543)); clear HB; have HB := n0_; have BK543 := n1_; have GW543 := n2_; have GE543 := n3_; clear n0_ n1_ n2_ n3_; clear hb hbox hg) | ((with_reducible refine gate_dst (N := 3) rfl ?_); refine boxE 3 #[.string a1_0, .slice A1_1 l1_1.length c1_1, .bool a1_2, .string a1_3] 27 ?_; intro gb544 hg w14 hbox hb; have n0_ := Aside0.mk (blk_below (zz27 BK543) hb); have n1_ := Aside0.mk (below_step (zz6 HB GE543) hb); have n2_ := Aside0.mk (hbox); have n3_ := Aside0.mk ((by rw [hg]; exact (below_size (zz6 HB GE543)) : w.heap.size ≤ gb544)); have n4_ := Aside0.mk ((by rw [hg]; exact (below_size (zz6 HB GE543)) : w.heap.size ≤ gb544)); have n5_ := Aside0.mk ((by rw [hg]; exact Nat.ne_of_lt (blk_lt (zz27 BK543)) : gb543 ≠ gb544)); have n6_ := Aside0.mk ((by rw [hg]; exact Nat.ne_of_gt (blk_lt (zz27 BK543)) : gb544 ≠ gb543)); clear BK543; clear HB; have BK543 := n0_; have HB := n1_; have BK544 := n2_; have GW544 := n3_; have GE544 := n4_; have NB543_544 := n5_; have NB544_543 := n6_; clear n0_ n1_ n2_ n3_ n4_ n5_ n6_; clear hb hbox hg; have hnb15 := NB543_544.out; have hnc15 := NB544_543.out; obtain ⟨_, _, _, _, _, _, _, _⟩ := cf4 BK543; obtain ⟨_, _, _, _, _, _, _, _⟩ := cf4 BK544) | ((with_reducible refine gate_callee (f := 11) rfl ?_); refine gsL (some 14) Tryz.func11 #[.slice A0_1 l0_1.length c0_1, .slice A1_1 l1_1.length c1_1] ?_; (with_reducible refine (laws_eqStringS.calls k _ _ l0_1 _ _ l1_1 true _ ?side1 ?side2 ?side3 ?side4 A4.out).mono ?_); (case side1 => exact (zz7 HR0_1 HB)); (case side2 => exact HC0_1.out); (case side3 => exact (zz7 HR1_1 HB)); (case side4 => exact HC1_1.out); rintro e w' ⟨rfl, ⟨nd, rfl⟩⟩; refine ⟨_, rfl, ?_⟩))
     go_ret
     exact ⟨zz5, (zz38 HB GE543 GE544)⟩
    ·rw [if_neg c12] at H
     have c12b0 : (a0_3.toList == a1_3.toList) = false := beq_eq_false_iff_ne.mpr c12;have c12b1 : (a0_3.toList != a1_3.toList) = true := bne_iff_ne.mpr c12;obtain rfl := Option.some.inj H;go_enter Tryz.func12, Tryz.ntmps12;go_wp2_with (first | ((with_reducible refine gate_dst (N := 2) rfl ?_); refine boxE 2 #[.string a0_0, .slice A0_1 l0_1.length c0_1, .bool a0_2, .string a0_3] 27 ?_; intro gb543 hg w18 hbox hb; have n0_ := Aside0.mk (below_step (zz4 HB) hb); have n1_ := Aside0.mk (hbox); have n2_ := Aside0.mk ((by rw [hg]; exact (below_size (zz4 HB)) : w.heap.size ≤ gb543)); have n3_ := Aside0.mk ((by rw [hg]; exact (below_size (zz4 HB)) : w.heap.size ≤ gb543)); clear HB; have HB := n0_; have BK543 := n1_; have GW543 := n2_; have GE543 := n3_; clear n0_ n1_ n2_ n3_; clear hb hbox hg) | ((with_reducible refine gate_dst (N := 3) rfl ?_); refine boxE 3 #[.string a1_0, .slice A1_1 l1_1.length c1_1, .bool a1_2, .string a1_3] 27 ?_; intro gb544 hg w19 hbox hb; have n0_ := Aside0.mk (blk_below (zz27 BK543) hb); have n1_ := Aside0.mk (below_step (zz6 HB GE543) hb); have n2_ := Aside0.mk (hbox); have n3_ := Aside0.mk ((by rw [hg]; exact (below_size (zz6 HB GE543)) : w.heap.size ≤ gb544)); have n4_ := Aside0.mk ((by rw [hg]; exact (below_size (zz6 HB GE543)) : w.heap.size ≤ gb544)); have n5_ := Aside0.mk ((by rw [hg]; exact Nat.ne_of_lt (blk_lt (zz27 BK543)) : gb543 ≠ gb544)); have n6_ := Aside0.mk ((by rw [hg]; exact Nat.ne_of_gt (blk_lt (zz27 BK543)) : gb544 ≠ gb543)); clear BK543; clear HB; have BK543 := n0_; have HB := n1_; have BK544 := n2_; have GW544 := n3_; have GE544 := n4_; have NB543_544 := n5_; have NB544_543 := n6_; clear n0_ n1_ n2_ n3_ n4_ n5_ n6_; clear hb hbox hg; have hnb20 := NB543_544.out; have hnc20 := NB544_543.out; obtain ⟨_, _, _, _, _, _, _, _⟩ := cf4 BK543; obtain ⟨_, _, _, _, _, _, _, _⟩ := cf4 BK544) | ((with_reducible refine gate_callee (f := 11) rfl ?_); refine gsL (some 14) Tryz.func11 #[.slice A0_1 l0_1.length c0_1, .slice A1_1 l1_1.length c1_1] ?_; (with_reducible refine (laws_eqStringS.calls k _ _ l0_1 _ _ l1_1 true _ ?side1 ?side2 ?side3 ?side4 A4.out).mono ?_); (case side1 => exact (zz7 HR0_1 HB)); (case side2 => exact HC0_1.out); (case side3 => exact (zz7 HR1_1 HB)); (case side4 => exact HC1_1.out); rintro e w' ⟨rfl, ⟨nd, rfl⟩⟩; refine ⟨_, rfl, ?_⟩))
     go_ret
     exact ⟨zz5, (zz38 HB GE543 GE544)⟩
  ·replace c5 := Bool.eq_false_iff.mpr c5
   subst c5;rw [if_neg (show ¬ (false = true) by decide)] at H;obtain rfl := Option.some.inj H;go_enter Tryz.func12, Tryz.ntmps12;go_wp2_with (first | ((with_reducible refine gate_dst (N := 2) rfl ?_); refine boxE 2 #[.string a0_0, .slice A0_1 l0_1.length c0_1, .bool a0_2, .string a0_3] 27 ?_; intro gb543 hg w23 hbox hb; have n0_ := Aside0.mk (below_step (zz4 HB) hb); have n1_ := Aside0.mk (hbox); have n2_ := Aside0.mk ((by rw [hg]; exact (below_size (zz4 HB)) : w.heap.size ≤ gb543)); have n3_ := Aside0.mk ((by rw [hg]; exact (below_size (zz4 HB)) : w.heap.size ≤ gb543)); clear HB; have HB := n0_; have BK543 := n1_; have GW543 := n2_; have GE543 := n3_; clear n0_ n1_ n2_ n3_; clear hb hbox hg) | ((with_reducible refine gate_dst (N := 3) rfl ?_); refine boxE 3 #[.string a1_0, .slice A1_1 l1_1.length c1_1, .bool a1_2, .string a1_3] 27 ?_; intro gb544 hg w24 hbox hb; have n0_ := Aside0.mk (blk_below (zz27 BK543) hb); have n1_ := Aside0.mk (below_step (zz6 HB GE543) hb); have n2_ := Aside0.mk (hbox); have n3_ := Aside0.mk ((by rw [hg]; exact (below_size (zz6 HB GE543)) : w.heap.size ≤ gb544)); have n4_ := Aside0.mk ((by rw [hg]; exact (below_size (zz6 HB GE543)) : w.heap.size ≤ gb544)); have n5_ := Aside0.mk ((by rw [hg]; exact Nat.ne_of_lt (blk_lt (zz27 BK543)) : gb543 ≠ gb544)); have n6_ := Aside0.mk ((by rw [hg]; exact Nat.ne_of_gt (blk_lt (zz27 BK543)) : gb544 ≠ gb543)); clear BK543; clear HB; have BK543 := n0_; have HB := n1_; have BK544 := n2_; have GW544 := n3_; have GE544 := n4_; have NB543_544 := n5_; have NB544_543 := n6_; clear n0_ n1_ n2_ n3_ n4_ n5_ n6_; clear hb hbox hg; have hnb25 := NB543_544.out; have hnc25 := NB544_543.out; obtain ⟨_, _, _, _, _, _, _, _⟩ := cf4 BK543; obtain ⟨_, _, _, _, _, _, _, _⟩ := cf4 BK544) | ((with_reducible refine gate_callee (f := 11) rfl ?_); refine gsL (some 14) Tryz.func11 #[.slice A0_1 l0_1.length c0_1, .slice A1_1 l1_1.length c1_1] ?_; (with_reducible refine (laws_eqStringS.calls k _ _ l0_1 _ _ l1_1 false _ ?side1 ?side2 ?side3 ?side4 A4.out).mono ?_); (case side1 => exact (zz7 HR0_1 HB)); (case side2 => exact HC0_1.out); (case side3 => exact (zz7 HR1_1 HB)); (case side4 => exact HC1_1.out); rintro e w' ⟨rfl, ⟨nd, rfl⟩⟩; refine ⟨_, rfl, ?_⟩))
   go_ret
   exact ⟨zz5, (zz38 HB GE543 GE544)⟩
 ·rw [if_neg c3] at H
  have c3b0 : (a0_0.toList == a1_0.toList) = false := beq_eq_false_iff_ne.mpr c3;have c3b1 : (a0_0.toList != a1_0.toList) = true := bne_iff_ne.mpr c3;obtain rfl := Option.some.inj H;go_enter Tryz.func12, Tryz.ntmps12;go_wp2_with (first | ((with_reducible refine gate_dst (N := 2) rfl ?_); refine boxE 2 #[.string a0_0, .slice A0_1 l0_1.length c0_1, .bool a0_2, .string a0_3] 27 ?_; intro gb543 hg w28 hbox hb; have n0_ := Aside0.mk (below_step (zz4 HB) hb); have n1_ := Aside0.mk (hbox); have n2_ := Aside0.mk ((by rw [hg]; exact (below_size (zz4 HB)) : w.heap.size ≤ gb543)); have n3_ := Aside0.mk ((by rw [hg]; exact (below_size (zz4 HB)) : w.heap.size ≤ gb543)); clear HB; have HB := n0_; have BK543 := n1_; have GW543 := n2_; have GE543 := n3_; clear n0_ n1_ n2_ n3_; clear hb hbox hg) | ((with_reducible refine gate_dst (N := 3) rfl ?_); refine boxE 3 #[.string a1_0, .slice A1_1 l1_1.length c1_1, .bool a1_2, .string a1_3] 27 ?_; intro gb544 hg w29 hbox hb; have n0_ := Aside0.mk (blk_below (zz27 BK543) hb); have n1_ := Aside0.mk (below_step (zz6 HB GE543) hb); have n2_ := Aside0.mk (hbox); have n3_ := Aside0.mk ((by rw [hg]; exact (below_size (zz6 HB GE543)) : w.heap.size ≤ gb544)); have n4_ := Aside0.mk ((by rw [hg]; exact (below_size (zz6 HB GE543)) : w.heap.size ≤ gb544)); have n5_ := Aside0.mk ((by rw [hg]; exact Nat.ne_of_lt (blk_lt (zz27 BK543)) : gb543 ≠ gb544)); have n6_ := Aside0.mk ((by rw [hg]; exact Nat.ne_of_gt (blk_lt (zz27 BK543)) : gb544 ≠ gb543)); clear BK543; clear HB; have BK543 := n0_; have HB := n1_; have BK544 := n2_; have GW544 := n3_; have GE544 := n4_; have NB543_544 := n5_; have NB544_543 := n6_; clear n0_ n1_ n2_ n3_ n4_ n5_ n6_; clear hb hbox hg; have hnb30 := NB543_544.out; have hnc30 := NB544_543.out; obtain ⟨_, _, _, _, _, _, _, _⟩ := cf4 BK543; obtain ⟨_, _, _, _, _, _, _, _⟩ := cf4 BK544))
  go_ret
  exact ⟨zz5, (zz38 HB GE543 GE544)⟩
def laws_markText.l0 : Nat → Int → ByteArray → Option (ByteArray)
 | 0, _, _ => none
 | k + 1, x0, x3 => if x0 > 0 then ((some (([(wrap64 (48 + (Int.tmod x0 10))) % 256] : List Int) : List Int)).bind fun y546 => (if (strOfNums y546).size + x3.size ≤ 9223372036854775807 then (laws_markText.l0 k (wrap64 (Int.tdiv x0 10)) ((strOfNums y546) ++ x3)) else (none))) else (if 1 + x3.size ≤ 9223372036854775807 then (some ((⟨#[109]⟩ : ByteArray) ++ x3)) else (none))
def laws_markText.f (k : Nat) (a0 : Int) : Option (ByteArray) := if a0 ≤ 0 then (some (⟨#[109, 48]⟩ : ByteArray)) else (laws_markText.l0 k a0 (⟨#[]⟩ : ByteArray))
theorem laws_markText.mono_l : ∀ k, (∀ y0 y1, LeO (laws_markText.l0 k y0 y1) (laws_markText.l0 (k + 1) y0 y1))
 | 0 => fun _ _ r h => by simp [laws_markText.l0] at h
 | k + 1 => by
  have ih0 := laws_markText.mono_l k
  ·intro y0 y1
   unfold laws_markText.l0
   repeat' first | (with_reducible first | exact ih0 _ _ | exact LeO.refl _ | exact LeO.none _ | refine LeO.ite ?_ ?_ | refine LeO.bind ?_ (fun _ => ?_)) | exact LeO.none _ | refine LeO.ite ?_ ?_ | refine LeO.bind ?_ (fun _ => ?_)
theorem laws_markText.mono : ∀ a0 k, LeO (laws_markText.f k a0) (laws_markText.f (k + 1) a0) := by
 intro a0 k;have ih0 := laws_markText.mono_l k;unfold laws_markText.f
 repeat' first | (with_reducible first | exact ih0 _ _ | exact LeO.refl _ | exact LeO.none _ | refine LeO.ite ?_ ?_ | refine LeO.bind ?_ (fun _ => ?_)) | exact LeO.none _ | refine LeO.ite ?_ ?_ | refine LeO.bind ?_ (fun _ => ?_)
set_option maxHeartbeats 8000000 in
set_option maxRecDepth 100000 in
theorem laws_markText.calls (k : Nat) (a0 : Int) (r : ByteArray) (w : World) (h : laws_markText.f k a0 = some r) :
  Calls Tryz.prog 36 #[.int .i64 a0] w fun e w' => e = .returned (.string r) ∧ Below w.heap.size w w' := by
 have HB := Aside0.mk (Below.refl w.heap.size w);have H : (if a0 ≤ 0 then (some (⟨#[109, 48]⟩ : ByteArray)) else (laws_markText.l0 k a0 (⟨#[]⟩ : ByteArray))) = some r := h;clear h;by_cases c2 : a0 ≤ 0
 ·rw [if_pos c2] at H
  have c2b0 : decide (a0 ≤ 0) = true := decide_eq_true c2;clear c2;obtain rfl := Option.some.inj H;go_enter Tryz.func36, Tryz.ntmps36;go_wp2
  go_ret
  exact ⟨zz5, (zz4 HB)⟩
 ·rw [if_neg c2] at H
  have c2b0 : decide (a0 ≤ 0) = false := decide_eq_false c2;clear c2;have H' := Aside0.mk H;clear H;go_enter Tryz.func36, Tryz.ntmps36;go_wp2
  go_loopg [0, 3] k (fun kq v0 v3 w' => ∃ (x0_1 : Int) (x3_1 : ByteArray), v0 = .int .i64 x0_1 ∧ v3 = .string x3_1 ∧ Aside0 (laws_markText.l0 kq x0_1 x3_1 = some r) ∧ Aside0 (kq ≤ k) ∧ Aside0 (Below w.heap.size w w'))
  case atStart => exact ⟨(a0), ((⟨#[]⟩ : ByteArray)), zz0, zz0, H', ⟨Nat.le_refl _⟩, ⟨(zz4 HB)⟩⟩
  case round =>
   clear H';obtain ⟨x0_1, x3_1, rfl, rfl, HA, HK1, HB⟩ := hrel;cases gk with
   | zero => exact absurd HA.out (by simp [laws_markText.l0])
   | succ k1 =>
    have H := HA.out;clear HA;simp only [laws_markText.l0] at H
    by_cases c3 : x0_1 > 0
    ·rw [if_pos c3] at H
     have c3b0 : decide (0 < x0_1) = true := decide_eq_true c3;clear c3;obtain ⟨y546, Ny546⟩ := toY (([(wrap64 (48 + (Int.tmod x0_1 10))) % 256] : List Int));(first | with_reducible replace H := bindZ Ny546 H | rw [← Ny546.out] at H | skip)
     by_cases c4 : (strOfNums y546).size + x3_1.size ≤ 9223372036854775807
     ·rw [if_pos c4] at H
      have c4b0 := eq_true c4;have c4b1 : decide ((strOfNums y546).size + x3_1.size ≤ 9223372036854775807) = true := decide_eq_true c4;try have c4b2 : (9223372036854775807 < (strOfNums y546).size + x3_1.size) = False := eq_false (Nat.not_lt.2 c4)
      have H' := Aside0.mk H;clear H;go_wp2_with (first | ((with_reducible refine gate_dst (N := 12) rfl ?_); refine Kd.R_lit (Kd.int .u8) _ 5 ?hg (N := 12) ?hd (xs := ([(wrap64 (48 + (Int.tmod x0_1 10))) % 256] : List Int)) (inner := [.int .u8 ((wrap64 (48 + (Int.tmod x0_1 10))) % 256)]) (ok := fun _ => True) (okp := fun _ => True) ?hr ?hp (fun _ hk => hk) trivial (Below.refl _ _) (Nat.le_refl _) (by simp) ?_; (case hd => rfl); (case hg => rfl); (case hr => exact zz8); (case hp => exact (Reps.one (show Kd.M (Kd.int .u8) _ _ _ ((wrap64 (48 + (Int.tmod x0_1 10))) % 256) [.int .u8 ((wrap64 (48 + (Int.tmod x0_1 10))) % 256)] from rfl) (Reps.none _ _))); intro v547 w5 ho6 hb hg_ hnew_; clear hg_ hnew_; (first | rw [← Ny546.out] at ho6 | (simp only [Int.reduceToNat] at ho6; rw [← Ny546.out] at ho6)); have n0_ := Aside0.mk (Kd.R_lower ho6 (below_size (zz4 HB))); have n1_ := Aside0.mk (below_step (zz4 HB) hb); clear HB; have HO548 := n0_; have HB := n1_; clear n0_ n1_; clear hb ho6; have hcv7 := own_string (P := Tryz.prog) Tryz.underlying34 Tryz.underlying5 Tryz.underlying9 (Kd.own_of_R HO548.out)))
      go_roundg k1
      case measure => have := HK1.out; omega
      case rel => exact ⟨(wrap64 (Int.tdiv x0_1 10)), ((strOfNums y546) ++ x3_1), zz0, zz0, H', ⟨(zz3 HK1)⟩, ⟨(zz4 HB)⟩⟩
     ·rw [if_neg c4] at H
      exact absurd H (by simp)
    ·rw [if_neg c3] at H
     have c3b0 : decide (0 < x0_1) = false := decide_eq_false c3;clear c3;by_cases c8 : 1 + x3_1.size ≤ 9223372036854775807
     ·rw [if_pos c8] at H
      have c8b0 := eq_true c8;have c8b1 : decide (1 + x3_1.size ≤ 9223372036854775807) = true := decide_eq_true c8;try have c8b2 : (9223372036854775807 < 1 + x3_1.size) = False := eq_false (Nat.not_lt.2 c8)
      obtain rfl := Option.some.inj H;go_wp2
      go_ret
      exact ⟨zz5, (zz4 HB)⟩
     ·rw [if_neg c8] at H
      exact absurd H (by simp)
def laws_markStringS.l0 : Nat → List ByteArray → Int → Int → Option (Int × List ByteArray)
 | 0, _, _, _ => none
 | k + 1, x0, x1, x5 => if x5 < (x0.length : Int) then ((laws_markText.f k x1).bind fun t549 => (if 0 ≤ x5 then (laws_markStringS.l0 k (x0.set (x5 : Int).toNat t549) (wrap64 (x1 + 1)) (wrap64 (x5 + 1))) else (none))) else (some (x1, x0))
def laws_markStringS.f (k : Nat) (l0 : List ByteArray) (a1 : Int) : Option (Int × List ByteArray) := laws_markStringS.l0 k l0 a1 0
theorem laws_markStringS.mono_l : ∀ k, (∀ y0 y1 y2, LeO (laws_markStringS.l0 k y0 y1 y2) (laws_markStringS.l0 (k + 1) y0 y1 y2))
 | 0 => fun _ _ _ r h => by simp [laws_markStringS.l0] at h
 | k + 1 => by
  have ih0 := laws_markStringS.mono_l k
  ·intro y0 y1 y2
   unfold laws_markStringS.l0
   repeat' first | (with_reducible first | exact ih0 _ _ _ | exact laws_markText.mono _ _ | exact LeO.refl _ | exact LeO.none _ | refine LeO.ite ?_ ?_ | refine LeO.bind ?_ (fun _ => ?_)) | exact LeO.none _ | refine LeO.ite ?_ ?_ | refine LeO.bind ?_ (fun _ => ?_)
set_option maxHeartbeats 8000000 in
set_option maxRecDepth 100000 in
theorem laws_markStringS.calls (k : Nat) (P0_ : Nat → Prop) (u9000_ : Value) (l0 : List ByteArray) (a1 : Int) (r1 : Int) (r2 : List ByteArray) (w0 w : World) (hB : Below w0.heap.size w0 w) (ho0 : Kd.R Kd.string 9 w w0.heap.size P0_ u9000_ l0) (h : laws_markStringS.f k l0 a1 = some (r1, r2)) :
  Calls Tryz.prog 14 #[u9000_, .int .i64 a1] w fun e w' => e = .returned (.int .i64 r1) ∧ Kd.R Kd.string 9 w' w0.heap.size (fun k_ => (P0_ k_ ∨ w.heap.size ≤ k_)) u9000_ r2 ∧ Below w0.heap.size w0 w' ∧ Kept w w' (fun k_ => P0_ k_) := by
 have HO0 := Aside0.mk (show Kd.R Kd.string 9 w w0.heap.size (fun k_ => (P0_ k_ ∨ w.heap.size ≤ k_)) u9000_ l0 from Kd.R_mono ho0 (fun k_ hk => (.inl hk)));have HK := Aside0.mk (Kept.refl w (fun k_ => P0_ k_));have HW0 := Aside0.mk hB.size;have HB := Aside0.mk hB;clear hB;have H : (laws_markStringS.l0 k l0 a1 0) = some (r1, r2) := h;clear h;have H' := Aside0.mk H;clear H;go_enter Tryz.func14, Tryz.ntmps14;go_wp2
 go_loopg [1, 5] k (fun kq v1 v5 w' => ∃ (x0_1 : List ByteArray) (x1_1 : Int) (x5_1 : Int), v1 = .int .i64 x1_1 ∧ v5 = .int .i64 x5_1 ∧ Aside0 (laws_markStringS.l0 kq x0_1 x1_1 x5_1 = some (r1, r2)) ∧ Aside0 (kq ≤ k) ∧ Aside0 (Kd.R Kd.string 9 w' w0.heap.size (fun k_ => (P0_ k_ ∨ w.heap.size ≤ k_)) u9000_ x0_1) ∧ Aside0 (Kept w w' (fun k_ => P0_ k_)) ∧ Aside0 (Below w0.heap.size w0 w'))
 case atStart => exact ⟨(l0), (a1), (0), zz0, zz0, H', ⟨Nat.le_refl _⟩, ⟨(zz9 HO0)⟩, ⟨(zz62 HK)⟩, ⟨(zz4 HB)⟩⟩
 case round =>
  clear H';obtain ⟨x0_1, x1_1, x5_1, rfl, rfl, HA, HK1, HO_0, HK, HB⟩ := hrel;cases gk with
  | zero => exact absurd HA.out (by simp [laws_markStringS.l0])
  | succ k1 =>
   have H := HA.out;clear HA;simp only [laws_markStringS.l0] at H
   by_cases c3 : x5_1 < (x0_1.length : Int)
   ·rw [if_pos c3] at H
    have c3b0 : decide (x5_1 < (x0_1.length : Int)) = true := decide_eq_true c3;clear c3;replace H := bindA H;obtain ⟨t549, A4, H⟩ := H;by_cases c5 : 0 ≤ x5_1
    ·rw [if_pos c5] at H
     have c5b0 : decide (0 ≤ x5_1) = true := decide_eq_true c5;clear c5;obtain ⟨y550, Ny550⟩ := toY (x0_1.set (x5_1 : Int).toNat t549);(first | with_reducible replace H := bindZ Ny550 H | rw [← Ny550.out] at H | skip)
     have H' := Aside0.mk H;clear H;obtain ⟨Ao7, co7, eo7⟩ := Kd.R_slice HO_0.out;subst eo7;go_wp2_with (first | ((with_reducible refine gate_callee (f := 36) rfl ?_); refine gsL (some 15) Tryz.func36 #[.int .i64 x1_1] ?_; (with_reducible refine (laws_markText.calls k1 x1_1 t549 _ A4.out).mono ?_); rintro e w8 ⟨rfl, hb⟩; refine ⟨_, rfl, ?_⟩; have n0_ := Aside0.mk (Kd.R_below (zz9 HO_0) hb); have n1_ := Aside0.mk (Kept.below (S := (fun k_ => P0_ k_)) (zz62 HK) hb); have n2_ := Aside0.mk (below_step (zz4 HB) hb); clear HO_0; clear HK; clear HB; have HO_0 := n0_; have HK := n1_; have HB := n2_; clear n0_ n1_ n2_; (try clear hb); have p6 : 0 ≤ (x5_1 : Int) := ofD; have q6 : (x5_1 : Int) < ((x0_1.length : Int) : Int) := ofD; obtain ⟨go6, co6, eo6, gb6, gl6, cl6, HG6⟩ := Kd.R_form HO_0.out (by omega); (first | cases eo6 | (injection eo6 with ea_ en_ ec_; (first | subst ea_ | (injection ea_ with ea_; subst ea_)); subst ec_; clear en_)); have GB6 := Aside0.mk gb6; have GG6 := Aside0.mk HG6; clear gb6 gl6 HG6; have HMgo6 := Aside0.mk (show (P0_ go6 ∨ w.heap.size ≤ go6) from (HO_0.out.1 _ rfl)); obtain ⟨hx6_0, hf6_0⟩ := Kd.R_celln (⟨#[]⟩ : ByteArray) HO_0.out (x5_1 : Int) p6 q6; replace p6 := eq_true p6; replace q6 := eq_true q6; obtain ⟨hy9_, hz9_⟩ := Kd.R_celln (⟨#[]⟩ : ByteArray) HO_0.out (x5_1 : Int) ofD ofD; have HP9 := Kd.R_putg HO_0.out (x5_1 : Int) t549) | ((with_reducible refine gate_store (t := 9) (p := 16) rfl ?_); refine store_event (t := 9) (p := 16) (v := ?vo_w10) (w1 := (w8.setCell ⟨go6, (x5_1 : Int).toNat, none⟩ (.string t549))) ?hg ?ho ?hn ?hr ?_; (case ho => rfl); (case hg => rfl); (case hn => rfl); (case hr => exact zz8); intro w10 hw; have hg : w8.grownBy w10 (some go6) := (by rw [hw]; exact HP9.2); have hp_ : Kd.R Kd.string 9 w10 w0.heap.size (fun k_ => (P0_ k_ ∨ w.heap.size ≤ k_)) (.slice (some ⟨go6, 0, none⟩) x0_1.length co7) y550 := (by rw [hw, Ny550.out]; exact HP9.1); clear HP9; have n0_ := Aside0.mk (hp_); have n1_ := Aside0.mk ((by rw [hw]; exact below_set (HB.out) GB6.out : Below w0.heap.size w0 w10)); have n2_ := Aside0.mk (Kept.of_grown (S := (fun k_ => P0_ k_)) hg (zz62 HK) (fun k_ e_ => (HO_0.out.1 k_ e_))); clear HO_0; clear HB; clear HK; have HO_0 := n0_; have HB := n1_; have HK := n2_; clear n0_ n1_ n2_; clear hg hw hp_))
     go_roundg k1
     case measure => have := HK1.out; omega
     case rel => exact ⟨(y550), (wrap64 (x1_1 + 1)), (wrap64 (x5_1 + 1)), zz0, zz0, H', ⟨(zz3 HK1)⟩, ⟨(zz9 HO_0)⟩, ⟨(zz62 HK)⟩, ⟨(zz4 HB)⟩⟩
    ·rw [if_neg c5] at H
     exact absurd H (by simp)
   ·rw [if_neg c3] at H
    have c3b0 : decide (x5_1 < (x0_1.length : Int)) = false := decide_eq_false c3;clear c3;simp only [Option.some.injEq, Prod.mk.injEq] at H
    obtain ⟨rfl, rfl⟩ := H;obtain ⟨Ao11, co11, eo11⟩ := Kd.R_slice HO_0.out;subst eo11;go_wp2
    go_ret
    exact ⟨zz5, (zz9 HO_0), (zz4 HB), (zz62 HK)⟩
def laws_markAddr.f (k : Nat) (a0_0 : ByteArray) (l0_1 : List ByteArray) (a0_2 : Bool) (a0_3 : ByteArray) (a1 : Int) : Option (Int × List ByteArray) := (laws_markStringS.f k l0_1 a1).bind fun bt552 => (some (bt552.1, bt552.2))
set_option maxHeartbeats 8000000 in
set_option maxRecDepth 100000 in
theorem laws_markAddr.calls (k : Nat) (a0_0 : ByteArray) (P0_1_ : Nat → Prop) (u9000_ : Value) (l0_1 : List ByteArray) (a0_2 : Bool) (a0_3 : ByteArray) (a1 : Int) (r1 : Int) (r2 : List ByteArray) (w0 w : World) (hB : Below w0.heap.size w0 w) (ho0_1 : Kd.R Kd.string 9 w w0.heap.size P0_1_ u9000_ l0_1) (h : laws_markAddr.f k a0_0 l0_1 a0_2 a0_3 a1 = some (r1, r2)) :
  Calls Tryz.prog 13 #[.agg #[.string a0_0, u9000_, .bool a0_2, .string a0_3], .int .i64 a1] w fun e w' => e = .returned (.int .i64 r1) ∧ Kd.R Kd.string 9 w' w0.heap.size (fun k_ => (P0_1_ k_ ∨ w.heap.size ≤ k_)) u9000_ r2 ∧ Below w0.heap.size w0 w' ∧ Kept w w' (fun k_ => P0_1_ k_) := by
 have hu27 := Tryz.underlying27;have HO0_1 := Aside0.mk (show Kd.R Kd.string 9 w w0.heap.size (fun k_ => (P0_1_ k_ ∨ w.heap.size ≤ k_)) u9000_ l0_1 from Kd.R_mono ho0_1 (fun k_ hk => (.inl hk)));have HK := Aside0.mk (Kept.refl w (fun k_ => P0_1_ k_));have HW0 := Aside0.mk hB.size;have HB := Aside0.mk hB;clear hB;have H : ((laws_markStringS.f k l0_1 a1).bind fun bt552 => (some (bt552.1, bt552.2))) = some (r1, r2) := h;clear h;replace H := bindA H;obtain ⟨⟨t552, t553⟩, A3, H⟩ := H;try dsimp -simprocs only at H
 simp only [Option.some.injEq, Prod.mk.injEq] at H
 obtain ⟨rfl, rfl⟩ := H;obtain ⟨Ao4, co4, eo4⟩ := Kd.R_slice HO0_1.out;subst eo4;go_enter Tryz.func13, Tryz.ntmps13;go_wp2_with (first | ((with_reducible refine gate_dst (N := 2) rfl ?_); refine boxE 2 #[.string a0_0, .slice Ao4 l0_1.length co4, .bool a0_2, .string a0_3] 27 ?_; intro gb551 hg w5 hbox hb; have n0_ := Aside0.mk (Kd.R_below (zz9 HO0_1) hb); have n1_ := Aside0.mk (Kept.below (S := (fun k_ => P0_1_ k_)) (zz62 HK) hb); have n2_ := Aside0.mk (below_step (zz4 HB) hb); have n3_ := Aside0.mk (hbox); have n4_ := Aside0.mk ((by rw [hg]; exact (by first | exact HK.out.1 | exact (show Kept w _ (fun k_ => P0_1_ k_) from by repeat (first | (with_reducible first | exact HK.out | apply Kept.alloc | apply Kept.drewN | apply Kept.drew) | exact HK.out)).1) : w.heap.size ≤ gb551)); have n5_ := Aside0.mk ((by rw [hg]; exact (below_size (zz4 HB)) : w0.heap.size ≤ gb551)); clear HO0_1; clear HK; clear HB; have HO0_1 := n0_; have HK := n1_; have HB := n2_; have BK551 := n3_; have GW551 := n4_; have GE551 := n5_; clear n0_ n1_ n2_ n3_ n4_ n5_; clear hb hbox hg; obtain ⟨_, _, _, _, _, _, _, _⟩ := cf4 BK551) | ((with_reducible refine gate_callee (f := 14) rfl ?_); refine gsL (some 8) Tryz.func14 #[.slice Ao4 l0_1.length co4, .int .i64 a1] ?_; (with_reducible refine (laws_markStringS.calls k (fun k_ => some k_ = (.slice Ao4 l0_1.length co4 : Value).ownBlock) (.slice Ao4 l0_1.length co4) l0_1 a1 t552 t553 w0 _ ?side1 ?side2 A3.out).mono ?_); (case side1 => exact (zz6 HB GE551)); (case side2 => exact Kd.R_tight rfl HO0_1.out); rintro e w7 ⟨rfl, hy0, hb, hkp⟩; refine ⟨_, rfl, ?_⟩; have n0_ := Aside0.mk (Kd.R_reok rfl hy0 (fun k_ e_ => HO0_1.out.1 k_ e_)); have n1_ := Aside0.mk (blk_kept (zz27 BK551) hkp (fun hs_ => (fun e_ => (Kd.R_ne HO0_1.out BK551.out (by decide)) e_) hs_)); have n2_ := Aside0.mk (Kept.then_ (S := (fun k_ => P0_1_ k_)) (by repeat (first | (with_reducible first | exact HK.out | apply Kept.alloc | apply Kept.drewN | apply Kept.drew | refine Kept.setCell ?_ (.inr GW551.out) _) | exact HK.out)) hkp (fun k_ hs_ => (fun e_ => (HO0_1.out.1 k_ e_.symm)) hs_)); have n3_ := Aside0.mk (hb); clear HO0_1; clear BK551; clear HK; clear HB; have HO0_1 := n0_; have BK551 := n1_; have HK := n2_; have HB := n3_; clear n0_ n1_ n2_ n3_; (try clear hb)))
 go_ret
 exact ⟨zz5, (zz9 HO0_1), (zz6 HB GE551), (by repeat (first | (with_reducible first | exact HK.out | apply Kept.alloc | apply Kept.drewN | apply Kept.drew | refine Kept.setCell ?_ (.inr GW551.out) _) | exact HK.out))⟩
def laws_heldStringS.l0 : Nat → List ByteArray → Int → Int → Option (Int)
 | 0, _, _, _ => none
 | k + 1, x0, x1, x5 => if x5 < (x0.length : Int) then (if 0 ≤ x5 then ((laws_markText.f k x1).bind fun t555 => (if (rdOf ByteArray.empty x0 x5).toList = t555.toList then (laws_heldStringS.l0 k x0 (wrap64 (x1 + 1)) (wrap64 (x5 + 1))) else (some (-1)))) else (none)) else (some x1)
def laws_heldStringS.f (k : Nat) (l0 : List ByteArray) (a1 : Int) : Option (Int) := laws_heldStringS.l0 k l0 a1 0
theorem laws_heldStringS.mono_l : ∀ k, (∀ y0 y1 y2, LeO (laws_heldStringS.l0 k y0 y1 y2) (laws_heldStringS.l0 (k + 1) y0 y1 y2))
 | 0 => fun _ _ _ r h => by simp [laws_heldStringS.l0] at h
 | k + 1 => by
  have ih0 := laws_heldStringS.mono_l k
  ·intro y0 y1 y2
   unfold laws_heldStringS.l0
   repeat' first | (with_reducible first | exact ih0 _ _ _ | exact laws_markText.mono _ _ | exact LeO.refl _ | exact LeO.none _ | refine LeO.ite ?_ ?_ | refine LeO.bind ?_ (fun _ => ?_)) | exact LeO.none _ | refine LeO.ite ?_ ?_ | refine LeO.bind ?_ (fun _ => ?_)
set_option maxHeartbeats 8000000 in
set_option maxRecDepth 100000 in
theorem laws_heldStringS.calls (k : Nat) (A0 : Option Addr) (c0 : Nat) (l0 : List ByteArray) (a1 : Int) (r : Int) (w : World) (hr0 : Kd.C Kd.string w A0 l0.length l0) (hc0 : l0.length ≤ c0) (h : laws_heldStringS.f k l0 a1 = some r) :
  Calls Tryz.prog 15 #[.slice A0 l0.length c0, .int .i64 a1] w fun e w' => e = .returned (.int .i64 r) ∧ Below w.heap.size w w' := by
 have HR0 := Aside0.mk hr0;have HC0 := Aside0.mk hc0;clear hr0 hc0;have HB := Aside0.mk (Below.refl w.heap.size w);have H : (laws_heldStringS.l0 k l0 a1 0) = some r := h;clear h;have H' := Aside0.mk H;clear H;go_enter Tryz.func15, Tryz.ntmps15;go_wp2
 go_loopg [1, 5] k (fun kq v1 v5 w' => ∃ (x1_1 : Int) (x5_1 : Int), v1 = .int .i64 x1_1 ∧ v5 = .int .i64 x5_1 ∧ Aside0 (laws_heldStringS.l0 kq l0 x1_1 x5_1 = some r) ∧ Aside0 (kq ≤ k) ∧ Aside0 (Below w.heap.size w w'))
 case atStart => exact ⟨(a1), (0), zz0, zz0, H', ⟨Nat.le_refl _⟩, ⟨(zz4 HB)⟩⟩
 case round =>
  clear H';obtain ⟨x1_1, x5_1, rfl, rfl, HA, HK1, HB⟩ := hrel;cases gk with
  | zero => exact absurd HA.out (by simp [laws_heldStringS.l0])
  | succ k1 =>
   have H := HA.out;clear HA;simp only [laws_heldStringS.l0] at H
   by_cases c3 : x5_1 < (l0.length : Int)
   ·rw [if_pos c3] at H
    have c3b0 : decide (x5_1 < (l0.length : Int)) = true := decide_eq_true c3;clear c3;by_cases c4 : 0 ≤ x5_1
    ·rw [if_pos c4] at H
     have c4b0 : decide (0 ≤ x5_1) = true := decide_eq_true c4;clear c4;replace H := bindA H;obtain ⟨t555, A5, H⟩ := H;by_cases c6 : (rdOf ByteArray.empty l0 x5_1).toList = t555.toList
     ·rw [if_pos c6] at H
      have c6b0 : ((rdOf ByteArray.empty l0 x5_1).toList == t555.toList) = true := beq_iff_eq.mpr c6;have c6b1 : ((rdOf ByteArray.empty l0 x5_1).toList != t555.toList) = false := bne_eq_false_iff_eq.mpr c6;clear c6;have H' := Aside0.mk H;clear H;try go_wp2
      have n0_ := Aside0.mk (below_drew1 HB.out);clear HB;have HB := n0_;clear n0_;have p554 : 0 ≤ (x5_1 : Int) := ofD;have q554 : x5_1 < (l0.length : Int) := ofD;obtain ⟨ad554, e554, hx554_0⟩ := Kd.at_string HR0.out x5_1 p554 q554;have hw554_0 := hx554_0;cases e554
      replace hx554_0 := (HB.out.cell (World.block_lt_of_cell? w _ hx554_0)).trans hx554_0;replace p554 := eq_true p554;replace q554 := eq_true q554;refine start_ (n := 7) (S := fun w' => w'.cell? (ad554.add (x5_1).toNat) = some (.string (rdOf ByteArray.empty l0 x5_1))) (ds := []) #[false, false, false, false, false, false, false] (by kernel_rfl) rfl rfl (((HB.out.cell (World.block_lt_of_cell? w _ hw554_0)).trans hw554_0)) (fun hHeld => ?_);generalize wr.drew = w7 at HB hx554_0 hHeld ⊢;refine pure_ (i := 0) (N := some 12) (v := ?_) (a' := ?_) #[true, false, false, false, false, false, false] rfl rfl (by kernel_rfl) (fun _ _ _ h => h) (Or.inl ⟨by rfl, ?_⟩) ?_ ?_;rotate_left
      ·intro w'
       go_simp
       with_reducible rfl
      rotate_left
      ·simp only [Act.put, List.setIfInBounds_toArray, List.set_cons_zero, List.set_cons_succ, i64_w, i32_w]
       rfl
      refine pure_ (i := 1) (N := some 13) (v := ?_) (a' := ?_) #[true, true, false, false, false, false, false] rfl rfl (by kernel_rfl) (fun _ _ _ h => h) (Or.inl ⟨by rfl, ?_⟩) ?_ ?_;rotate_left
      ·intro w'
       go_simp
       with_reducible rfl
      rotate_left
      ·simp only [Act.put, List.setIfInBounds_toArray, List.set_cons_zero, List.set_cons_succ, i64_w, i32_w]
       rfl
      refine pure_ (i := 2) (N := some 14) (v := ?_) (a' := ?_) #[true, true, true, false, false, false, false] rfl rfl (by kernel_rfl) (fun _ _ _ h => h) (Or.inl ⟨by rfl, ?_⟩) ?_ ?_;rotate_left
      ·intro w'
       go_simp
       with_reducible rfl
      rotate_left
      ·simp only [Act.put, List.setIfInBounds_toArray, List.set_cons_zero, List.set_cons_succ, i64_w, i32_w]
       rfl
      refine pure_ (i := 4) (N := some 16) (v := ?_) (a' := ?_) #[true, true, true, false, true, false, false] rfl rfl (by kernel_rfl) (fun _ _ _ h => h) (Or.inl ⟨by rfl, ?_⟩) ?_ ?_;rotate_left
      ·intro w'
       go_simp
       with_reducible rfl
      rotate_left
      ·simp only [Act.put, List.setIfInBounds_toArray, List.set_cons_zero, List.set_cons_succ, i64_w, i32_w]
       rfl
      refine take_ (i := 3) (N := some 15) (v := ?_) (a' := ?_) #[true, true, true, true, true, false, false] rfl rfl (by kernel_rfl) (fun _ _ _ h => h) (Or.inl ⟨by rfl, ?_⟩) hHeld ?_ ?_;rotate_left
      ·intro w' s0
       go_simp
       with_reducible rfl
      rotate_left
      ·simp only [Act.put, List.setIfInBounds_toArray, List.set_cons_zero, List.set_cons_succ, i64_w, i32_w]
       rfl
      refine one_ (i := 5) (N := some 17) #[true, true, true, true, true, true, false] rfl rfl (by kernel_rfl) (by decide) (fun K hK => ?_);refine goes_ Tryz.func36 (by kernel_rfl) rfl #[.int .i64 x1_1] (by rfl) rfl rfl zz29 ?_;with_reducible refine (laws_markText.calls k1 x1_1 t555 _ A5.out).mono ?_
      rintro e w8 ⟨rfl, hb⟩;refine ⟨_, rfl, ?_⟩;have n0_ := Aside0.mk (below_step (zz4 HB) hb);clear HB;have HB := n0_;clear n0_;(try clear hb)
      (try clear hb2)
      (try clear hk)
      (try clear hi)
      refine hK.out _ _ (((HB.out.cell (World.block_lt_of_cell? w _ hw554_0)).trans hw554_0)) (fun hHeld => ?_);clear hK K;refine norm_ (a' := ?_) ?_ ?_;rotate_left
      ·show Act.put _ (some 17) _ = _
       simp only [Act.put, List.setIfInBounds_toArray, List.set_cons_zero, List.set_cons_succ, i64_w, i32_w]
       rfl
      refine pure_ (i := 6) (N := some 18) (v := ?_) (a' := ?_) #[true, true, true, true, true, true, true] rfl rfl (by kernel_rfl) (fun _ _ _ h => h) (Or.inl ⟨by rfl, ?_⟩) ?_ ?_;rotate_left
      ·intro w'
       go_simp
       with_reducible rfl
      rotate_left
      ·simp only [Act.put, List.setIfInBounds_toArray, List.set_cons_zero, List.set_cons_succ, i64_w, i32_w]
       rfl
      refine done_ (by kernel_rfl) ?_;try go_wp2
      go_roundg k1
      case measure => have := HK1.out; omega
      case rel => exact ⟨(wrap64 (x1_1 + 1)), (wrap64 (x5_1 + 1)), zz0, zz0, H', ⟨(zz3 HK1)⟩, ⟨(zz4 HB)⟩⟩
     ·rw [if_neg c6] at H
      have c6b0 : ((rdOf ByteArray.empty l0 x5_1).toList == t555.toList) = false := beq_eq_false_iff_ne.mpr c6;have c6b1 : ((rdOf ByteArray.empty l0 x5_1).toList != t555.toList) = true := bne_iff_ne.mpr c6;obtain rfl := Option.some.inj H;try go_wp2
      have n0_ := Aside0.mk (below_drew1 HB.out);clear HB;have HB := n0_;clear n0_;have p554 : 0 ≤ (x5_1 : Int) := ofD;have q554 : x5_1 < (l0.length : Int) := ofD;obtain ⟨ad554, e554, hx554_0⟩ := Kd.at_string HR0.out x5_1 p554 q554;have hw554_0 := hx554_0;cases e554
      replace hx554_0 := (HB.out.cell (World.block_lt_of_cell? w _ hx554_0)).trans hx554_0;replace p554 := eq_true p554;replace q554 := eq_true q554;refine start_ (n := 7) (S := fun w' => w'.cell? (ad554.add (x5_1).toNat) = some (.string (rdOf ByteArray.empty l0 x5_1))) (ds := []) #[false, false, false, false, false, false, false] (by kernel_rfl) rfl rfl (((HB.out.cell (World.block_lt_of_cell? w _ hw554_0)).trans hw554_0)) (fun hHeld => ?_);generalize wr.drew = w9 at HB hx554_0 hHeld ⊢;refine pure_ (i := 0) (N := some 12) (v := ?_) (a' := ?_) #[true, false, false, false, false, false, false] rfl rfl (by kernel_rfl) (fun _ _ _ h => h) (Or.inl ⟨by rfl, ?_⟩) ?_ ?_;rotate_left
      ·intro w'
       go_simp
       with_reducible rfl
      rotate_left
      ·simp only [Act.put, List.setIfInBounds_toArray, List.set_cons_zero, List.set_cons_succ, i64_w, i32_w]
       rfl
      refine pure_ (i := 1) (N := some 13) (v := ?_) (a' := ?_) #[true, true, false, false, false, false, false] rfl rfl (by kernel_rfl) (fun _ _ _ h => h) (Or.inl ⟨by rfl, ?_⟩) ?_ ?_;rotate_left
      ·intro w'
       go_simp
       with_reducible rfl
      rotate_left
      ·simp only [Act.put, List.setIfInBounds_toArray, List.set_cons_zero, List.set_cons_succ, i64_w, i32_w]
       rfl
      refine pure_ (i := 2) (N := some 14) (v := ?_) (a' := ?_) #[true, true, true, false, false, false, false] rfl rfl (by kernel_rfl) (fun _ _ _ h => h) (Or.inl ⟨by rfl, ?_⟩) ?_ ?_;rotate_left
      ·intro w'
       go_simp
       with_reducible rfl
      rotate_left
      ·simp only [Act.put, List.setIfInBounds_toArray, List.set_cons_zero, List.set_cons_succ, i64_w, i32_w]
       rfl
      refine pure_ (i := 4) (N := some 16) (v := ?_) (a' := ?_) #[true, true, true, false, true, false, false] rfl rfl (by kernel_rfl) (fun _ _ _ h => h) (Or.inl ⟨by rfl, ?_⟩) ?_ ?_;rotate_left
      ·intro w'
       go_simp
       with_reducible rfl
      rotate_left
      ·simp only [Act.put, List.setIfInBounds_toArray, List.set_cons_zero, List.set_cons_succ, i64_w, i32_w]
       rfl
      refine take_ (i := 3) (N := some 15) (v := ?_) (a' := ?_) #[true, true, true, true, true, false, false] rfl rfl (by kernel_rfl) (fun _ _ _ h => h) (Or.inl ⟨by rfl, ?_⟩) hHeld ?_ ?_;rotate_left
      ·intro w' s0
       go_simp
       with_reducible rfl
      rotate_left
      ·simp only [Act.put, List.setIfInBounds_toArray, List.set_cons_zero, List.set_cons_succ, i64_w, i32_w]
       rfl
      refine one_ (i := 5) (N := some 17) #[true, true, true, true, true, true, false] rfl rfl (by kernel_rfl) (by decide) (fun K hK => ?_);refine goes_ Tryz.func36 (by kernel_rfl) rfl #[.int .i64 x1_1] (by rfl) rfl rfl zz29 ?_;with_reducible refine (laws_markText.calls k1 x1_1 t555 _ A5.out).mono ?_
      rintro e w10 ⟨rfl, hb⟩;refine ⟨_, rfl, ?_⟩;have n0_ := Aside0.mk (below_step (zz4 HB) hb);clear HB;have HB := n0_;clear n0_;(try clear hb)
      (try clear hb2)
      (try clear hk)
      (try clear hi)
      refine hK.out _ _ (((HB.out.cell (World.block_lt_of_cell? w _ hw554_0)).trans hw554_0)) (fun hHeld => ?_);clear hK K;refine norm_ (a' := ?_) ?_ ?_;rotate_left
      ·show Act.put _ (some 17) _ = _
       simp only [Act.put, List.setIfInBounds_toArray, List.set_cons_zero, List.set_cons_succ, i64_w, i32_w]
       rfl
      refine pure_ (i := 6) (N := some 18) (v := ?_) (a' := ?_) #[true, true, true, true, true, true, true] rfl rfl (by kernel_rfl) (fun _ _ _ h => h) (Or.inl ⟨by rfl, ?_⟩) ?_ ?_;rotate_left
      ·intro w'
       go_simp
       with_reducible rfl
      rotate_left
      ·simp only [Act.put, List.setIfInBounds_toArray, List.set_cons_zero, List.set_cons_succ, i64_w, i32_w]
       rfl
      refine done_ (by kernel_rfl) ?_;try go_wp2
      go_ret
      exact ⟨zz5, (zz4 HB)⟩
    ·rw [if_neg c4] at H
     exact absurd H (by simp)
   ·rw [if_neg c3] at H
    have c3b0 : decide (x5_1 < (l0.length : Int)) = false := decide_eq_false c3;clear c3;obtain rfl := Option.some.inj H;go_wp2
    go_ret
    exact ⟨zz5, (zz4 HB)⟩
def laws_FnExactPageAddrs.j0 : Nat → ByteArray → List ByteArray → List ByteArray → Bool → ByteArray → List ByteArray → Bool → ByteArray → Option (Bool)
 | 0, _, _, _, _, _, _, _, _ => none
 | k + 1, x1, x6, x8, x49, x557000, x557001, x557002, x557003 => if x49 = true then (some false) else ((laws_markStringS.f k x8 1).bind fun bt588 => ((laws_heldStringS.f k bt588.2 1).bind fun t590 => (if t590 < 0 then (some false) else (if t590 = bt588.1 then ((laws_toAddr.f k x557000 x557001 x557002 x557003).bind fun bt591 => ((impl_PageAddrs.f k bt591.1 bt591.2.1 bt591.2.2.1 bt591.2.2.2 x1).bind fun t597 => ((laws_eqStringS.f k t597 x6).bind fun t600 => (if t600 = true then ((laws_heldStringS.f k bt588.2 1).bind fun t601 => (if t601 < 0 then (some false) else (if t601 = bt588.1 then (some true) else (some false)))) else (some false))))) else (some false)))))
def laws_FnExactPageAddrs.f (k : Nat) (a0_0 : ByteArray) (l0_1 : List ByteArray) (a0_2 : Bool) (a0_3 : ByteArray) (a1 : ByteArray) : Option (Bool) := if (a1.size : Int) > 1048576 then (some true) else ((laws_szAddr.f k a0_0 l0_1 a0_2 a0_3 1048576).bind fun t557 => (if t557 < 0 then (some true) else ((laws_toAddr.f k a0_0 l0_1 a0_2 a0_3).bind fun bt558 => ((spec_PageAddrs.f k bt558.1 bt558.2.1 bt558.2.2.1 bt558.2.2.2 a1).bind fun t564 => ((laws_toAddr.f k a0_0 l0_1 a0_2 a0_3).bind fun bt567 => ((impl_PageAddrs.f k bt567.1 bt567.2.1 bt567.2.2.1 bt567.2.2.2 a1).bind fun t574 => ((laws_eqStringS.f k t574 t564).bind fun t577 => (if t577 = true then ((laws_toAddr.f k a0_0 l0_1 a0_2 a0_3).bind fun bt578 => ((laws_eqAddr.f k bt567.1 bt567.2.1 bt567.2.2.1 bt567.2.2.2 bt578.1 bt578.2.1 bt578.2.2.1 bt578.2.2.2).bind fun t584 => (if t584 = true then ((laws_markAddr.f k bt567.1 bt567.2.1 bt567.2.2.1 bt567.2.2.2 1).bind fun bt585 => (if bt585.1 < 0 then (laws_FnExactPageAddrs.j0 k a1 t564 t574 true a0_0 l0_1 a0_2 a0_3) else ((laws_eqStringS.f k t574 t564).bind fun t587 => (laws_FnExactPageAddrs.j0 k a1 t564 t574 (!t587) a0_0 l0_1 a0_2 a0_3)))) else (some false)))) else (some false)))))))))
set_option maxHeartbeats 8000000 in
set_option maxRecDepth 100000 in
theorem laws_FnExactPageAddrs.calls (k : Nat) (a0_0 : ByteArray) (A0_1 : Option Addr) (c0_1 : Nat) (l0_1 : List ByteArray) (a0_2 : Bool) (a0_3 : ByteArray) (a1 : ByteArray) (r : Bool) (w : World) (hr0_1 : Kd.C Kd.string w A0_1 l0_1.length l0_1) (hc0_1 : l0_1.length ≤ c0_1) (h : laws_FnExactPageAddrs.f k a0_0 l0_1 a0_2 a0_3 a1 = some r) :
  Calls Tryz.prog 3 #[.agg #[.string a0_0, .slice A0_1 l0_1.length c0_1, .bool a0_2, .string a0_3], .string a1] w fun e w' => e = .returned (.bool r) ∧ Below w.heap.size w w' := by
 have hu24 := Tryz.underlying24;have hu27 := Tryz.underlying27;have HR0_1 := Aside0.mk hr0_1;have HC0_1 := Aside0.mk hc0_1;clear hr0_1 hc0_1;have HB := Aside0.mk (Below.refl w.heap.size w);have H : (if (a1.size : Int) > 1048576 then (some true) else ((laws_szAddr.f k a0_0 l0_1 a0_2 a0_3 1048576).bind fun t557 => (if t557 < 0 then (some true) else ((laws_toAddr.f k a0_0 l0_1 a0_2 a0_3).bind fun bt558 => ((spec_PageAddrs.f k bt558.1 bt558.2.1 bt558.2.2.1 bt558.2.2.2 a1).bind fun t564 => ((laws_toAddr.f k a0_0 l0_1 a0_2 a0_3).bind fun bt567 => ((impl_PageAddrs.f k bt567.1 bt567.2.1 bt567.2.2.1 bt567.2.2.2 a1).bind fun t574 => ((laws_eqStringS.f k t574 t564).bind fun t577 => (if t577 = true then ((laws_toAddr.f k a0_0 l0_1 a0_2 a0_3).bind fun bt578 => ((laws_eqAddr.f k bt567.1 bt567.2.1 bt567.2.2.1 bt567.2.2.2 bt578.1 bt578.2.1 bt578.2.2.1 bt578.2.2.2).bind fun t584 => (if t584 = true then ((laws_markAddr.f k bt567.1 bt567.2.1 bt567.2.2.1 bt567.2.2.2 1).bind fun bt585 => (if bt585.1 < 0 then (laws_FnExactPageAddrs.j0 k a1 t564 t574 true a0_0 l0_1 a0_2 a0_3) else ((laws_eqStringS.f k t574 t564).bind fun t587 => (laws_FnExactPageAddrs.j0 k a1 t564 t574 (!t587) a0_0 l0_1 a0_2 a0_3)))) else (some false)))) else (some false)))))))))) = some r := h;clear h;by_cases c3 : (a1.size : Int) > 1048576
 ·rw [if_pos c3] at H
  have c3b0 : decide (1048576 < (a1.size : Int)) = true := decide_eq_true c3;have c3b1 : decide (1048576 < a1.size) = true := decide_eq_true (by omega);clear c3;obtain rfl := Option.some.inj H;go_enter Tryz.func3, Tryz.ntmps3;go_wp2_with (first | ((with_reducible refine gate_dst (N := 2) rfl ?_); refine boxE 2 #[.string a0_0, .slice A0_1 l0_1.length c0_1, .bool a0_2, .string a0_3] 24 ?_; intro gb556 hg w4 hbox hb; have n0_ := Aside0.mk (below_step (zz4 HB) hb); have n1_ := Aside0.mk (hbox); have n2_ := Aside0.mk ((by rw [hg]; exact (below_size (zz4 HB)) : w.heap.size ≤ gb556)); have n3_ := Aside0.mk ((by rw [hg]; exact (below_size (zz4 HB)) : w.heap.size ≤ gb556)); clear HB; have HB := n0_; have BK556 := n1_; have GW556 := n2_; have GE556 := n3_; clear n0_ n1_ n2_ n3_; clear hb hbox hg))
  go_ret
  exact ⟨zz5, (zz6 HB GE556)⟩
 ·rw [if_neg c3] at H
  have c3b0 : decide (1048576 < (a1.size : Int)) = false := decide_eq_false c3;have c3b1 : decide (1048576 < a1.size) = false := decide_eq_false (by omega);clear c3;replace H := bindA H;obtain ⟨t557, A5, H⟩ := H;by_cases c6 : t557 < 0
  ·rw [if_pos c6] at H
   have c6b0 : decide (t557 < 0) = true := decide_eq_true c6;clear c6;obtain rfl := Option.some.inj H;go_enter Tryz.func3, Tryz.ntmps3;go_wp2_with (first | ((with_reducible refine gate_dst (N := 2) rfl ?_); refine boxE 2 #[.string a0_0, .slice A0_1 l0_1.length c0_1, .bool a0_2, .string a0_3] 24 ?_; intro gb556 hg w7 hbox hb; have n0_ := Aside0.mk (below_step (zz4 HB) hb); have n1_ := Aside0.mk (hbox); have n2_ := Aside0.mk ((by rw [hg]; exact (below_size (zz4 HB)) : w.heap.size ≤ gb556)); have n3_ := Aside0.mk ((by rw [hg]; exact (below_size (zz4 HB)) : w.heap.size ≤ gb556)); clear HB; have HB := n0_; have BK556 := n1_; have GW556 := n2_; have GE556 := n3_; clear n0_ n1_ n2_ n3_; clear hb hbox hg; obtain ⟨_, _, _, _, _, _, _, _⟩ := cf4 BK556) | ((with_reducible refine gate_callee (f := 7) rfl ?_); refine gsL (some 18) Tryz.func7 #[.agg #[.string a0_0, .slice A0_1 l0_1.length c0_1, .bool a0_2, .string a0_3], .int .i64 1048576] ?_; (with_reducible refine (laws_szAddr.calls k a0_0 _ _ l0_1 a0_2 a0_3 1048576 t557 _ ?side1 ?side2 A5.out).mono ?_); (case side1 => exact (zz7 HR0_1 HB)); (case side2 => exact HC0_1.out); rintro e w9 ⟨rfl, hb⟩; refine ⟨_, rfl, ?_⟩; have n0_ := Aside0.mk (blk_below (zz27 BK556) hb); have n1_ := Aside0.mk (below_step (zz6 HB GE556) hb); clear BK556; clear HB; have BK556 := n0_; have HB := n1_; clear n0_ n1_; (try clear hb)))
   go_ret
   exact ⟨zz5, (zz6 HB GE556)⟩
  ·rw [if_neg c6] at H
   have c6b0 : decide (t557 < 0) = false := decide_eq_false c6;clear c6;replace H := bindA H;obtain ⟨⟨t558, t559, t562, t563⟩, A10, H⟩ := H;try dsimp -simprocs only at H
   replace H := bindA H;obtain ⟨t564, A11, H⟩ := H;replace H := bindA H;obtain ⟨⟨t567, t568, t571, t572⟩, A12, H⟩ := H;try dsimp -simprocs only at H
   replace H := bindA H;obtain ⟨t574, A13, H⟩ := H;replace H := bindA H;obtain ⟨t577, A14, H⟩ := H;by_cases c15 : t577 = true
   ·subst c15
    rw [if_pos rfl] at H;replace H := bindA H;obtain ⟨⟨t578, t579, t582, t583⟩, A16, H⟩ := H;try dsimp -simprocs only at H
    replace H := bindA H;obtain ⟨t584, A17, H⟩ := H;by_cases c18 : t584 = true
    ·subst c18
     rw [if_pos rfl] at H;replace H := bindA H;obtain ⟨⟨t585, t586⟩, A19, H⟩ := H;try dsimp -simprocs only at H
     have HC20 := Aside0.mk H;clear H;go_enter Tryz.func3, Tryz.ntmps3;try go_wp2_with (first | ((with_reducible refine gate_dst (N := 2) rfl ?_); refine boxE 2 #[.string a0_0, .slice A0_1 l0_1.length c0_1, .bool a0_2, .string a0_3] 24 ?_; intro gb556 hg w21 hbox hb; have n0_ := Aside0.mk (below_step (zz4 HB) hb); have n1_ := Aside0.mk (hbox); have n2_ := Aside0.mk ((by rw [hg]; exact (below_size (zz4 HB)) : w.heap.size ≤ gb556)); have n3_ := Aside0.mk ((by rw [hg]; exact (below_size (zz4 HB)) : w.heap.size ≤ gb556)); clear HB; have HB := n0_; have BK556 := n1_; have GW556 := n2_; have GE556 := n3_; clear n0_ n1_ n2_ n3_; clear hb hbox hg; obtain ⟨_, _, _, _, _, _, _, _⟩ := cf4 BK556) | ((with_reducible refine gate_callee (f := 7) rfl ?_); refine gsL (some 18) Tryz.func7 #[.agg #[.string a0_0, .slice A0_1 l0_1.length c0_1, .bool a0_2, .string a0_3], .int .i64 1048576] ?_; (with_reducible refine (laws_szAddr.calls k a0_0 _ _ l0_1 a0_2 a0_3 1048576 t557 _ ?side1 ?side2 A5.out).mono ?_); (case side1 => exact (zz7 HR0_1 HB)); (case side2 => exact HC0_1.out); rintro e w23 ⟨rfl, hb⟩; refine ⟨_, rfl, ?_⟩; have n0_ := Aside0.mk (blk_below (zz27 BK556) hb); have n1_ := Aside0.mk (below_step (zz6 HB GE556) hb); clear BK556; clear HB; have BK556 := n0_; have HB := n1_; clear n0_ n1_; (try clear hb); obtain ⟨_, _, _, _, _, _, _, _⟩ := cf4 BK556) | ((with_reducible refine gate_callee (f := 9) rfl ?_); refine gsL (some 22) Tryz.func9 #[.agg #[.string a0_0, .slice A0_1 l0_1.length c0_1, .bool a0_2, .string a0_3]] ?_; (with_reducible refine (laws_toAddr.calls k a0_0 _ _ l0_1 a0_2 a0_3 t558 t559 t562 t563 _ ?side1 ?side2 A10.out).mono ?_); (case side1 => exact (zz7 HR0_1 HB)); (case side2 => exact HC0_1.out); rintro e w25 ⟨v560, rfl, ho0, hb⟩; refine ⟨_, rfl, ?_⟩; have n0_ := Aside0.mk (Kd.R_lower ho0 (below_size (zz6 HB GE556))); have n1_ := Aside0.mk (blk_below (zz27 BK556) hb); have n2_ := Aside0.mk (below_step (zz6 HB GE556) hb); clear BK556; clear HB; have HO561 := n0_; have BK556 := n1_; have HB := n2_; clear n0_ n1_ n2_; (try clear hb ho0); obtain ⟨Ao26, co26, eo26⟩ := Kd.R_slice HO561.out; subst eo26) | ((with_reducible refine gate_callee (f := 8) rfl ?_); refine gsL (some 24) Tryz.func8 #[.agg #[.string t558, .slice Ao26 t559.length co26, .bool t562, .string t563], .string a1] ?_; (with_reducible refine (spec_PageAddrs.calls k t558 (fun k_ => some k_ = (.slice Ao26 t559.length co26 : Value).ownBlock) _ _ t559 t562 t563 a1 t564 _ ?side1 A11.out).mono ?_); (case side1 => exact Kd.R_V (Kd.R_tight rfl (Kd.R_types (HO561.out) BK556.out (by decide)))); rintro e w27 ⟨v565, rfl, ho0, hb⟩; refine ⟨_, rfl, ?_⟩; have n0_ := Aside0.mk (Kd.R_elder' (zz9 HO561) (Kd.R_base ho0) hb); have n1_ := Aside0.mk (Kd.R_lower (Kd.R_new' (Kd.R_mono (ok' := fun k_ => True) ho0 (fun _ hk_ => trivial)) (Kd.R_lt (zz9 HO561))) (below_size (zz6 HB GE556))); have n2_ := Aside0.mk (blk_below (zz27 BK556) hb); have n3_ := Aside0.mk (below_step (zz6 HB GE556) hb); clear HO561; clear BK556; clear HB; have HO561 := n0_; have HO566 := n1_; have BK556 := n2_; have HB := n3_; clear n0_ n1_ n2_ n3_; (try clear hb ho0); obtain ⟨_, _, _, _, _, _, _, _⟩ := cf4 BK556) | ((with_reducible refine gate_callee (f := 9) rfl ?_); refine gsL (some 26) Tryz.func9 #[.agg #[.string a0_0, .slice A0_1 l0_1.length c0_1, .bool a0_2, .string a0_3]] ?_; (with_reducible refine (laws_toAddr.calls k a0_0 _ _ l0_1 a0_2 a0_3 t567 t568 t571 t572 _ ?side1 ?side2 A12.out).mono ?_); (case side1 => exact (zz7 HR0_1 HB)); (case side2 => exact HC0_1.out); rintro e w29 ⟨v569, rfl, ho0, hb⟩; refine ⟨_, rfl, ?_⟩; have n0_ := Aside0.mk (Kd.R_elder' (zz9 HO561) (Kd.R_base ho0) hb); have n1_ := Aside0.mk (Kd.R_elder' (zz9 HO566) (Kd.R_base ho0) hb); have n2_ := Aside0.mk (Kd.R_lower (Kd.R_new' (Kd.R_new' ho0 (Kd.R_lt (zz9 HO561))) (Kd.R_lt (zz9 HO566))) (below_size (zz6 HB GE556))); have n3_ := Aside0.mk (blk_below (zz27 BK556) hb); have n4_ := Aside0.mk (below_step (zz6 HB GE556) hb); clear HO561; clear HO566; clear BK556; clear HB; have HO561 := n0_; have HO566 := n1_; have HO570 := n2_; have BK556 := n3_; have HB := n4_; clear n0_ n1_ n2_ n3_ n4_; (try clear hb ho0)) | ((with_reducible refine gate_dst (N := 7) rfl ?_); refine boxE 7 #[.string (⟨#[]⟩ : ByteArray), .slice none 0 0, .bool false, .string (⟨#[]⟩ : ByteArray)] 27 ?_; intro gb573 hg w30 hbox hb; have n0_ := Aside0.mk (Kd.R_below (zz9 HO561) hb); have n1_ := Aside0.mk (Kd.R_below (zz9 HO566) hb); have n2_ := Aside0.mk (Kd.R_below (zz9 HO570) hb); have n3_ := Aside0.mk (blk_below (zz27 BK556) hb); have n4_ := Aside0.mk (below_step (zz6 HB GE556) hb); have n5_ := Aside0.mk (hbox); have n6_ := Aside0.mk ((by rw [hg]; exact (below_size (zz6 HB GE556)) : w.heap.size ≤ gb573)); have n7_ := Aside0.mk ((by rw [hg]; exact (below_size (zz6 HB GE556)) : w.heap.size ≤ gb573)); have n8_ := Aside0.mk ((by rw [hg]; exact Nat.ne_of_lt (blk_lt (zz27 BK556)) : gb556 ≠ gb573)); have n9_ := Aside0.mk ((by rw [hg]; exact Nat.ne_of_gt (blk_lt (zz27 BK556)) : gb573 ≠ gb556)); clear HO561; clear HO566; clear HO570; clear BK556; clear HB; have HO561 := n0_; have HO566 := n1_; have HO570 := n2_; have BK556 := n3_; have HB := n4_; have BK573 := n5_; have GW573 := n6_; have GE573 := n7_; have NB556_573 := n8_; have NB573_556 := n9_; clear n0_ n1_ n2_ n3_ n4_ n5_ n6_ n7_ n8_ n9_; clear hb hbox hg; have hnb31 := NB573_556.out; have hnc31 := NB556_573.out; obtain ⟨_, _, _, _, _, _, _, _⟩ := cf4 BK573; obtain ⟨Ao33, co33, eo33⟩ := Kd.R_slice HO570.out; subst eo33) | ((with_reducible refine gate_store (t := 27) (p := 7) rfl ?_); refine store_event (t := 27) (p := 7) (v := ?vo_w34) (w1 := ((((w30.setCell ⟨gb573, 0, none⟩ (.string t567)).setCell ⟨gb573, 1, none⟩ (.slice Ao33 t568.length co33)).setCell ⟨gb573, 2, none⟩ (.bool t571)).setCell ⟨gb573, 3, none⟩ (.string t572))) ?hg ?ho ?hn ?hr ?_; (case ho => rfl); (case hg => rfl); (case hn => rfl); (case hr => exact zz8); intro w34 hw; have n0_ : Aside0 (Kd.R Kd.string 9 w34 w.heap.size (fun k_ => some k_ ≠ (v565 : Value).ownBlock ∧ some k_ ≠ (.slice Ao33 t568.length co33 : Value).ownBlock) (.slice Ao26 t559.length co26) t559) := ⟨zz166⟩; have n1_ : Aside0 (Kd.R Kd.string 9 w34 w.heap.size (fun k_ => some k_ ≠ (.slice Ao26 t559.length co26 : Value).ownBlock ∧ some k_ ≠ (.slice Ao33 t568.length co33 : Value).ownBlock) v565 t564) := ⟨zz167⟩; have n2_ : Aside0 (Kd.R Kd.string 9 w34 w.heap.size (fun k_ => some k_ ≠ (.slice Ao26 t559.length co26 : Value).ownBlock ∧ some k_ ≠ (v565 : Value).ownBlock) (.slice Ao33 t568.length co33) t568) := ⟨zz168⟩; have n3_ : Aside0 (w34.heap[gb556]? = some (.cells #[.string a0_0, .slice A0_1 l0_1.length c0_1, .bool a0_2, .string a0_3] 24 (0, 0))) := ⟨zz169⟩; have n4_ : Aside0 (w34.heap[gb573]? = some (.cells #[.string t567, .slice Ao33 t568.length co33, .bool t571, .string t572] 27 (0, 0))) := ⟨(by rw [hw]; exact (zz42 BK573))⟩; have n5_ : Aside0 (Below w.heap.size w w34) := ⟨zz171⟩; clear hw; clear HO561; clear HO566; clear HO570; clear BK556; clear BK573; clear HB; have HO561 := n0_; have HO566 := n1_; have HO570 := n2_; have BK556 := n3_; have BK573 := n4_; have HB := n5_; clear n0_ n1_ n2_ n3_ n4_ n5_; obtain ⟨_, _, _, _, _, _, _, _⟩ := cf4 BK573) | ((with_reducible refine gate_callee (f := 10) rfl ?_); refine gsL (some 29) Tryz.func10 #[.agg #[.string t567, .slice Ao33 t568.length co33, .bool t571, .string t572], .string a1] ?_; (with_reducible refine (impl_PageAddrs.calls k t567 (fun k_ => some k_ = (.slice Ao33 t568.length co33 : Value).ownBlock) _ _ t568 t571 t572 a1 t574 _ ?side1 A13.out).mono ?_); (case side1 => exact Kd.R_V (Kd.R_tight rfl (Kd.R_types (Kd.R_types (HO570.out) BK556.out (by decide)) BK573.out (by decide)))); rintro e w36 ⟨v575, rfl, ho0, hb⟩; refine ⟨_, rfl, ?_⟩; have n0_ := Aside0.mk (Kd.R_elder' (zz9 HO561) (Kd.R_base ho0) hb); have n1_ := Aside0.mk (Kd.R_elder' (zz9 HO566) (Kd.R_base ho0) hb); have n2_ := Aside0.mk (Kd.R_elder' (zz9 HO570) (Kd.R_base ho0) hb); have n3_ := Aside0.mk (Kd.R_lower (Kd.R_new' (Kd.R_new' (Kd.R_new' (Kd.R_mono (ok' := fun k_ => True) ho0 (fun _ hk_ => trivial)) (Kd.R_lt (zz9 HO561))) (Kd.R_lt (zz9 HO566))) (Kd.R_lt (zz9 HO570))) (below_size (zz38 HB GE556 GE573))); have n4_ := Aside0.mk (blk_below (zz27 BK556) hb); have n5_ := Aside0.mk (blk_below (zz27 BK573) hb); have n6_ := Aside0.mk (below_step (zz38 HB GE556 GE573) hb); clear HO561; clear HO566; clear HO570; clear BK556; clear BK573; clear HB; have HO561 := n0_; have HO566 := n1_; have HO570 := n2_; have HO576 := n3_; have BK556 := n4_; have BK573 := n5_; have HB := n6_; clear n0_ n1_ n2_ n3_ n4_ n5_ n6_; (try clear hb ho0); obtain ⟨Ao37, co37, eo37⟩ := Kd.R_slice HO576.out; subst eo37; obtain ⟨Ao38, co38, eo38⟩ := Kd.R_slice HO566.out; subst eo38) | ((with_reducible refine gate_callee (f := 11) rfl ?_); refine gsL (some 32) Tryz.func11 #[.slice Ao37 t574.length co37, .slice Ao38 t564.length co38] ?_; (with_reducible refine (laws_eqStringS.calls k _ _ t574 _ _ t564 true _ ?side1 ?side2 ?side3 ?side4 A14.out).mono ?_); (case side1 => exact (zz44 HO576)); (case side2 => exact (Kd.R_reads' HO576.out).2.1); (case side3 => exact (zz44 HO566)); (case side4 => exact (Kd.R_reads' HO566.out).2.1); rintro e w' ⟨rfl, ⟨nd, rfl⟩⟩; refine ⟨_, rfl, ?_⟩))
     (try (rw [drewN_self w36]; generalize hq_ : World.drewN w36 _ = w36; have n0_ : Aside0 (Kd.R Kd.string 9 w36 w.heap.size (fun k_ => some k_ ≠ (.slice Ao38 t564.length co38 : Value).ownBlock ∧ some k_ ≠ (.slice Ao33 t568.length co33 : Value).ownBlock ∧ some k_ ≠ (.slice Ao37 t574.length co37 : Value).ownBlock) (.slice Ao26 t559.length co26) t559) := ⟨(by rw [← hq_]; exact (zz172 HO561))⟩; have n1_ : Aside0 (Kd.R Kd.string 9 w36 w.heap.size (fun k_ => some k_ ≠ (.slice Ao26 t559.length co26 : Value).ownBlock ∧ some k_ ≠ (.slice Ao33 t568.length co33 : Value).ownBlock ∧ some k_ ≠ (.slice Ao37 t574.length co37 : Value).ownBlock) (.slice Ao38 t564.length co38) t564) := ⟨(by rw [← hq_]; exact (zz172 HO566))⟩; have n2_ : Aside0 (Kd.R Kd.string 9 w36 w.heap.size (fun k_ => some k_ ≠ (.slice Ao26 t559.length co26 : Value).ownBlock ∧ some k_ ≠ (.slice Ao38 t564.length co38 : Value).ownBlock ∧ some k_ ≠ (.slice Ao37 t574.length co37 : Value).ownBlock) (.slice Ao33 t568.length co33) t568) := ⟨(by rw [← hq_]; exact (zz172 HO570))⟩; have n3_ : Aside0 (Kd.R Kd.string 9 w36 w.heap.size (fun k_ => some k_ ≠ (.slice Ao26 t559.length co26 : Value).ownBlock ∧ some k_ ≠ (.slice Ao38 t564.length co38 : Value).ownBlock ∧ some k_ ≠ (.slice Ao33 t568.length co33 : Value).ownBlock) (.slice Ao37 t574.length co37) t574) := ⟨(by rw [← hq_]; exact (zz176 HO576))⟩; have n4_ : Aside0 (w36.heap[gb556]? = some (.cells #[.string a0_0, .slice A0_1 l0_1.length c0_1, .bool a0_2, .string a0_3] 24 (0, 0))) := ⟨(by rw [← hq_]; exact (zz27 BK556))⟩; have n5_ : Aside0 (w36.heap[gb573]? = some (.cells #[.string t567, .slice Ao33 t568.length co33, .bool t571, .string t572] 27 (0, 0))) := ⟨(by rw [← hq_]; exact (zz27 BK573))⟩; have n6_ : Aside0 (Below w.heap.size w w36) := ⟨(by rw [← hq_]; exact (zz38 HB GE556 GE573))⟩; clear HO561 HO566 HO570 HO576 BK556 BK573 HB hq_; have HO561 := n0_; have HO566 := n1_; have HO570 := n2_; have HO576 := n3_; have BK556 := n4_; have BK573 := n5_; have HB := n6_; clear n0_ n1_ n2_ n3_ n4_ n5_ n6_))
     have n0_ := Aside0.mk (Kd.R_drew HO561.out);have n1_ := Aside0.mk (Kd.R_drew HO566.out);have n2_ := Aside0.mk (Kd.R_drew HO570.out);have n3_ := Aside0.mk (Kd.R_drew HO576.out);have n4_ := Aside0.mk (blk_drew BK556.out);have n5_ := Aside0.mk (blk_drew BK573.out);have n6_ := Aside0.mk (below_drew1 HB.out);clear HO561;clear HO566;clear HO570;clear HO576;clear BK556;clear BK573;clear HB;have HO561 := n0_;have HO566 := n1_;have HO570 := n2_;have HO576 := n3_;have BK556 := n4_;have BK573 := n5_;have HB := n6_;clear n0_ n1_ n2_ n3_ n4_ n5_ n6_;refine start_ (n := 5) (S := fun w' => w'.cell? ⟨gb573, 0, none⟩ = some (.string t567) ∧ w'.cell? ⟨gb573, 1, none⟩ = some (.slice Ao33 t568.length co33) ∧ w'.cell? ⟨gb573, 2, none⟩ = some (.bool t571) ∧ w'.cell? ⟨gb573, 3, none⟩ = some (.string t572) ∧ w'.cell? ⟨gb556, 0, none⟩ = some (.string a0_0) ∧ w'.cell? ⟨gb556, 1, none⟩ = some (.slice A0_1 l0_1.length c0_1) ∧ w'.cell? ⟨gb556, 2, none⟩ = some (.bool a0_2) ∧ w'.cell? ⟨gb556, 3, none⟩ = some (.string a0_3)) (ds := []) #[false, false, false, false, false] (by kernel_rfl) rfl rfl ⟨(blk_cell BK573.out 0).trans rfl, (blk_cell BK573.out 1).trans rfl, (blk_cell BK573.out 2).trans rfl, (blk_cell BK573.out 3).trans rfl, (blk_cell BK556.out 0).trans rfl, (blk_cell BK556.out 1).trans rfl, (blk_cell BK556.out 2).trans rfl, (blk_cell BK556.out 3).trans rfl⟩ (fun hHeld => ?_);generalize w36.drew = w39 at HO561 HO566 HO570 HO576 BK556 BK573 HB hHeld ⊢;refine take_ (i := 0) (N := some 34) (v := ?_) (a' := ?_) #[true, false, false, false, false] rfl rfl (by kernel_rfl) (fun _ _ _ h => h) (Or.inl ⟨by rfl, ?_⟩) hHeld ?_ ?_;rotate_left
     ·rintro w' ⟨s0, s1, s2, s3, s4, s5, s6, s7⟩
      go_simp
      with_reducible rfl
     rotate_left
     ·simp only [Act.put, List.setIfInBounds_toArray, List.set_cons_zero, List.set_cons_succ, i64_w, i32_w]
      rfl
     refine take_ (i := 1) (N := some 35) (v := ?_) (a' := ?_) #[true, true, false, false, false] rfl rfl (by kernel_rfl) (fun _ _ _ h => h) (Or.inl ⟨by rfl, ?_⟩) hHeld ?_ ?_;rotate_left
     ·rintro w' ⟨s0, s1, s2, s3, s4, s5, s6, s7⟩
      go_simp
      with_reducible rfl
     rotate_left
     ·simp only [Act.put, List.setIfInBounds_toArray, List.set_cons_zero, List.set_cons_succ, i64_w, i32_w]
      rfl
     refine one_ (i := 2) (N := some 36) #[true, true, true, false, false] rfl rfl (by kernel_rfl) (by decide) (fun K hK => ?_);refine goes_ Tryz.func9 (by kernel_rfl) rfl #[.agg #[.string a0_0, .slice A0_1 l0_1.length c0_1, .bool a0_2, .string a0_3]] (by rfl) rfl rfl zz29 ?_;with_reducible refine (laws_toAddr.calls k a0_0 _ _ l0_1 a0_2 a0_3 t578 t579 t582 t583 _ ?side1 ?side2 A16.out).mono ?_
     (case side1 => exact (zz7 HR0_1 HB))
     (case side2 => exact HC0_1.out)
     rintro e w40 ⟨v580, rfl, ho0, hb⟩;refine ⟨_, rfl, ?_⟩;have n0_ := Aside0.mk (Kd.R_elder' (zz9 HO561) (Kd.R_base ho0) hb);have n1_ := Aside0.mk (Kd.R_elder' (zz9 HO566) (Kd.R_base ho0) hb);have n2_ := Aside0.mk (Kd.R_elder' (zz9 HO570) (Kd.R_base ho0) hb);have n3_ := Aside0.mk (Kd.R_elder' (zz9 HO576) (Kd.R_base ho0) hb);have n4_ := Aside0.mk (Kd.R_lower (Kd.R_new' (Kd.R_new' (Kd.R_new' (Kd.R_new' ho0 (Kd.R_lt (zz9 HO561))) (Kd.R_lt (zz9 HO566))) (Kd.R_lt (zz9 HO570))) (Kd.R_lt (zz9 HO576))) (below_size (zz38 HB GE556 GE573)));have n5_ := Aside0.mk (blk_below (zz27 BK556) hb);have n6_ := Aside0.mk (blk_below (zz27 BK573) hb);have n7_ := Aside0.mk (below_step (zz38 HB GE556 GE573) hb);clear HO561;clear HO566;clear HO570;clear HO576;clear BK556;clear BK573;clear HB;have HO561 := n0_;have HO566 := n1_;have HO570 := n2_;have HO576 := n3_;have HO581 := n4_;have BK556 := n5_;have BK573 := n6_;have HB := n7_;clear n0_ n1_ n2_ n3_ n4_ n5_ n6_ n7_;(try clear hb)
     (try clear hb2)
     (try clear hk)
     (try clear hi)
     (try clear ho0)
     obtain ⟨Ao41, co41, eo41⟩ := Kd.R_slice HO581.out;(first | subst eo41 | (injection eo41 with f1_ f2_ f3_; have f4_ := f1_.symm; have f5_ := f3_.symm; clear f1_ f2_ f3_; subst f4_; subst f5_))
     refine hK.out _ _ ⟨(blk_cell BK573.out 0).trans rfl, (blk_cell BK573.out 1).trans rfl, (blk_cell BK573.out 2).trans rfl, (blk_cell BK573.out 3).trans rfl, (blk_cell BK556.out 0).trans rfl, (blk_cell BK556.out 1).trans rfl, (blk_cell BK556.out 2).trans rfl, (blk_cell BK556.out 3).trans rfl⟩ (fun hHeld => ?_);clear hK K;refine norm_ (a' := ?_) ?_ ?_;rotate_left
     ·show Act.put _ (some 36) _ = _
      simp only [Act.put, List.setIfInBounds_toArray, List.set_cons_zero, List.set_cons_succ, i64_w, i32_w]
      rfl
     refine one_ (i := 3) (N := some 37) #[true, true, true, true, false] rfl rfl (by kernel_rfl) (by decide) (fun K hK => ?_);refine goes_ Tryz.func12 (by kernel_rfl) rfl #[.agg #[.string t567, .slice Ao33 t568.length co33, .bool t571, .string t572], .agg #[.string t578, .slice Ao41 t579.length co41, .bool t582, .string t583]] (by rfl) rfl rfl zz29 ?_;with_reducible refine (laws_eqAddr.calls k t567 _ _ t568 t571 t572 t578 _ _ t579 t582 t583 true _ ?side1 ?side2 ?side3 ?side4 A17.out).mono ?_
     (case side1 => exact (zz44 HO570))
     (case side2 => exact (Kd.R_reads' HO570.out).2.1)
     (case side3 => exact (zz44 HO581))
     (case side4 => exact (Kd.R_reads' HO581.out).2.1)
     rintro e w42 ⟨rfl, hb⟩;refine ⟨_, rfl, ?_⟩;have n0_ := Aside0.mk (Kd.R_below (zz9 HO561) hb);have n1_ := Aside0.mk (Kd.R_below (zz9 HO566) hb);have n2_ := Aside0.mk (Kd.R_below (zz9 HO570) hb);have n3_ := Aside0.mk (Kd.R_below (zz9 HO576) hb);have n4_ := Aside0.mk (Kd.R_below (zz9 HO581) hb);have n5_ := Aside0.mk (blk_below (zz27 BK556) hb);have n6_ := Aside0.mk (blk_below (zz27 BK573) hb);have n7_ := Aside0.mk (below_step (zz38 HB GE556 GE573) hb);clear HO561;clear HO566;clear HO570;clear HO576;clear HO581;clear BK556;clear BK573;clear HB;have HO561 := n0_;have HO566 := n1_;have HO570 := n2_;have HO576 := n3_;have HO581 := n4_;have BK556 := n5_;have BK573 := n6_;have HB := n7_;clear n0_ n1_ n2_ n3_ n4_ n5_ n6_ n7_;(try clear hb)
     (try clear hb2)
     (try clear hk)
     (try clear hi)
     refine hK.out _ _ ⟨(blk_cell BK573.out 0).trans rfl, (blk_cell BK573.out 1).trans rfl, (blk_cell BK573.out 2).trans rfl, (blk_cell BK573.out 3).trans rfl, (blk_cell BK556.out 0).trans rfl, (blk_cell BK556.out 1).trans rfl, (blk_cell BK556.out 2).trans rfl, (blk_cell BK556.out 3).trans rfl⟩ (fun hHeld => ?_);clear hK K;refine norm_ (a' := ?_) ?_ ?_;rotate_left
     ·show Act.put _ (some 37) _ = _
      simp only [Act.put, List.setIfInBounds_toArray, List.set_cons_zero, List.set_cons_succ, i64_w, i32_w]
      rfl
     refine pure_ (i := 4) (N := some 38) (v := ?_) (a' := ?_) #[true, true, true, true, true] rfl rfl (by kernel_rfl) (fun _ _ _ h => h) (Or.inl ⟨by rfl, ?_⟩) ?_ ?_;rotate_left
     ·intro w'
      go_simp
      with_reducible rfl
     rotate_left
     ·simp only [Act.put, List.setIfInBounds_toArray, List.set_cons_zero, List.set_cons_succ, i64_w, i32_w]
      rfl
     refine done_ (by kernel_rfl) ?_;obtain ⟨_, _, _, _, _, _, _, _⟩ := cf4 BK573;go_upto_region 16 with (first | ((with_reducible refine gate_callee (f := 13) rfl ?_); refine gsL (some 41) Tryz.func13 #[.agg #[.string t567, .slice Ao33 t568.length co33, .bool t571, .string t572], .int .i64 1] ?_; (with_reducible refine (laws_markAddr.calls k t567 (fun k_ => some k_ = (.slice Ao33 t568.length co33 : Value).ownBlock) (.slice Ao33 t568.length co33) t568 t571 t572 1 t585 t586 w _ ?side1 ?side2 A19.out).mono ?_); (case side1 => exact (zz38 HB GE556 GE573)); (case side2 => exact Kd.R_tight rfl HO570.out); rintro e w44 ⟨rfl, hy0, hb, hkp⟩; refine ⟨_, rfl, ?_⟩; have n0_ := Aside0.mk (blk_kept (zz27 BK556) hkp (fun hs_ => (fun e_ => (Kd.R_ne HO570.out BK556.out (by decide)) e_) hs_)); have n1_ := Aside0.mk (Kd.R_mono (ok' := fun k_ => some k_ ≠ (.slice Ao38 t564.length co38 : Value).ownBlock ∧ some k_ ≠ (.slice Ao33 t568.length co33 : Value).ownBlock ∧ some k_ ≠ (.slice Ao37 t574.length co37 : Value).ownBlock ∧ some k_ ≠ (.slice Ao41 t579.length co41 : Value).ownBlock) (Kd.R_keptB (HO561.out) hkp (fun k_ hk_ hs_ => by first | exact (hk_.1.1.2) hs_ | (first | exact hk_.2 hs_ | exact hk_.1 hs_ | exact hk_.1.1 hs_ | exact hk_.2.2 hs_ | exact hk_.2.1 hs_ | exact hk_.1.2 hs_ | exact hk_.2.2.2 hs_ | exact hk_.1.2.1 hs_ | exact hk_.1.1.2 hs_ | exact hk_.1.2.2 hs_ | exact hk_.1.1.1 hs_ | exact hk_.2.2.1 hs_ | exact hk_.2.2.2.2 hs_ | exact hk_.2.2.2.1 hs_ | exact hk_.1.1.1.1 hs_ | exact hk_.1.1.2.2 hs_ | exact hk_.1.1.1.2 hs_ | exact hk_.1.2.2.1 hs_ | exact hk_.1.1.2.1 hs_ | exact hk_.1.2.2.2 hs_ | exact hk_.1.1.2.2.1 hs_ | exact hk_.2.2.2.2.1 hs_ | exact hk_.1.1.2.2.2 hs_ | exact hk_.1.1.1.1.1 hs_ | exact hk_.1.1.1.2.1 hs_ | exact hk_.1.1.1.2.2 hs_ | exact hk_.1.1.1.1.2 hs_ | exact hk_.1.2.2.2.2 hs_ | exact hk_.1.2.2.2.1 hs_ | exact hk_.1.1.2.2.2.2 hs_ | exact hk_.1.1.1.1.1.2 hs_ | exact hk_.1.1.1.2.2.2 hs_ | exact hk_.1.1.1.2.2.1 hs_ | exact hk_.1.1.1.1.2.2 hs_ | exact hk_.1.1.1.1.1.1 hs_ | exact hk_.1.1.1.1.2.1 hs_ | exact hk_.1.2.2.2.2.1 hs_ | exact hk_.1.1.2.2.2.1 hs_ | exact hk_.1.1.1.2.2.2.1 hs_ | exact hk_.1.1.1.2.2.2.2 hs_ | exact hk_.1.1.1.1.2.2.2 hs_ | exact hk_.1.1.1.1.2.2.1 hs_ | exact hk_.1.1.1.1.1.2.1 hs_ | exact hk_.1.1.1.1.1.2.2 hs_ | exact hk_.1.1.2.2.2.2.1 hs_ | exact hk_.1.1.1.1.1.2.2.1 hs_ | exact hk_.1.1.1.2.2.2.2.1 hs_ | exact hk_.1.1.1.1.1.2.2.2 hs_ | exact hk_.1.1.1.1.2.2.2.1 hs_ | exact hk_.1.1.1.1.2.2.2.2 hs_ | exact hk_.1.1.1.1.1.2.2.2.2 hs_ | exact hk_.1.1.1.1.2.2.2.2.1 hs_ | exact hk_.1.1.1.1.1.2.2.2.1 hs_ | exact hk_.1.1.1.1.1.2.2.2.2.1 hs_))) (fun k_ hk_ => by first | exact ⟨hk_.1.1.1.1, hk_.1.1.1.2, hk_.1.1.2, hk_.1.2⟩ | (refine ⟨?_, ?_, ?_, ?_⟩ <;> (first | exact hk_.2 | exact hk_.1 | exact hk_.1.1 | exact hk_.2.2 | exact hk_.2.1 | exact hk_.1.2 | exact hk_.2.2.2 | exact hk_.1.2.1 | exact hk_.1.1.2 | exact hk_.1.2.2 | exact hk_.1.1.1 | exact hk_.2.2.1 | exact hk_.2.2.2.2 | exact hk_.2.2.2.1 | exact hk_.1.1.1.1 | exact hk_.1.1.2.2 | exact hk_.1.1.1.2 | exact hk_.1.2.2.1 | exact hk_.1.1.2.1 | exact hk_.1.2.2.2 | exact hk_.1.1.2.2.1 | exact hk_.2.2.2.2.1 | exact hk_.1.1.2.2.2 | exact hk_.1.1.1.1.1 | exact hk_.1.1.1.2.1 | exact hk_.1.1.1.2.2 | exact hk_.1.1.1.1.2 | exact hk_.1.2.2.2.2 | exact hk_.1.2.2.2.1 | exact hk_.1.1.2.2.2.2 | exact hk_.1.1.1.1.1.2 | exact hk_.1.1.1.2.2.2 | exact hk_.1.1.1.2.2.1 | exact hk_.1.1.1.1.2.2 | exact hk_.1.1.1.1.1.1 | exact hk_.1.1.1.1.2.1 | exact hk_.1.2.2.2.2.1 | exact hk_.1.1.2.2.2.1 | exact hk_.1.1.1.2.2.2.1 | exact hk_.1.1.1.2.2.2.2 | exact hk_.1.1.1.1.2.2.2 | exact hk_.1.1.1.1.2.2.1 | exact hk_.1.1.1.1.1.2.1 | exact hk_.1.1.1.1.1.2.2 | exact hk_.1.1.2.2.2.2.1 | exact hk_.1.1.1.1.1.2.2.1 | exact hk_.1.1.1.2.2.2.2.1 | exact hk_.1.1.1.1.1.2.2.2 | exact hk_.1.1.1.1.2.2.2.1 | exact hk_.1.1.1.1.2.2.2.2 | exact hk_.1.1.1.1.1.2.2.2.2 | exact hk_.1.1.1.1.2.2.2.2.1 | exact hk_.1.1.1.1.1.2.2.2.1 | exact hk_.1.1.1.1.1.2.2.2.2.1)))); have n2_ := Aside0.mk (Kd.R_mono (ok' := fun k_ => some k_ ≠ (.slice Ao26 t559.length co26 : Value).ownBlock ∧ some k_ ≠ (.slice Ao33 t568.length co33 : Value).ownBlock ∧ some k_ ≠ (.slice Ao37 t574.length co37 : Value).ownBlock ∧ some k_ ≠ (.slice Ao41 t579.length co41 : Value).ownBlock) (Kd.R_keptB (HO566.out) hkp (fun k_ hk_ hs_ => by first | exact (hk_.1.1.2) hs_ | (first | exact hk_.2 hs_ | exact hk_.1 hs_ | exact hk_.1.1 hs_ | exact hk_.2.2 hs_ | exact hk_.2.1 hs_ | exact hk_.1.2 hs_ | exact hk_.2.2.2 hs_ | exact hk_.1.2.1 hs_ | exact hk_.1.1.2 hs_ | exact hk_.1.2.2 hs_ | exact hk_.1.1.1 hs_ | exact hk_.2.2.1 hs_ | exact hk_.2.2.2.2 hs_ | exact hk_.2.2.2.1 hs_ | exact hk_.1.1.1.1 hs_ | exact hk_.1.1.2.2 hs_ | exact hk_.1.1.1.2 hs_ | exact hk_.1.2.2.1 hs_ | exact hk_.1.1.2.1 hs_ | exact hk_.1.2.2.2 hs_ | exact hk_.1.1.2.2.1 hs_ | exact hk_.2.2.2.2.1 hs_ | exact hk_.1.1.2.2.2 hs_ | exact hk_.1.1.1.1.1 hs_ | exact hk_.1.1.1.2.1 hs_ | exact hk_.1.1.1.2.2 hs_ | exact hk_.1.1.1.1.2 hs_ | exact hk_.1.2.2.2.2 hs_ | exact hk_.1.2.2.2.1 hs_ | exact hk_.1.1.2.2.2.2 hs_ | exact hk_.1.1.1.1.1.2 hs_ | exact hk_.1.1.1.2.2.2 hs_ | exact hk_.1.1.1.2.2.1 hs_ | exact hk_.1.1.1.1.2.2 hs_ | exact hk_.1.1.1.1.1.1 hs_ | exact hk_.1.1.1.1.2.1 hs_ | exact hk_.1.2.2.2.2.1 hs_ | exact hk_.1.1.2.2.2.1 hs_ | exact hk_.1.1.1.2.2.2.1 hs_ | exact hk_.1.1.1.2.2.2.2 hs_ | exact hk_.1.1.1.1.2.2.2 hs_ | exact hk_.1.1.1.1.2.2.1 hs_ | exact hk_.1.1.1.1.1.2.1 hs_ | exact hk_.1.1.1.1.1.2.2 hs_ | exact hk_.1.1.2.2.2.2.1 hs_ | exact hk_.1.1.1.1.1.2.2.1 hs_ | exact hk_.1.1.1.2.2.2.2.1 hs_ | exact hk_.1.1.1.1.1.2.2.2 hs_ | exact hk_.1.1.1.1.2.2.2.1 hs_ | exact hk_.1.1.1.1.2.2.2.2 hs_ | exact hk_.1.1.1.1.1.2.2.2.2 hs_ | exact hk_.1.1.1.1.2.2.2.2.1 hs_ | exact hk_.1.1.1.1.1.2.2.2.1 hs_ | exact hk_.1.1.1.1.1.2.2.2.2.1 hs_))) (fun k_ hk_ => by first | exact ⟨hk_.1.1.1.1, hk_.1.1.1.2, hk_.1.1.2, hk_.1.2⟩ | (refine ⟨?_, ?_, ?_, ?_⟩ <;> (first | exact hk_.2 | exact hk_.1 | exact hk_.1.1 | exact hk_.2.2 | exact hk_.2.1 | exact hk_.1.2 | exact hk_.2.2.2 | exact hk_.1.2.1 | exact hk_.1.1.2 | exact hk_.1.2.2 | exact hk_.1.1.1 | exact hk_.2.2.1 | exact hk_.2.2.2.2 | exact hk_.2.2.2.1 | exact hk_.1.1.1.1 | exact hk_.1.1.2.2 | exact hk_.1.1.1.2 | exact hk_.1.2.2.1 | exact hk_.1.1.2.1 | exact hk_.1.2.2.2 | exact hk_.1.1.2.2.1 | exact hk_.2.2.2.2.1 | exact hk_.1.1.2.2.2 | exact hk_.1.1.1.1.1 | exact hk_.1.1.1.2.1 | exact hk_.1.1.1.2.2 | exact hk_.1.1.1.1.2 | exact hk_.1.2.2.2.2 | exact hk_.1.2.2.2.1 | exact hk_.1.1.2.2.2.2 | exact hk_.1.1.1.1.1.2 | exact hk_.1.1.1.2.2.2 | exact hk_.1.1.1.2.2.1 | exact hk_.1.1.1.1.2.2 | exact hk_.1.1.1.1.1.1 | exact hk_.1.1.1.1.2.1 | exact hk_.1.2.2.2.2.1 | exact hk_.1.1.2.2.2.1 | exact hk_.1.1.1.2.2.2.1 | exact hk_.1.1.1.2.2.2.2 | exact hk_.1.1.1.1.2.2.2 | exact hk_.1.1.1.1.2.2.1 | exact hk_.1.1.1.1.1.2.1 | exact hk_.1.1.1.1.1.2.2 | exact hk_.1.1.2.2.2.2.1 | exact hk_.1.1.1.1.1.2.2.1 | exact hk_.1.1.1.2.2.2.2.1 | exact hk_.1.1.1.1.1.2.2.2 | exact hk_.1.1.1.1.2.2.2.1 | exact hk_.1.1.1.1.2.2.2.2 | exact hk_.1.1.1.1.1.2.2.2.2 | exact hk_.1.1.1.1.2.2.2.2.1 | exact hk_.1.1.1.1.1.2.2.2.1 | exact hk_.1.1.1.1.1.2.2.2.2.1)))); have n3_ := Aside0.mk (Kd.R_reok rfl hy0 (fun k_ e_ => HO570.out.1 k_ e_)); have n4_ := Aside0.mk (blk_kept (zz27 BK573) hkp (fun hs_ => (fun e_ => (Kd.R_ne HO570.out BK573.out (by decide)) e_) hs_)); have n5_ := Aside0.mk (Kd.R_mono (ok' := fun k_ => some k_ ≠ (.slice Ao26 t559.length co26 : Value).ownBlock ∧ some k_ ≠ (.slice Ao38 t564.length co38 : Value).ownBlock ∧ some k_ ≠ (.slice Ao33 t568.length co33 : Value).ownBlock ∧ some k_ ≠ (.slice Ao41 t579.length co41 : Value).ownBlock) (Kd.R_keptB (HO576.out) hkp (fun k_ hk_ hs_ => by first | exact (hk_.1.2) hs_ | (first | exact hk_.2 hs_ | exact hk_.1 hs_ | exact hk_.1.1 hs_ | exact hk_.2.2 hs_ | exact hk_.2.1 hs_ | exact hk_.1.2 hs_ | exact hk_.2.2.2 hs_ | exact hk_.1.2.1 hs_ | exact hk_.1.1.2 hs_ | exact hk_.1.2.2 hs_ | exact hk_.1.1.1 hs_ | exact hk_.2.2.1 hs_ | exact hk_.2.2.2.2 hs_ | exact hk_.2.2.2.1 hs_ | exact hk_.1.1.1.1 hs_ | exact hk_.1.1.2.2 hs_ | exact hk_.1.1.1.2 hs_ | exact hk_.1.2.2.1 hs_ | exact hk_.1.1.2.1 hs_ | exact hk_.1.2.2.2 hs_ | exact hk_.1.1.2.2.1 hs_ | exact hk_.2.2.2.2.1 hs_ | exact hk_.1.1.2.2.2 hs_ | exact hk_.1.1.1.1.1 hs_ | exact hk_.1.1.1.2.1 hs_ | exact hk_.1.1.1.2.2 hs_ | exact hk_.1.1.1.1.2 hs_ | exact hk_.1.2.2.2.2 hs_ | exact hk_.1.2.2.2.1 hs_ | exact hk_.1.1.2.2.2.2 hs_ | exact hk_.1.1.1.1.1.2 hs_ | exact hk_.1.1.1.2.2.2 hs_ | exact hk_.1.1.1.2.2.1 hs_ | exact hk_.1.1.1.1.2.2 hs_ | exact hk_.1.1.1.1.1.1 hs_ | exact hk_.1.1.1.1.2.1 hs_ | exact hk_.1.2.2.2.2.1 hs_ | exact hk_.1.1.2.2.2.1 hs_ | exact hk_.1.1.1.2.2.2.1 hs_ | exact hk_.1.1.1.2.2.2.2 hs_ | exact hk_.1.1.1.1.2.2.2 hs_ | exact hk_.1.1.1.1.2.2.1 hs_ | exact hk_.1.1.1.1.1.2.1 hs_ | exact hk_.1.1.1.1.1.2.2 hs_ | exact hk_.1.1.2.2.2.2.1 hs_ | exact hk_.1.1.1.1.1.2.2.1 hs_ | exact hk_.1.1.1.2.2.2.2.1 hs_ | exact hk_.1.1.1.1.1.2.2.2 hs_ | exact hk_.1.1.1.1.2.2.2.1 hs_ | exact hk_.1.1.1.1.2.2.2.2 hs_ | exact hk_.1.1.1.1.1.2.2.2.2 hs_ | exact hk_.1.1.1.1.2.2.2.2.1 hs_ | exact hk_.1.1.1.1.1.2.2.2.1 hs_ | exact hk_.1.1.1.1.1.2.2.2.2.1 hs_))) (fun k_ hk_ => by first | exact ⟨hk_.1.1.1.1.2, hk_.1.1.1.2, hk_.1.1.2, hk_.1.2⟩ | (refine ⟨?_, ?_, ?_, ?_⟩ <;> (first | exact hk_.2 | exact hk_.1 | exact hk_.1.1 | exact hk_.2.2 | exact hk_.2.1 | exact hk_.1.2 | exact hk_.2.2.2 | exact hk_.1.2.1 | exact hk_.1.1.2 | exact hk_.1.2.2 | exact hk_.1.1.1 | exact hk_.2.2.1 | exact hk_.2.2.2.2 | exact hk_.2.2.2.1 | exact hk_.1.1.1.1 | exact hk_.1.1.2.2 | exact hk_.1.1.1.2 | exact hk_.1.2.2.1 | exact hk_.1.1.2.1 | exact hk_.1.2.2.2 | exact hk_.1.1.2.2.1 | exact hk_.2.2.2.2.1 | exact hk_.1.1.2.2.2 | exact hk_.1.1.1.1.1 | exact hk_.1.1.1.2.1 | exact hk_.1.1.1.2.2 | exact hk_.1.1.1.1.2 | exact hk_.1.2.2.2.2 | exact hk_.1.2.2.2.1 | exact hk_.1.1.2.2.2.2 | exact hk_.1.1.1.1.1.2 | exact hk_.1.1.1.2.2.2 | exact hk_.1.1.1.2.2.1 | exact hk_.1.1.1.1.2.2 | exact hk_.1.1.1.1.1.1 | exact hk_.1.1.1.1.2.1 | exact hk_.1.2.2.2.2.1 | exact hk_.1.1.2.2.2.1 | exact hk_.1.1.1.2.2.2.1 | exact hk_.1.1.1.2.2.2.2 | exact hk_.1.1.1.1.2.2.2 | exact hk_.1.1.1.1.2.2.1 | exact hk_.1.1.1.1.1.2.1 | exact hk_.1.1.1.1.1.2.2 | exact hk_.1.1.2.2.2.2.1 | exact hk_.1.1.1.1.1.2.2.1 | exact hk_.1.1.1.2.2.2.2.1 | exact hk_.1.1.1.1.1.2.2.2 | exact hk_.1.1.1.1.2.2.2.1 | exact hk_.1.1.1.1.2.2.2.2 | exact hk_.1.1.1.1.1.2.2.2.2 | exact hk_.1.1.1.1.2.2.2.2.1 | exact hk_.1.1.1.1.1.2.2.2.1 | exact hk_.1.1.1.1.1.2.2.2.2.1)))); have n6_ := Aside0.mk (Kd.R_mono (ok' := fun k_ => some k_ ≠ (.slice Ao26 t559.length co26 : Value).ownBlock ∧ some k_ ≠ (.slice Ao38 t564.length co38 : Value).ownBlock ∧ some k_ ≠ (.slice Ao33 t568.length co33 : Value).ownBlock ∧ some k_ ≠ (.slice Ao37 t574.length co37 : Value).ownBlock) (Kd.R_keptB (HO581.out) hkp (fun k_ hk_ hs_ => by first | exact (hk_.1.2) hs_ | (first | exact hk_.2 hs_ | exact hk_.1 hs_ | exact hk_.1.1 hs_ | exact hk_.2.2 hs_ | exact hk_.2.1 hs_ | exact hk_.1.2 hs_ | exact hk_.2.2.2 hs_ | exact hk_.1.2.1 hs_ | exact hk_.1.1.2 hs_ | exact hk_.1.2.2 hs_ | exact hk_.1.1.1 hs_ | exact hk_.2.2.1 hs_ | exact hk_.2.2.2.2 hs_ | exact hk_.2.2.2.1 hs_ | exact hk_.1.1.1.1 hs_ | exact hk_.1.1.2.2 hs_ | exact hk_.1.1.1.2 hs_ | exact hk_.1.2.2.1 hs_ | exact hk_.1.1.2.1 hs_ | exact hk_.1.2.2.2 hs_ | exact hk_.1.1.2.2.1 hs_ | exact hk_.2.2.2.2.1 hs_ | exact hk_.1.1.2.2.2 hs_ | exact hk_.1.1.1.1.1 hs_ | exact hk_.1.1.1.2.1 hs_ | exact hk_.1.1.1.2.2 hs_ | exact hk_.1.1.1.1.2 hs_ | exact hk_.1.2.2.2.2 hs_ | exact hk_.1.2.2.2.1 hs_ | exact hk_.1.1.2.2.2.2 hs_ | exact hk_.1.1.1.1.1.2 hs_ | exact hk_.1.1.1.2.2.2 hs_ | exact hk_.1.1.1.2.2.1 hs_ | exact hk_.1.1.1.1.2.2 hs_ | exact hk_.1.1.1.1.1.1 hs_ | exact hk_.1.1.1.1.2.1 hs_ | exact hk_.1.2.2.2.2.1 hs_ | exact hk_.1.1.2.2.2.1 hs_ | exact hk_.1.1.1.2.2.2.1 hs_ | exact hk_.1.1.1.2.2.2.2 hs_ | exact hk_.1.1.1.1.2.2.2 hs_ | exact hk_.1.1.1.1.2.2.1 hs_ | exact hk_.1.1.1.1.1.2.1 hs_ | exact hk_.1.1.1.1.1.2.2 hs_ | exact hk_.1.1.2.2.2.2.1 hs_ | exact hk_.1.1.1.1.1.2.2.1 hs_ | exact hk_.1.1.1.2.2.2.2.1 hs_ | exact hk_.1.1.1.1.1.2.2.2 hs_ | exact hk_.1.1.1.1.2.2.2.1 hs_ | exact hk_.1.1.1.1.2.2.2.2 hs_ | exact hk_.1.1.1.1.1.2.2.2.2 hs_ | exact hk_.1.1.1.1.2.2.2.2.1 hs_ | exact hk_.1.1.1.1.1.2.2.2.1 hs_ | exact hk_.1.1.1.1.1.2.2.2.2.1 hs_))) (fun k_ hk_ => by first | exact ⟨hk_.1.1.1.1.2, hk_.1.1.1.2, hk_.1.1.2, hk_.1.2⟩ | (refine ⟨?_, ?_, ?_, ?_⟩ <;> (first | exact hk_.2 | exact hk_.1 | exact hk_.1.1 | exact hk_.2.2 | exact hk_.2.1 | exact hk_.1.2 | exact hk_.2.2.2 | exact hk_.1.2.1 | exact hk_.1.1.2 | exact hk_.1.2.2 | exact hk_.1.1.1 | exact hk_.2.2.1 | exact hk_.2.2.2.2 | exact hk_.2.2.2.1 | exact hk_.1.1.1.1 | exact hk_.1.1.2.2 | exact hk_.1.1.1.2 | exact hk_.1.2.2.1 | exact hk_.1.1.2.1 | exact hk_.1.2.2.2 | exact hk_.1.1.2.2.1 | exact hk_.2.2.2.2.1 | exact hk_.1.1.2.2.2 | exact hk_.1.1.1.1.1 | exact hk_.1.1.1.2.1 | exact hk_.1.1.1.2.2 | exact hk_.1.1.1.1.2 | exact hk_.1.2.2.2.2 | exact hk_.1.2.2.2.1 | exact hk_.1.1.2.2.2.2 | exact hk_.1.1.1.1.1.2 | exact hk_.1.1.1.2.2.2 | exact hk_.1.1.1.2.2.1 | exact hk_.1.1.1.1.2.2 | exact hk_.1.1.1.1.1.1 | exact hk_.1.1.1.1.2.1 | exact hk_.1.2.2.2.2.1 | exact hk_.1.1.2.2.2.1 | exact hk_.1.1.1.2.2.2.1 | exact hk_.1.1.1.2.2.2.2 | exact hk_.1.1.1.1.2.2.2 | exact hk_.1.1.1.1.2.2.1 | exact hk_.1.1.1.1.1.2.1 | exact hk_.1.1.1.1.1.2.2 | exact hk_.1.1.2.2.2.2.1 | exact hk_.1.1.1.1.1.2.2.1 | exact hk_.1.1.1.2.2.2.2.1 | exact hk_.1.1.1.1.1.2.2.2 | exact hk_.1.1.1.1.2.2.2.1 | exact hk_.1.1.1.1.2.2.2.2 | exact hk_.1.1.1.1.1.2.2.2.2 | exact hk_.1.1.1.1.2.2.2.2.1 | exact hk_.1.1.1.1.1.2.2.2.1 | exact hk_.1.1.1.1.1.2.2.2.2.1)))); have n7_ := Aside0.mk (hb); clear BK556; clear HO561; clear HO566; clear HO570; clear BK573; clear HO576; clear HO581; clear HB; have BK556 := n0_; have HO561 := n1_; have HO566 := n2_; have HO570 := n3_; have BK573 := n4_; have HO576 := n5_; have HO581 := n6_; have HB := n7_; clear n0_ n1_ n2_ n3_ n4_ n5_ n6_ n7_; (try clear hb)))
     (try simp only [Act.put, List.setIfInBounds_toArray, List.set_cons_zero, List.set_cons_succ])
     go_cut [49] (fun v49 wc => ∃ (kq : Nat) (x49_19 : Bool), v49 = .bool x49_19 ∧ Aside0 (laws_FnExactPageAddrs.j0 kq a1 t564 t574 x49_19 a0_0 l0_1 a0_2 a0_3 = some r) ∧ Aside0 (kq ≤ k) ∧ Aside0 (Kd.R Kd.string 9 wc w.heap.size (fun k_ => some k_ ≠ ((.slice Ao37 t574.length co37) : Value).ownBlock ∧ some k_ ≠ ((.slice Ao33 t568.length co33) : Value).ownBlock) (.slice Ao38 t564.length co38) t564) ∧ Aside0 (Kd.R Kd.string 9 wc w.heap.size (fun k_ => some k_ ≠ ((.slice Ao38 t564.length co38) : Value).ownBlock ∧ some k_ ≠ ((.slice Ao33 t568.length co33) : Value).ownBlock) (.slice Ao37 t574.length co37) t574) ∧ Aside0 (Kd.R Kd.string 9 wc w.heap.size (fun k_ => some k_ ≠ ((.slice Ao38 t564.length co38) : Value).ownBlock ∧ some k_ ≠ ((.slice Ao37 t574.length co37) : Value).ownBlock) (.slice Ao33 t568.length co33) t586) ∧ Aside0 (wc.heap[gb556]? = some (.cells #[.string a0_0, (.slice A0_1 l0_1.length c0_1), .bool a0_2, .string a0_3] 24 (0, 0))) ∧ Aside0 (wc.heap[gb573]? = some (.cells #[.string t567, (.slice Ao33 t568.length co33), .bool t571, .string t572] 27 (0, 0))) ∧ Aside0 (Below w.heap.size w wc))
     case first =>
      have H := HC20.out;clear HC20;by_cases c45 : t585 < 0
      ·rw [if_pos c45] at H
       have c45b0 : decide (t585 < 0) = true := decide_eq_true c45;clear c45;(first | rw [c45b0] | (simp only [i64_w, i32_w]; rw [c45b0]) | skip)
       have H' := Aside0.mk H;clear H;go_wp2
       go_meet
       case rel => exact ⟨_, (true), zz0, H', ⟨zz18⟩, ⟨(zz181 HO566)⟩, ⟨(zz182 HO576)⟩, ⟨(zz183 HO570)⟩, ⟨(zz27 BK556)⟩, ⟨(zz27 BK573)⟩, ⟨(zz38 HB GE556 GE573)⟩⟩
      ·rw [if_neg c45] at H
       have c45b0 : decide (t585 < 0) = false := decide_eq_false c45;clear c45;(first | rw [c45b0] | (simp only [i64_w, i32_w]; rw [c45b0]) | skip)
       replace H := bindA H;obtain ⟨t587, A46, H⟩ := H;have H' := Aside0.mk H;clear H;go_wp2_with (first | (go_at_call 11; (with_reducible refine (laws_eqStringS.calls k _ _ t574 _ _ t564 t587 _ ?side1 ?side2 ?side3 ?side4 A46.out).mono ?_); (case side1 => exact (zz44 HO576)); (case side2 => exact (Kd.R_reads' HO576.out).2.1); (case side3 => exact (zz44 HO566)); (case side4 => exact (Kd.R_reads' HO566.out).2.1); rintro e w' ⟨rfl, ⟨nd, rfl⟩⟩))
       go_meet
       case rel => exact ⟨_, (!t587), zz0, H', ⟨zz18⟩, ⟨(zz181 HO566)⟩, ⟨(zz182 HO576)⟩, ⟨(zz183 HO570)⟩, ⟨(zz27 BK556)⟩, ⟨(zz27 BK573)⟩, ⟨(zz38 HB GE556 GE573)⟩⟩
     case rest =>
      clear HC20;obtain ⟨kq, x49_19, rfl, HA, HJ19, HO_6, HO_8, HO_574001, BK556, BK573, HB⟩ := hcut;have hl574001_19 := (Kd.R_reads' HO_574001.out).1;rw [hl574001_19] at HO_574001;(try simp only [hl574001_19])
      (try simp only [hl574001_19] at BK556)
      (try simp only [hl574001_19] at BK573)
      (try simp only [hl574001_19] at HO_6)
      (try simp only [hl574001_19] at HO_8)
      cases kq with
      | zero => exact absurd HA.out (by simp [laws_FnExactPageAddrs.j0])
      | succ kj19 =>
       have H := HA.out;clear HA;simp only [laws_FnExactPageAddrs.j0] at H
       by_cases c47 : x49_19 = true
       ·subst c47
        rw [if_pos rfl] at H;obtain rfl := Option.some.inj H;go_wp2
        go_ret
        exact ⟨zz5, (zz38 HB GE556 GE573)⟩
       ·replace c47 := Bool.eq_false_iff.mpr c47
        subst c47;rw [if_neg (show ¬ (false = true) by decide)] at H;replace H := bindA H;obtain ⟨⟨t588, t589⟩, A48, H⟩ := H;try dsimp -simprocs only at H
        replace H := bindA H;obtain ⟨t590, A49, H⟩ := H;by_cases c50 : t590 < 0
        ·rw [if_pos c50] at H
         have c50b0 : decide (t590 < 0) = true := decide_eq_true c50;clear c50;obtain rfl := Option.some.inj H;go_wp2_with (first | ((with_reducible refine gate_callee (f := 14) rfl ?_); refine gsL (some 52) Tryz.func14 #[.slice Ao37 t574.length co37, .int .i64 1] ?_; (with_reducible refine (laws_markStringS.calls kj19 (fun k_ => some k_ = (.slice Ao37 t574.length co37 : Value).ownBlock) (.slice Ao37 t574.length co37) t574 1 t588 t589 w _ ?side1 ?side2 A48.out).mono ?_); (case side1 => exact (zz38 HB GE556 GE573)); (case side2 => exact Kd.R_tight rfl HO_8.out); rintro e w51 ⟨rfl, hy0, hb, hkp⟩; refine ⟨_, rfl, ?_⟩; have n0_ := Aside0.mk (Kd.R_mono (ok' := fun k_ => some k_ ≠ (.slice Ao37 t574.length co37 : Value).ownBlock ∧ some k_ ≠ (.slice Ao33 t586.length co33 : Value).ownBlock) (Kd.R_keptB (HO_6.out) hkp (fun k_ hk_ hs_ => by first | exact (hk_.1) hs_ | (first | exact hk_.2 hs_ | exact hk_.1 hs_ | exact hk_.1.1 hs_ | exact hk_.2.2 hs_ | exact hk_.2.1 hs_ | exact hk_.1.2 hs_ | exact hk_.2.2.2 hs_ | exact hk_.1.2.1 hs_ | exact hk_.1.1.2 hs_ | exact hk_.1.2.2 hs_ | exact hk_.1.1.1 hs_ | exact hk_.2.2.1 hs_ | exact hk_.2.2.2.2 hs_ | exact hk_.2.2.2.1 hs_ | exact hk_.1.1.1.1 hs_ | exact hk_.1.1.2.2 hs_ | exact hk_.1.1.1.2 hs_ | exact hk_.1.2.2.1 hs_ | exact hk_.1.1.2.1 hs_ | exact hk_.1.2.2.2 hs_ | exact hk_.1.1.2.2.1 hs_ | exact hk_.2.2.2.2.1 hs_ | exact hk_.1.1.2.2.2 hs_ | exact hk_.1.1.1.1.1 hs_ | exact hk_.1.1.1.2.1 hs_ | exact hk_.1.1.1.2.2 hs_ | exact hk_.1.1.1.1.2 hs_ | exact hk_.1.2.2.2.2 hs_ | exact hk_.1.2.2.2.1 hs_ | exact hk_.1.1.2.2.2.2 hs_ | exact hk_.1.1.1.1.1.2 hs_ | exact hk_.1.1.1.2.2.2 hs_ | exact hk_.1.1.1.2.2.1 hs_ | exact hk_.1.1.1.1.2.2 hs_ | exact hk_.1.1.1.1.1.1 hs_ | exact hk_.1.1.1.1.2.1 hs_ | exact hk_.1.2.2.2.2.1 hs_ | exact hk_.1.1.2.2.2.1 hs_ | exact hk_.1.1.1.2.2.2.1 hs_ | exact hk_.1.1.1.2.2.2.2 hs_ | exact hk_.1.1.1.1.2.2.2 hs_ | exact hk_.1.1.1.1.2.2.1 hs_ | exact hk_.1.1.1.1.1.2.1 hs_ | exact hk_.1.1.1.1.1.2.2 hs_ | exact hk_.1.1.2.2.2.2.1 hs_ | exact hk_.1.1.1.1.1.2.2.1 hs_ | exact hk_.1.1.1.2.2.2.2.1 hs_ | exact hk_.1.1.1.1.1.2.2.2 hs_ | exact hk_.1.1.1.1.2.2.2.1 hs_ | exact hk_.1.1.1.1.2.2.2.2 hs_ | exact hk_.1.1.1.1.1.2.2.2.2 hs_ | exact hk_.1.1.1.1.2.2.2.2.1 hs_ | exact hk_.1.1.1.1.1.2.2.2.1 hs_ | exact hk_.1.1.1.1.1.2.2.2.2.1 hs_))) (fun k_ hk_ => by first | exact ⟨hk_.1.1, hk_.1.2⟩ | (refine ⟨?_, ?_⟩ <;> (first | exact hk_.2 | exact hk_.1 | exact hk_.1.1 | exact hk_.2.2 | exact hk_.2.1 | exact hk_.1.2 | exact hk_.2.2.2 | exact hk_.1.2.1 | exact hk_.1.1.2 | exact hk_.1.2.2 | exact hk_.1.1.1 | exact hk_.2.2.1 | exact hk_.2.2.2.2 | exact hk_.2.2.2.1 | exact hk_.1.1.1.1 | exact hk_.1.1.2.2 | exact hk_.1.1.1.2 | exact hk_.1.2.2.1 | exact hk_.1.1.2.1 | exact hk_.1.2.2.2 | exact hk_.1.1.2.2.1 | exact hk_.2.2.2.2.1 | exact hk_.1.1.2.2.2 | exact hk_.1.1.1.1.1 | exact hk_.1.1.1.2.1 | exact hk_.1.1.1.2.2 | exact hk_.1.1.1.1.2 | exact hk_.1.2.2.2.2 | exact hk_.1.2.2.2.1 | exact hk_.1.1.2.2.2.2 | exact hk_.1.1.1.1.1.2 | exact hk_.1.1.1.2.2.2 | exact hk_.1.1.1.2.2.1 | exact hk_.1.1.1.1.2.2 | exact hk_.1.1.1.1.1.1 | exact hk_.1.1.1.1.2.1 | exact hk_.1.2.2.2.2.1 | exact hk_.1.1.2.2.2.1 | exact hk_.1.1.1.2.2.2.1 | exact hk_.1.1.1.2.2.2.2 | exact hk_.1.1.1.1.2.2.2 | exact hk_.1.1.1.1.2.2.1 | exact hk_.1.1.1.1.1.2.1 | exact hk_.1.1.1.1.1.2.2 | exact hk_.1.1.2.2.2.2.1 | exact hk_.1.1.1.1.1.2.2.1 | exact hk_.1.1.1.2.2.2.2.1 | exact hk_.1.1.1.1.1.2.2.2 | exact hk_.1.1.1.1.2.2.2.1 | exact hk_.1.1.1.1.2.2.2.2 | exact hk_.1.1.1.1.1.2.2.2.2 | exact hk_.1.1.1.1.2.2.2.2.1 | exact hk_.1.1.1.1.1.2.2.2.1 | exact hk_.1.1.1.1.1.2.2.2.2.1)))); have n1_ := Aside0.mk (Kd.R_reok rfl hy0 (fun k_ e_ => HO_8.out.1 k_ e_)); have n2_ := Aside0.mk (Kd.R_mono (ok' := fun k_ => some k_ ≠ (.slice Ao38 t564.length co38 : Value).ownBlock ∧ some k_ ≠ (.slice Ao37 t574.length co37 : Value).ownBlock) (Kd.R_keptB (HO_574001.out) hkp (fun k_ hk_ hs_ => by first | exact (hk_.2) hs_ | (first | exact hk_.2 hs_ | exact hk_.1 hs_ | exact hk_.1.1 hs_ | exact hk_.2.2 hs_ | exact hk_.2.1 hs_ | exact hk_.1.2 hs_ | exact hk_.2.2.2 hs_ | exact hk_.1.2.1 hs_ | exact hk_.1.1.2 hs_ | exact hk_.1.2.2 hs_ | exact hk_.1.1.1 hs_ | exact hk_.2.2.1 hs_ | exact hk_.2.2.2.2 hs_ | exact hk_.2.2.2.1 hs_ | exact hk_.1.1.1.1 hs_ | exact hk_.1.1.2.2 hs_ | exact hk_.1.1.1.2 hs_ | exact hk_.1.2.2.1 hs_ | exact hk_.1.1.2.1 hs_ | exact hk_.1.2.2.2 hs_ | exact hk_.1.1.2.2.1 hs_ | exact hk_.2.2.2.2.1 hs_ | exact hk_.1.1.2.2.2 hs_ | exact hk_.1.1.1.1.1 hs_ | exact hk_.1.1.1.2.1 hs_ | exact hk_.1.1.1.2.2 hs_ | exact hk_.1.1.1.1.2 hs_ | exact hk_.1.2.2.2.2 hs_ | exact hk_.1.2.2.2.1 hs_ | exact hk_.1.1.2.2.2.2 hs_ | exact hk_.1.1.1.1.1.2 hs_ | exact hk_.1.1.1.2.2.2 hs_ | exact hk_.1.1.1.2.2.1 hs_ | exact hk_.1.1.1.1.2.2 hs_ | exact hk_.1.1.1.1.1.1 hs_ | exact hk_.1.1.1.1.2.1 hs_ | exact hk_.1.2.2.2.2.1 hs_ | exact hk_.1.1.2.2.2.1 hs_ | exact hk_.1.1.1.2.2.2.1 hs_ | exact hk_.1.1.1.2.2.2.2 hs_ | exact hk_.1.1.1.1.2.2.2 hs_ | exact hk_.1.1.1.1.2.2.1 hs_ | exact hk_.1.1.1.1.1.2.1 hs_ | exact hk_.1.1.1.1.1.2.2 hs_ | exact hk_.1.1.2.2.2.2.1 hs_ | exact hk_.1.1.1.1.1.2.2.1 hs_ | exact hk_.1.1.1.2.2.2.2.1 hs_ | exact hk_.1.1.1.1.1.2.2.2 hs_ | exact hk_.1.1.1.1.2.2.2.1 hs_ | exact hk_.1.1.1.1.2.2.2.2 hs_ | exact hk_.1.1.1.1.1.2.2.2.2 hs_ | exact hk_.1.1.1.1.2.2.2.2.1 hs_ | exact hk_.1.1.1.1.1.2.2.2.1 hs_ | exact hk_.1.1.1.1.1.2.2.2.2.1 hs_))) (fun k_ hk_ => by first | exact ⟨hk_.1.1, hk_.1.2⟩ | (refine ⟨?_, ?_⟩ <;> (first | exact hk_.2 | exact hk_.1 | exact hk_.1.1 | exact hk_.2.2 | exact hk_.2.1 | exact hk_.1.2 | exact hk_.2.2.2 | exact hk_.1.2.1 | exact hk_.1.1.2 | exact hk_.1.2.2 | exact hk_.1.1.1 | exact hk_.2.2.1 | exact hk_.2.2.2.2 | exact hk_.2.2.2.1 | exact hk_.1.1.1.1 | exact hk_.1.1.2.2 | exact hk_.1.1.1.2 | exact hk_.1.2.2.1 | exact hk_.1.1.2.1 | exact hk_.1.2.2.2 | exact hk_.1.1.2.2.1 | exact hk_.2.2.2.2.1 | exact hk_.1.1.2.2.2 | exact hk_.1.1.1.1.1 | exact hk_.1.1.1.2.1 | exact hk_.1.1.1.2.2 | exact hk_.1.1.1.1.2 | exact hk_.1.2.2.2.2 | exact hk_.1.2.2.2.1 | exact hk_.1.1.2.2.2.2 | exact hk_.1.1.1.1.1.2 | exact hk_.1.1.1.2.2.2 | exact hk_.1.1.1.2.2.1 | exact hk_.1.1.1.1.2.2 | exact hk_.1.1.1.1.1.1 | exact hk_.1.1.1.1.2.1 | exact hk_.1.2.2.2.2.1 | exact hk_.1.1.2.2.2.1 | exact hk_.1.1.1.2.2.2.1 | exact hk_.1.1.1.2.2.2.2 | exact hk_.1.1.1.1.2.2.2 | exact hk_.1.1.1.1.2.2.1 | exact hk_.1.1.1.1.1.2.1 | exact hk_.1.1.1.1.1.2.2 | exact hk_.1.1.2.2.2.2.1 | exact hk_.1.1.1.1.1.2.2.1 | exact hk_.1.1.1.2.2.2.2.1 | exact hk_.1.1.1.1.1.2.2.2 | exact hk_.1.1.1.1.2.2.2.1 | exact hk_.1.1.1.1.2.2.2.2 | exact hk_.1.1.1.1.1.2.2.2.2 | exact hk_.1.1.1.1.2.2.2.2.1 | exact hk_.1.1.1.1.1.2.2.2.1 | exact hk_.1.1.1.1.1.2.2.2.2.1)))); have n3_ := Aside0.mk (blk_kept (zz27 BK556) hkp (fun hs_ => (fun e_ => (Kd.R_ne HO_8.out BK556.out (by decide)) e_) hs_)); have n4_ := Aside0.mk (blk_kept (zz27 BK573) hkp (fun hs_ => (fun e_ => (Kd.R_ne HO_8.out BK573.out (by decide)) e_) hs_)); have n5_ := Aside0.mk (hb); clear HO_6; clear HO_8; clear HO_574001; clear BK556; clear BK573; clear HB; have HO_6 := n0_; have HO_8 := n1_; have HO_574001 := n2_; have BK556 := n3_; have BK573 := n4_; have HB := n5_; clear n0_ n1_ n2_ n3_ n4_ n5_; (try clear hb)) | ((with_reducible refine gate_callee (f := 15) rfl ?_); refine goesL_ (some 55) rfl rfl Tryz.func15 (by kernel_rfl) rfl #[.slice Ao37 t589.length co37, .int .i64 1] rfl (zz185 HO_8) ?_; (with_reducible refine (laws_heldStringS.calls kj19 _ _ t589 1 t590 _ ?side1 ?side2 A49.out).mono ?_); (case side1 => exact (zz44 HO_8)); (case side2 => exact (zz186 HO_8)); rintro e w52 ⟨rfl, hb⟩; refine ⟨_, rfl, ?_⟩; have n0_ := Aside0.mk (Kd.R_below (zz9 HO_6) hb); have n1_ := Aside0.mk (Kd.R_below (zz9 HO_8) hb); have n2_ := Aside0.mk (Kd.R_below (zz9 HO_574001) hb); have n3_ := Aside0.mk (blk_below (zz27 BK556) hb); have n4_ := Aside0.mk (blk_below (zz27 BK573) hb); have n5_ := Aside0.mk (below_step (zz38 HB GE556 GE573) hb); clear HO_6; clear HO_8; clear HO_574001; clear BK556; clear BK573; clear HB; have HO_6 := n0_; have HO_8 := n1_; have HO_574001 := n2_; have BK556 := n3_; have BK573 := n4_; have HB := n5_; clear n0_ n1_ n2_ n3_ n4_ n5_; (try clear hb)))
         go_ret
         exact ⟨zz5, (zz38 HB GE556 GE573)⟩
        ·rw [if_neg c50] at H
         have c50b0 : decide (t590 < 0) = false := decide_eq_false c50;clear c50;by_cases c53 : t590 = t588
         ·rw [if_pos c53] at H
          have c53b0 : (t590 == t588) = true := beq_iff_eq.mpr c53;have c53b1 : (t590 != t588) = false := bne_eq_false_iff_eq.mpr c53;clear c53;replace H := bindA H;obtain ⟨⟨t591, t592, t595, t596⟩, A54, H⟩ := H;try dsimp -simprocs only at H
          replace H := bindA H;obtain ⟨t597, A55, H⟩ := H;replace H := bindA H;obtain ⟨t600, A56, H⟩ := H;by_cases c57 : t600 = true
          ·subst c57
           rw [if_pos rfl] at H;replace H := bindA H;obtain ⟨t601, A58, H⟩ := H;by_cases c59 : t601 < 0
           ·rw [if_pos c59] at H
            have c59b0 : decide (t601 < 0) = true := decide_eq_true c59;clear c59;obtain rfl := Option.some.inj H;go_wp2_with (first | ((with_reducible refine gate_callee (f := 14) rfl ?_); refine gsL (some 52) Tryz.func14 #[.slice Ao37 t574.length co37, .int .i64 1] ?_; (with_reducible refine (laws_markStringS.calls kj19 (fun k_ => some k_ = (.slice Ao37 t574.length co37 : Value).ownBlock) (.slice Ao37 t574.length co37) t574 1 t588 t589 w _ ?side1 ?side2 A48.out).mono ?_); (case side1 => exact (zz38 HB GE556 GE573)); (case side2 => exact Kd.R_tight rfl HO_8.out); rintro e w60 ⟨rfl, hy0, hb, hkp⟩; refine ⟨_, rfl, ?_⟩; have n0_ := Aside0.mk (Kd.R_mono (ok' := fun k_ => some k_ ≠ (.slice Ao37 t574.length co37 : Value).ownBlock ∧ some k_ ≠ (.slice Ao33 t586.length co33 : Value).ownBlock) (Kd.R_keptB (HO_6.out) hkp (fun k_ hk_ hs_ => by first | exact (hk_.1) hs_ | (first | exact hk_.2 hs_ | exact hk_.1 hs_ | exact hk_.1.1 hs_ | exact hk_.2.2 hs_ | exact hk_.2.1 hs_ | exact hk_.1.2 hs_ | exact hk_.2.2.2 hs_ | exact hk_.1.2.1 hs_ | exact hk_.1.1.2 hs_ | exact hk_.1.2.2 hs_ | exact hk_.1.1.1 hs_ | exact hk_.2.2.1 hs_ | exact hk_.2.2.2.2 hs_ | exact hk_.2.2.2.1 hs_ | exact hk_.1.1.1.1 hs_ | exact hk_.1.1.2.2 hs_ | exact hk_.1.1.1.2 hs_ | exact hk_.1.2.2.1 hs_ | exact hk_.1.1.2.1 hs_ | exact hk_.1.2.2.2 hs_ | exact hk_.1.1.2.2.1 hs_ | exact hk_.2.2.2.2.1 hs_ | exact hk_.1.1.2.2.2 hs_ | exact hk_.1.1.1.1.1 hs_ | exact hk_.1.1.1.2.1 hs_ | exact hk_.1.1.1.2.2 hs_ | exact hk_.1.1.1.1.2 hs_ | exact hk_.1.2.2.2.2 hs_ | exact hk_.1.2.2.2.1 hs_ | exact hk_.1.1.2.2.2.2 hs_ | exact hk_.1.1.1.1.1.2 hs_ | exact hk_.1.1.1.2.2.2 hs_ | exact hk_.1.1.1.2.2.1 hs_ | exact hk_.1.1.1.1.2.2 hs_ | exact hk_.1.1.1.1.1.1 hs_ | exact hk_.1.1.1.1.2.1 hs_ | exact hk_.1.2.2.2.2.1 hs_ | exact hk_.1.1.2.2.2.1 hs_ | exact hk_.1.1.1.2.2.2.1 hs_ | exact hk_.1.1.1.2.2.2.2 hs_ | exact hk_.1.1.1.1.2.2.2 hs_ | exact hk_.1.1.1.1.2.2.1 hs_ | exact hk_.1.1.1.1.1.2.1 hs_ | exact hk_.1.1.1.1.1.2.2 hs_ | exact hk_.1.1.2.2.2.2.1 hs_ | exact hk_.1.1.1.1.1.2.2.1 hs_ | exact hk_.1.1.1.2.2.2.2.1 hs_ | exact hk_.1.1.1.1.1.2.2.2 hs_ | exact hk_.1.1.1.1.2.2.2.1 hs_ | exact hk_.1.1.1.1.2.2.2.2 hs_ | exact hk_.1.1.1.1.1.2.2.2.2 hs_ | exact hk_.1.1.1.1.2.2.2.2.1 hs_ | exact hk_.1.1.1.1.1.2.2.2.1 hs_ | exact hk_.1.1.1.1.1.2.2.2.2.1 hs_))) (fun k_ hk_ => by first | exact ⟨hk_.1.1, hk_.1.2⟩ | (refine ⟨?_, ?_⟩ <;> (first | exact hk_.2 | exact hk_.1 | exact hk_.1.1 | exact hk_.2.2 | exact hk_.2.1 | exact hk_.1.2 | exact hk_.2.2.2 | exact hk_.1.2.1 | exact hk_.1.1.2 | exact hk_.1.2.2 | exact hk_.1.1.1 | exact hk_.2.2.1 | exact hk_.2.2.2.2 | exact hk_.2.2.2.1 | exact hk_.1.1.1.1 | exact hk_.1.1.2.2 | exact hk_.1.1.1.2 | exact hk_.1.2.2.1 | exact hk_.1.1.2.1 | exact hk_.1.2.2.2 | exact hk_.1.1.2.2.1 | exact hk_.2.2.2.2.1 | exact hk_.1.1.2.2.2 | exact hk_.1.1.1.1.1 | exact hk_.1.1.1.2.1 | exact hk_.1.1.1.2.2 | exact hk_.1.1.1.1.2 | exact hk_.1.2.2.2.2 | exact hk_.1.2.2.2.1 | exact hk_.1.1.2.2.2.2 | exact hk_.1.1.1.1.1.2 | exact hk_.1.1.1.2.2.2 | exact hk_.1.1.1.2.2.1 | exact hk_.1.1.1.1.2.2 | exact hk_.1.1.1.1.1.1 | exact hk_.1.1.1.1.2.1 | exact hk_.1.2.2.2.2.1 | exact hk_.1.1.2.2.2.1 | exact hk_.1.1.1.2.2.2.1 | exact hk_.1.1.1.2.2.2.2 | exact hk_.1.1.1.1.2.2.2 | exact hk_.1.1.1.1.2.2.1 | exact hk_.1.1.1.1.1.2.1 | exact hk_.1.1.1.1.1.2.2 | exact hk_.1.1.2.2.2.2.1 | exact hk_.1.1.1.1.1.2.2.1 | exact hk_.1.1.1.2.2.2.2.1 | exact hk_.1.1.1.1.1.2.2.2 | exact hk_.1.1.1.1.2.2.2.1 | exact hk_.1.1.1.1.2.2.2.2 | exact hk_.1.1.1.1.1.2.2.2.2 | exact hk_.1.1.1.1.2.2.2.2.1 | exact hk_.1.1.1.1.1.2.2.2.1 | exact hk_.1.1.1.1.1.2.2.2.2.1)))); have n1_ := Aside0.mk (Kd.R_reok rfl hy0 (fun k_ e_ => HO_8.out.1 k_ e_)); have n2_ := Aside0.mk (Kd.R_mono (ok' := fun k_ => some k_ ≠ (.slice Ao38 t564.length co38 : Value).ownBlock ∧ some k_ ≠ (.slice Ao37 t574.length co37 : Value).ownBlock) (Kd.R_keptB (HO_574001.out) hkp (fun k_ hk_ hs_ => by first | exact (hk_.2) hs_ | (first | exact hk_.2 hs_ | exact hk_.1 hs_ | exact hk_.1.1 hs_ | exact hk_.2.2 hs_ | exact hk_.2.1 hs_ | exact hk_.1.2 hs_ | exact hk_.2.2.2 hs_ | exact hk_.1.2.1 hs_ | exact hk_.1.1.2 hs_ | exact hk_.1.2.2 hs_ | exact hk_.1.1.1 hs_ | exact hk_.2.2.1 hs_ | exact hk_.2.2.2.2 hs_ | exact hk_.2.2.2.1 hs_ | exact hk_.1.1.1.1 hs_ | exact hk_.1.1.2.2 hs_ | exact hk_.1.1.1.2 hs_ | exact hk_.1.2.2.1 hs_ | exact hk_.1.1.2.1 hs_ | exact hk_.1.2.2.2 hs_ | exact hk_.1.1.2.2.1 hs_ | exact hk_.2.2.2.2.1 hs_ | exact hk_.1.1.2.2.2 hs_ | exact hk_.1.1.1.1.1 hs_ | exact hk_.1.1.1.2.1 hs_ | exact hk_.1.1.1.2.2 hs_ | exact hk_.1.1.1.1.2 hs_ | exact hk_.1.2.2.2.2 hs_ | exact hk_.1.2.2.2.1 hs_ | exact hk_.1.1.2.2.2.2 hs_ | exact hk_.1.1.1.1.1.2 hs_ | exact hk_.1.1.1.2.2.2 hs_ | exact hk_.1.1.1.2.2.1 hs_ | exact hk_.1.1.1.1.2.2 hs_ | exact hk_.1.1.1.1.1.1 hs_ | exact hk_.1.1.1.1.2.1 hs_ | exact hk_.1.2.2.2.2.1 hs_ | exact hk_.1.1.2.2.2.1 hs_ | exact hk_.1.1.1.2.2.2.1 hs_ | exact hk_.1.1.1.2.2.2.2 hs_ | exact hk_.1.1.1.1.2.2.2 hs_ | exact hk_.1.1.1.1.2.2.1 hs_ | exact hk_.1.1.1.1.1.2.1 hs_ | exact hk_.1.1.1.1.1.2.2 hs_ | exact hk_.1.1.2.2.2.2.1 hs_ | exact hk_.1.1.1.1.1.2.2.1 hs_ | exact hk_.1.1.1.2.2.2.2.1 hs_ | exact hk_.1.1.1.1.1.2.2.2 hs_ | exact hk_.1.1.1.1.2.2.2.1 hs_ | exact hk_.1.1.1.1.2.2.2.2 hs_ | exact hk_.1.1.1.1.1.2.2.2.2 hs_ | exact hk_.1.1.1.1.2.2.2.2.1 hs_ | exact hk_.1.1.1.1.1.2.2.2.1 hs_ | exact hk_.1.1.1.1.1.2.2.2.2.1 hs_))) (fun k_ hk_ => by first | exact ⟨hk_.1.1, hk_.1.2⟩ | (refine ⟨?_, ?_⟩ <;> (first | exact hk_.2 | exact hk_.1 | exact hk_.1.1 | exact hk_.2.2 | exact hk_.2.1 | exact hk_.1.2 | exact hk_.2.2.2 | exact hk_.1.2.1 | exact hk_.1.1.2 | exact hk_.1.2.2 | exact hk_.1.1.1 | exact hk_.2.2.1 | exact hk_.2.2.2.2 | exact hk_.2.2.2.1 | exact hk_.1.1.1.1 | exact hk_.1.1.2.2 | exact hk_.1.1.1.2 | exact hk_.1.2.2.1 | exact hk_.1.1.2.1 | exact hk_.1.2.2.2 | exact hk_.1.1.2.2.1 | exact hk_.2.2.2.2.1 | exact hk_.1.1.2.2.2 | exact hk_.1.1.1.1.1 | exact hk_.1.1.1.2.1 | exact hk_.1.1.1.2.2 | exact hk_.1.1.1.1.2 | exact hk_.1.2.2.2.2 | exact hk_.1.2.2.2.1 | exact hk_.1.1.2.2.2.2 | exact hk_.1.1.1.1.1.2 | exact hk_.1.1.1.2.2.2 | exact hk_.1.1.1.2.2.1 | exact hk_.1.1.1.1.2.2 | exact hk_.1.1.1.1.1.1 | exact hk_.1.1.1.1.2.1 | exact hk_.1.2.2.2.2.1 | exact hk_.1.1.2.2.2.1 | exact hk_.1.1.1.2.2.2.1 | exact hk_.1.1.1.2.2.2.2 | exact hk_.1.1.1.1.2.2.2 | exact hk_.1.1.1.1.2.2.1 | exact hk_.1.1.1.1.1.2.1 | exact hk_.1.1.1.1.1.2.2 | exact hk_.1.1.2.2.2.2.1 | exact hk_.1.1.1.1.1.2.2.1 | exact hk_.1.1.1.2.2.2.2.1 | exact hk_.1.1.1.1.1.2.2.2 | exact hk_.1.1.1.1.2.2.2.1 | exact hk_.1.1.1.1.2.2.2.2 | exact hk_.1.1.1.1.1.2.2.2.2 | exact hk_.1.1.1.1.2.2.2.2.1 | exact hk_.1.1.1.1.1.2.2.2.1 | exact hk_.1.1.1.1.1.2.2.2.2.1)))); have n3_ := Aside0.mk (blk_kept (zz27 BK556) hkp (fun hs_ => (fun e_ => (Kd.R_ne HO_8.out BK556.out (by decide)) e_) hs_)); have n4_ := Aside0.mk (blk_kept (zz27 BK573) hkp (fun hs_ => (fun e_ => (Kd.R_ne HO_8.out BK573.out (by decide)) e_) hs_)); have n5_ := Aside0.mk (hb); clear HO_6; clear HO_8; clear HO_574001; clear BK556; clear BK573; clear HB; have HO_6 := n0_; have HO_8 := n1_; have HO_574001 := n2_; have BK556 := n3_; have BK573 := n4_; have HB := n5_; clear n0_ n1_ n2_ n3_ n4_ n5_; (try clear hb)) | ((with_reducible refine gate_callee (f := 15) rfl ?_); refine goesL_ (some 55) rfl rfl Tryz.func15 (by kernel_rfl) rfl #[.slice Ao37 t589.length co37, .int .i64 1] rfl (zz185 HO_8) ?_; (with_reducible refine (laws_heldStringS.calls kj19 _ _ t589 1 t590 _ ?side1 ?side2 A49.out).mono ?_); (case side1 => exact (zz44 HO_8)); (case side2 => exact (zz186 HO_8)); rintro e w61 ⟨rfl, hb⟩; refine ⟨_, rfl, ?_⟩; have n0_ := Aside0.mk (Kd.R_below (zz9 HO_6) hb); have n1_ := Aside0.mk (Kd.R_below (zz9 HO_8) hb); have n2_ := Aside0.mk (Kd.R_below (zz9 HO_574001) hb); have n3_ := Aside0.mk (blk_below (zz27 BK556) hb); have n4_ := Aside0.mk (blk_below (zz27 BK573) hb); have n5_ := Aside0.mk (below_step (zz38 HB GE556 GE573) hb); clear HO_6; clear HO_8; clear HO_574001; clear BK556; clear BK573; clear HB; have HO_6 := n0_; have HO_8 := n1_; have HO_574001 := n2_; have BK556 := n3_; have BK573 := n4_; have HB := n5_; clear n0_ n1_ n2_ n3_ n4_ n5_; (try clear hb); have hnb62 := NB556_573.out; have hnc62 := NB573_556.out; obtain ⟨_, _, _, _, _, _, _, _⟩ := cf4 BK556) | ((with_reducible refine gate_callee (f := 9) rfl ?_); refine gsL (some 62) Tryz.func9 #[.agg #[.string a0_0, .slice A0_1 l0_1.length c0_1, .bool a0_2, .string a0_3]] ?_; (with_reducible refine (laws_toAddr.calls kj19 a0_0 _ _ l0_1 a0_2 a0_3 t591 t592 t595 t596 _ ?side1 ?side2 A54.out).mono ?_); (case side1 => exact (zz7 HR0_1 HB)); (case side2 => exact HC0_1.out); rintro e w64 ⟨v593, rfl, ho0, hb⟩; refine ⟨_, rfl, ?_⟩; have n0_ := Aside0.mk (Kd.R_elder' (zz9 HO_6) (Kd.R_base ho0) hb); have n1_ := Aside0.mk (Kd.R_elder' (zz9 HO_8) (Kd.R_base ho0) hb); have n2_ := Aside0.mk (Kd.R_elder' (zz9 HO_574001) (Kd.R_base ho0) hb); have n3_ := Aside0.mk (Kd.R_lower (Kd.R_new' (Kd.R_new' (Kd.R_new' ho0 (Kd.R_lt (zz9 HO_6))) (Kd.R_lt (zz9 HO_8))) (Kd.R_lt (zz9 HO_574001))) (below_size (zz38 HB GE556 GE573))); have n4_ := Aside0.mk (blk_below (zz27 BK556) hb); have n5_ := Aside0.mk (blk_below (zz27 BK573) hb); have n6_ := Aside0.mk (below_step (zz38 HB GE556 GE573) hb); clear HO_6; clear HO_8; clear HO_574001; clear BK556; clear BK573; clear HB; have HO_6 := n0_; have HO_8 := n1_; have HO_574001 := n2_; have HO594 := n3_; have BK556 := n4_; have BK573 := n5_; have HB := n6_; clear n0_ n1_ n2_ n3_ n4_ n5_ n6_; (try clear hb ho0); obtain ⟨Ao65, co65, eo65⟩ := Kd.R_slice HO594.out; subst eo65) | ((with_reducible refine gate_callee (f := 10) rfl ?_); refine gsL (some 64) Tryz.func10 #[.agg #[.string t591, .slice Ao65 t592.length co65, .bool t595, .string t596], .string a1] ?_; (with_reducible refine (impl_PageAddrs.calls kj19 t591 (fun k_ => some k_ = (.slice Ao65 t592.length co65 : Value).ownBlock) _ _ t592 t595 t596 a1 t597 _ ?side1 A55.out).mono ?_); (case side1 => exact Kd.R_V (Kd.R_tight rfl (Kd.R_types (Kd.R_types (HO594.out) BK556.out (by decide)) BK573.out (by decide)))); rintro e w66 ⟨v598, rfl, ho0, hb⟩; refine ⟨_, rfl, ?_⟩; have n0_ := Aside0.mk (Kd.R_elder' (zz9 HO_6) (Kd.R_base ho0) hb); have n1_ := Aside0.mk (Kd.R_elder' (zz9 HO_8) (Kd.R_base ho0) hb); have n2_ := Aside0.mk (Kd.R_elder' (zz9 HO_574001) (Kd.R_base ho0) hb); have n3_ := Aside0.mk (Kd.R_elder' (zz9 HO594) (Kd.R_base ho0) hb); have n4_ := Aside0.mk (Kd.R_lower (Kd.R_new' (Kd.R_new' (Kd.R_new' (Kd.R_new' (Kd.R_mono (ok' := fun k_ => True) ho0 (fun _ hk_ => trivial)) (Kd.R_lt (zz9 HO_6))) (Kd.R_lt (zz9 HO_8))) (Kd.R_lt (zz9 HO_574001))) (Kd.R_lt (zz9 HO594))) (below_size (zz38 HB GE556 GE573))); have n5_ := Aside0.mk (blk_below (zz27 BK556) hb); have n6_ := Aside0.mk (blk_below (zz27 BK573) hb); have n7_ := Aside0.mk (below_step (zz38 HB GE556 GE573) hb); clear HO_6; clear HO_8; clear HO_574001; clear HO594; clear BK556; clear BK573; clear HB; have HO_6 := n0_; have HO_8 := n1_; have HO_574001 := n2_; have HO594 := n3_; have HO599 := n4_; have BK556 := n5_; have BK573 := n6_; have HB := n7_; clear n0_ n1_ n2_ n3_ n4_ n5_ n6_ n7_; (try clear hb ho0); obtain ⟨Ao67, co67, eo67⟩ := Kd.R_slice HO599.out; subst eo67) | ((with_reducible refine gate_callee (f := 11) rfl ?_); refine gsL (some 67) Tryz.func11 #[.slice Ao67 t597.length co67, .slice Ao38 t564.length co38] ?_; (with_reducible refine (laws_eqStringS.calls kj19 _ _ t597 _ _ t564 true _ ?side1 ?side2 ?side3 ?side4 A56.out).mono ?_); (case side1 => exact (zz44 HO599)); (case side2 => exact (Kd.R_reads' HO599.out).2.1); (case side3 => exact (zz44 HO_6)); (case side4 => exact (Kd.R_reads' HO_6.out).2.1); rintro e w' ⟨rfl, ⟨nd, rfl⟩⟩; refine ⟨_, rfl, ?_⟩) | ((with_reducible refine gate_callee (f := 15) rfl ?_); refine goesL_ (some 71) rfl rfl Tryz.func15 (by kernel_rfl) rfl #[.slice Ao37 t589.length co37, .int .i64 1] rfl (zz185 HO_8) ?_; (with_reducible refine (laws_heldStringS.calls kj19 _ _ t589 1 t601 _ ?side1 ?side2 A58.out).mono ?_); (case side1 => exact (zz44 HO_8)); (case side2 => exact (zz186 HO_8)); rintro e w68 ⟨rfl, hb⟩; refine ⟨_, rfl, ?_⟩; have n0_ := Aside0.mk (Kd.R_below (zz9 HO_6) hb); have n1_ := Aside0.mk (Kd.R_below (zz9 HO_8) hb); have n2_ := Aside0.mk (Kd.R_below (zz9 HO_574001) hb); have n3_ := Aside0.mk (Kd.R_below (zz9 HO594) hb); have n4_ := Aside0.mk (Kd.R_below (zz9 HO599) hb); have n5_ := Aside0.mk (blk_below (zz27 BK556) hb); have n6_ := Aside0.mk (blk_below (zz27 BK573) hb); have n7_ := Aside0.mk (below_step (zz38 HB GE556 GE573) hb); clear HO_6; clear HO_8; clear HO_574001; clear HO594; clear HO599; clear BK556; clear BK573; clear HB; have HO_6 := n0_; have HO_8 := n1_; have HO_574001 := n2_; have HO594 := n3_; have HO599 := n4_; have BK556 := n5_; have BK573 := n6_; have HB := n7_; clear n0_ n1_ n2_ n3_ n4_ n5_ n6_ n7_; (try clear hb)))
            go_ret
            exact ⟨zz5, (zz38 HB GE556 GE573)⟩
           ·rw [if_neg c59] at H
            have c59b0 : decide (t601 < 0) = false := decide_eq_false c59;clear c59;by_cases c69 : t601 = t588
            ·rw [if_pos c69] at H
             have c69b0 : (t601 == t588) = true := beq_iff_eq.mpr c69;have c69b1 : (t601 != t588) = false := bne_eq_false_iff_eq.mpr c69;clear c69;obtain rfl := Option.some.inj H;go_wp2_with (first | ((with_reducible refine gate_callee (f := 14) rfl ?_); refine gsL (some 52) Tryz.func14 #[.slice Ao37 t574.length co37, .int .i64 1] ?_; (with_reducible refine (laws_markStringS.calls kj19 (fun k_ => some k_ = (.slice Ao37 t574.length co37 : Value).ownBlock) (.slice Ao37 t574.length co37) t574 1 t588 t589 w _ ?side1 ?side2 A48.out).mono ?_); (case side1 => exact (zz38 HB GE556 GE573)); (case side2 => exact Kd.R_tight rfl HO_8.out); rintro e w70 ⟨rfl, hy0, hb, hkp⟩; refine ⟨_, rfl, ?_⟩; have n0_ := Aside0.mk (Kd.R_mono (ok' := fun k_ => some k_ ≠ (.slice Ao37 t574.length co37 : Value).ownBlock ∧ some k_ ≠ (.slice Ao33 t586.length co33 : Value).ownBlock) (Kd.R_keptB (HO_6.out) hkp (fun k_ hk_ hs_ => by first | exact (hk_.1) hs_ | (first | exact hk_.2 hs_ | exact hk_.1 hs_ | exact hk_.1.1 hs_ | exact hk_.2.2 hs_ | exact hk_.2.1 hs_ | exact hk_.1.2 hs_ | exact hk_.2.2.2 hs_ | exact hk_.1.2.1 hs_ | exact hk_.1.1.2 hs_ | exact hk_.1.2.2 hs_ | exact hk_.1.1.1 hs_ | exact hk_.2.2.1 hs_ | exact hk_.2.2.2.2 hs_ | exact hk_.2.2.2.1 hs_ | exact hk_.1.1.1.1 hs_ | exact hk_.1.1.2.2 hs_ | exact hk_.1.1.1.2 hs_ | exact hk_.1.2.2.1 hs_ | exact hk_.1.1.2.1 hs_ | exact hk_.1.2.2.2 hs_ | exact hk_.1.1.2.2.1 hs_ | exact hk_.2.2.2.2.1 hs_ | exact hk_.1.1.2.2.2 hs_ | exact hk_.1.1.1.1.1 hs_ | exact hk_.1.1.1.2.1 hs_ | exact hk_.1.1.1.2.2 hs_ | exact hk_.1.1.1.1.2 hs_ | exact hk_.1.2.2.2.2 hs_ | exact hk_.1.2.2.2.1 hs_ | exact hk_.1.1.2.2.2.2 hs_ | exact hk_.1.1.1.1.1.2 hs_ | exact hk_.1.1.1.2.2.2 hs_ | exact hk_.1.1.1.2.2.1 hs_ | exact hk_.1.1.1.1.2.2 hs_ | exact hk_.1.1.1.1.1.1 hs_ | exact hk_.1.1.1.1.2.1 hs_ | exact hk_.1.2.2.2.2.1 hs_ | exact hk_.1.1.2.2.2.1 hs_ | exact hk_.1.1.1.2.2.2.1 hs_ | exact hk_.1.1.1.2.2.2.2 hs_ | exact hk_.1.1.1.1.2.2.2 hs_ | exact hk_.1.1.1.1.2.2.1 hs_ | exact hk_.1.1.1.1.1.2.1 hs_ | exact hk_.1.1.1.1.1.2.2 hs_ | exact hk_.1.1.2.2.2.2.1 hs_ | exact hk_.1.1.1.1.1.2.2.1 hs_ | exact hk_.1.1.1.2.2.2.2.1 hs_ | exact hk_.1.1.1.1.1.2.2.2 hs_ | exact hk_.1.1.1.1.2.2.2.1 hs_ | exact hk_.1.1.1.1.2.2.2.2 hs_ | exact hk_.1.1.1.1.1.2.2.2.2 hs_ | exact hk_.1.1.1.1.2.2.2.2.1 hs_ | exact hk_.1.1.1.1.1.2.2.2.1 hs_ | exact hk_.1.1.1.1.1.2.2.2.2.1 hs_))) (fun k_ hk_ => by first | exact ⟨hk_.1.1, hk_.1.2⟩ | (refine ⟨?_, ?_⟩ <;> (first | exact hk_.2 | exact hk_.1 | exact hk_.1.1 | exact hk_.2.2 | exact hk_.2.1 | exact hk_.1.2 | exact hk_.2.2.2 | exact hk_.1.2.1 | exact hk_.1.1.2 | exact hk_.1.2.2 | exact hk_.1.1.1 | exact hk_.2.2.1 | exact hk_.2.2.2.2 | exact hk_.2.2.2.1 | exact hk_.1.1.1.1 | exact hk_.1.1.2.2 | exact hk_.1.1.1.2 | exact hk_.1.2.2.1 | exact hk_.1.1.2.1 | exact hk_.1.2.2.2 | exact hk_.1.1.2.2.1 | exact hk_.2.2.2.2.1 | exact hk_.1.1.2.2.2 | exact hk_.1.1.1.1.1 | exact hk_.1.1.1.2.1 | exact hk_.1.1.1.2.2 | exact hk_.1.1.1.1.2 | exact hk_.1.2.2.2.2 | exact hk_.1.2.2.2.1 | exact hk_.1.1.2.2.2.2 | exact hk_.1.1.1.1.1.2 | exact hk_.1.1.1.2.2.2 | exact hk_.1.1.1.2.2.1 | exact hk_.1.1.1.1.2.2 | exact hk_.1.1.1.1.1.1 | exact hk_.1.1.1.1.2.1 | exact hk_.1.2.2.2.2.1 | exact hk_.1.1.2.2.2.1 | exact hk_.1.1.1.2.2.2.1 | exact hk_.1.1.1.2.2.2.2 | exact hk_.1.1.1.1.2.2.2 | exact hk_.1.1.1.1.2.2.1 | exact hk_.1.1.1.1.1.2.1 | exact hk_.1.1.1.1.1.2.2 | exact hk_.1.1.2.2.2.2.1 | exact hk_.1.1.1.1.1.2.2.1 | exact hk_.1.1.1.2.2.2.2.1 | exact hk_.1.1.1.1.1.2.2.2 | exact hk_.1.1.1.1.2.2.2.1 | exact hk_.1.1.1.1.2.2.2.2 | exact hk_.1.1.1.1.1.2.2.2.2 | exact hk_.1.1.1.1.2.2.2.2.1 | exact hk_.1.1.1.1.1.2.2.2.1 | exact hk_.1.1.1.1.1.2.2.2.2.1)))); have n1_ := Aside0.mk (Kd.R_reok rfl hy0 (fun k_ e_ => HO_8.out.1 k_ e_)); have n2_ := Aside0.mk (Kd.R_mono (ok' := fun k_ => some k_ ≠ (.slice Ao38 t564.length co38 : Value).ownBlock ∧ some k_ ≠ (.slice Ao37 t574.length co37 : Value).ownBlock) (Kd.R_keptB (HO_574001.out) hkp (fun k_ hk_ hs_ => by first | exact (hk_.2) hs_ | (first | exact hk_.2 hs_ | exact hk_.1 hs_ | exact hk_.1.1 hs_ | exact hk_.2.2 hs_ | exact hk_.2.1 hs_ | exact hk_.1.2 hs_ | exact hk_.2.2.2 hs_ | exact hk_.1.2.1 hs_ | exact hk_.1.1.2 hs_ | exact hk_.1.2.2 hs_ | exact hk_.1.1.1 hs_ | exact hk_.2.2.1 hs_ | exact hk_.2.2.2.2 hs_ | exact hk_.2.2.2.1 hs_ | exact hk_.1.1.1.1 hs_ | exact hk_.1.1.2.2 hs_ | exact hk_.1.1.1.2 hs_ | exact hk_.1.2.2.1 hs_ | exact hk_.1.1.2.1 hs_ | exact hk_.1.2.2.2 hs_ | exact hk_.1.1.2.2.1 hs_ | exact hk_.2.2.2.2.1 hs_ | exact hk_.1.1.2.2.2 hs_ | exact hk_.1.1.1.1.1 hs_ | exact hk_.1.1.1.2.1 hs_ | exact hk_.1.1.1.2.2 hs_ | exact hk_.1.1.1.1.2 hs_ | exact hk_.1.2.2.2.2 hs_ | exact hk_.1.2.2.2.1 hs_ | exact hk_.1.1.2.2.2.2 hs_ | exact hk_.1.1.1.1.1.2 hs_ | exact hk_.1.1.1.2.2.2 hs_ | exact hk_.1.1.1.2.2.1 hs_ | exact hk_.1.1.1.1.2.2 hs_ | exact hk_.1.1.1.1.1.1 hs_ | exact hk_.1.1.1.1.2.1 hs_ | exact hk_.1.2.2.2.2.1 hs_ | exact hk_.1.1.2.2.2.1 hs_ | exact hk_.1.1.1.2.2.2.1 hs_ | exact hk_.1.1.1.2.2.2.2 hs_ | exact hk_.1.1.1.1.2.2.2 hs_ | exact hk_.1.1.1.1.2.2.1 hs_ | exact hk_.1.1.1.1.1.2.1 hs_ | exact hk_.1.1.1.1.1.2.2 hs_ | exact hk_.1.1.2.2.2.2.1 hs_ | exact hk_.1.1.1.1.1.2.2.1 hs_ | exact hk_.1.1.1.2.2.2.2.1 hs_ | exact hk_.1.1.1.1.1.2.2.2 hs_ | exact hk_.1.1.1.1.2.2.2.1 hs_ | exact hk_.1.1.1.1.2.2.2.2 hs_ | exact hk_.1.1.1.1.1.2.2.2.2 hs_ | exact hk_.1.1.1.1.2.2.2.2.1 hs_ | exact hk_.1.1.1.1.1.2.2.2.1 hs_ | exact hk_.1.1.1.1.1.2.2.2.2.1 hs_))) (fun k_ hk_ => by first | exact ⟨hk_.1.1, hk_.1.2⟩ | (refine ⟨?_, ?_⟩ <;> (first | exact hk_.2 | exact hk_.1 | exact hk_.1.1 | exact hk_.2.2 | exact hk_.2.1 | exact hk_.1.2 | exact hk_.2.2.2 | exact hk_.1.2.1 | exact hk_.1.1.2 | exact hk_.1.2.2 | exact hk_.1.1.1 | exact hk_.2.2.1 | exact hk_.2.2.2.2 | exact hk_.2.2.2.1 | exact hk_.1.1.1.1 | exact hk_.1.1.2.2 | exact hk_.1.1.1.2 | exact hk_.1.2.2.1 | exact hk_.1.1.2.1 | exact hk_.1.2.2.2 | exact hk_.1.1.2.2.1 | exact hk_.2.2.2.2.1 | exact hk_.1.1.2.2.2 | exact hk_.1.1.1.1.1 | exact hk_.1.1.1.2.1 | exact hk_.1.1.1.2.2 | exact hk_.1.1.1.1.2 | exact hk_.1.2.2.2.2 | exact hk_.1.2.2.2.1 | exact hk_.1.1.2.2.2.2 | exact hk_.1.1.1.1.1.2 | exact hk_.1.1.1.2.2.2 | exact hk_.1.1.1.2.2.1 | exact hk_.1.1.1.1.2.2 | exact hk_.1.1.1.1.1.1 | exact hk_.1.1.1.1.2.1 | exact hk_.1.2.2.2.2.1 | exact hk_.1.1.2.2.2.1 | exact hk_.1.1.1.2.2.2.1 | exact hk_.1.1.1.2.2.2.2 | exact hk_.1.1.1.1.2.2.2 | exact hk_.1.1.1.1.2.2.1 | exact hk_.1.1.1.1.1.2.1 | exact hk_.1.1.1.1.1.2.2 | exact hk_.1.1.2.2.2.2.1 | exact hk_.1.1.1.1.1.2.2.1 | exact hk_.1.1.1.2.2.2.2.1 | exact hk_.1.1.1.1.1.2.2.2 | exact hk_.1.1.1.1.2.2.2.1 | exact hk_.1.1.1.1.2.2.2.2 | exact hk_.1.1.1.1.1.2.2.2.2 | exact hk_.1.1.1.1.2.2.2.2.1 | exact hk_.1.1.1.1.1.2.2.2.1 | exact hk_.1.1.1.1.1.2.2.2.2.1)))); have n3_ := Aside0.mk (blk_kept (zz27 BK556) hkp (fun hs_ => (fun e_ => (Kd.R_ne HO_8.out BK556.out (by decide)) e_) hs_)); have n4_ := Aside0.mk (blk_kept (zz27 BK573) hkp (fun hs_ => (fun e_ => (Kd.R_ne HO_8.out BK573.out (by decide)) e_) hs_)); have n5_ := Aside0.mk (hb); clear HO_6; clear HO_8; clear HO_574001; clear BK556; clear BK573; clear HB; have HO_6 := n0_; have HO_8 := n1_; have HO_574001 := n2_; have BK556 := n3_; have BK573 := n4_; have HB := n5_; clear n0_ n1_ n2_ n3_ n4_ n5_; (try clear hb)) | ((with_reducible refine gate_callee (f := 15) rfl ?_); refine goesL_ (some 55) rfl rfl Tryz.func15 (by kernel_rfl) rfl #[.slice Ao37 t589.length co37, .int .i64 1] rfl (zz185 HO_8) ?_; (with_reducible refine (laws_heldStringS.calls kj19 _ _ t589 1 t590 _ ?side1 ?side2 A49.out).mono ?_); (case side1 => exact (zz44 HO_8)); (case side2 => exact (zz186 HO_8)); rintro e w71 ⟨rfl, hb⟩; refine ⟨_, rfl, ?_⟩; have n0_ := Aside0.mk (Kd.R_below (zz9 HO_6) hb); have n1_ := Aside0.mk (Kd.R_below (zz9 HO_8) hb); have n2_ := Aside0.mk (Kd.R_below (zz9 HO_574001) hb); have n3_ := Aside0.mk (blk_below (zz27 BK556) hb); have n4_ := Aside0.mk (blk_below (zz27 BK573) hb); have n5_ := Aside0.mk (below_step (zz38 HB GE556 GE573) hb); clear HO_6; clear HO_8; clear HO_574001; clear BK556; clear BK573; clear HB; have HO_6 := n0_; have HO_8 := n1_; have HO_574001 := n2_; have BK556 := n3_; have BK573 := n4_; have HB := n5_; clear n0_ n1_ n2_ n3_ n4_ n5_; (try clear hb); have hnb72 := NB556_573.out; have hnc72 := NB573_556.out; obtain ⟨_, _, _, _, _, _, _, _⟩ := cf4 BK556) | ((with_reducible refine gate_callee (f := 9) rfl ?_); refine gsL (some 62) Tryz.func9 #[.agg #[.string a0_0, .slice A0_1 l0_1.length c0_1, .bool a0_2, .string a0_3]] ?_; (with_reducible refine (laws_toAddr.calls kj19 a0_0 _ _ l0_1 a0_2 a0_3 t591 t592 t595 t596 _ ?side1 ?side2 A54.out).mono ?_); (case side1 => exact (zz7 HR0_1 HB)); (case side2 => exact HC0_1.out); rintro e w74 ⟨v593, rfl, ho0, hb⟩; refine ⟨_, rfl, ?_⟩; have n0_ := Aside0.mk (Kd.R_elder' (zz9 HO_6) (Kd.R_base ho0) hb); have n1_ := Aside0.mk (Kd.R_elder' (zz9 HO_8) (Kd.R_base ho0) hb); have n2_ := Aside0.mk (Kd.R_elder' (zz9 HO_574001) (Kd.R_base ho0) hb); have n3_ := Aside0.mk (Kd.R_lower (Kd.R_new' (Kd.R_new' (Kd.R_new' ho0 (Kd.R_lt (zz9 HO_6))) (Kd.R_lt (zz9 HO_8))) (Kd.R_lt (zz9 HO_574001))) (below_size (zz38 HB GE556 GE573))); have n4_ := Aside0.mk (blk_below (zz27 BK556) hb); have n5_ := Aside0.mk (blk_below (zz27 BK573) hb); have n6_ := Aside0.mk (below_step (zz38 HB GE556 GE573) hb); clear HO_6; clear HO_8; clear HO_574001; clear BK556; clear BK573; clear HB; have HO_6 := n0_; have HO_8 := n1_; have HO_574001 := n2_; have HO594 := n3_; have BK556 := n4_; have BK573 := n5_; have HB := n6_; clear n0_ n1_ n2_ n3_ n4_ n5_ n6_; (try clear hb ho0); obtain ⟨Ao75, co75, eo75⟩ := Kd.R_slice HO594.out; subst eo75) | ((with_reducible refine gate_callee (f := 10) rfl ?_); refine gsL (some 64) Tryz.func10 #[.agg #[.string t591, .slice Ao75 t592.length co75, .bool t595, .string t596], .string a1] ?_; (with_reducible refine (impl_PageAddrs.calls kj19 t591 (fun k_ => some k_ = (.slice Ao75 t592.length co75 : Value).ownBlock) _ _ t592 t595 t596 a1 t597 _ ?side1 A55.out).mono ?_); (case side1 => exact Kd.R_V (Kd.R_tight rfl (Kd.R_types (Kd.R_types (HO594.out) BK556.out (by decide)) BK573.out (by decide)))); rintro e w76 ⟨v598, rfl, ho0, hb⟩; refine ⟨_, rfl, ?_⟩; have n0_ := Aside0.mk (Kd.R_elder' (zz9 HO_6) (Kd.R_base ho0) hb); have n1_ := Aside0.mk (Kd.R_elder' (zz9 HO_8) (Kd.R_base ho0) hb); have n2_ := Aside0.mk (Kd.R_elder' (zz9 HO_574001) (Kd.R_base ho0) hb); have n3_ := Aside0.mk (Kd.R_elder' (zz9 HO594) (Kd.R_base ho0) hb); have n4_ := Aside0.mk (Kd.R_lower (Kd.R_new' (Kd.R_new' (Kd.R_new' (Kd.R_new' (Kd.R_mono (ok' := fun k_ => True) ho0 (fun _ hk_ => trivial)) (Kd.R_lt (zz9 HO_6))) (Kd.R_lt (zz9 HO_8))) (Kd.R_lt (zz9 HO_574001))) (Kd.R_lt (zz9 HO594))) (below_size (zz38 HB GE556 GE573))); have n5_ := Aside0.mk (blk_below (zz27 BK556) hb); have n6_ := Aside0.mk (blk_below (zz27 BK573) hb); have n7_ := Aside0.mk (below_step (zz38 HB GE556 GE573) hb); clear HO_6; clear HO_8; clear HO_574001; clear HO594; clear BK556; clear BK573; clear HB; have HO_6 := n0_; have HO_8 := n1_; have HO_574001 := n2_; have HO594 := n3_; have HO599 := n4_; have BK556 := n5_; have BK573 := n6_; have HB := n7_; clear n0_ n1_ n2_ n3_ n4_ n5_ n6_ n7_; (try clear hb ho0); obtain ⟨Ao77, co77, eo77⟩ := Kd.R_slice HO599.out; subst eo77) | ((with_reducible refine gate_callee (f := 11) rfl ?_); refine gsL (some 67) Tryz.func11 #[.slice Ao77 t597.length co77, .slice Ao38 t564.length co38] ?_; (with_reducible refine (laws_eqStringS.calls kj19 _ _ t597 _ _ t564 true _ ?side1 ?side2 ?side3 ?side4 A56.out).mono ?_); (case side1 => exact (zz44 HO599)); (case side2 => exact (Kd.R_reads' HO599.out).2.1); (case side3 => exact (zz44 HO_6)); (case side4 => exact (Kd.R_reads' HO_6.out).2.1); rintro e w' ⟨rfl, ⟨nd, rfl⟩⟩; refine ⟨_, rfl, ?_⟩) | ((with_reducible refine gate_callee (f := 15) rfl ?_); refine goesL_ (some 71) rfl rfl Tryz.func15 (by kernel_rfl) rfl #[.slice Ao37 t589.length co37, .int .i64 1] rfl (zz185 HO_8) ?_; (with_reducible refine (laws_heldStringS.calls kj19 _ _ t589 1 t601 _ ?side1 ?side2 A58.out).mono ?_); (case side1 => exact (zz44 HO_8)); (case side2 => exact (zz186 HO_8)); rintro e w78 ⟨rfl, hb⟩; refine ⟨_, rfl, ?_⟩; have n0_ := Aside0.mk (Kd.R_below (zz9 HO_6) hb); have n1_ := Aside0.mk (Kd.R_below (zz9 HO_8) hb); have n2_ := Aside0.mk (Kd.R_below (zz9 HO_574001) hb); have n3_ := Aside0.mk (Kd.R_below (zz9 HO594) hb); have n4_ := Aside0.mk (Kd.R_below (zz9 HO599) hb); have n5_ := Aside0.mk (blk_below (zz27 BK556) hb); have n6_ := Aside0.mk (blk_below (zz27 BK573) hb); have n7_ := Aside0.mk (below_step (zz38 HB GE556 GE573) hb); clear HO_6; clear HO_8; clear HO_574001; clear HO594; clear HO599; clear BK556; clear BK573; clear HB; have HO_6 := n0_; have HO_8 := n1_; have HO_574001 := n2_; have HO594 := n3_; have HO599 := n4_; have BK556 := n5_; have BK573 := n6_; have HB := n7_; clear n0_ n1_ n2_ n3_ n4_ n5_ n6_ n7_; (try clear hb)))
             go_ret
             exact ⟨zz5, (zz38 HB GE556 GE573)⟩
            ·rw [if_neg c69] at H
             have c69b0 : (t601 == t588) = false := beq_eq_false_iff_ne.mpr c69;have c69b1 : (t601 != t588) = true := bne_iff_ne.mpr c69;obtain rfl := Option.some.inj H;go_wp2_with (first | ((with_reducible refine gate_callee (f := 14) rfl ?_); refine gsL (some 52) Tryz.func14 #[.slice Ao37 t574.length co37, .int .i64 1] ?_; (with_reducible refine (laws_markStringS.calls kj19 (fun k_ => some k_ = (.slice Ao37 t574.length co37 : Value).ownBlock) (.slice Ao37 t574.length co37) t574 1 t588 t589 w _ ?side1 ?side2 A48.out).mono ?_); (case side1 => exact (zz38 HB GE556 GE573)); (case side2 => exact Kd.R_tight rfl HO_8.out); rintro e w79 ⟨rfl, hy0, hb, hkp⟩; refine ⟨_, rfl, ?_⟩; have n0_ := Aside0.mk (Kd.R_mono (ok' := fun k_ => some k_ ≠ (.slice Ao37 t574.length co37 : Value).ownBlock ∧ some k_ ≠ (.slice Ao33 t586.length co33 : Value).ownBlock) (Kd.R_keptB (HO_6.out) hkp (fun k_ hk_ hs_ => by first | exact (hk_.1) hs_ | (first | exact hk_.2 hs_ | exact hk_.1 hs_ | exact hk_.1.1 hs_ | exact hk_.2.2 hs_ | exact hk_.2.1 hs_ | exact hk_.1.2 hs_ | exact hk_.2.2.2 hs_ | exact hk_.1.2.1 hs_ | exact hk_.1.1.2 hs_ | exact hk_.1.2.2 hs_ | exact hk_.1.1.1 hs_ | exact hk_.2.2.1 hs_ | exact hk_.2.2.2.2 hs_ | exact hk_.2.2.2.1 hs_ | exact hk_.1.1.1.1 hs_ | exact hk_.1.1.2.2 hs_ | exact hk_.1.1.1.2 hs_ | exact hk_.1.2.2.1 hs_ | exact hk_.1.1.2.1 hs_ | exact hk_.1.2.2.2 hs_ | exact hk_.1.1.2.2.1 hs_ | exact hk_.2.2.2.2.1 hs_ | exact hk_.1.1.2.2.2 hs_ | exact hk_.1.1.1.1.1 hs_ | exact hk_.1.1.1.2.1 hs_ | exact hk_.1.1.1.2.2 hs_ | exact hk_.1.1.1.1.2 hs_ | exact hk_.1.2.2.2.2 hs_ | exact hk_.1.2.2.2.1 hs_ | exact hk_.1.1.2.2.2.2 hs_ | exact hk_.1.1.1.1.1.2 hs_ | exact hk_.1.1.1.2.2.2 hs_ | exact hk_.1.1.1.2.2.1 hs_ | exact hk_.1.1.1.1.2.2 hs_ | exact hk_.1.1.1.1.1.1 hs_ | exact hk_.1.1.1.1.2.1 hs_ | exact hk_.1.2.2.2.2.1 hs_ | exact hk_.1.1.2.2.2.1 hs_ | exact hk_.1.1.1.2.2.2.1 hs_ | exact hk_.1.1.1.2.2.2.2 hs_ | exact hk_.1.1.1.1.2.2.2 hs_ | exact hk_.1.1.1.1.2.2.1 hs_ | exact hk_.1.1.1.1.1.2.1 hs_ | exact hk_.1.1.1.1.1.2.2 hs_ | exact hk_.1.1.2.2.2.2.1 hs_ | exact hk_.1.1.1.1.1.2.2.1 hs_ | exact hk_.1.1.1.2.2.2.2.1 hs_ | exact hk_.1.1.1.1.1.2.2.2 hs_ | exact hk_.1.1.1.1.2.2.2.1 hs_ | exact hk_.1.1.1.1.2.2.2.2 hs_ | exact hk_.1.1.1.1.1.2.2.2.2 hs_ | exact hk_.1.1.1.1.2.2.2.2.1 hs_ | exact hk_.1.1.1.1.1.2.2.2.1 hs_ | exact hk_.1.1.1.1.1.2.2.2.2.1 hs_))) (fun k_ hk_ => by first | exact ⟨hk_.1.1, hk_.1.2⟩ | (refine ⟨?_, ?_⟩ <;> (first | exact hk_.2 | exact hk_.1 | exact hk_.1.1 | exact hk_.2.2 | exact hk_.2.1 | exact hk_.1.2 | exact hk_.2.2.2 | exact hk_.1.2.1 | exact hk_.1.1.2 | exact hk_.1.2.2 | exact hk_.1.1.1 | exact hk_.2.2.1 | exact hk_.2.2.2.2 | exact hk_.2.2.2.1 | exact hk_.1.1.1.1 | exact hk_.1.1.2.2 | exact hk_.1.1.1.2 | exact hk_.1.2.2.1 | exact hk_.1.1.2.1 | exact hk_.1.2.2.2 | exact hk_.1.1.2.2.1 | exact hk_.2.2.2.2.1 | exact hk_.1.1.2.2.2 | exact hk_.1.1.1.1.1 | exact hk_.1.1.1.2.1 | exact hk_.1.1.1.2.2 | exact hk_.1.1.1.1.2 | exact hk_.1.2.2.2.2 | exact hk_.1.2.2.2.1 | exact hk_.1.1.2.2.2.2 | exact hk_.1.1.1.1.1.2 | exact hk_.1.1.1.2.2.2 | exact hk_.1.1.1.2.2.1 | exact hk_.1.1.1.1.2.2 | exact hk_.1.1.1.1.1.1 | exact hk_.1.1.1.1.2.1 | exact hk_.1.2.2.2.2.1 | exact hk_.1.1.2.2.2.1 | exact hk_.1.1.1.2.2.2.1 | exact hk_.1.1.1.2.2.2.2 | exact hk_.1.1.1.1.2.2.2 | exact hk_.1.1.1.1.2.2.1 | exact hk_.1.1.1.1.1.2.1 | exact hk_.1.1.1.1.1.2.2 | exact hk_.1.1.2.2.2.2.1 | exact hk_.1.1.1.1.1.2.2.1 | exact hk_.1.1.1.2.2.2.2.1 | exact hk_.1.1.1.1.1.2.2.2 | exact hk_.1.1.1.1.2.2.2.1 | exact hk_.1.1.1.1.2.2.2.2 | exact hk_.1.1.1.1.1.2.2.2.2 | exact hk_.1.1.1.1.2.2.2.2.1 | exact hk_.1.1.1.1.1.2.2.2.1 | exact hk_.1.1.1.1.1.2.2.2.2.1)))); have n1_ := Aside0.mk (Kd.R_reok rfl hy0 (fun k_ e_ => HO_8.out.1 k_ e_)); have n2_ := Aside0.mk (Kd.R_mono (ok' := fun k_ => some k_ ≠ (.slice Ao38 t564.length co38 : Value).ownBlock ∧ some k_ ≠ (.slice Ao37 t574.length co37 : Value).ownBlock) (Kd.R_keptB (HO_574001.out) hkp (fun k_ hk_ hs_ => by first | exact (hk_.2) hs_ | (first | exact hk_.2 hs_ | exact hk_.1 hs_ | exact hk_.1.1 hs_ | exact hk_.2.2 hs_ | exact hk_.2.1 hs_ | exact hk_.1.2 hs_ | exact hk_.2.2.2 hs_ | exact hk_.1.2.1 hs_ | exact hk_.1.1.2 hs_ | exact hk_.1.2.2 hs_ | exact hk_.1.1.1 hs_ | exact hk_.2.2.1 hs_ | exact hk_.2.2.2.2 hs_ | exact hk_.2.2.2.1 hs_ | exact hk_.1.1.1.1 hs_ | exact hk_.1.1.2.2 hs_ | exact hk_.1.1.1.2 hs_ | exact hk_.1.2.2.1 hs_ | exact hk_.1.1.2.1 hs_ | exact hk_.1.2.2.2 hs_ | exact hk_.1.1.2.2.1 hs_ | exact hk_.2.2.2.2.1 hs_ | exact hk_.1.1.2.2.2 hs_ | exact hk_.1.1.1.1.1 hs_ | exact hk_.1.1.1.2.1 hs_ | exact hk_.1.1.1.2.2 hs_ | exact hk_.1.1.1.1.2 hs_ | exact hk_.1.2.2.2.2 hs_ | exact hk_.1.2.2.2.1 hs_ | exact hk_.1.1.2.2.2.2 hs_ | exact hk_.1.1.1.1.1.2 hs_ | exact hk_.1.1.1.2.2.2 hs_ | exact hk_.1.1.1.2.2.1 hs_ | exact hk_.1.1.1.1.2.2 hs_ | exact hk_.1.1.1.1.1.1 hs_ | exact hk_.1.1.1.1.2.1 hs_ | exact hk_.1.2.2.2.2.1 hs_ | exact hk_.1.1.2.2.2.1 hs_ | exact hk_.1.1.1.2.2.2.1 hs_ | exact hk_.1.1.1.2.2.2.2 hs_ | exact hk_.1.1.1.1.2.2.2 hs_ | exact hk_.1.1.1.1.2.2.1 hs_ | exact hk_.1.1.1.1.1.2.1 hs_ | exact hk_.1.1.1.1.1.2.2 hs_ | exact hk_.1.1.2.2.2.2.1 hs_ | exact hk_.1.1.1.1.1.2.2.1 hs_ | exact hk_.1.1.1.2.2.2.2.1 hs_ | exact hk_.1.1.1.1.1.2.2.2 hs_ | exact hk_.1.1.1.1.2.2.2.1 hs_ | exact hk_.1.1.1.1.2.2.2.2 hs_ | exact hk_.1.1.1.1.1.2.2.2.2 hs_ | exact hk_.1.1.1.1.2.2.2.2.1 hs_ | exact hk_.1.1.1.1.1.2.2.2.1 hs_ | exact hk_.1.1.1.1.1.2.2.2.2.1 hs_))) (fun k_ hk_ => by first | exact ⟨hk_.1.1, hk_.1.2⟩ | (refine ⟨?_, ?_⟩ <;> (first | exact hk_.2 | exact hk_.1 | exact hk_.1.1 | exact hk_.2.2 | exact hk_.2.1 | exact hk_.1.2 | exact hk_.2.2.2 | exact hk_.1.2.1 | exact hk_.1.1.2 | exact hk_.1.2.2 | exact hk_.1.1.1 | exact hk_.2.2.1 | exact hk_.2.2.2.2 | exact hk_.2.2.2.1 | exact hk_.1.1.1.1 | exact hk_.1.1.2.2 | exact hk_.1.1.1.2 | exact hk_.1.2.2.1 | exact hk_.1.1.2.1 | exact hk_.1.2.2.2 | exact hk_.1.1.2.2.1 | exact hk_.2.2.2.2.1 | exact hk_.1.1.2.2.2 | exact hk_.1.1.1.1.1 | exact hk_.1.1.1.2.1 | exact hk_.1.1.1.2.2 | exact hk_.1.1.1.1.2 | exact hk_.1.2.2.2.2 | exact hk_.1.2.2.2.1 | exact hk_.1.1.2.2.2.2 | exact hk_.1.1.1.1.1.2 | exact hk_.1.1.1.2.2.2 | exact hk_.1.1.1.2.2.1 | exact hk_.1.1.1.1.2.2 | exact hk_.1.1.1.1.1.1 | exact hk_.1.1.1.1.2.1 | exact hk_.1.2.2.2.2.1 | exact hk_.1.1.2.2.2.1 | exact hk_.1.1.1.2.2.2.1 | exact hk_.1.1.1.2.2.2.2 | exact hk_.1.1.1.1.2.2.2 | exact hk_.1.1.1.1.2.2.1 | exact hk_.1.1.1.1.1.2.1 | exact hk_.1.1.1.1.1.2.2 | exact hk_.1.1.2.2.2.2.1 | exact hk_.1.1.1.1.1.2.2.1 | exact hk_.1.1.1.2.2.2.2.1 | exact hk_.1.1.1.1.1.2.2.2 | exact hk_.1.1.1.1.2.2.2.1 | exact hk_.1.1.1.1.2.2.2.2 | exact hk_.1.1.1.1.1.2.2.2.2 | exact hk_.1.1.1.1.2.2.2.2.1 | exact hk_.1.1.1.1.1.2.2.2.1 | exact hk_.1.1.1.1.1.2.2.2.2.1)))); have n3_ := Aside0.mk (blk_kept (zz27 BK556) hkp (fun hs_ => (fun e_ => (Kd.R_ne HO_8.out BK556.out (by decide)) e_) hs_)); have n4_ := Aside0.mk (blk_kept (zz27 BK573) hkp (fun hs_ => (fun e_ => (Kd.R_ne HO_8.out BK573.out (by decide)) e_) hs_)); have n5_ := Aside0.mk (hb); clear HO_6; clear HO_8; clear HO_574001; clear BK556; clear BK573; clear HB; have HO_6 := n0_; have HO_8 := n1_; have HO_574001 := n2_; have BK556 := n3_; have BK573 := n4_; have HB := n5_; clear n0_ n1_ n2_ n3_ n4_ n5_; (try clear hb)) | ((with_reducible refine gate_callee (f := 15) rfl ?_); refine goesL_ (some 55) rfl rfl Tryz.func15 (by kernel_rfl) rfl #[.slice Ao37 t589.length co37, .int .i64 1] rfl (zz185 HO_8) ?_; (with_reducible refine (laws_heldStringS.calls kj19 _ _ t589 1 t590 _ ?side1 ?side2 A49.out).mono ?_); (case side1 => exact (zz44 HO_8)); (case side2 => exact (zz186 HO_8)); rintro e w80 ⟨rfl, hb⟩; refine ⟨_, rfl, ?_⟩; have n0_ := Aside0.mk (Kd.R_below (zz9 HO_6) hb); have n1_ := Aside0.mk (Kd.R_below (zz9 HO_8) hb); have n2_ := Aside0.mk (Kd.R_below (zz9 HO_574001) hb); have n3_ := Aside0.mk (blk_below (zz27 BK556) hb); have n4_ := Aside0.mk (blk_below (zz27 BK573) hb); have n5_ := Aside0.mk (below_step (zz38 HB GE556 GE573) hb); clear HO_6; clear HO_8; clear HO_574001; clear BK556; clear BK573; clear HB; have HO_6 := n0_; have HO_8 := n1_; have HO_574001 := n2_; have BK556 := n3_; have BK573 := n4_; have HB := n5_; clear n0_ n1_ n2_ n3_ n4_ n5_; (try clear hb); have hnb81 := NB556_573.out; have hnc81 := NB573_556.out; obtain ⟨_, _, _, _, _, _, _, _⟩ := cf4 BK556) | ((with_reducible refine gate_callee (f := 9) rfl ?_); refine gsL (some 62) Tryz.func9 #[.agg #[.string a0_0, .slice A0_1 l0_1.length c0_1, .bool a0_2, .string a0_3]] ?_; (with_reducible refine (laws_toAddr.calls kj19 a0_0 _ _ l0_1 a0_2 a0_3 t591 t592 t595 t596 _ ?side1 ?side2 A54.out).mono ?_); (case side1 => exact (zz7 HR0_1 HB)); (case side2 => exact HC0_1.out); rintro e w83 ⟨v593, rfl, ho0, hb⟩; refine ⟨_, rfl, ?_⟩; have n0_ := Aside0.mk (Kd.R_elder' (zz9 HO_6) (Kd.R_base ho0) hb); have n1_ := Aside0.mk (Kd.R_elder' (zz9 HO_8) (Kd.R_base ho0) hb); have n2_ := Aside0.mk (Kd.R_elder' (zz9 HO_574001) (Kd.R_base ho0) hb); have n3_ := Aside0.mk (Kd.R_lower (Kd.R_new' (Kd.R_new' (Kd.R_new' ho0 (Kd.R_lt (zz9 HO_6))) (Kd.R_lt (zz9 HO_8))) (Kd.R_lt (zz9 HO_574001))) (below_size (zz38 HB GE556 GE573))); have n4_ := Aside0.mk (blk_below (zz27 BK556) hb); have n5_ := Aside0.mk (blk_below (zz27 BK573) hb); have n6_ := Aside0.mk (below_step (zz38 HB GE556 GE573) hb); clear HO_6; clear HO_8; clear HO_574001; clear BK556; clear BK573; clear HB; have HO_6 := n0_; have HO_8 := n1_; have HO_574001 := n2_; have HO594 := n3_; have BK556 := n4_; have BK573 := n5_; have HB := n6_; clear n0_ n1_ n2_ n3_ n4_ n5_ n6_; (try clear hb ho0); obtain ⟨Ao84, co84, eo84⟩ := Kd.R_slice HO594.out; subst eo84) | ((with_reducible refine gate_callee (f := 10) rfl ?_); refine gsL (some 64) Tryz.func10 #[.agg #[.string t591, .slice Ao84 t592.length co84, .bool t595, .string t596], .string a1] ?_; (with_reducible refine (impl_PageAddrs.calls kj19 t591 (fun k_ => some k_ = (.slice Ao84 t592.length co84 : Value).ownBlock) _ _ t592 t595 t596 a1 t597 _ ?side1 A55.out).mono ?_); (case side1 => exact Kd.R_V (Kd.R_tight rfl (Kd.R_types (Kd.R_types (HO594.out) BK556.out (by decide)) BK573.out (by decide)))); rintro e w85 ⟨v598, rfl, ho0, hb⟩; refine ⟨_, rfl, ?_⟩; have n0_ := Aside0.mk (Kd.R_elder' (zz9 HO_6) (Kd.R_base ho0) hb); have n1_ := Aside0.mk (Kd.R_elder' (zz9 HO_8) (Kd.R_base ho0) hb); have n2_ := Aside0.mk (Kd.R_elder' (zz9 HO_574001) (Kd.R_base ho0) hb); have n3_ := Aside0.mk (Kd.R_elder' (zz9 HO594) (Kd.R_base ho0) hb); have n4_ := Aside0.mk (Kd.R_lower (Kd.R_new' (Kd.R_new' (Kd.R_new' (Kd.R_new' (Kd.R_mono (ok' := fun k_ => True) ho0 (fun _ hk_ => trivial)) (Kd.R_lt (zz9 HO_6))) (Kd.R_lt (zz9 HO_8))) (Kd.R_lt (zz9 HO_574001))) (Kd.R_lt (zz9 HO594))) (below_size (zz38 HB GE556 GE573))); have n5_ := Aside0.mk (blk_below (zz27 BK556) hb); have n6_ := Aside0.mk (blk_below (zz27 BK573) hb); have n7_ := Aside0.mk (below_step (zz38 HB GE556 GE573) hb); clear HO_6; clear HO_8; clear HO_574001; clear HO594; clear BK556; clear BK573; clear HB; have HO_6 := n0_; have HO_8 := n1_; have HO_574001 := n2_; have HO594 := n3_; have HO599 := n4_; have BK556 := n5_; have BK573 := n6_; have HB := n7_; clear n0_ n1_ n2_ n3_ n4_ n5_ n6_ n7_; (try clear hb ho0); obtain ⟨Ao86, co86, eo86⟩ := Kd.R_slice HO599.out; subst eo86) | ((with_reducible refine gate_callee (f := 11) rfl ?_); refine gsL (some 67) Tryz.func11 #[.slice Ao86 t597.length co86, .slice Ao38 t564.length co38] ?_; (with_reducible refine (laws_eqStringS.calls kj19 _ _ t597 _ _ t564 true _ ?side1 ?side2 ?side3 ?side4 A56.out).mono ?_); (case side1 => exact (zz44 HO599)); (case side2 => exact (Kd.R_reads' HO599.out).2.1); (case side3 => exact (zz44 HO_6)); (case side4 => exact (Kd.R_reads' HO_6.out).2.1); rintro e w' ⟨rfl, ⟨nd, rfl⟩⟩; refine ⟨_, rfl, ?_⟩) | ((with_reducible refine gate_callee (f := 15) rfl ?_); refine goesL_ (some 71) rfl rfl Tryz.func15 (by kernel_rfl) rfl #[.slice Ao37 t589.length co37, .int .i64 1] rfl (zz185 HO_8) ?_; (with_reducible refine (laws_heldStringS.calls kj19 _ _ t589 1 t601 _ ?side1 ?side2 A58.out).mono ?_); (case side1 => exact (zz44 HO_8)); (case side2 => exact (zz186 HO_8)); rintro e w87 ⟨rfl, hb⟩; refine ⟨_, rfl, ?_⟩; have n0_ := Aside0.mk (Kd.R_below (zz9 HO_6) hb); have n1_ := Aside0.mk (Kd.R_below (zz9 HO_8) hb); have n2_ := Aside0.mk (Kd.R_below (zz9 HO_574001) hb); have n3_ := Aside0.mk (Kd.R_below (zz9 HO594) hb); have n4_ := Aside0.mk (Kd.R_below (zz9 HO599) hb); have n5_ := Aside0.mk (blk_below (zz27 BK556) hb); have n6_ := Aside0.mk (blk_below (zz27 BK573) hb); have n7_ := Aside0.mk (below_step (zz38 HB GE556 GE573) hb); clear HO_6; clear HO_8; clear HO_574001; clear HO594; clear HO599; clear BK556; clear BK573; clear HB; have HO_6 := n0_; have HO_8 := n1_; have HO_574001 := n2_; have HO594 := n3_; have HO599 := n4_; have BK556 := n5_; have BK573 := n6_; have HB := n7_; clear n0_ n1_ n2_ n3_ n4_ n5_ n6_ n7_; (try clear hb)))
             go_ret
             exact ⟨zz5, (zz38 HB GE556 GE573)⟩
          ·replace c57 := Bool.eq_false_iff.mpr c57
           subst c57;rw [if_neg (show ¬ (false = true) by decide)] at H;obtain rfl := Option.some.inj H;go_wp2_with (first | ((with_reducible refine gate_callee (f := 14) rfl ?_); refine gsL (some 52) Tryz.func14 #[.slice Ao37 t574.length co37, .int .i64 1] ?_; (with_reducible refine (laws_markStringS.calls kj19 (fun k_ => some k_ = (.slice Ao37 t574.length co37 : Value).ownBlock) (.slice Ao37 t574.length co37) t574 1 t588 t589 w _ ?side1 ?side2 A48.out).mono ?_); (case side1 => exact (zz38 HB GE556 GE573)); (case side2 => exact Kd.R_tight rfl HO_8.out); rintro e w88 ⟨rfl, hy0, hb, hkp⟩; refine ⟨_, rfl, ?_⟩; have n0_ := Aside0.mk (Kd.R_mono (ok' := fun k_ => some k_ ≠ (.slice Ao37 t574.length co37 : Value).ownBlock ∧ some k_ ≠ (.slice Ao33 t586.length co33 : Value).ownBlock) (Kd.R_keptB (HO_6.out) hkp (fun k_ hk_ hs_ => by first | exact (hk_.1) hs_ | (first | exact hk_.2 hs_ | exact hk_.1 hs_ | exact hk_.1.1 hs_ | exact hk_.2.2 hs_ | exact hk_.2.1 hs_ | exact hk_.1.2 hs_ | exact hk_.2.2.2 hs_ | exact hk_.1.2.1 hs_ | exact hk_.1.1.2 hs_ | exact hk_.1.2.2 hs_ | exact hk_.1.1.1 hs_ | exact hk_.2.2.1 hs_ | exact hk_.2.2.2.2 hs_ | exact hk_.2.2.2.1 hs_ | exact hk_.1.1.1.1 hs_ | exact hk_.1.1.2.2 hs_ | exact hk_.1.1.1.2 hs_ | exact hk_.1.2.2.1 hs_ | exact hk_.1.1.2.1 hs_ | exact hk_.1.2.2.2 hs_ | exact hk_.1.1.2.2.1 hs_ | exact hk_.2.2.2.2.1 hs_ | exact hk_.1.1.2.2.2 hs_ | exact hk_.1.1.1.1.1 hs_ | exact hk_.1.1.1.2.1 hs_ | exact hk_.1.1.1.2.2 hs_ | exact hk_.1.1.1.1.2 hs_ | exact hk_.1.2.2.2.2 hs_ | exact hk_.1.2.2.2.1 hs_ | exact hk_.1.1.2.2.2.2 hs_ | exact hk_.1.1.1.1.1.2 hs_ | exact hk_.1.1.1.2.2.2 hs_ | exact hk_.1.1.1.2.2.1 hs_ | exact hk_.1.1.1.1.2.2 hs_ | exact hk_.1.1.1.1.1.1 hs_ | exact hk_.1.1.1.1.2.1 hs_ | exact hk_.1.2.2.2.2.1 hs_ | exact hk_.1.1.2.2.2.1 hs_ | exact hk_.1.1.1.2.2.2.1 hs_ | exact hk_.1.1.1.2.2.2.2 hs_ | exact hk_.1.1.1.1.2.2.2 hs_ | exact hk_.1.1.1.1.2.2.1 hs_ | exact hk_.1.1.1.1.1.2.1 hs_ | exact hk_.1.1.1.1.1.2.2 hs_ | exact hk_.1.1.2.2.2.2.1 hs_ | exact hk_.1.1.1.1.1.2.2.1 hs_ | exact hk_.1.1.1.2.2.2.2.1 hs_ | exact hk_.1.1.1.1.1.2.2.2 hs_ | exact hk_.1.1.1.1.2.2.2.1 hs_ | exact hk_.1.1.1.1.2.2.2.2 hs_ | exact hk_.1.1.1.1.1.2.2.2.2 hs_ | exact hk_.1.1.1.1.2.2.2.2.1 hs_ | exact hk_.1.1.1.1.1.2.2.2.1 hs_ | exact hk_.1.1.1.1.1.2.2.2.2.1 hs_))) (fun k_ hk_ => by first | exact ⟨hk_.1.1, hk_.1.2⟩ | (refine ⟨?_, ?_⟩ <;> (first | exact hk_.2 | exact hk_.1 | exact hk_.1.1 | exact hk_.2.2 | exact hk_.2.1 | exact hk_.1.2 | exact hk_.2.2.2 | exact hk_.1.2.1 | exact hk_.1.1.2 | exact hk_.1.2.2 | exact hk_.1.1.1 | exact hk_.2.2.1 | exact hk_.2.2.2.2 | exact hk_.2.2.2.1 | exact hk_.1.1.1.1 | exact hk_.1.1.2.2 | exact hk_.1.1.1.2 | exact hk_.1.2.2.1 | exact hk_.1.1.2.1 | exact hk_.1.2.2.2 | exact hk_.1.1.2.2.1 | exact hk_.2.2.2.2.1 | exact hk_.1.1.2.2.2 | exact hk_.1.1.1.1.1 | exact hk_.1.1.1.2.1 | exact hk_.1.1.1.2.2 | exact hk_.1.1.1.1.2 | exact hk_.1.2.2.2.2 | exact hk_.1.2.2.2.1 | exact hk_.1.1.2.2.2.2 | exact hk_.1.1.1.1.1.2 | exact hk_.1.1.1.2.2.2 | exact hk_.1.1.1.2.2.1 | exact hk_.1.1.1.1.2.2 | exact hk_.1.1.1.1.1.1 | exact hk_.1.1.1.1.2.1 | exact hk_.1.2.2.2.2.1 | exact hk_.1.1.2.2.2.1 | exact hk_.1.1.1.2.2.2.1 | exact hk_.1.1.1.2.2.2.2 | exact hk_.1.1.1.1.2.2.2 | exact hk_.1.1.1.1.2.2.1 | exact hk_.1.1.1.1.1.2.1 | exact hk_.1.1.1.1.1.2.2 | exact hk_.1.1.2.2.2.2.1 | exact hk_.1.1.1.1.1.2.2.1 | exact hk_.1.1.1.2.2.2.2.1 | exact hk_.1.1.1.1.1.2.2.2 | exact hk_.1.1.1.1.2.2.2.1 | exact hk_.1.1.1.1.2.2.2.2 | exact hk_.1.1.1.1.1.2.2.2.2 | exact hk_.1.1.1.1.2.2.2.2.1 | exact hk_.1.1.1.1.1.2.2.2.1 | exact hk_.1.1.1.1.1.2.2.2.2.1)))); have n1_ := Aside0.mk (Kd.R_reok rfl hy0 (fun k_ e_ => HO_8.out.1 k_ e_)); have n2_ := Aside0.mk (Kd.R_mono (ok' := fun k_ => some k_ ≠ (.slice Ao38 t564.length co38 : Value).ownBlock ∧ some k_ ≠ (.slice Ao37 t574.length co37 : Value).ownBlock) (Kd.R_keptB (HO_574001.out) hkp (fun k_ hk_ hs_ => by first | exact (hk_.2) hs_ | (first | exact hk_.2 hs_ | exact hk_.1 hs_ | exact hk_.1.1 hs_ | exact hk_.2.2 hs_ | exact hk_.2.1 hs_ | exact hk_.1.2 hs_ | exact hk_.2.2.2 hs_ | exact hk_.1.2.1 hs_ | exact hk_.1.1.2 hs_ | exact hk_.1.2.2 hs_ | exact hk_.1.1.1 hs_ | exact hk_.2.2.1 hs_ | exact hk_.2.2.2.2 hs_ | exact hk_.2.2.2.1 hs_ | exact hk_.1.1.1.1 hs_ | exact hk_.1.1.2.2 hs_ | exact hk_.1.1.1.2 hs_ | exact hk_.1.2.2.1 hs_ | exact hk_.1.1.2.1 hs_ | exact hk_.1.2.2.2 hs_ | exact hk_.1.1.2.2.1 hs_ | exact hk_.2.2.2.2.1 hs_ | exact hk_.1.1.2.2.2 hs_ | exact hk_.1.1.1.1.1 hs_ | exact hk_.1.1.1.2.1 hs_ | exact hk_.1.1.1.2.2 hs_ | exact hk_.1.1.1.1.2 hs_ | exact hk_.1.2.2.2.2 hs_ | exact hk_.1.2.2.2.1 hs_ | exact hk_.1.1.2.2.2.2 hs_ | exact hk_.1.1.1.1.1.2 hs_ | exact hk_.1.1.1.2.2.2 hs_ | exact hk_.1.1.1.2.2.1 hs_ | exact hk_.1.1.1.1.2.2 hs_ | exact hk_.1.1.1.1.1.1 hs_ | exact hk_.1.1.1.1.2.1 hs_ | exact hk_.1.2.2.2.2.1 hs_ | exact hk_.1.1.2.2.2.1 hs_ | exact hk_.1.1.1.2.2.2.1 hs_ | exact hk_.1.1.1.2.2.2.2 hs_ | exact hk_.1.1.1.1.2.2.2 hs_ | exact hk_.1.1.1.1.2.2.1 hs_ | exact hk_.1.1.1.1.1.2.1 hs_ | exact hk_.1.1.1.1.1.2.2 hs_ | exact hk_.1.1.2.2.2.2.1 hs_ | exact hk_.1.1.1.1.1.2.2.1 hs_ | exact hk_.1.1.1.2.2.2.2.1 hs_ | exact hk_.1.1.1.1.1.2.2.2 hs_ | exact hk_.1.1.1.1.2.2.2.1 hs_ | exact hk_.1.1.1.1.2.2.2.2 hs_ | exact hk_.1.1.1.1.1.2.2.2.2 hs_ | exact hk_.1.1.1.1.2.2.2.2.1 hs_ | exact hk_.1.1.1.1.1.2.2.2.1 hs_ | exact hk_.1.1.1.1.1.2.2.2.2.1 hs_))) (fun k_ hk_ => by first | exact ⟨hk_.1.1, hk_.1.2⟩ | (refine ⟨?_, ?_⟩ <;> (first | exact hk_.2 | exact hk_.1 | exact hk_.1.1 | exact hk_.2.2 | exact hk_.2.1 | exact hk_.1.2 | exact hk_.2.2.2 | exact hk_.1.2.1 | exact hk_.1.1.2 | exact hk_.1.2.2 | exact hk_.1.1.1 | exact hk_.2.2.1 | exact hk_.2.2.2.2 | exact hk_.2.2.2.1 | exact hk_.1.1.1.1 | exact hk_.1.1.2.2 | exact hk_.1.1.1.2 | exact hk_.1.2.2.1 | exact hk_.1.1.2.1 | exact hk_.1.2.2.2 | exact hk_.1.1.2.2.1 | exact hk_.2.2.2.2.1 | exact hk_.1.1.2.2.2 | exact hk_.1.1.1.1.1 | exact hk_.1.1.1.2.1 | exact hk_.1.1.1.2.2 | exact hk_.1.1.1.1.2 | exact hk_.1.2.2.2.2 | exact hk_.1.2.2.2.1 | exact hk_.1.1.2.2.2.2 | exact hk_.1.1.1.1.1.2 | exact hk_.1.1.1.2.2.2 | exact hk_.1.1.1.2.2.1 | exact hk_.1.1.1.1.2.2 | exact hk_.1.1.1.1.1.1 | exact hk_.1.1.1.1.2.1 | exact hk_.1.2.2.2.2.1 | exact hk_.1.1.2.2.2.1 | exact hk_.1.1.1.2.2.2.1 | exact hk_.1.1.1.2.2.2.2 | exact hk_.1.1.1.1.2.2.2 | exact hk_.1.1.1.1.2.2.1 | exact hk_.1.1.1.1.1.2.1 | exact hk_.1.1.1.1.1.2.2 | exact hk_.1.1.2.2.2.2.1 | exact hk_.1.1.1.1.1.2.2.1 | exact hk_.1.1.1.2.2.2.2.1 | exact hk_.1.1.1.1.1.2.2.2 | exact hk_.1.1.1.1.2.2.2.1 | exact hk_.1.1.1.1.2.2.2.2 | exact hk_.1.1.1.1.1.2.2.2.2 | exact hk_.1.1.1.1.2.2.2.2.1 | exact hk_.1.1.1.1.1.2.2.2.1 | exact hk_.1.1.1.1.1.2.2.2.2.1)))); have n3_ := Aside0.mk (blk_kept (zz27 BK556) hkp (fun hs_ => (fun e_ => (Kd.R_ne HO_8.out BK556.out (by decide)) e_) hs_)); have n4_ := Aside0.mk (blk_kept (zz27 BK573) hkp (fun hs_ => (fun e_ => (Kd.R_ne HO_8.out BK573.out (by decide)) e_) hs_)); have n5_ := Aside0.mk (hb); clear HO_6; clear HO_8; clear HO_574001; clear BK556; clear BK573; clear HB; have HO_6 := n0_; have HO_8 := n1_; have HO_574001 := n2_; have BK556 := n3_; have BK573 := n4_; have HB := n5_; clear n0_ n1_ n2_ n3_ n4_ n5_; (try clear hb)) | ((with_reducible refine gate_callee (f := 15) rfl ?_); refine goesL_ (some 55) rfl rfl Tryz.func15 (by kernel_rfl) rfl #[.slice Ao37 t589.length co37, .int .i64 1] rfl (zz185 HO_8) ?_; (with_reducible refine (laws_heldStringS.calls kj19 _ _ t589 1 t590 _ ?side1 ?side2 A49.out).mono ?_); (case side1 => exact (zz44 HO_8)); (case side2 => exact (zz186 HO_8)); rintro e w89 ⟨rfl, hb⟩; refine ⟨_, rfl, ?_⟩; have n0_ := Aside0.mk (Kd.R_below (zz9 HO_6) hb); have n1_ := Aside0.mk (Kd.R_below (zz9 HO_8) hb); have n2_ := Aside0.mk (Kd.R_below (zz9 HO_574001) hb); have n3_ := Aside0.mk (blk_below (zz27 BK556) hb); have n4_ := Aside0.mk (blk_below (zz27 BK573) hb); have n5_ := Aside0.mk (below_step (zz38 HB GE556 GE573) hb); clear HO_6; clear HO_8; clear HO_574001; clear BK556; clear BK573; clear HB; have HO_6 := n0_; have HO_8 := n1_; have HO_574001 := n2_; have BK556 := n3_; have BK573 := n4_; have HB := n5_; clear n0_ n1_ n2_ n3_ n4_ n5_; (try clear hb); have hnb90 := NB556_573.out; have hnc90 := NB573_556.out; obtain ⟨_, _, _, _, _, _, _, _⟩ := cf4 BK556) | ((with_reducible refine gate_callee (f := 9) rfl ?_); refine gsL (some 62) Tryz.func9 #[.agg #[.string a0_0, .slice A0_1 l0_1.length c0_1, .bool a0_2, .string a0_3]] ?_; (with_reducible refine (laws_toAddr.calls kj19 a0_0 _ _ l0_1 a0_2 a0_3 t591 t592 t595 t596 _ ?side1 ?side2 A54.out).mono ?_); (case side1 => exact (zz7 HR0_1 HB)); (case side2 => exact HC0_1.out); rintro e w92 ⟨v593, rfl, ho0, hb⟩; refine ⟨_, rfl, ?_⟩; have n0_ := Aside0.mk (Kd.R_elder' (zz9 HO_6) (Kd.R_base ho0) hb); have n1_ := Aside0.mk (Kd.R_elder' (zz9 HO_8) (Kd.R_base ho0) hb); have n2_ := Aside0.mk (Kd.R_elder' (zz9 HO_574001) (Kd.R_base ho0) hb); have n3_ := Aside0.mk (Kd.R_lower (Kd.R_new' (Kd.R_new' (Kd.R_new' ho0 (Kd.R_lt (zz9 HO_6))) (Kd.R_lt (zz9 HO_8))) (Kd.R_lt (zz9 HO_574001))) (below_size (zz38 HB GE556 GE573))); have n4_ := Aside0.mk (blk_below (zz27 BK556) hb); have n5_ := Aside0.mk (blk_below (zz27 BK573) hb); have n6_ := Aside0.mk (below_step (zz38 HB GE556 GE573) hb); clear HO_6; clear HO_8; clear HO_574001; clear BK556; clear BK573; clear HB; have HO_6 := n0_; have HO_8 := n1_; have HO_574001 := n2_; have HO594 := n3_; have BK556 := n4_; have BK573 := n5_; have HB := n6_; clear n0_ n1_ n2_ n3_ n4_ n5_ n6_; (try clear hb ho0); obtain ⟨Ao93, co93, eo93⟩ := Kd.R_slice HO594.out; subst eo93) | ((with_reducible refine gate_callee (f := 10) rfl ?_); refine gsL (some 64) Tryz.func10 #[.agg #[.string t591, .slice Ao93 t592.length co93, .bool t595, .string t596], .string a1] ?_; (with_reducible refine (impl_PageAddrs.calls kj19 t591 (fun k_ => some k_ = (.slice Ao93 t592.length co93 : Value).ownBlock) _ _ t592 t595 t596 a1 t597 _ ?side1 A55.out).mono ?_); (case side1 => exact Kd.R_V (Kd.R_tight rfl (Kd.R_types (Kd.R_types (HO594.out) BK556.out (by decide)) BK573.out (by decide)))); rintro e w94 ⟨v598, rfl, ho0, hb⟩; refine ⟨_, rfl, ?_⟩; have n0_ := Aside0.mk (Kd.R_elder' (zz9 HO_6) (Kd.R_base ho0) hb); have n1_ := Aside0.mk (Kd.R_elder' (zz9 HO_8) (Kd.R_base ho0) hb); have n2_ := Aside0.mk (Kd.R_elder' (zz9 HO_574001) (Kd.R_base ho0) hb); have n3_ := Aside0.mk (Kd.R_elder' (zz9 HO594) (Kd.R_base ho0) hb); have n4_ := Aside0.mk (Kd.R_lower (Kd.R_new' (Kd.R_new' (Kd.R_new' (Kd.R_new' (Kd.R_mono (ok' := fun k_ => True) ho0 (fun _ hk_ => trivial)) (Kd.R_lt (zz9 HO_6))) (Kd.R_lt (zz9 HO_8))) (Kd.R_lt (zz9 HO_574001))) (Kd.R_lt (zz9 HO594))) (below_size (zz38 HB GE556 GE573))); have n5_ := Aside0.mk (blk_below (zz27 BK556) hb); have n6_ := Aside0.mk (blk_below (zz27 BK573) hb); have n7_ := Aside0.mk (below_step (zz38 HB GE556 GE573) hb); clear HO_6; clear HO_8; clear HO_574001; clear HO594; clear BK556; clear BK573; clear HB; have HO_6 := n0_; have HO_8 := n1_; have HO_574001 := n2_; have HO594 := n3_; have HO599 := n4_; have BK556 := n5_; have BK573 := n6_; have HB := n7_; clear n0_ n1_ n2_ n3_ n4_ n5_ n6_ n7_; (try clear hb ho0); obtain ⟨Ao95, co95, eo95⟩ := Kd.R_slice HO599.out; subst eo95) | ((with_reducible refine gate_callee (f := 11) rfl ?_); refine gsL (some 67) Tryz.func11 #[.slice Ao95 t597.length co95, .slice Ao38 t564.length co38] ?_; (with_reducible refine (laws_eqStringS.calls kj19 _ _ t597 _ _ t564 false _ ?side1 ?side2 ?side3 ?side4 A56.out).mono ?_); (case side1 => exact (zz44 HO599)); (case side2 => exact (Kd.R_reads' HO599.out).2.1); (case side3 => exact (zz44 HO_6)); (case side4 => exact (Kd.R_reads' HO_6.out).2.1); rintro e w' ⟨rfl, ⟨nd, rfl⟩⟩; refine ⟨_, rfl, ?_⟩))
           go_ret
           exact ⟨zz5, (zz38 HB GE556 GE573)⟩
         ·rw [if_neg c53] at H
          have c53b0 : (t590 == t588) = false := beq_eq_false_iff_ne.mpr c53;have c53b1 : (t590 != t588) = true := bne_iff_ne.mpr c53;obtain rfl := Option.some.inj H;go_wp2_with (first | ((with_reducible refine gate_callee (f := 14) rfl ?_); refine gsL (some 52) Tryz.func14 #[.slice Ao37 t574.length co37, .int .i64 1] ?_; (with_reducible refine (laws_markStringS.calls kj19 (fun k_ => some k_ = (.slice Ao37 t574.length co37 : Value).ownBlock) (.slice Ao37 t574.length co37) t574 1 t588 t589 w _ ?side1 ?side2 A48.out).mono ?_); (case side1 => exact (zz38 HB GE556 GE573)); (case side2 => exact Kd.R_tight rfl HO_8.out); rintro e w96 ⟨rfl, hy0, hb, hkp⟩; refine ⟨_, rfl, ?_⟩; have n0_ := Aside0.mk (Kd.R_mono (ok' := fun k_ => some k_ ≠ (.slice Ao37 t574.length co37 : Value).ownBlock ∧ some k_ ≠ (.slice Ao33 t586.length co33 : Value).ownBlock) (Kd.R_keptB (HO_6.out) hkp (fun k_ hk_ hs_ => by first | exact (hk_.1) hs_ | (first | exact hk_.2 hs_ | exact hk_.1 hs_ | exact hk_.1.1 hs_ | exact hk_.2.2 hs_ | exact hk_.2.1 hs_ | exact hk_.1.2 hs_ | exact hk_.2.2.2 hs_ | exact hk_.1.2.1 hs_ | exact hk_.1.1.2 hs_ | exact hk_.1.2.2 hs_ | exact hk_.1.1.1 hs_ | exact hk_.2.2.1 hs_ | exact hk_.2.2.2.2 hs_ | exact hk_.2.2.2.1 hs_ | exact hk_.1.1.1.1 hs_ | exact hk_.1.1.2.2 hs_ | exact hk_.1.1.1.2 hs_ | exact hk_.1.2.2.1 hs_ | exact hk_.1.1.2.1 hs_ | exact hk_.1.2.2.2 hs_ | exact hk_.1.1.2.2.1 hs_ | exact hk_.2.2.2.2.1 hs_ | exact hk_.1.1.2.2.2 hs_ | exact hk_.1.1.1.1.1 hs_ | exact hk_.1.1.1.2.1 hs_ | exact hk_.1.1.1.2.2 hs_ | exact hk_.1.1.1.1.2 hs_ | exact hk_.1.2.2.2.2 hs_ | exact hk_.1.2.2.2.1 hs_ | exact hk_.1.1.2.2.2.2 hs_ | exact hk_.1.1.1.1.1.2 hs_ | exact hk_.1.1.1.2.2.2 hs_ | exact hk_.1.1.1.2.2.1 hs_ | exact hk_.1.1.1.1.2.2 hs_ | exact hk_.1.1.1.1.1.1 hs_ | exact hk_.1.1.1.1.2.1 hs_ | exact hk_.1.2.2.2.2.1 hs_ | exact hk_.1.1.2.2.2.1 hs_ | exact hk_.1.1.1.2.2.2.1 hs_ | exact hk_.1.1.1.2.2.2.2 hs_ | exact hk_.1.1.1.1.2.2.2 hs_ | exact hk_.1.1.1.1.2.2.1 hs_ | exact hk_.1.1.1.1.1.2.1 hs_ | exact hk_.1.1.1.1.1.2.2 hs_ | exact hk_.1.1.2.2.2.2.1 hs_ | exact hk_.1.1.1.1.1.2.2.1 hs_ | exact hk_.1.1.1.2.2.2.2.1 hs_ | exact hk_.1.1.1.1.1.2.2.2 hs_ | exact hk_.1.1.1.1.2.2.2.1 hs_ | exact hk_.1.1.1.1.2.2.2.2 hs_ | exact hk_.1.1.1.1.1.2.2.2.2 hs_ | exact hk_.1.1.1.1.2.2.2.2.1 hs_ | exact hk_.1.1.1.1.1.2.2.2.1 hs_ | exact hk_.1.1.1.1.1.2.2.2.2.1 hs_))) (fun k_ hk_ => by first | exact ⟨hk_.1.1, hk_.1.2⟩ | (refine ⟨?_, ?_⟩ <;> (first | exact hk_.2 | exact hk_.1 | exact hk_.1.1 | exact hk_.2.2 | exact hk_.2.1 | exact hk_.1.2 | exact hk_.2.2.2 | exact hk_.1.2.1 | exact hk_.1.1.2 | exact hk_.1.2.2 | exact hk_.1.1.1 | exact hk_.2.2.1 | exact hk_.2.2.2.2 | exact hk_.2.2.2.1 | exact hk_.1.1.1.1 | exact hk_.1.1.2.2 | exact hk_.1.1.1.2 | exact hk_.1.2.2.1 | exact hk_.1.1.2.1 | exact hk_.1.2.2.2 | exact hk_.1.1.2.2.1 | exact hk_.2.2.2.2.1 | exact hk_.1.1.2.2.2 | exact hk_.1.1.1.1.1 | exact hk_.1.1.1.2.1 | exact hk_.1.1.1.2.2 | exact hk_.1.1.1.1.2 | exact hk_.1.2.2.2.2 | exact hk_.1.2.2.2.1 | exact hk_.1.1.2.2.2.2 | exact hk_.1.1.1.1.1.2 | exact hk_.1.1.1.2.2.2 | exact hk_.1.1.1.2.2.1 | exact hk_.1.1.1.1.2.2 | exact hk_.1.1.1.1.1.1 | exact hk_.1.1.1.1.2.1 | exact hk_.1.2.2.2.2.1 | exact hk_.1.1.2.2.2.1 | exact hk_.1.1.1.2.2.2.1 | exact hk_.1.1.1.2.2.2.2 | exact hk_.1.1.1.1.2.2.2 | exact hk_.1.1.1.1.2.2.1 | exact hk_.1.1.1.1.1.2.1 | exact hk_.1.1.1.1.1.2.2 | exact hk_.1.1.2.2.2.2.1 | exact hk_.1.1.1.1.1.2.2.1 | exact hk_.1.1.1.2.2.2.2.1 | exact hk_.1.1.1.1.1.2.2.2 | exact hk_.1.1.1.1.2.2.2.1 | exact hk_.1.1.1.1.2.2.2.2 | exact hk_.1.1.1.1.1.2.2.2.2 | exact hk_.1.1.1.1.2.2.2.2.1 | exact hk_.1.1.1.1.1.2.2.2.1 | exact hk_.1.1.1.1.1.2.2.2.2.1)))); have n1_ := Aside0.mk (Kd.R_reok rfl hy0 (fun k_ e_ => HO_8.out.1 k_ e_)); have n2_ := Aside0.mk (Kd.R_mono (ok' := fun k_ => some k_ ≠ (.slice Ao38 t564.length co38 : Value).ownBlock ∧ some k_ ≠ (.slice Ao37 t574.length co37 : Value).ownBlock) (Kd.R_keptB (HO_574001.out) hkp (fun k_ hk_ hs_ => by first | exact (hk_.2) hs_ | (first | exact hk_.2 hs_ | exact hk_.1 hs_ | exact hk_.1.1 hs_ | exact hk_.2.2 hs_ | exact hk_.2.1 hs_ | exact hk_.1.2 hs_ | exact hk_.2.2.2 hs_ | exact hk_.1.2.1 hs_ | exact hk_.1.1.2 hs_ | exact hk_.1.2.2 hs_ | exact hk_.1.1.1 hs_ | exact hk_.2.2.1 hs_ | exact hk_.2.2.2.2 hs_ | exact hk_.2.2.2.1 hs_ | exact hk_.1.1.1.1 hs_ | exact hk_.1.1.2.2 hs_ | exact hk_.1.1.1.2 hs_ | exact hk_.1.2.2.1 hs_ | exact hk_.1.1.2.1 hs_ | exact hk_.1.2.2.2 hs_ | exact hk_.1.1.2.2.1 hs_ | exact hk_.2.2.2.2.1 hs_ | exact hk_.1.1.2.2.2 hs_ | exact hk_.1.1.1.1.1 hs_ | exact hk_.1.1.1.2.1 hs_ | exact hk_.1.1.1.2.2 hs_ | exact hk_.1.1.1.1.2 hs_ | exact hk_.1.2.2.2.2 hs_ | exact hk_.1.2.2.2.1 hs_ | exact hk_.1.1.2.2.2.2 hs_ | exact hk_.1.1.1.1.1.2 hs_ | exact hk_.1.1.1.2.2.2 hs_ | exact hk_.1.1.1.2.2.1 hs_ | exact hk_.1.1.1.1.2.2 hs_ | exact hk_.1.1.1.1.1.1 hs_ | exact hk_.1.1.1.1.2.1 hs_ | exact hk_.1.2.2.2.2.1 hs_ | exact hk_.1.1.2.2.2.1 hs_ | exact hk_.1.1.1.2.2.2.1 hs_ | exact hk_.1.1.1.2.2.2.2 hs_ | exact hk_.1.1.1.1.2.2.2 hs_ | exact hk_.1.1.1.1.2.2.1 hs_ | exact hk_.1.1.1.1.1.2.1 hs_ | exact hk_.1.1.1.1.1.2.2 hs_ | exact hk_.1.1.2.2.2.2.1 hs_ | exact hk_.1.1.1.1.1.2.2.1 hs_ | exact hk_.1.1.1.2.2.2.2.1 hs_ | exact hk_.1.1.1.1.1.2.2.2 hs_ | exact hk_.1.1.1.1.2.2.2.1 hs_ | exact hk_.1.1.1.1.2.2.2.2 hs_ | exact hk_.1.1.1.1.1.2.2.2.2 hs_ | exact hk_.1.1.1.1.2.2.2.2.1 hs_ | exact hk_.1.1.1.1.1.2.2.2.1 hs_ | exact hk_.1.1.1.1.1.2.2.2.2.1 hs_))) (fun k_ hk_ => by first | exact ⟨hk_.1.1, hk_.1.2⟩ | (refine ⟨?_, ?_⟩ <;> (first | exact hk_.2 | exact hk_.1 | exact hk_.1.1 | exact hk_.2.2 | exact hk_.2.1 | exact hk_.1.2 | exact hk_.2.2.2 | exact hk_.1.2.1 | exact hk_.1.1.2 | exact hk_.1.2.2 | exact hk_.1.1.1 | exact hk_.2.2.1 | exact hk_.2.2.2.2 | exact hk_.2.2.2.1 | exact hk_.1.1.1.1 | exact hk_.1.1.2.2 | exact hk_.1.1.1.2 | exact hk_.1.2.2.1 | exact hk_.1.1.2.1 | exact hk_.1.2.2.2 | exact hk_.1.1.2.2.1 | exact hk_.2.2.2.2.1 | exact hk_.1.1.2.2.2 | exact hk_.1.1.1.1.1 | exact hk_.1.1.1.2.1 | exact hk_.1.1.1.2.2 | exact hk_.1.1.1.1.2 | exact hk_.1.2.2.2.2 | exact hk_.1.2.2.2.1 | exact hk_.1.1.2.2.2.2 | exact hk_.1.1.1.1.1.2 | exact hk_.1.1.1.2.2.2 | exact hk_.1.1.1.2.2.1 | exact hk_.1.1.1.1.2.2 | exact hk_.1.1.1.1.1.1 | exact hk_.1.1.1.1.2.1 | exact hk_.1.2.2.2.2.1 | exact hk_.1.1.2.2.2.1 | exact hk_.1.1.1.2.2.2.1 | exact hk_.1.1.1.2.2.2.2 | exact hk_.1.1.1.1.2.2.2 | exact hk_.1.1.1.1.2.2.1 | exact hk_.1.1.1.1.1.2.1 | exact hk_.1.1.1.1.1.2.2 | exact hk_.1.1.2.2.2.2.1 | exact hk_.1.1.1.1.1.2.2.1 | exact hk_.1.1.1.2.2.2.2.1 | exact hk_.1.1.1.1.1.2.2.2 | exact hk_.1.1.1.1.2.2.2.1 | exact hk_.1.1.1.1.2.2.2.2 | exact hk_.1.1.1.1.1.2.2.2.2 | exact hk_.1.1.1.1.2.2.2.2.1 | exact hk_.1.1.1.1.1.2.2.2.1 | exact hk_.1.1.1.1.1.2.2.2.2.1)))); have n3_ := Aside0.mk (blk_kept (zz27 BK556) hkp (fun hs_ => (fun e_ => (Kd.R_ne HO_8.out BK556.out (by decide)) e_) hs_)); have n4_ := Aside0.mk (blk_kept (zz27 BK573) hkp (fun hs_ => (fun e_ => (Kd.R_ne HO_8.out BK573.out (by decide)) e_) hs_)); have n5_ := Aside0.mk (hb); clear HO_6; clear HO_8; clear HO_574001; clear BK556; clear BK573; clear HB; have HO_6 := n0_; have HO_8 := n1_; have HO_574001 := n2_; have BK556 := n3_; have BK573 := n4_; have HB := n5_; clear n0_ n1_ n2_ n3_ n4_ n5_; (try clear hb)) | ((with_reducible refine gate_callee (f := 15) rfl ?_); refine goesL_ (some 55) rfl rfl Tryz.func15 (by kernel_rfl) rfl #[.slice Ao37 t589.length co37, .int .i64 1] rfl (zz185 HO_8) ?_; (with_reducible refine (laws_heldStringS.calls kj19 _ _ t589 1 t590 _ ?side1 ?side2 A49.out).mono ?_); (case side1 => exact (zz44 HO_8)); (case side2 => exact (zz186 HO_8)); rintro e w97 ⟨rfl, hb⟩; refine ⟨_, rfl, ?_⟩; have n0_ := Aside0.mk (Kd.R_below (zz9 HO_6) hb); have n1_ := Aside0.mk (Kd.R_below (zz9 HO_8) hb); have n2_ := Aside0.mk (Kd.R_below (zz9 HO_574001) hb); have n3_ := Aside0.mk (blk_below (zz27 BK556) hb); have n4_ := Aside0.mk (blk_below (zz27 BK573) hb); have n5_ := Aside0.mk (below_step (zz38 HB GE556 GE573) hb); clear HO_6; clear HO_8; clear HO_574001; clear BK556; clear BK573; clear HB; have HO_6 := n0_; have HO_8 := n1_; have HO_574001 := n2_; have BK556 := n3_; have BK573 := n4_; have HB := n5_; clear n0_ n1_ n2_ n3_ n4_ n5_; (try clear hb)))
          go_ret
          exact ⟨zz5, (zz38 HB GE556 GE573)⟩
    ·replace c18 := Bool.eq_false_iff.mpr c18
     subst c18;rw [if_neg (show ¬ (false = true) by decide)] at H;obtain rfl := Option.some.inj H;go_enter Tryz.func3, Tryz.ntmps3;try go_wp2_with (first | ((with_reducible refine gate_dst (N := 2) rfl ?_); refine boxE 2 #[.string a0_0, .slice A0_1 l0_1.length c0_1, .bool a0_2, .string a0_3] 24 ?_; intro gb556 hg w98 hbox hb; have n0_ := Aside0.mk (below_step (zz4 HB) hb); have n1_ := Aside0.mk (hbox); have n2_ := Aside0.mk ((by rw [hg]; exact (below_size (zz4 HB)) : w.heap.size ≤ gb556)); have n3_ := Aside0.mk ((by rw [hg]; exact (below_size (zz4 HB)) : w.heap.size ≤ gb556)); clear HB; have HB := n0_; have BK556 := n1_; have GW556 := n2_; have GE556 := n3_; clear n0_ n1_ n2_ n3_; clear hb hbox hg; obtain ⟨_, _, _, _, _, _, _, _⟩ := cf4 BK556) | ((with_reducible refine gate_callee (f := 7) rfl ?_); refine gsL (some 18) Tryz.func7 #[.agg #[.string a0_0, .slice A0_1 l0_1.length c0_1, .bool a0_2, .string a0_3], .int .i64 1048576] ?_; (with_reducible refine (laws_szAddr.calls k a0_0 _ _ l0_1 a0_2 a0_3 1048576 t557 _ ?side1 ?side2 A5.out).mono ?_); (case side1 => exact (zz7 HR0_1 HB)); (case side2 => exact HC0_1.out); rintro e w100 ⟨rfl, hb⟩; refine ⟨_, rfl, ?_⟩; have n0_ := Aside0.mk (blk_below (zz27 BK556) hb); have n1_ := Aside0.mk (below_step (zz6 HB GE556) hb); clear BK556; clear HB; have BK556 := n0_; have HB := n1_; clear n0_ n1_; (try clear hb); obtain ⟨_, _, _, _, _, _, _, _⟩ := cf4 BK556) | ((with_reducible refine gate_callee (f := 9) rfl ?_); refine gsL (some 22) Tryz.func9 #[.agg #[.string a0_0, .slice A0_1 l0_1.length c0_1, .bool a0_2, .string a0_3]] ?_; (with_reducible refine (laws_toAddr.calls k a0_0 _ _ l0_1 a0_2 a0_3 t558 t559 t562 t563 _ ?side1 ?side2 A10.out).mono ?_); (case side1 => exact (zz7 HR0_1 HB)); (case side2 => exact HC0_1.out); rintro e w102 ⟨v560, rfl, ho0, hb⟩; refine ⟨_, rfl, ?_⟩; have n0_ := Aside0.mk (Kd.R_lower ho0 (below_size (zz6 HB GE556))); have n1_ := Aside0.mk (blk_below (zz27 BK556) hb); have n2_ := Aside0.mk (below_step (zz6 HB GE556) hb); clear BK556; clear HB; have HO561 := n0_; have BK556 := n1_; have HB := n2_; clear n0_ n1_ n2_; (try clear hb ho0); obtain ⟨Ao103, co103, eo103⟩ := Kd.R_slice HO561.out; subst eo103) | ((with_reducible refine gate_callee (f := 8) rfl ?_); refine gsL (some 24) Tryz.func8 #[.agg #[.string t558, .slice Ao103 t559.length co103, .bool t562, .string t563], .string a1] ?_; (with_reducible refine (spec_PageAddrs.calls k t558 (fun k_ => some k_ = (.slice Ao103 t559.length co103 : Value).ownBlock) _ _ t559 t562 t563 a1 t564 _ ?side1 A11.out).mono ?_); (case side1 => exact Kd.R_V (Kd.R_tight rfl (Kd.R_types (HO561.out) BK556.out (by decide)))); rintro e w104 ⟨v565, rfl, ho0, hb⟩; refine ⟨_, rfl, ?_⟩; have n0_ := Aside0.mk (Kd.R_elder' (zz9 HO561) (Kd.R_base ho0) hb); have n1_ := Aside0.mk (Kd.R_lower (Kd.R_new' (Kd.R_mono (ok' := fun k_ => True) ho0 (fun _ hk_ => trivial)) (Kd.R_lt (zz9 HO561))) (below_size (zz6 HB GE556))); have n2_ := Aside0.mk (blk_below (zz27 BK556) hb); have n3_ := Aside0.mk (below_step (zz6 HB GE556) hb); clear HO561; clear BK556; clear HB; have HO561 := n0_; have HO566 := n1_; have BK556 := n2_; have HB := n3_; clear n0_ n1_ n2_ n3_; (try clear hb ho0); obtain ⟨_, _, _, _, _, _, _, _⟩ := cf4 BK556) | ((with_reducible refine gate_callee (f := 9) rfl ?_); refine gsL (some 26) Tryz.func9 #[.agg #[.string a0_0, .slice A0_1 l0_1.length c0_1, .bool a0_2, .string a0_3]] ?_; (with_reducible refine (laws_toAddr.calls k a0_0 _ _ l0_1 a0_2 a0_3 t567 t568 t571 t572 _ ?side1 ?side2 A12.out).mono ?_); (case side1 => exact (zz7 HR0_1 HB)); (case side2 => exact HC0_1.out); rintro e w106 ⟨v569, rfl, ho0, hb⟩; refine ⟨_, rfl, ?_⟩; have n0_ := Aside0.mk (Kd.R_elder' (zz9 HO561) (Kd.R_base ho0) hb); have n1_ := Aside0.mk (Kd.R_elder' (zz9 HO566) (Kd.R_base ho0) hb); have n2_ := Aside0.mk (Kd.R_lower (Kd.R_new' (Kd.R_new' ho0 (Kd.R_lt (zz9 HO561))) (Kd.R_lt (zz9 HO566))) (below_size (zz6 HB GE556))); have n3_ := Aside0.mk (blk_below (zz27 BK556) hb); have n4_ := Aside0.mk (below_step (zz6 HB GE556) hb); clear HO561; clear HO566; clear BK556; clear HB; have HO561 := n0_; have HO566 := n1_; have HO570 := n2_; have BK556 := n3_; have HB := n4_; clear n0_ n1_ n2_ n3_ n4_; (try clear hb ho0)) | ((with_reducible refine gate_dst (N := 7) rfl ?_); refine boxE 7 #[.string (⟨#[]⟩ : ByteArray), .slice none 0 0, .bool false, .string (⟨#[]⟩ : ByteArray)] 27 ?_; intro gb573 hg w107 hbox hb; have n0_ := Aside0.mk (Kd.R_below (zz9 HO561) hb); have n1_ := Aside0.mk (Kd.R_below (zz9 HO566) hb); have n2_ := Aside0.mk (Kd.R_below (zz9 HO570) hb); have n3_ := Aside0.mk (blk_below (zz27 BK556) hb); have n4_ := Aside0.mk (below_step (zz6 HB GE556) hb); have n5_ := Aside0.mk (hbox); have n6_ := Aside0.mk ((by rw [hg]; exact (below_size (zz6 HB GE556)) : w.heap.size ≤ gb573)); have n7_ := Aside0.mk ((by rw [hg]; exact (below_size (zz6 HB GE556)) : w.heap.size ≤ gb573)); have n8_ := Aside0.mk ((by rw [hg]; exact Nat.ne_of_lt (blk_lt (zz27 BK556)) : gb556 ≠ gb573)); have n9_ := Aside0.mk ((by rw [hg]; exact Nat.ne_of_gt (blk_lt (zz27 BK556)) : gb573 ≠ gb556)); clear HO561; clear HO566; clear HO570; clear BK556; clear HB; have HO561 := n0_; have HO566 := n1_; have HO570 := n2_; have BK556 := n3_; have HB := n4_; have BK573 := n5_; have GW573 := n6_; have GE573 := n7_; have NB556_573 := n8_; have NB573_556 := n9_; clear n0_ n1_ n2_ n3_ n4_ n5_ n6_ n7_ n8_ n9_; clear hb hbox hg; have hnb108 := NB573_556.out; have hnc108 := NB556_573.out; obtain ⟨_, _, _, _, _, _, _, _⟩ := cf4 BK573; obtain ⟨Ao110, co110, eo110⟩ := Kd.R_slice HO570.out; subst eo110) | ((with_reducible refine gate_store (t := 27) (p := 7) rfl ?_); refine store_event (t := 27) (p := 7) (v := ?vo_w111) (w1 := ((((w107.setCell ⟨gb573, 0, none⟩ (.string t567)).setCell ⟨gb573, 1, none⟩ (.slice Ao110 t568.length co110)).setCell ⟨gb573, 2, none⟩ (.bool t571)).setCell ⟨gb573, 3, none⟩ (.string t572))) ?hg ?ho ?hn ?hr ?_; (case ho => rfl); (case hg => rfl); (case hn => rfl); (case hr => exact zz8); intro w111 hw; have n0_ : Aside0 (Kd.R Kd.string 9 w111 w.heap.size (fun k_ => some k_ ≠ (v565 : Value).ownBlock ∧ some k_ ≠ (.slice Ao110 t568.length co110 : Value).ownBlock) (.slice Ao103 t559.length co103) t559) := ⟨zz166⟩; have n1_ : Aside0 (Kd.R Kd.string 9 w111 w.heap.size (fun k_ => some k_ ≠ (.slice Ao103 t559.length co103 : Value).ownBlock ∧ some k_ ≠ (.slice Ao110 t568.length co110 : Value).ownBlock) v565 t564) := ⟨zz167⟩; have n2_ : Aside0 (Kd.R Kd.string 9 w111 w.heap.size (fun k_ => some k_ ≠ (.slice Ao103 t559.length co103 : Value).ownBlock ∧ some k_ ≠ (v565 : Value).ownBlock) (.slice Ao110 t568.length co110) t568) := ⟨zz168⟩; have n3_ : Aside0 (w111.heap[gb556]? = some (.cells #[.string a0_0, .slice A0_1 l0_1.length c0_1, .bool a0_2, .string a0_3] 24 (0, 0))) := ⟨zz169⟩; have n4_ : Aside0 (w111.heap[gb573]? = some (.cells #[.string t567, .slice Ao110 t568.length co110, .bool t571, .string t572] 27 (0, 0))) := ⟨(by rw [hw]; exact (zz42 BK573))⟩; have n5_ : Aside0 (Below w.heap.size w w111) := ⟨zz171⟩; clear hw; clear HO561; clear HO566; clear HO570; clear BK556; clear BK573; clear HB; have HO561 := n0_; have HO566 := n1_; have HO570 := n2_; have BK556 := n3_; have BK573 := n4_; have HB := n5_; clear n0_ n1_ n2_ n3_ n4_ n5_; obtain ⟨_, _, _, _, _, _, _, _⟩ := cf4 BK573) | ((with_reducible refine gate_callee (f := 10) rfl ?_); refine gsL (some 29) Tryz.func10 #[.agg #[.string t567, .slice Ao110 t568.length co110, .bool t571, .string t572], .string a1] ?_; (with_reducible refine (impl_PageAddrs.calls k t567 (fun k_ => some k_ = (.slice Ao110 t568.length co110 : Value).ownBlock) _ _ t568 t571 t572 a1 t574 _ ?side1 A13.out).mono ?_); (case side1 => exact Kd.R_V (Kd.R_tight rfl (Kd.R_types (Kd.R_types (HO570.out) BK556.out (by decide)) BK573.out (by decide)))); rintro e w113 ⟨v575, rfl, ho0, hb⟩; refine ⟨_, rfl, ?_⟩; have n0_ := Aside0.mk (Kd.R_elder' (zz9 HO561) (Kd.R_base ho0) hb); have n1_ := Aside0.mk (Kd.R_elder' (zz9 HO566) (Kd.R_base ho0) hb); have n2_ := Aside0.mk (Kd.R_elder' (zz9 HO570) (Kd.R_base ho0) hb); have n3_ := Aside0.mk (Kd.R_lower (Kd.R_new' (Kd.R_new' (Kd.R_new' (Kd.R_mono (ok' := fun k_ => True) ho0 (fun _ hk_ => trivial)) (Kd.R_lt (zz9 HO561))) (Kd.R_lt (zz9 HO566))) (Kd.R_lt (zz9 HO570))) (below_size (zz38 HB GE556 GE573))); have n4_ := Aside0.mk (blk_below (zz27 BK556) hb); have n5_ := Aside0.mk (blk_below (zz27 BK573) hb); have n6_ := Aside0.mk (below_step (zz38 HB GE556 GE573) hb); clear HO561; clear HO566; clear HO570; clear BK556; clear BK573; clear HB; have HO561 := n0_; have HO566 := n1_; have HO570 := n2_; have HO576 := n3_; have BK556 := n4_; have BK573 := n5_; have HB := n6_; clear n0_ n1_ n2_ n3_ n4_ n5_ n6_; (try clear hb ho0); obtain ⟨Ao114, co114, eo114⟩ := Kd.R_slice HO576.out; subst eo114; obtain ⟨Ao115, co115, eo115⟩ := Kd.R_slice HO566.out; subst eo115) | ((with_reducible refine gate_callee (f := 11) rfl ?_); refine gsL (some 32) Tryz.func11 #[.slice Ao114 t574.length co114, .slice Ao115 t564.length co115] ?_; (with_reducible refine (laws_eqStringS.calls k _ _ t574 _ _ t564 true _ ?side1 ?side2 ?side3 ?side4 A14.out).mono ?_); (case side1 => exact (zz44 HO576)); (case side2 => exact (Kd.R_reads' HO576.out).2.1); (case side3 => exact (zz44 HO566)); (case side4 => exact (Kd.R_reads' HO566.out).2.1); rintro e w' ⟨rfl, ⟨nd, rfl⟩⟩; refine ⟨_, rfl, ?_⟩))
     (try (rw [drewN_self w113]; generalize hq_ : World.drewN w113 _ = w113; have n0_ : Aside0 (Kd.R Kd.string 9 w113 w.heap.size (fun k_ => some k_ ≠ (.slice Ao115 t564.length co115 : Value).ownBlock ∧ some k_ ≠ (.slice Ao110 t568.length co110 : Value).ownBlock ∧ some k_ ≠ (.slice Ao114 t574.length co114 : Value).ownBlock) (.slice Ao103 t559.length co103) t559) := ⟨(by rw [← hq_]; exact (zz172 HO561))⟩; have n1_ : Aside0 (Kd.R Kd.string 9 w113 w.heap.size (fun k_ => some k_ ≠ (.slice Ao103 t559.length co103 : Value).ownBlock ∧ some k_ ≠ (.slice Ao110 t568.length co110 : Value).ownBlock ∧ some k_ ≠ (.slice Ao114 t574.length co114 : Value).ownBlock) (.slice Ao115 t564.length co115) t564) := ⟨(by rw [← hq_]; exact (zz172 HO566))⟩; have n2_ : Aside0 (Kd.R Kd.string 9 w113 w.heap.size (fun k_ => some k_ ≠ (.slice Ao103 t559.length co103 : Value).ownBlock ∧ some k_ ≠ (.slice Ao115 t564.length co115 : Value).ownBlock ∧ some k_ ≠ (.slice Ao114 t574.length co114 : Value).ownBlock) (.slice Ao110 t568.length co110) t568) := ⟨(by rw [← hq_]; exact (zz172 HO570))⟩; have n3_ : Aside0 (Kd.R Kd.string 9 w113 w.heap.size (fun k_ => some k_ ≠ (.slice Ao103 t559.length co103 : Value).ownBlock ∧ some k_ ≠ (.slice Ao115 t564.length co115 : Value).ownBlock ∧ some k_ ≠ (.slice Ao110 t568.length co110 : Value).ownBlock) (.slice Ao114 t574.length co114) t574) := ⟨(by rw [← hq_]; exact (zz176 HO576))⟩; have n4_ : Aside0 (w113.heap[gb556]? = some (.cells #[.string a0_0, .slice A0_1 l0_1.length c0_1, .bool a0_2, .string a0_3] 24 (0, 0))) := ⟨(by rw [← hq_]; exact (zz27 BK556))⟩; have n5_ : Aside0 (w113.heap[gb573]? = some (.cells #[.string t567, .slice Ao110 t568.length co110, .bool t571, .string t572] 27 (0, 0))) := ⟨(by rw [← hq_]; exact (zz27 BK573))⟩; have n6_ : Aside0 (Below w.heap.size w w113) := ⟨(by rw [← hq_]; exact (zz38 HB GE556 GE573))⟩; clear HO561 HO566 HO570 HO576 BK556 BK573 HB hq_; have HO561 := n0_; have HO566 := n1_; have HO570 := n2_; have HO576 := n3_; have BK556 := n4_; have BK573 := n5_; have HB := n6_; clear n0_ n1_ n2_ n3_ n4_ n5_ n6_))
     have n0_ := Aside0.mk (Kd.R_drew HO561.out);have n1_ := Aside0.mk (Kd.R_drew HO566.out);have n2_ := Aside0.mk (Kd.R_drew HO570.out);have n3_ := Aside0.mk (Kd.R_drew HO576.out);have n4_ := Aside0.mk (blk_drew BK556.out);have n5_ := Aside0.mk (blk_drew BK573.out);have n6_ := Aside0.mk (below_drew1 HB.out);clear HO561;clear HO566;clear HO570;clear HO576;clear BK556;clear BK573;clear HB;have HO561 := n0_;have HO566 := n1_;have HO570 := n2_;have HO576 := n3_;have BK556 := n4_;have BK573 := n5_;have HB := n6_;clear n0_ n1_ n2_ n3_ n4_ n5_ n6_;refine start_ (n := 5) (S := fun w' => w'.cell? ⟨gb573, 0, none⟩ = some (.string t567) ∧ w'.cell? ⟨gb573, 1, none⟩ = some (.slice Ao110 t568.length co110) ∧ w'.cell? ⟨gb573, 2, none⟩ = some (.bool t571) ∧ w'.cell? ⟨gb573, 3, none⟩ = some (.string t572) ∧ w'.cell? ⟨gb556, 0, none⟩ = some (.string a0_0) ∧ w'.cell? ⟨gb556, 1, none⟩ = some (.slice A0_1 l0_1.length c0_1) ∧ w'.cell? ⟨gb556, 2, none⟩ = some (.bool a0_2) ∧ w'.cell? ⟨gb556, 3, none⟩ = some (.string a0_3)) (ds := []) #[false, false, false, false, false] (by kernel_rfl) rfl rfl ⟨(blk_cell BK573.out 0).trans rfl, (blk_cell BK573.out 1).trans rfl, (blk_cell BK573.out 2).trans rfl, (blk_cell BK573.out 3).trans rfl, (blk_cell BK556.out 0).trans rfl, (blk_cell BK556.out 1).trans rfl, (blk_cell BK556.out 2).trans rfl, (blk_cell BK556.out 3).trans rfl⟩ (fun hHeld => ?_);generalize w113.drew = w116 at HO561 HO566 HO570 HO576 BK556 BK573 HB hHeld ⊢;refine take_ (i := 0) (N := some 34) (v := ?_) (a' := ?_) #[true, false, false, false, false] rfl rfl (by kernel_rfl) (fun _ _ _ h => h) (Or.inl ⟨by rfl, ?_⟩) hHeld ?_ ?_;rotate_left
     ·rintro w' ⟨s0, s1, s2, s3, s4, s5, s6, s7⟩
      go_simp
      with_reducible rfl
     rotate_left
     ·simp only [Act.put, List.setIfInBounds_toArray, List.set_cons_zero, List.set_cons_succ, i64_w, i32_w]
      rfl
     refine take_ (i := 1) (N := some 35) (v := ?_) (a' := ?_) #[true, true, false, false, false] rfl rfl (by kernel_rfl) (fun _ _ _ h => h) (Or.inl ⟨by rfl, ?_⟩) hHeld ?_ ?_;rotate_left
     ·rintro w' ⟨s0, s1, s2, s3, s4, s5, s6, s7⟩
      go_simp
      with_reducible rfl
     rotate_left
     ·simp only [Act.put, List.setIfInBounds_toArray, List.set_cons_zero, List.set_cons_succ, i64_w, i32_w]
      rfl
     refine one_ (i := 2) (N := some 36) #[true, true, true, false, false] rfl rfl (by kernel_rfl) (by decide) (fun K hK => ?_);refine goes_ Tryz.func9 (by kernel_rfl) rfl #[.agg #[.string a0_0, .slice A0_1 l0_1.length c0_1, .bool a0_2, .string a0_3]] (by rfl) rfl rfl zz29 ?_;with_reducible refine (laws_toAddr.calls k a0_0 _ _ l0_1 a0_2 a0_3 t578 t579 t582 t583 _ ?side1 ?side2 A16.out).mono ?_
     (case side1 => exact (zz7 HR0_1 HB))
     (case side2 => exact HC0_1.out)
     rintro e w117 ⟨v580, rfl, ho0, hb⟩;refine ⟨_, rfl, ?_⟩;have n0_ := Aside0.mk (Kd.R_elder' (zz9 HO561) (Kd.R_base ho0) hb);have n1_ := Aside0.mk (Kd.R_elder' (zz9 HO566) (Kd.R_base ho0) hb);have n2_ := Aside0.mk (Kd.R_elder' (zz9 HO570) (Kd.R_base ho0) hb);have n3_ := Aside0.mk (Kd.R_elder' (zz9 HO576) (Kd.R_base ho0) hb);have n4_ := Aside0.mk (Kd.R_lower (Kd.R_new' (Kd.R_new' (Kd.R_new' (Kd.R_new' ho0 (Kd.R_lt (zz9 HO561))) (Kd.R_lt (zz9 HO566))) (Kd.R_lt (zz9 HO570))) (Kd.R_lt (zz9 HO576))) (below_size (zz38 HB GE556 GE573)));have n5_ := Aside0.mk (blk_below (zz27 BK556) hb);have n6_ := Aside0.mk (blk_below (zz27 BK573) hb);have n7_ := Aside0.mk (below_step (zz38 HB GE556 GE573) hb);clear HO561;clear HO566;clear HO570;clear HO576;clear BK556;clear BK573;clear HB;have HO561 := n0_;have HO566 := n1_;have HO570 := n2_;have HO576 := n3_;have HO581 := n4_;have BK556 := n5_;have BK573 := n6_;have HB := n7_;clear n0_ n1_ n2_ n3_ n4_ n5_ n6_ n7_;(try clear hb)
     (try clear hb2)
     (try clear hk)
     (try clear hi)
     (try clear ho0)
     obtain ⟨Ao118, co118, eo118⟩ := Kd.R_slice HO581.out;(first | subst eo118 | (injection eo118 with f1_ f2_ f3_; have f4_ := f1_.symm; have f5_ := f3_.symm; clear f1_ f2_ f3_; subst f4_; subst f5_))
     refine hK.out _ _ ⟨(blk_cell BK573.out 0).trans rfl, (blk_cell BK573.out 1).trans rfl, (blk_cell BK573.out 2).trans rfl, (blk_cell BK573.out 3).trans rfl, (blk_cell BK556.out 0).trans rfl, (blk_cell BK556.out 1).trans rfl, (blk_cell BK556.out 2).trans rfl, (blk_cell BK556.out 3).trans rfl⟩ (fun hHeld => ?_);clear hK K;refine norm_ (a' := ?_) ?_ ?_;rotate_left
     ·show Act.put _ (some 36) _ = _
      simp only [Act.put, List.setIfInBounds_toArray, List.set_cons_zero, List.set_cons_succ, i64_w, i32_w]
      rfl
     refine one_ (i := 3) (N := some 37) #[true, true, true, true, false] rfl rfl (by kernel_rfl) (by decide) (fun K hK => ?_);refine goes_ Tryz.func12 (by kernel_rfl) rfl #[.agg #[.string t567, .slice Ao110 t568.length co110, .bool t571, .string t572], .agg #[.string t578, .slice Ao118 t579.length co118, .bool t582, .string t583]] (by rfl) rfl rfl zz29 ?_;with_reducible refine (laws_eqAddr.calls k t567 _ _ t568 t571 t572 t578 _ _ t579 t582 t583 false _ ?side1 ?side2 ?side3 ?side4 A17.out).mono ?_
     (case side1 => exact (zz44 HO570))
     (case side2 => exact (Kd.R_reads' HO570.out).2.1)
     (case side3 => exact (zz44 HO581))
     (case side4 => exact (Kd.R_reads' HO581.out).2.1)
     rintro e w119 ⟨rfl, hb⟩;refine ⟨_, rfl, ?_⟩;have n0_ := Aside0.mk (Kd.R_below (zz9 HO561) hb);have n1_ := Aside0.mk (Kd.R_below (zz9 HO566) hb);have n2_ := Aside0.mk (Kd.R_below (zz9 HO570) hb);have n3_ := Aside0.mk (Kd.R_below (zz9 HO576) hb);have n4_ := Aside0.mk (Kd.R_below (zz9 HO581) hb);have n5_ := Aside0.mk (blk_below (zz27 BK556) hb);have n6_ := Aside0.mk (blk_below (zz27 BK573) hb);have n7_ := Aside0.mk (below_step (zz38 HB GE556 GE573) hb);clear HO561;clear HO566;clear HO570;clear HO576;clear HO581;clear BK556;clear BK573;clear HB;have HO561 := n0_;have HO566 := n1_;have HO570 := n2_;have HO576 := n3_;have HO581 := n4_;have BK556 := n5_;have BK573 := n6_;have HB := n7_;clear n0_ n1_ n2_ n3_ n4_ n5_ n6_ n7_;(try clear hb)
     (try clear hb2)
     (try clear hk)
     (try clear hi)
     refine hK.out _ _ ⟨(blk_cell BK573.out 0).trans rfl, (blk_cell BK573.out 1).trans rfl, (blk_cell BK573.out 2).trans rfl, (blk_cell BK573.out 3).trans rfl, (blk_cell BK556.out 0).trans rfl, (blk_cell BK556.out 1).trans rfl, (blk_cell BK556.out 2).trans rfl, (blk_cell BK556.out 3).trans rfl⟩ (fun hHeld => ?_);clear hK K;refine norm_ (a' := ?_) ?_ ?_;rotate_left
     ·show Act.put _ (some 37) _ = _
      simp only [Act.put, List.setIfInBounds_toArray, List.set_cons_zero, List.set_cons_succ, i64_w, i32_w]
      rfl
     refine pure_ (i := 4) (N := some 38) (v := ?_) (a' := ?_) #[true, true, true, true, true] rfl rfl (by kernel_rfl) (fun _ _ _ h => h) (Or.inl ⟨by rfl, ?_⟩) ?_ ?_;rotate_left
     ·intro w'
      go_simp
      with_reducible rfl
     rotate_left
     ·simp only [Act.put, List.setIfInBounds_toArray, List.set_cons_zero, List.set_cons_succ, i64_w, i32_w]
      rfl
     refine done_ (by kernel_rfl) ?_;try go_wp2
     go_ret
     exact ⟨zz5, (zz38 HB GE556 GE573)⟩
   ·replace c15 := Bool.eq_false_iff.mpr c15
    subst c15;rw [if_neg (show ¬ (false = true) by decide)] at H;obtain rfl := Option.some.inj H;go_enter Tryz.func3, Tryz.ntmps3;go_wp2_with (first | ((with_reducible refine gate_dst (N := 2) rfl ?_); refine boxE 2 #[.string a0_0, .slice A0_1 l0_1.length c0_1, .bool a0_2, .string a0_3] 24 ?_; intro gb556 hg w120 hbox hb; have n0_ := Aside0.mk (below_step (zz4 HB) hb); have n1_ := Aside0.mk (hbox); have n2_ := Aside0.mk ((by rw [hg]; exact (below_size (zz4 HB)) : w.heap.size ≤ gb556)); have n3_ := Aside0.mk ((by rw [hg]; exact (below_size (zz4 HB)) : w.heap.size ≤ gb556)); clear HB; have HB := n0_; have BK556 := n1_; have GW556 := n2_; have GE556 := n3_; clear n0_ n1_ n2_ n3_; clear hb hbox hg; obtain ⟨_, _, _, _, _, _, _, _⟩ := cf4 BK556) | ((with_reducible refine gate_callee (f := 7) rfl ?_); refine gsL (some 18) Tryz.func7 #[.agg #[.string a0_0, .slice A0_1 l0_1.length c0_1, .bool a0_2, .string a0_3], .int .i64 1048576] ?_; (with_reducible refine (laws_szAddr.calls k a0_0 _ _ l0_1 a0_2 a0_3 1048576 t557 _ ?side1 ?side2 A5.out).mono ?_); (case side1 => exact (zz7 HR0_1 HB)); (case side2 => exact HC0_1.out); rintro e w122 ⟨rfl, hb⟩; refine ⟨_, rfl, ?_⟩; have n0_ := Aside0.mk (blk_below (zz27 BK556) hb); have n1_ := Aside0.mk (below_step (zz6 HB GE556) hb); clear BK556; clear HB; have BK556 := n0_; have HB := n1_; clear n0_ n1_; (try clear hb); obtain ⟨_, _, _, _, _, _, _, _⟩ := cf4 BK556) | ((with_reducible refine gate_callee (f := 9) rfl ?_); refine gsL (some 22) Tryz.func9 #[.agg #[.string a0_0, .slice A0_1 l0_1.length c0_1, .bool a0_2, .string a0_3]] ?_; (with_reducible refine (laws_toAddr.calls k a0_0 _ _ l0_1 a0_2 a0_3 t558 t559 t562 t563 _ ?side1 ?side2 A10.out).mono ?_); (case side1 => exact (zz7 HR0_1 HB)); (case side2 => exact HC0_1.out); rintro e w124 ⟨v560, rfl, ho0, hb⟩; refine ⟨_, rfl, ?_⟩; have n0_ := Aside0.mk (Kd.R_lower ho0 (below_size (zz6 HB GE556))); have n1_ := Aside0.mk (blk_below (zz27 BK556) hb); have n2_ := Aside0.mk (below_step (zz6 HB GE556) hb); clear BK556; clear HB; have HO561 := n0_; have BK556 := n1_; have HB := n2_; clear n0_ n1_ n2_; (try clear hb ho0); obtain ⟨Ao125, co125, eo125⟩ := Kd.R_slice HO561.out; subst eo125) | ((with_reducible refine gate_callee (f := 8) rfl ?_); refine gsL (some 24) Tryz.func8 #[.agg #[.string t558, .slice Ao125 t559.length co125, .bool t562, .string t563], .string a1] ?_; (with_reducible refine (spec_PageAddrs.calls k t558 (fun k_ => some k_ = (.slice Ao125 t559.length co125 : Value).ownBlock) _ _ t559 t562 t563 a1 t564 _ ?side1 A11.out).mono ?_); (case side1 => exact Kd.R_V (Kd.R_tight rfl (Kd.R_types (HO561.out) BK556.out (by decide)))); rintro e w126 ⟨v565, rfl, ho0, hb⟩; refine ⟨_, rfl, ?_⟩; have n0_ := Aside0.mk (Kd.R_elder' (zz9 HO561) (Kd.R_base ho0) hb); have n1_ := Aside0.mk (Kd.R_lower (Kd.R_new' (Kd.R_mono (ok' := fun k_ => True) ho0 (fun _ hk_ => trivial)) (Kd.R_lt (zz9 HO561))) (below_size (zz6 HB GE556))); have n2_ := Aside0.mk (blk_below (zz27 BK556) hb); have n3_ := Aside0.mk (below_step (zz6 HB GE556) hb); clear HO561; clear BK556; clear HB; have HO561 := n0_; have HO566 := n1_; have BK556 := n2_; have HB := n3_; clear n0_ n1_ n2_ n3_; (try clear hb ho0); obtain ⟨_, _, _, _, _, _, _, _⟩ := cf4 BK556) | ((with_reducible refine gate_callee (f := 9) rfl ?_); refine gsL (some 26) Tryz.func9 #[.agg #[.string a0_0, .slice A0_1 l0_1.length c0_1, .bool a0_2, .string a0_3]] ?_; (with_reducible refine (laws_toAddr.calls k a0_0 _ _ l0_1 a0_2 a0_3 t567 t568 t571 t572 _ ?side1 ?side2 A12.out).mono ?_); (case side1 => exact (zz7 HR0_1 HB)); (case side2 => exact HC0_1.out); rintro e w128 ⟨v569, rfl, ho0, hb⟩; refine ⟨_, rfl, ?_⟩; have n0_ := Aside0.mk (Kd.R_elder' (zz9 HO561) (Kd.R_base ho0) hb); have n1_ := Aside0.mk (Kd.R_elder' (zz9 HO566) (Kd.R_base ho0) hb); have n2_ := Aside0.mk (Kd.R_lower (Kd.R_new' (Kd.R_new' ho0 (Kd.R_lt (zz9 HO561))) (Kd.R_lt (zz9 HO566))) (below_size (zz6 HB GE556))); have n3_ := Aside0.mk (blk_below (zz27 BK556) hb); have n4_ := Aside0.mk (below_step (zz6 HB GE556) hb); clear HO561; clear HO566; clear BK556; clear HB; have HO561 := n0_; have HO566 := n1_; have HO570 := n2_; have BK556 := n3_; have HB := n4_; clear n0_ n1_ n2_ n3_ n4_; (try clear hb ho0)) | ((with_reducible refine gate_dst (N := 7) rfl ?_); refine boxE 7 #[.string (⟨#[]⟩ : ByteArray), .slice none 0 0, .bool false, .string (⟨#[]⟩ : ByteArray)] 27 ?_; intro gb573 hg w129 hbox hb; have n0_ := Aside0.mk (Kd.R_below (zz9 HO561) hb); have n1_ := Aside0.mk (Kd.R_below (zz9 HO566) hb); have n2_ := Aside0.mk (Kd.R_below (zz9 HO570) hb); have n3_ := Aside0.mk (blk_below (zz27 BK556) hb); have n4_ := Aside0.mk (below_step (zz6 HB GE556) hb); have n5_ := Aside0.mk (hbox); have n6_ := Aside0.mk ((by rw [hg]; exact (below_size (zz6 HB GE556)) : w.heap.size ≤ gb573)); have n7_ := Aside0.mk ((by rw [hg]; exact (below_size (zz6 HB GE556)) : w.heap.size ≤ gb573)); have n8_ := Aside0.mk ((by rw [hg]; exact Nat.ne_of_lt (blk_lt (zz27 BK556)) : gb556 ≠ gb573)); have n9_ := Aside0.mk ((by rw [hg]; exact Nat.ne_of_gt (blk_lt (zz27 BK556)) : gb573 ≠ gb556)); clear HO561; clear HO566; clear HO570; clear BK556; clear HB; have HO561 := n0_; have HO566 := n1_; have HO570 := n2_; have BK556 := n3_; have HB := n4_; have BK573 := n5_; have GW573 := n6_; have GE573 := n7_; have NB556_573 := n8_; have NB573_556 := n9_; clear n0_ n1_ n2_ n3_ n4_ n5_ n6_ n7_ n8_ n9_; clear hb hbox hg; have hnb130 := NB573_556.out; have hnc130 := NB556_573.out; obtain ⟨_, _, _, _, _, _, _, _⟩ := cf4 BK573; obtain ⟨Ao132, co132, eo132⟩ := Kd.R_slice HO570.out; subst eo132) | ((with_reducible refine gate_store (t := 27) (p := 7) rfl ?_); refine store_event (t := 27) (p := 7) (v := ?vo_w133) (w1 := ((((w129.setCell ⟨gb573, 0, none⟩ (.string t567)).setCell ⟨gb573, 1, none⟩ (.slice Ao132 t568.length co132)).setCell ⟨gb573, 2, none⟩ (.bool t571)).setCell ⟨gb573, 3, none⟩ (.string t572))) ?hg ?ho ?hn ?hr ?_; (case ho => rfl); (case hg => rfl); (case hn => rfl); (case hr => exact zz8); intro w133 hw; have n0_ : Aside0 (Kd.R Kd.string 9 w133 w.heap.size (fun k_ => some k_ ≠ (v565 : Value).ownBlock ∧ some k_ ≠ (.slice Ao132 t568.length co132 : Value).ownBlock) (.slice Ao125 t559.length co125) t559) := ⟨zz166⟩; have n1_ : Aside0 (Kd.R Kd.string 9 w133 w.heap.size (fun k_ => some k_ ≠ (.slice Ao125 t559.length co125 : Value).ownBlock ∧ some k_ ≠ (.slice Ao132 t568.length co132 : Value).ownBlock) v565 t564) := ⟨zz167⟩; have n2_ : Aside0 (Kd.R Kd.string 9 w133 w.heap.size (fun k_ => some k_ ≠ (.slice Ao125 t559.length co125 : Value).ownBlock ∧ some k_ ≠ (v565 : Value).ownBlock) (.slice Ao132 t568.length co132) t568) := ⟨zz168⟩; have n3_ : Aside0 (w133.heap[gb556]? = some (.cells #[.string a0_0, .slice A0_1 l0_1.length c0_1, .bool a0_2, .string a0_3] 24 (0, 0))) := ⟨zz169⟩; have n4_ : Aside0 (w133.heap[gb573]? = some (.cells #[.string t567, .slice Ao132 t568.length co132, .bool t571, .string t572] 27 (0, 0))) := ⟨(by rw [hw]; exact (zz42 BK573))⟩; have n5_ : Aside0 (Below w.heap.size w w133) := ⟨zz171⟩; clear hw; clear HO561; clear HO566; clear HO570; clear BK556; clear BK573; clear HB; have HO561 := n0_; have HO566 := n1_; have HO570 := n2_; have BK556 := n3_; have BK573 := n4_; have HB := n5_; clear n0_ n1_ n2_ n3_ n4_ n5_; obtain ⟨_, _, _, _, _, _, _, _⟩ := cf4 BK573) | ((with_reducible refine gate_callee (f := 10) rfl ?_); refine gsL (some 29) Tryz.func10 #[.agg #[.string t567, .slice Ao132 t568.length co132, .bool t571, .string t572], .string a1] ?_; (with_reducible refine (impl_PageAddrs.calls k t567 (fun k_ => some k_ = (.slice Ao132 t568.length co132 : Value).ownBlock) _ _ t568 t571 t572 a1 t574 _ ?side1 A13.out).mono ?_); (case side1 => exact Kd.R_V (Kd.R_tight rfl (Kd.R_types (Kd.R_types (HO570.out) BK556.out (by decide)) BK573.out (by decide)))); rintro e w135 ⟨v575, rfl, ho0, hb⟩; refine ⟨_, rfl, ?_⟩; have n0_ := Aside0.mk (Kd.R_elder' (zz9 HO561) (Kd.R_base ho0) hb); have n1_ := Aside0.mk (Kd.R_elder' (zz9 HO566) (Kd.R_base ho0) hb); have n2_ := Aside0.mk (Kd.R_elder' (zz9 HO570) (Kd.R_base ho0) hb); have n3_ := Aside0.mk (Kd.R_lower (Kd.R_new' (Kd.R_new' (Kd.R_new' (Kd.R_mono (ok' := fun k_ => True) ho0 (fun _ hk_ => trivial)) (Kd.R_lt (zz9 HO561))) (Kd.R_lt (zz9 HO566))) (Kd.R_lt (zz9 HO570))) (below_size (zz38 HB GE556 GE573))); have n4_ := Aside0.mk (blk_below (zz27 BK556) hb); have n5_ := Aside0.mk (blk_below (zz27 BK573) hb); have n6_ := Aside0.mk (below_step (zz38 HB GE556 GE573) hb); clear HO561; clear HO566; clear HO570; clear BK556; clear BK573; clear HB; have HO561 := n0_; have HO566 := n1_; have HO570 := n2_; have HO576 := n3_; have BK556 := n4_; have BK573 := n5_; have HB := n6_; clear n0_ n1_ n2_ n3_ n4_ n5_ n6_; (try clear hb ho0); obtain ⟨Ao136, co136, eo136⟩ := Kd.R_slice HO576.out; subst eo136; obtain ⟨Ao137, co137, eo137⟩ := Kd.R_slice HO566.out; subst eo137) | ((with_reducible refine gate_callee (f := 11) rfl ?_); refine gsL (some 32) Tryz.func11 #[.slice Ao136 t574.length co136, .slice Ao137 t564.length co137] ?_; (with_reducible refine (laws_eqStringS.calls k _ _ t574 _ _ t564 false _ ?side1 ?side2 ?side3 ?side4 A14.out).mono ?_); (case side1 => exact (zz44 HO576)); (case side2 => exact (Kd.R_reads' HO576.out).2.1); (case side3 => exact (zz44 HO566)); (case side4 => exact (Kd.R_reads' HO566.out).2.1); rintro e w' ⟨rfl, ⟨nd, rfl⟩⟩; refine ⟨_, rfl, ?_⟩))
    go_ret
    exact ⟨zz5, (zz38 HB GE556 GE573)⟩
end Go.Proofs.YtgjfegfopjfdpaaGreatDoor.P
end
section
namespace Go.Proofs.YtgjfegfopjfdpaaGreatDoor.Ad
open Go.RowKit Go.Proofs.YtgjfegfopjfdpaaGreatDoor.P Go.Proofs.YtgjfegfopjfdpaaGreatDoorW.PrintWords Go.Proofs.YtgjfegfopjfdpaaGreatDoorW.PrintLast Go.Proofs.YtgjfegfopjfdpaaGreatDoorW.PrintMore Go.Proofs.YtgjfegfopjfdpaaGreatDoor.B
set_option linter.unusedVariables false
set_option linter.unusedSimpArgs false
theorem hex_all : ∀ n : Nat, n < 256 → spec_l1Hex.f 2 (n : Int) = some (match hexN (UInt8.ofNat n) with | some x => (x : Int) | none => -1) := by decide +kernel
theorem plain_all : ∀ n : Nat, n < 256 → spec_l1Plain.f (n : Int) = some (plainB (UInt8.ofNat n)) := by decide +kernel
theorem sign_all : ∀ n : Nat, n < 256 → (spec_l1Sign.f (n : Int)).map L = some [37, fig (n / 16), fig (n % 16)] := by decide +kernel
theorem of_toNat (c : UInt8) : UInt8.ofNat c.toNat = c := UInt8.ofNat_toNat
theorem hex_ev (c : UInt8) : Ev (fun k => spec_l1Hex.f k (c.toNat : Int)) (match hexN c with | some x => (x : Int) | none => -1) := by
 refine Ev.of (fun k => spec_l1Hex.mono _ k) (k := 2) ?_
 have := hex_all c.toNat c.toNat_lt
 rwa [of_toNat] at this
theorem sign_f (n : Nat) (h : n < 256) : spec_l1Sign.f (n : Int) = some (ofL [37, fig (n / 16), fig (n % 16)]) := by
 have := sign_all n h
 obtain ⟨s, hs, e⟩ := Option.map_eq_some_iff.1 this
 rw [hs, ← e, of_L]
theorem nums_one (n : Nat) (h : n < 256) : strOfNums [(n : Int) % 256] = ofL [UInt8.ofNat n] := by
 unfold strOfNums ofL
 simp only [List.map_cons, List.map_nil, ByteArray.mk.injEq]
 congr 2
 rw [show ((n : Int) % 256) = (n : Int) from by omega]
 simp
theorem enc_ev (s acc : ByteArray) (i n : Nat) (h : n < 256) (hi : i < 1000000) (ha : acc.size ≤ 1000000) {r : ByteArray × Bool}
  (H : Ev (fun k => spec_EscNorm.l0 k s (acc ++ ofL (encN n)) (i + 1 : Nat)) r) : Ev (fun k => spec_EscNorm.j2 k s acc (i : Int) (n : Int)) r := by
 refine Ev.step (fun k => ?_) H
 have hw : wrap64 ((i : Int) + 1) = ((i + 1 : Nat) : Int) := by rw [w64 (by omega) (by omega)]; omega
 simp only [spec_EscNorm.j2]
 rw [show ((n : Int) % 256) = (n : Int) from by omega, plain_all n h]
 simp only [Option.bind_some]
 by_cases hp : plainB (UInt8.ofNat n) = true
 ·have e := nums_one n h
  rw [show ((n : Int) % 256) = (n : Int) from by omega] at e
  have he : encN n = [UInt8.ofNat n] := by unfold encN; rw [if_pos hp]
  have hz := ofL_size [UInt8.ofNat n]
  rw [if_pos hp, e, if_pos (by simp at hz; omega), hw, he]
 ·have he : encN n = [37, fig (n / 16), fig (n % 16)] := by unfold encN; rw [if_neg hp]
  rw [if_neg hp, sign_f n h]
  simp only [Option.bind_some]
  have hz := ofL_size [37, fig (n / 16), fig (n % 16)]
  rw [if_pos (by simp at hz; omega), hw, he]
theorem drop_at {l : List UInt8} {i : Nat} (h : i < l.length) : l.drop i = l[i] :: l.drop (i + 1) := List.drop_eq_getElem_cons h
theorem bt_get (s : ByteArray) (i : Nat) (h : i < (L s).length) : bt s i = (((L s)[i]).toNat : Int) := by
 rw [bt_L, List.getD_eq_getElem?_getD, List.getElem?_eq_getElem h]; rfl
theorem app_nil (a : ByteArray) : a ++ ofL [] = a := by apply L_inj; rw [L_app, L_of, List.append_nil]
def escR (acc : ByteArray) (o : Option (List UInt8)) : ByteArray × Bool := match o with
 | some r => (acc ++ ofL r, true)
 | none => (⟨#[]⟩, false)
theorem escR_map (acc : ByteArray) (x : List UInt8) (o : Option (List UInt8)) : escR acc (o.map (x ++ ·)) = escR (acc ++ ofL x) o := by
 cases o with
 | none => rfl
 | some r => simp only [escR, Option.map_some, ofL_app, ByteArray.append_assoc]
theorem esc_l (s : ByteArray) (hs : s.size ≤ 60) (n : Nat) : ∀ (i : Nat) (acc : ByteArray), i ≤ s.size → s.size - i ≤ n → acc.size ≤ 3 * i →
  Ev (fun k => spec_EscNorm.l0 k s acc (i : Int)) (escR acc (esc ((L s).drop i))) := by
 have hL := L_size s
 induction n with
 | zero =>
  intro i acc hi hn ha
  refine Ev.of (fun k => spec_EscNorm.mono_l k |>.1 _ _ _) (k := 1) ?_
  simp only [spec_EscNorm.l0]
  rw [if_neg (by omega), List.drop_eq_nil_of_le (by omega)]
  simp only [esc, escR]
  rw [app_nil]
 | succ n ih =>
  intro i acc hi hn ha
  by_cases hlt : i < s.size
  ·have hlt' : i < (L s).length := by omega
   rw [drop_at hlt']
   have hb := bt_get s i hlt'
   by_cases hc : (L s)[i] = 37
   ·have hb37 : bt s i = 37 := by rw [hb, hc]; rfl
    have w2 : wrap64 ((i : Int) + 2) = ((i + 2 : Nat) : Int) := by rw [w64 (by omega) (by omega)]; omega
    have w1 : wrap64 ((i : Int) + 1) = ((i + 1 : Nat) : Int) := by rw [w64 (by omega) (by omega)]; omega
    rw [hc]
    by_cases h2 : i + 2 < s.size
    ·have g1 : i + 1 < (L s).length := by omega
     have g2 : i + 2 < (L s).length := by omega
     rw [drop_at g1, drop_at g2]
     have b1 := bt_get s (i + 1) g1
     have b2 := bt_get s (i + 2) g2
     have q1 := hex_ev (L s)[i + 1]
     have q2 := hex_ev (L s)[i + 2]
     have l1 := @hexN_lt (L s)[i + 1]
     have l2 := @hexN_lt (L s)[i + 2]
     generalize (L s)[i + 1] = ca at b1 q1 l1 ⊢
     generalize (L s)[i + 2] = cb at b2 q2 l2 ⊢
     have e3 : i + 2 + 1 = i + 3 := rfl
     have bad : Ev (fun k => spec_EscNorm.j1 k s acc (i : Int) true) ((⟨#[]⟩ : ByteArray), false) :=
      Ev.of (fun k => spec_EscNorm.mono_l k |>.2.2 _ _ _ _) (k := 1) (by simp [spec_EscNorm.j1])
     refine Ev.step (f := fun k => (spec_l1Hex.f k (ca.toNat : Int)).bind fun t => if t < 0 then spec_EscNorm.j1 k s acc (i : Int) true else (spec_l1Hex.f k (cb.toNat : Int)).bind fun t2 => spec_EscNorm.j1 k s acc (i : Int) (decide (t2 < 0))) (fun k => ?_) ?_
     ·simp only [spec_EscNorm.l0]
      rw [if_pos (by omega), if_pos (by omega), if_pos hb37, w2, w1, if_neg (by omega), if_pos (by omega), if_pos (by omega), b1]
      congr 1
      funext t
      by_cases ht : t < 0
      ·rw [if_pos ht, if_pos ht]
      ·rw [if_neg ht, if_neg ht, if_pos (by omega), if_pos (by omega), b2]
     ·refine Ev.bind q1 ?_
      cases ha' : hexN ca with
      | none =>
       rw [esc_bad1 _ _ ha']
       simp only [show ((-1 : Int) < 0) from by omega, if_true]
       exact bad
      | some x =>
       have hx := l1 ha'
       simp only [show ¬ ((x : Int) < 0) from by omega, if_false]
       refine Ev.bind q2 ?_
       cases hb' : hexN cb with
       | none =>
        rw [esc_bad2 _ _ hb']
        simp only [show decide ((-1 : Int) < 0) = true from by decide]
        exact bad
       | some y =>
        have hy := l2 hb'
        simp only [show decide ((y : Int) < 0) = false from by simp]
        rw [ha'] at q1
        rw [hb'] at q2
        refine Ev.step (f := fun k => (spec_l1Hex.f k (ca.toNat : Int)).bind fun t => (spec_l1Hex.f k (cb.toNat : Int)).bind fun t2 => spec_EscNorm.j2 k s acc ((i + 2 : Nat) : Int) (wrap64 (wrap64 (t * 16) + t2))) (fun k => ?_) ?_
        ·simp only [spec_EscNorm.j1]
         rw [if_neg (by simp), w1, w2, if_pos (by omega), if_pos (by omega), b1]
         congr 1
         funext t
         rw [if_pos (by omega), if_pos (by omega), b2]
        ·refine Ev.bind q1 (Ev.bind q2 ?_)
         rw [esc_sign _ ha' hb']
         rw [show wrap64 (wrap64 ((x : Int) * 16) + (y : Int)) = ((x * 16 + y : Nat) : Int) from by rw [w64 (n := (x : Int) * 16) (by omega) (by omega), w64 (by omega) (by omega)]; omega]
         refine enc_ev s acc (i + 2) (x * 16 + y) (by omega) (by omega) (by omega) ?_
         rw [escR_map]
         exact ih (i + 2 + 1) _ (by omega) (by omega) (by have z := ofL_size (encN (x * 16 + y)); have := encN_len (x * 16 + y); rw [ByteArray.size_append]; omega)
    ·rw [esc_short (by rw [List.length_drop]; omega)]
     refine Ev.of (fun k => spec_EscNorm.mono_l k |>.1 _ _ _) (k := 2) ?_
     simp only [spec_EscNorm.l0, spec_EscNorm.j1]
     rw [if_pos (by omega), if_pos (by omega), if_pos hb37, w2, if_pos (by omega)]
     rfl
   ·have hb37 : ¬ bt s i = 37 := by
     rw [hb]
     intro e
     exact hc (UInt8.toNat_inj.1 (by have : (37 : UInt8).toNat = 37 := rfl; omega))
    rw [esc_plain _ hc]
    have hlt8 := (L s)[i].toNat_lt
    refine Ev.step (f := fun k => spec_EscNorm.j2 k s acc (i : Int) (((L s)[i].toNat : Nat) : Int)) (fun k => ?_) ?_
    ·simp only [spec_EscNorm.l0]
     rw [if_pos (by omega), if_pos (by omega), if_neg hb37, hb, w64 (by omega) (by omega)]
    ·refine enc_ev s acc i _ (by omega) (by omega) (by omega) ?_
     rw [escR_map]
     exact ih (i + 1) _ (by omega) (by omega) (by have z := ofL_size (encN (L s)[i].toNat); have := encN_len (L s)[i].toNat; rw [ByteArray.size_append]; omega)
  ·refine Ev.of (fun k => spec_EscNorm.mono_l k |>.1 _ _ _) (k := 1) ?_
   simp only [spec_EscNorm.l0]
   rw [if_neg (by omega), List.drop_eq_nil_of_le (by omega)]
   simp only [esc, escR]
   rw [app_nil]
theorem escNorm_ev (s : ByteArray) : Ev (fun k => spec_EscNorm.f k s) (escNorm s) := by
 unfold spec_EscNorm.f escNorm
 by_cases h : s.size > 60
 ·simp only [show ((s.size : Int) > 60) from by omega, if_true, h]
  exact Ev.now _
 ·simp only [show ¬ ((s.size : Int) > 60) from by omega, if_false, h]
  have := esc_l s (by omega) s.size 0 ⟨#[]⟩ (by omega) (by omega) (Nat.le_refl 0)
  simp only [List.drop_zero] at this
  have e : escR (⟨#[]⟩ : ByteArray) (esc (L s)) = escO (esc (L s)) := by
   unfold escR escO
   cases esc (L s) with
   | none => rfl
   | some r => simp only [Prod.mk.injEq, and_true]; apply L_inj; rw [L_app]; rfl
  rw [← e]
  exact this
theorem norm_ev (s : ByteArray) : Ev (fun k => spec_l1Norm.f k s) (isNorm s) := by
 unfold spec_l1Norm.f isNorm
 refine Ev.bind (escNorm_ev s) ?_
 by_cases h : (escNorm s).2 = true
 ·simp only [h, if_true, Bool.true_and]
  exact Ev.now _
 ·simp only [h, if_false, Bool.false_and]
  exact Ev.now _
end Go.Proofs.YtgjfegfopjfdpaaGreatDoor.Ad
end
section
namespace Go.Proofs.YtgjfegfopjfdpaaGreatDoor.Ad
open Go.RowKit Go.Proofs.YtgjfegfopjfdpaaGreatDoor.P Go.Proofs.YtgjfegfopjfdpaaGreatDoorW.PrintWords Go.Proofs.YtgjfegfopjfdpaaGreatDoorW.PrintLast Go.Proofs.YtgjfegfopjfdpaaGreatDoorW.PrintMore Go.Proofs.YtgjfegfopjfdpaaGreatDoor.B
set_option linter.unusedVariables false
set_option linter.unusedSimpArgs false
theorem spec_house_l (s : ByteArray) (hs : s.size ≤ 140737488351232) (d : Nat) : ∀ (k : Nat) (i : Nat), i + d = s.size → d < k →
  spec_l1House.l0 k s (i : Int) = some (smallFrom s d i && (decide (1 ≤ s.size) && decide (s.size ≤ 5))) := by
 induction d with
 | zero =>
  intro k i h hk
  obtain ⟨k, rfl⟩ : ∃ m, k = m + 1 := ⟨k - 1, by omega⟩
  simp only [spec_l1House.l0, smallFrom, spec_l6In.f]
  rw [if_neg (by omega)]
  by_cases h1 : 1 ≤ s.size
  ·rw [if_pos (by omega)]; simp [h1]; omega
  ·rw [if_neg (by omega)]; simp [h1]
 | succ d ih =>
  intro k i h hk
  obtain ⟨k, rfl⟩ : ∃ m, k = m + 1 := ⟨k - 1, by omega⟩
  simp only [spec_l1House.l0, smallFrom]
  rw [if_pos (by omega), if_pos (by omega)]
  by_cases h1 : bt s i < 97
  ·rw [if_pos h1, if_pos h1]; rfl
  ·rw [if_neg h1, if_neg h1]
   by_cases h2 : bt s i > 122
   ·rw [if_pos h2, if_pos h2]; rfl
   ·rw [if_neg h2, if_neg h2, w64 (by omega) (by omega)]
    exact ih k (i + 1) (by omega) (by omega)
theorem house_ev (s : ByteArray) (hs : s.size ≤ 140737488351232) : Ev (fun k => spec_l1House.f k s) (isHouse s) := by
 refine Ev.of (fun k => spec_l1House.mono _ k) (k := s.size + 1) ?_
 unfold spec_l1House.f
 have := spec_house_l s hs s.size (s.size + 1) 0 (by omega) (by omega)
 rw [show ((0 : Nat) : Int) = 0 from rfl] at this
 rw [this]
 unfold isHouse isSmall
 cases smallFrom s s.size 0 <;> simp
theorem rd_at {l : List ByteArray} {i : Nat} (h : i < l.length) : rdOf ByteArray.empty l (i : Int) = l[i] := by
 unfold rdOf
 rw [List.getD_eq_getElem?_getD, Int.toNat_natCast, List.getElem?_eq_getElem h]
 rfl
structure Parts (ps : List ByteArray) : Prop where
 few : ps.length ≤ 1000
 short : ∀ p ∈ ps, p.size ≤ 1048576
def fin (asks : Bool) (ask b : ByteArray) : ByteArray := if asks = true then (b ++ ⟨#[63]⟩) ++ ask else b
theorem path_end (acc house : ByteArray) (parts : List ByteArray) (asks : Bool) (ask : ByteArray) (i : Nat) (hi : i = parts.length) (ha : acc.size ≤ 2000000000) (hq : ask.size ≤ 1048576) :
  Ev (fun k => spec_l1Path.l0 k acc (i : Int) house parts asks ask) (fin asks ask acc) := by
 refine Ev.of (fun k => spec_l1Path.mono_l k _ _ _ _ _ _) (k := 1) ?_
 simp only [spec_l1Path.l0, fin]
 rw [if_neg (by omega)]
 by_cases h : asks = true
 ·rw [if_pos h, if_pos h, if_pos (by omega), if_pos (by omega)]
 ·rw [if_neg h, if_neg h]
theorem path_l (house : ByteArray) (parts : List ByteArray) (asks : Bool) (ask : ByteArray) (hP : Parts parts) (hq : ask.size ≤ 1048576) (d : Nat) : ∀ (i : Nat) (acc : ByteArray), i + d = parts.length → 1 ≤ i → (acc.size : Int) ≤ 1 + (i : Int) * 1048577 →
  Ev (fun k => spec_l1Path.l0 k acc (i : Int) house parts asks ask) (fin asks ask ((parts.drop i).foldl (fun a q => (a ++ ⟨#[47]⟩) ++ q) acc)) := by
 have hf := hP.few
 induction d with
 | zero =>
  intro i acc hi _ ha
  rw [List.drop_eq_nil_of_le (by omega)]
  exact path_end acc house parts asks ask i (by omega) (by omega) hq
 | succ d ih =>
  intro i acc hi h1 ha
  have hlt : i < parts.length := by omega
  have hz := hP.short parts[i] (List.getElem_mem hlt)
  rw [List.drop_eq_getElem_cons hlt, List.foldl_cons]
  have h47 : (⟨#[47]⟩ : ByteArray).size = 1 := rfl
  have hsz : ((acc ++ (⟨#[47]⟩ : ByteArray)) ++ parts[i]).size = acc.size + 1 + parts[i].size := by rw [ByteArray.size_append, ByteArray.size_append, h47]
  have f1 : (i : Int) < (parts.length : Int) := by omega
  have f2 : (i : Int) > 0 := by omega
  have f3 : acc.size + 1 ≤ 9223372036854775807 := by omega
  have f4 : 0 ≤ (i : Int) := by omega
  have f5 : acc.size + 1 + parts[i].size ≤ 9223372036854775807 := by omega
  have hw : wrap64 ((i : Int) + 1) = ((i + 1 : Nat) : Int) := by rw [w64 (by omega) (by omega)]; omega
  have h := ih (i + 1) ((acc ++ (⟨#[47]⟩ : ByteArray)) ++ parts[i]) (by omega) (by omega) (by rw [hsz]; omega)
  refine Ev.step (fun k => ?_) h
  simp only [spec_l1Path.l0]
  rw [if_pos f1, if_pos f2, if_pos f3, if_pos f4, rd_at hlt, if_pos f5, hw]
theorem path_ev (house : ByteArray) (parts : List ByteArray) (asks : Bool) (ask : ByteArray) (hP : Parts parts) (hq : ask.size ≤ 1048576) :
  Ev (fun k => spec_l1Path.f k house parts asks ask) (pathB parts asks ask) := by
 unfold spec_l1Path.f
 match parts, hP with
 | [], hP =>
  have := path_end ⟨#[47]⟩ house [] asks ask 0 rfl (by decide) hq
  exact this
 | p :: r, hP =>
  have hz := hP.short p List.mem_cons_self
  have hs : ((⟨#[47]⟩ : ByteArray) ++ p).size = 1 + p.size := by rw [ByteArray.size_append]; rfl
  refine Ev.step (fun k => ?_) (path_l house (p :: r) asks ask hP hq r.length 1 ((⟨#[47]⟩ : ByteArray) ++ p) (by simp; omega) (by omega) (by omega))
  have h47 : (⟨#[47]⟩ : ByteArray).size = 1 := rfl
  have hr0 : rdOf ByteArray.empty (p :: r) 0 = p := rfl
  simp only [spec_l1Path.l0]
  have f1 : (0 : Int) < ((p :: r).length : Int) := by simp only [List.length_cons]; omega
  have f5 : (⟨#[47]⟩ : ByteArray).size + p.size ≤ 9223372036854775807 := by omega
  rw [if_pos f1, if_neg (by omega), if_pos (by omega), hr0, if_pos f5, w64 (by omega) (by omega)]
  rfl
theorem path_size (parts : List ByteArray) (asks : Bool) (ask : ByteArray) (hP : Parts parts) (hq : ask.size ≤ 1048576) : (pathB parts asks ask).size ≤ 2000000000 := by
 have hf := hP.few
 have hb : ((body parts).size : Int) ≤ 1 + (parts.length : Int) * 1048577 := by
  match parts, hP with
  | [], _ => simp [body]; decide
  | p :: r, hP =>
   have key : ∀ (r : List ByteArray) (acc : ByteArray), (∀ q ∈ r, q.size ≤ 1048576) → ((r.foldl (fun a q => (a ++ ⟨#[47]⟩) ++ q) acc).size : Int) ≤ (acc.size : Int) + (r.length : Int) * 1048577 := by
    intro r
    induction r with
    | nil => intro acc _; simp
    | cons q r ih =>
     intro acc h
     have := ih ((acc ++ ⟨#[47]⟩) ++ q) (fun x hx => h x (List.mem_cons_of_mem _ hx))
     have hq := h q List.mem_cons_self
     have h47 : (⟨#[47]⟩ : ByteArray).size = 1 := rfl
     rw [List.foldl_cons]
     rw [ByteArray.size_append, ByteArray.size_append] at this
     simp only [List.length_cons]
     omega
   have := key r ((⟨#[47]⟩ : ByteArray) ++ p) (fun x hx => hP.short x (List.mem_cons_of_mem _ hx))
   have hz := hP.short p List.mem_cons_self
   have hs : ((⟨#[47]⟩ : ByteArray) ++ p).size = 1 + p.size := by rw [ByteArray.size_append]; rfl
   simp only [body, List.length_cons]
   omega
 unfold pathB
 have h63 : (⟨#[63]⟩ : ByteArray).size = 1 := rfl
 split
 ·rw [ByteArray.size_append, ByteArray.size_append]; omega
 ·omega
theorem text_ev (house : ByteArray) (parts : List ByteArray) (asks : Bool) (ask : ByteArray) (hP : Parts parts) (hq : ask.size ≤ 1048576) (hh : house.size ≤ 1048576) :
  Ev (fun k => spec_l1Text.f k house parts asks ask) (textB house parts asks ask) := by
 unfold spec_l1Text.f
 have hz := path_size parts asks ask hP hq
 simp only [show 2 + house.size ≤ 9223372036854775807 from by omega, if_true]
 refine Ev.bind (path_ev house parts asks ask hP hq) ?_
 simp only [show 2 + house.size + (pathB parts asks ask).size ≤ 9223372036854775807 from by omega, if_true]
 exact Ev.now _
theorem ok_l (house : ByteArray) (parts : List ByteArray) (asks : Bool) (ask : ByteArray) (hP : Parts parts) (hq : ask.size ≤ 1048576) (hh : house.size ≤ 1048576) (d : Nat) : ∀ (i : Nat), i + d = parts.length →
  Ev (fun k => spec_AddrOk.l0 k (i : Int) house parts asks ask) ((parts.drop i).all partOk && decide ((textB house parts asks ask).size ≤ 60)) := by
 have hf := hP.few
 induction d with
 | zero =>
  intro i hi
  rw [List.drop_eq_nil_of_le (by omega)]
  simp only [List.all_nil, Bool.true_and]
  refine Ev.step (f := fun k => (spec_l1Text.f k house parts asks ask).bind fun t => some (decide ((t.size : Int) ≤ 60))) (fun k => ?_) (Ev.bind (text_ev house parts asks ask hP hq hh) ?_)
  ·simp only [spec_AddrOk.l0]
   rw [if_neg (by omega)]
  ·have e : decide (((textB house parts asks ask).size : Int) ≤ 60) = decide ((textB house parts asks ask).size ≤ 60) := by rw [Bool.eq_iff_iff]; simp; omega
   rw [e]
   exact Ev.now _
 | succ d ih =>
  intro i hi
  have hlt : i < parts.length := by omega
  rw [List.drop_eq_getElem_cons hlt, List.all_cons]
  refine Ev.step (f := fun k => (spec_l1Norm.f k parts[i]).bind fun t => if t = true then (if parts[i].toList = [] then some false else if parts[i].toList = [46] then some false else if parts[i].toList = [46, 46] then some false else spec_AddrOk.l0 k ((i + 1 : Nat) : Int) house parts asks ask) else some false) (fun k => ?_) (Ev.bind (norm_ev parts[i]) ?_)
  ·simp only [spec_AddrOk.l0]
   rw [if_pos (by omega), if_pos (by omega), rd_at hlt, w64 (by omega) (by omega)]
   rfl
  ·by_cases h1 : isNorm parts[i] = true
   ·by_cases h2 : parts[i].toList = []
    ·simp only [h1, h2, if_true]
     rw [show partOk parts[i] = false from by simp [partOk, h2]]
     exact Ev.now _
    ·by_cases h3 : parts[i].toList = [46]
     ·simp only [h1, h3, if_true]
      rw [show partOk parts[i] = false from by simp [partOk, h3]]
      exact Ev.now _
     ·by_cases h4 : parts[i].toList = [46, 46]
      ·simp only [h1, h4, if_true]
       rw [show partOk parts[i] = false from by simp [partOk, h4]]
       exact Ev.now _
      ·simp only [h1, h2, h3, h4, if_true, if_false]
       rw [show partOk parts[i] = true from by simp [partOk, h1, h2, h3, h4], Bool.true_and]
       exact ih (i + 1) (by omega)
   ·simp only [h1, if_false]
    rw [show partOk parts[i] = false from by simp [partOk, h1]]
    exact Ev.now _
theorem addrOk_ev (house : ByteArray) (parts : List ByteArray) (asks : Bool) (ask : ByteArray) (hP : Parts parts) (hq : ask.size ≤ 1048576) (hh : house.size ≤ 1048576) :
  Ev (fun k => spec_AddrOk.f k house parts asks ask) (addrOk house parts asks ask) := by
 have hf := hP.few
 have bad : ∀ r, r = false → Ev (fun k => spec_AddrOk.j0 k true house parts asks ask) r := fun r hr => by
  subst hr
  exact Ev.of (fun k => spec_AddrOk.mono_l k |>.1 _ _ _ _ _) (k := 1) (by simp [spec_AddrOk.j0])
 have good : Ev (fun k => spec_AddrOk.j0 k false house parts asks ask) (parts.all partOk && decide ((textB house parts asks ask).size ≤ 60)) := by
  refine Ev.step (fun k => ?_) (by simpa using ok_l house parts asks ask hP hq hh parts.length 0 (by omega))
  simp [spec_AddrOk.j0]
 unfold spec_AddrOk.f
 refine Ev.bind (house_ev house (by omega)) ?_
 by_cases h1 : isHouse house = true
 ·simp only [h1, if_true]
  by_cases h2 : parts.length ≤ 5
  ·simp only [show ¬ ((parts.length : Int) > 5) from by omega, if_false]
   refine Ev.bind (norm_ev ask) ?_
   by_cases h3 : isNorm ask = true
   ·simp only [h3, if_true]
    by_cases h4 : asks = true
    ·simp only [h4, if_true]
     rw [h4] at good
     rw [show addrOk house parts true ask = (parts.all partOk && decide ((textB house parts true ask).size ≤ 60)) from by simp [addrOk, h1, h2, h3]]
     exact good
    ·rw [show (fun k => if asks = true then spec_AddrOk.j0 k false house parts asks ask else spec_AddrOk.j0 k (ask.toList != []) house parts asks ask) = (fun k => spec_AddrOk.j0 k (ask.toList != []) house parts asks ask) from by funext k; rw [if_neg h4]]
     by_cases h5 : ask.toList = []
     ·obtain rfl : asks = false := by simpa using h4
      simp only [h5, bne_self_eq_false, Bool.false_eq_true, if_false]
      rw [show addrOk house parts false ask = (parts.all partOk && decide ((textB house parts false ask).size ≤ 60)) from by simp [addrOk, h1, h2, h3, h5]]
      exact good
     ·rw [show (ask.toList != ([] : List UInt8)) = true from by simp [h5]]
      exact bad _ (by simp [addrOk, h4, h5])
   ·simp only [h3, if_false]
    exact bad _ (by simp [addrOk, h3])
  ·simp only [show (parts.length : Int) > 5 from by omega, if_true]
   exact bad _ (by simp [addrOk, h2])
 ·simp only [h1, if_false]
  exact bad _ (by simp [addrOk, h1])
theorem addrText_ev (house : ByteArray) (parts : List ByteArray) (asks : Bool) (ask : ByteArray) (hP : Parts parts) (hq : ask.size ≤ 1048576) (hh : house.size ≤ 1048576) :
  Ev (fun k => spec_AddrText.f k house parts asks ask) (addrText house parts asks ask) := by
 unfold spec_AddrText.f addrText
 refine Ev.bind (addrOk_ev house parts asks ask hP hq hh) ?_
 by_cases h : addrOk house parts asks ask = true
 ·simp only [h, if_true]
  exact Ev.bind (text_ev house parts asks ask hP hq hh) (Ev.now _)
 ·simp only [h, if_false]
  exact Ev.now _
end Go.Proofs.YtgjfegfopjfdpaaGreatDoor.Ad
end
section
namespace Go.Proofs.YtgjfegfopjfdpaaGreatDoor.Ad
open Go.RowKit Go.Proofs.YtgjfegfopjfdpaaGreatDoor.P Go.Proofs.YtgjfegfopjfdpaaGreatDoorW.PrintWords Go.Proofs.YtgjfegfopjfdpaaGreatDoorW.PrintLast Go.Proofs.YtgjfegfopjfdpaaGreatDoorW.PrintMore Go.Proofs.YtgjfegfopjfdpaaGreatDoor.B
set_option linter.unusedVariables false
set_option linter.unusedSimpArgs false
def ints (l : List UInt8) : List Int := l.map fun c => (c.toNat : Int)
theorem ints_app (a b : List UInt8) : ints (a ++ b) = ints a ++ ints b := by simp [ints]
theorem ints_len (a : List UInt8) : (ints a).length = a.length := by simp [ints]
theorem nums_ints (l : List UInt8) : strOfNums (ints l) = ofL l := by
 unfold strOfNums ofL ints
 rw [List.map_map]
 congr 2
 have h : ((fun n : Int => UInt8.ofNat n.toNat) ∘ fun c : UInt8 => (c.toNat : Int)) = id := by funext c; simp
 exact (congrArg (fun f => List.map f l) h).trans (List.map_id l)
theorem figv_all : ∀ n : Nat, n < 256 → impl_figureValue.f (n : Int) = some (match hexN (UInt8.ofNat n) with | some x => ((x : Int), true) | none => (0, false)) := by decide +kernel
theorem figv (c : UInt8) : impl_figureValue.f (c.toNat : Int) = some (match hexN c with | some x => ((x : Int), true) | none => (0, false)) := by
 have := figv_all c.toNat c.toNat_lt
 rwa [of_toNat] at this
theorem stands_all : ∀ n : Nat, n < 256 → impl_standsForItself.f (n : Int) = some (plainB (UInt8.ofNat n)) := by decide +kernel
def hexT : ByteArray := ⟨#[48, 49, 50, 51, 52, 53, 54, 55, 56, 57, 65, 66, 67, 68, 69, 70]⟩
theorem put_all : ∀ n : Nat, n < 256 → (plainB (UInt8.ofNat n) = true → [(n : Int)] = ints (encN n)) ∧ (plainB (UInt8.ofNat n) = false → 0 ≤ (n : Int) / 16 ∧ (n : Int) / 16 < 16 ∧ 0 ≤ Go.bits .and .u8 (n : Int) 15 ∧ Go.bits .and .u8 (n : Int) 15 < 16 ∧
  ([37, bt hexT ((n : Int) / 16), bt hexT (Go.bits .and .u8 (n : Int) 15)] : List Int) = ints (encN n)) := by decide +kernel
theorem sign_i (s : ByteArray) (i : Nat) (hs : s.size ≤ 60) (hi : i < s.size) :
  impl_signByte.f s (i : Int) = some (if h : i + 2 < (L s).length then (match hexN ((L s)[i + 1]'(by omega)), hexN ((L s)[i + 2]'h) with | some x, some y => (((x * 16 + y : Nat) : Int), true) | _, _ => (0, false)) else (0, false)) := by
 have hL := L_size s
 unfold impl_signByte.f
 rw [w64 (n := (s.size : Int) - i) (by omega) (by omega)]
 by_cases h : i + 2 < (L s).length
 ·rw [dif_pos h, if_neg (by omega), w64 (n := (i : Int) + 1) (by omega) (by omega), w64 (n := (i : Int) + 2) (by omega) (by omega), if_pos (by omega), if_pos (by omega)]
  have b1 := bt_get s (i + 1) (by omega)
  have b2 := bt_get s (i + 2) h
  have l1 := @hexN_lt ((L s)[i + 1]'(by omega))
  have l2 := @hexN_lt ((L s)[i + 2]'h)
  rw [show ((i : Int) + 1) = ((i + 1 : Nat) : Int) from by omega, show ((i : Int) + 2) = ((i + 2 : Nat) : Int) from by omega, b1, b2]
  generalize (L s)[i + 1]'(by omega) = ca at l1 ⊢
  generalize (L s)[i + 2]'h = cb at l2 ⊢
  rw [figv ca, figv cb]
  simp only [Option.bind_some]
  rw [if_pos (by omega), if_pos (by omega)]
  cases ha : hexN ca with
  | none => simp
  | some x =>
   cases hb : hexN cb with
   | none => simp
   | some y =>
    have := l1 ha
    have := l2 hb
    simp only [if_true]
    rw [w64 (n := (x : Int) * 16) (by omega) (by omega), w64 (by omega) (by omega)]
    congr 2
    omega
 ·rw [dif_neg h, if_pos (by omega)]
theorem enc_i (s : ByteArray) (acc : List UInt8) (n : Nat) (j : Int) (h : n < 256) (ha : acc.length ≤ 1000000) (k : Nat) :
  ((impl_standsForItself.f (n : Int)).bind fun t => (if t = true then (if (ints acc).length < 140737488355328 then (impl_EscNorm.l0 k s (ints acc ++ [(n : Int)]) j) else (none)) else (if 0 ≤ ((n : Int) / 16) then (if ((n : Int) / 16) < 16 then (if 0 ≤ (Go.bits .and .u8 (n : Int) 15) then (if (Go.bits .and .u8 (n : Int) 15) < 16 then ((some (([37, bt (⟨#[48, 49, 50, 51, 52, 53, 54, 55, 56, 57, 65, 66, 67, 68, 69, 70]⟩ : ByteArray) ((n : Int) / 16), bt (⟨#[48, 49, 50, 51, 52, 53, 54, 55, 56, 57, 65, 66, 67, 68, 69, 70]⟩ : ByteArray) (Go.bits .and .u8 (n : Int) 15)] : List Int) : List Int)).bind fun y => (if (ints acc).length + y.length < 140737488355328 then (impl_EscNorm.l0 k s (ints acc ++ y) j) else (none))) else (none)) else (none)) else (none)) else (none)))) = impl_EscNorm.l0 k s (ints (acc ++ encN n)) j := by
 obtain ⟨p1, p2⟩ := put_all n h
 rw [stands_all n h]
 simp only [Option.bind_some]
 have hl := ints_len acc
 cases hp : plainB (UInt8.ofNat n) with
 | true => rw [if_pos rfl, if_pos (by omega), ints_app, p1 hp]
 | false =>
  obtain ⟨q1, q2, q3, q4, q5⟩ := p2 hp
  rw [if_neg (by simp), if_pos q1, if_pos q2, if_pos q3, if_pos q4]
  unfold hexT at q5
  rw [q5]
  have := encN_len n
  have := ints_len (encN n)
  rw [if_pos (by omega), ints_app]
theorem esc_i (s : ByteArray) (hs : s.size ≤ 60) (n : Nat) : ∀ (i : Nat) (acc : List UInt8), i ≤ s.size → s.size - i ≤ n → acc.length ≤ 3 * i →
  Ev (fun k => impl_EscNorm.l0 k s (ints acc) (i : Int)) (escR (ofL acc) (esc ((L s).drop i))) := by
 have hL := L_size s
 induction n with
 | zero =>
  intro i acc hi hn ha
  refine Ev.of (fun k => impl_EscNorm.mono_l k |> fun h => h _ _ _) (k := 1) ?_
  simp only [impl_EscNorm.l0]
  rw [if_neg (by omega), List.drop_eq_nil_of_le (by omega)]
  simp only [esc, escR]
  rw [app_nil, nums_ints]
 | succ n ih =>
  intro i acc hi hn ha
  by_cases hlt : i < s.size
  ·have hlt' : i < (L s).length := by omega
   rw [drop_at hlt']
   have hb := bt_get s i hlt'
   by_cases hc : (L s)[i] = 37
   ·have hb37 : bt s i = 37 := by rw [hb, hc]; rfl
    have w3 : wrap64 (wrap64 ((i : Int) + 2) + 1) = ((i + 2 + 1 : Nat) : Int) := by rw [w64 (n := (i : Int) + 2) (by omega) (by omega), w64 (by omega) (by omega)]; omega
    rw [hc]
    have sg := sign_i s i hs hlt
    refine Ev_succ ?_
    simp only [impl_EscNorm.l0]
    simp only [show ((i : Int) < (s.size : Int)) from by omega, show ((0 : Int) ≤ (i : Int)) from by omega, hb37, if_true, sg, Option.bind_some, w3]
    by_cases h2 : i + 2 < (L s).length
    ·have g1 : i + 1 < (L s).length := by omega
     rw [drop_at g1, drop_at h2]
     simp only [h2, dif_pos]
     generalize (L s)[i + 1]'g1 = ca
     generalize (L s)[i + 2]'h2 = cb
     cases ha' : hexN ca with
     | none =>
      rw [esc_bad1 _ _ ha']
      simp only [Bool.false_eq_true, if_false]
      exact Ev.now _
     | some x =>
      cases hb' : hexN cb with
      | none =>
       rw [esc_bad2 _ _ hb']
       simp only [Bool.false_eq_true, if_false]
       exact Ev.now _
      | some y =>
       have hx := hexN_lt ha'
       have hy := hexN_lt hb'
       rw [esc_sign _ ha' hb', escR_map]
       simp only [if_true]
       refine Ev.congr (fun k => enc_i s acc (x * 16 + y) _ (by omega) (by omega) k) ?_
       have := encN_len (x * 16 + y)
       rw [← ofL_app]
       exact ih (i + 2 + 1) _ (by omega) (by omega) (by rw [List.length_append]; omega)
    ·rw [esc_short (by rw [List.length_drop]; omega)]
     simp only [h2, dif_neg, not_false_eq_true, Bool.false_eq_true, if_false]
     exact Ev.now _
   ·have hb37 : ¬ bt s i = 37 := by
     rw [hb]
     intro e
     exact hc (UInt8.toNat_inj.1 (by have : (37 : UInt8).toNat = 37 := rfl; omega))
    rw [esc_plain _ hc]
    have hlt8 := (L s)[i].toNat_lt
    have w1 : wrap64 ((i : Int) + 1) = ((i + 1 : Nat) : Int) := by rw [w64 (by omega) (by omega)]; omega
    refine Ev_succ ?_
    simp only [impl_EscNorm.l0]
    simp only [show ((i : Int) < (s.size : Int)) from by omega, show ((0 : Int) ≤ (i : Int)) from by omega, hb37, if_true, if_false, w1]
    rw [escR_map]
    simp only [hb]
    refine Ev.congr (fun k => enc_i s acc (L s)[i].toNat _ (by omega) (by omega) k) ?_
    have hz := encN_len (L s)[i].toNat
    rw [← ofL_app]
    refine ih (i + 1) _ (by omega) (by omega) ?_
    rw [List.length_append]; omega
  ·refine Ev.of (fun k => impl_EscNorm.mono_l k |> fun h => h _ _ _) (k := 1) ?_
   simp only [impl_EscNorm.l0]
   rw [if_neg (by omega), List.drop_eq_nil_of_le (by omega)]
   simp only [esc, escR]
   rw [app_nil, nums_ints]
theorem escNorm_i (s : ByteArray) : Ev (fun k => impl_EscNorm.f k s) (escNorm s) := by
 unfold impl_EscNorm.f escNorm
 by_cases h : s.size > 60
 ·simp only [show ((s.size : Int) > 60) from by omega, if_true, h]
  exact Ev.now _
 ·simp only [show ¬ ((s.size : Int) > 60) from by omega, if_false, h]
  have := esc_i s (by omega) s.size 0 [] (by omega) (by omega) (Nat.le_refl 0)
  simp only [List.drop_zero] at this
  have e : escR (ofL []) (esc (L s)) = escO (esc (L s)) := by
   unfold escR escO
   cases esc (L s) with
   | none => rfl
   | some r => simp only [Prod.mk.injEq, and_true]; apply L_inj; rw [L_app]; rfl
  rw [← e]
  exact this
theorem norm_i (s : ByteArray) : Ev (fun k => impl_isNormal.f k s) (isNorm s) := by
 unfold impl_isNormal.f isNorm
 refine Ev.bind (escNorm_i s) ?_
 by_cases h : (escNorm s).2 = true
 ·simp only [h, if_true, Bool.true_and]
  exact Ev.now _
 ·simp only [h, if_false, Bool.false_and]
  exact Ev.now _
end Go.Proofs.YtgjfegfopjfdpaaGreatDoor.Ad
end
section
namespace Go.Proofs.YtgjfegfopjfdpaaGreatDoor.Ad
open Go.RowKit Go.Proofs.YtgjfegfopjfdpaaGreatDoor.P Go.Proofs.YtgjfegfopjfdpaaGreatDoorW.PrintWords Go.Proofs.YtgjfegfopjfdpaaGreatDoorW.PrintLast Go.Proofs.YtgjfegfopjfdpaaGreatDoorW.PrintMore Go.Proofs.YtgjfegfopjfdpaaGreatDoor.B
set_option linter.unusedVariables false
set_option linter.unusedSimpArgs false
theorem small_i (s : ByteArray) (hs : s.size ≤ 140737488351232) (d : Nat) : ∀ (k : Nat) (i : Nat), i + d = s.size → d < k →
  impl_allSmallLetters.l0 k s (i : Int) = some (smallFrom s d i) := by
 induction d with
 | zero =>
  intro k i h hk
  obtain ⟨k, rfl⟩ : ∃ m, k = m + 1 := ⟨k - 1, by omega⟩
  simp only [impl_allSmallLetters.l0, smallFrom]
  rw [if_neg (by omega)]
 | succ d ih =>
  intro k i h hk
  obtain ⟨k, rfl⟩ : ∃ m, k = m + 1 := ⟨k - 1, by omega⟩
  simp only [impl_allSmallLetters.l0, smallFrom]
  rw [if_pos (by omega), if_pos (by omega)]
  by_cases h1 : bt s i < 97
  ·rw [if_pos h1, if_pos h1]
  ·rw [if_neg h1, if_neg h1]
   by_cases h2 : bt s i > 122
   ·rw [if_pos h2, if_pos h2]
   ·rw [if_neg h2, if_neg h2, w64 (by omega) (by omega)]
    exact ih k (i + 1) (by omega) (by omega)
theorem smalls_i (s : ByteArray) (hs : s.size ≤ 140737488351232) : Ev (fun k => impl_allSmallLetters.f k s) (isSmall s) := by
 refine Ev.of (fun k => impl_allSmallLetters.mono _ k) (k := s.size + 1) ?_
 exact small_i s hs s.size (s.size + 1) 0 (by omega) (by omega)
theorem house_i (s : ByteArray) (hs : s.size ≤ 140737488351232) : Ev (fun k => impl_isHouse.f k s) (isHouse s) := by
 unfold impl_isHouse.f isHouse
 by_cases h1 : 1 ≤ s.size
 ·simp only [show ((s.size : Int) ≥ 1) from by omega, if_true, h1, decide_true, Bool.true_and]
  by_cases h2 : s.size ≤ 5
  ·simp only [show ((s.size : Int) ≤ 5) from by omega, if_true, h2, decide_true, Bool.true_and]
   exact Ev.bind (smalls_i s hs) (Ev.now _)
  ·simp only [show ¬ ((s.size : Int) ≤ 5) from by omega, if_false, h2, decide_false, Bool.false_and]
   exact Ev.now _
 ·simp only [show ¬ ((s.size : Int) ≥ 1) from by omega, if_false, h1, decide_false, Bool.false_and]
  exact Ev.now _
theorem L_fold : ∀ (r : List ByteArray) (acc : ByteArray), L (r.foldl (fun a q => (a ++ ⟨#[47]⟩) ++ q) acc) = L acc ++ Lib.joinTail [47] (r.map L)
 | [], acc => by simp [Lib.joinTail]
 | q :: r, acc => by
  rw [List.foldl_cons, L_fold r, L_app, L_app]
  simp [Lib.joinTail, L]
theorem L_body (ps : List ByteArray) : L (body ps) = 47 :: Lib.join (ps.map L) [47] := by
 cases ps with
 | nil => rfl
 | cons p r =>
  unfold body
  rw [L_fold, List.map_cons, Lib.join_cons, L_app]
  rfl
theorem body_join (ps : List ByteArray) : (⟨#[47]⟩ : ByteArray) ++ ofL (Lib.join (ps.map L) [47]) = body ps := by
 apply L_inj
 rw [L_app, L_of, L_body]
 rfl
theorem join_len (ps : List ByteArray) : (Lib.join (ps.map L) [47]).length + 1 = (body ps).size := by
 rw [← L_size, L_body]; simp
theorem path_i (parts : List ByteArray) (asks : Bool) (ask house : ByteArray) (hP : Parts parts) (hq : ask.size ≤ 1048576) : impl_writePath.f house parts asks ask = some (pathB parts asks ask) := by
 have hz := path_size parts false ask hP hq
 have hb : pathB parts false ask = body parts := rfl
 rw [hb] at hz
 have hj := join_len parts
 have hf := hP.few
 unfold impl_writePath.f strings_Join.f
 have e47 : L (⟨#[47]⟩ : ByteArray) = [47] := rfl
 rw [e47, if_pos ⟨by omega, by omega⟩]
 simp only [Option.bind_some]
 have hs := ofL_size (Lib.join (parts.map L) [47])
 rw [if_pos (by omega), body_join]
 by_cases h : asks = true
 ·rw [if_pos h, if_pos (by omega), if_pos (by omega)]
  unfold pathB
  rw [if_pos h, ByteArray.append_assoc]
 ·rw [if_neg h]
  unfold pathB
  rw [if_neg h]
theorem text_i (house : ByteArray) (parts : List ByteArray) (asks : Bool) (ask : ByteArray) (hP : Parts parts) (hq : ask.size ≤ 1048576) (hh : house.size ≤ 1048576) :
  impl_writeAddr.f house parts asks ask = some (textB house parts asks ask) := by
 have hz := path_size parts asks ask hP hq
 unfold impl_writeAddr.f
 rw [if_pos (by omega), path_i parts asks ask house hP hq]
 simp only [Option.bind_some]
 rw [if_pos (by omega)]
 rfl
def okEnd (house : ByteArray) (parts : List ByteArray) (asks : Bool) (ask : ByteArray) : Bool := isNorm ask && (asks || ask.toList == []) && decide ((textB house parts asks ask).size ≤ 60)
theorem ok_i (house : ByteArray) (parts : List ByteArray) (asks : Bool) (ask : ByteArray) (hP : Parts parts) (hq : ask.size ≤ 1048576) (hh : house.size ≤ 1048576) (d : Nat) : ∀ (i : Nat), i + d = parts.length →
  Ev (fun k => impl_AddrOk.l0 k parts (parts.length : Int) (i : Int) house parts asks ask) ((parts.drop i).all partOk && okEnd house parts asks ask) := by
 have hf := hP.few
 induction d with
 | zero =>
  intro i hi
  rw [List.drop_eq_nil_of_le (by omega)]
  simp only [List.all_nil, Bool.true_and]
  refine Ev_succ ?_
  simp only [impl_AddrOk.l0]
  simp only [show ¬ ((i : Int) < (parts.length : Int)) from by omega, if_false, text_i house parts asks ask hP hq hh, Option.bind_some]
  refine Ev.bind (norm_i ask) ?_
  unfold okEnd
  have e : decide (((textB house parts asks ask).size : Int) ≤ 60) = decide ((textB house parts asks ask).size ≤ 60) := by rw [Bool.eq_iff_iff]; simp; omega
  by_cases h3 : isNorm ask = true
  ·simp only [h3, if_true, Bool.true_and, e]
   by_cases h4 : asks = true
   ·simp only [h4, if_true, Bool.true_or, Bool.true_and]
    exact Ev.now _
   ·by_cases h5 : ask.toList = []
    ·simp only [h4, if_false, h5, if_true, beq_self_eq_true, Bool.or_true, Bool.true_and]
     exact Ev.now _
    ·simp only [h4, if_false, h5, show (ask.toList == ([] : List UInt8)) = false from by simp [h5], Bool.or_false, Bool.false_and]
     exact Ev.now _
  ·simp only [h3, if_false, Bool.false_and]
   exact Ev.now _
 | succ d ih =>
  intro i hi
  have hlt : i < parts.length := by omega
  rw [List.drop_eq_getElem_cons hlt, List.all_cons]
  refine Ev_succ ?_
  simp only [impl_AddrOk.l0]
  have w1 : wrap64 ((i : Int) + 1) = ((i + 1 : Nat) : Int) := by rw [w64 (by omega) (by omega)]; omega
  simp only [show ((i : Int) < (parts.length : Int)) from by omega, show ((0 : Int) ≤ (i : Int)) from by omega, if_true, rd_at hlt, w1]
  by_cases h2 : parts[i].toList = []
  ·simp only [h2, if_true]
   rw [show partOk parts[i] = false from by simp [partOk, h2]]
   exact Ev.now _
  ·by_cases h3 : parts[i].toList = [46]
   ·simp only [h2, h3, if_true, if_false]
    rw [show partOk parts[i] = false from by simp [partOk, h3]]
    first | exact Ev.now _ | simpa using Ev.now _
   ·by_cases h4 : parts[i].toList = [46, 46]
    ·simp only [h2, h3, h4, if_true, if_false]
     rw [show partOk parts[i] = false from by simp [partOk, h4]]
     first | exact Ev.now _ | simpa using Ev.now _
    ·simp only [h2, h3, h4, if_false]
     refine Ev.bind (norm_i parts[i]) ?_
     by_cases h1 : isNorm parts[i] = true
     ·simp only [h1, if_true]
      rw [show partOk parts[i] = true from by simp [partOk, h1, h2, h3, h4], Bool.true_and]
      exact ih (i + 1) (by omega)
     ·simp only [h1, if_false]
      rw [show partOk parts[i] = false from by simp [partOk, h1]]
      exact Ev.now _
theorem okEnd_is (house : ByteArray) (parts : List ByteArray) (asks : Bool) (ask : ByteArray) : addrOk house parts asks ask = (isHouse house && decide (parts.length ≤ 5) && (parts.all partOk && okEnd house parts asks ask)) := by
 unfold addrOk okEnd
 cases isHouse house <;> cases decide (parts.length ≤ 5) <;> cases isNorm ask <;> cases (asks || ask.toList == []) <;> cases parts.all partOk <;> rfl
theorem addrOk_i (house : ByteArray) (parts : List ByteArray) (asks : Bool) (ask : ByteArray) (hP : Parts parts) (hq : ask.size ≤ 1048576) (hh : house.size ≤ 1048576) :
  Ev (fun k => impl_AddrOk.f k house parts asks ask) (addrOk house parts asks ask) := by
 have hf := hP.few
 have bad : Ev (fun k => impl_AddrOk.j0 k true house parts asks ask) false := Ev_succ (by simp only [impl_AddrOk.j0, if_true]; exact Ev.now _)
 unfold impl_AddrOk.f
 rw [okEnd_is]
 refine Ev.bind (house_i house (by omega)) ?_
 by_cases h1 : isHouse house = true
 ·simp only [h1, if_true, Bool.true_and]
  by_cases h2 : parts.length ≤ 5
  ·rw [show decide ((parts.length : Int) > 5) = false from by simp; omega]
   simp only [h2, decide_true, Bool.true_and]
   refine Ev_succ ?_
   simp only [impl_AddrOk.j0, Bool.false_eq_true, if_false]
   have := ok_i house parts asks ask hP hq hh parts.length 0 (by omega)
   simpa using this
  ·rw [show decide ((parts.length : Int) > 5) = true from by simp; omega]
   simp only [h2, decide_false, Bool.false_and]
   exact bad
 ·simp only [h1, if_false, Bool.false_and]
  exact bad
theorem addrText_i (house : ByteArray) (parts : List ByteArray) (asks : Bool) (ask : ByteArray) (hP : Parts parts) (hq : ask.size ≤ 1048576) (hh : house.size ≤ 1048576) :
  Ev (fun k => impl_AddrText.f k house parts asks ask) (addrText house parts asks ask) := by
 unfold impl_AddrText.f addrText
 refine Ev.bind (addrOk_i house parts asks ask hP hq hh) ?_
 by_cases h : addrOk house parts asks ask = true
 ·simp only [h, if_true, text_i house parts asks ask hP hq hh, Option.bind_some]
  exact Ev.now _
 ·simp only [h, if_false]
  exact Ev.now _
end Go.Proofs.YtgjfegfopjfdpaaGreatDoor.Ad
end
