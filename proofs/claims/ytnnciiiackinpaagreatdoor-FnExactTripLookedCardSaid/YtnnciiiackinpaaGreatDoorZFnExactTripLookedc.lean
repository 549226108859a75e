/- Part 3 of the proof of FnExactTripLooked: the plain functions of what it reaches, that Go comes to just their answers, what they answer, and the words that the walks use; conditions: each theorem's own. -/
import Derived.Test.YtnnciiiackinpaaGreatDoorZFnExactTripLookedb
import Derived.Test.YtnnciiiackinpaaGreatDoorZFnExactTripLookeda
import Derived.OneCell
import Derived.Deep.RegionHeld3
import Derived.Laws.RangeAny
import Derived.LoopTactic
import Derived.Lib.ConvBytes
import Derived.Laws.Runes
import Derived.Laws.RangeString
import Derived.Laws.Strings3
import Derived.Lib.IndexAny
import Derived.Lib.IndexBytes
import Derived.Deep.LoopGhost

section
namespace Go.Proofs.YtnnciiiackinpaaGreatDoor.P
open Go.RowKit Go.Proofs.YtnnciiiackinpaaGreatDoorW.PrintWords Go.Proofs.YtnnciiiackinpaaGreatDoorW.PrintLast Go.Proofs.YtnnciiiackinpaaGreatDoorW.PrintMore
attribute [local go_sem] max2_int min2_int max_two min_two max_three min_three max_four min_four
set_option linter.unusedVariables false
set_option linter.unusedSimpArgs false
set_option maxHeartbeats 8000000
set_option maxRecDepth 100000
def laws_eqHouseS.l0:Nat→List (S82)→List (S82)→Int→Option (Bool)
 | 0,_,_,_=>none
 | k+1,x0,x1,x5=>if x5 < (x0.length:Int) then (if 0≤x5 then (if x5 < (x1.length:Int) then ((laws_eqHouse.f k ((rd_T82 x0 x5).f0) ((rd_T82 x0 x5).f1) ((rd_T82 x0 x5).f2) ((rd_T82 x0 x5).f3.f0) ((rd_T82 x0 x5).f3.f1) ((rd_T82 x0 x5).f3.f2) ((rd_T82 x0 x5).f4) ((rd_T82 x0 x5).f5) ((rd_T82 x1 x5).f0) ((rd_T82 x1 x5).f1) ((rd_T82 x1 x5).f2) ((rd_T82 x1 x5).f3.f0) ((rd_T82 x1 x5).f3.f1) ((rd_T82 x1 x5).f3.f2) ((rd_T82 x1 x5).f4) ((rd_T82 x1 x5).f5)).bind fun t646=>(if t646=true then (laws_eqHouseS.l0 k x0 x1 (wrap64 (x5+1))) else (some false))) else (none)) else (none)) else (some true)
def laws_eqHouseS.f (k:Nat) (l0:List (S82)) (l1:List (S82)):Option (Bool):=if (l0.length:Int)=(l1.length:Int) then (laws_eqHouseS.l0 k l0 l1 0) else (some false)
def laws_eqHouseS.T6:Bool×List (List Nat×List Nat):=(true,[([],[]),([],[]),([0,1],[0,1]),([2],[2]),([],[]),([],[]),([4,5],[4,5]),([6],[6]),([3,7],[3,7]),([8],[8])])
def laws_eqHouseS.B6:List Nat:=[0,0,3,7,0,0,48,112,255,511]
theorem laws_eqHouseS.tab6:rtab .any (opsOf Tryz.f29 6)=laws_eqHouseS.T6:=by kernel_rfl
theorem laws_eqHouseS.bits6:waitsOk laws_eqHouseS.T6.2 laws_eqHouseS.B6=true:=by kernel_rfl
theorem laws_eqHouseS.calls (k:Nat) (A0:Option Addr) (c0:Nat) (l0:List (S82)) (A1:Option Addr) (c1:Nat) (l1:List (S82)) (r:Bool) (w:World) (hr0:Kd.C k82 w A0 l0.length l0) (hc0:l0.length≤c0) (hr1:Kd.C k82 w A1 l1.length l1) (hc1:l1.length≤c1) (h:laws_eqHouseS.f k l0 l1=some r) :
  Calls Tryz.prog 29 #[.slice A0 l0.length c0,.slice A1 l1.length c1] w fun e w'=>e=.returned (.bool r)∧Below w.heap.size w w':=by
 have hu82:=Tryz.underlying82;have HR0:=A_ hr0;have HC0:=A_ hc0;clear hr0 hc0;have HR1:=A_ hr1;have HC1:=A_ hc1;clear hr1 hc1;have HB:=A_ (Below.refl w.heap.size w);unfold laws_eqHouseS.f at h
 have H:=h;clear h;replace H:=iteE H;rcases H with ⟨c3,H⟩|⟨c3,H⟩
 ·obtain ⟨c3b0,c3b1⟩:=eqT c3
  have c3b2:(l0.length == l1.length)=true:=by first|simpa using c3|(simp at c3 ⊢;omega)
  clear c3;have H':=A_ H;clear H;go_enter Tryz.func29,Tryz.ntmps29;go_wp2
  go_loopg [5] k (fun kq v5 w'=>∃ (x5_1:Int),v5=.int .i64 x5_1∧Aside0 (laws_eqHouseS.l0 kq l0 l1 x5_1=some r)∧Aside0 (kq≤k)∧Aside0 (Below w.heap.size w w'))
  case atStart=>exact ⟨(0),zz7,H',⟨Nat.le_refl _⟩,⟨(zz0 HB)⟩⟩
  case round=>
   clear H';obtain ⟨x5_1,rfl,HA,HK1,HB⟩:=hrel;cases gk with
   | zero=>exact absurd HA.out (by simp [laws_eqHouseS.l0])
   | succ k1=>
    obtain ⟨H⟩:=HA;simp only [laws_eqHouseS.l0] at H
    replace H:=iteEd H;rcases H with ⟨c4b0,H⟩|⟨c4b0,H⟩
    ·replace H:=iteNd H
     obtain ⟨c5b0,H⟩:=H;replace H:=iteNd H;obtain ⟨c6b0,H⟩:=H;replace H:=bindA H;obtain ⟨t646,A7,H⟩:=H;have HF8:=A_ H;clear H;try go_wp2
     replace HB:=A_ (below_drew1 HB.out);have p644:0≤(x5_1:Int):=ofD;have q644:x5_1 < (l0.length:Int):=ofD;obtain ⟨ad644,A644_3,c644_3,A644_4,c644_4,A644_7,c644_7,e644,hx644_0,hx644_1,hx644_2,hx644_3,hx644_4,hx644_5,hx644_6,hx644_7,hl644_3,hi644_3,hl644_4,hi644_4,hl644_7,hi644_7⟩:=at_T82 HR0.out x5_1 p644 q644;have hw644_7:=hx644_7;have hw644_6:=hx644_6;have hw644_5:=hx644_5;have hw644_4:=hx644_4;have hw644_3:=hx644_3;have hw644_2:=hx644_2;have hw644_1:=hx644_1;have hw644_0:=hx644_0;cases e644
     obtain ⟨hx644_0,hx644_1,hx644_2,hx644_3⟩:=cb4 HB hx644_0 hx644_1 hx644_2 hx644_3;obtain ⟨hx644_4,hx644_5,hx644_6,hx644_7⟩:=cb4 HB hx644_4 hx644_5 hx644_6 hx644_7;have HR644_3:=A_ hi644_3;have HC644_3:=A_ hl644_3;clear hi644_3 hl644_3;have HR644_4:=A_ hi644_4;have HC644_4:=A_ hl644_4;clear hi644_4 hl644_4;have HR644_7:=A_ hi644_7;have HC644_7:=A_ hl644_7;clear hi644_7 hl644_7;replace p644:=eq_true p644;replace q644:=eq_true q644;have p645:0≤(x5_1:Int):=ofD;have q645:x5_1 < (l1.length:Int):=ofD;obtain ⟨ad645,A645_3,c645_3,A645_4,c645_4,A645_7,c645_7,e645,hx645_0,hx645_1,hx645_2,hx645_3,hx645_4,hx645_5,hx645_6,hx645_7,hl645_3,hi645_3,hl645_4,hi645_4,hl645_7,hi645_7⟩:=at_T82 HR1.out x5_1 p645 q645;have hw645_7:=hx645_7;have hw645_6:=hx645_6;have hw645_5:=hx645_5;have hw645_4:=hx645_4;have hw645_3:=hx645_3;have hw645_2:=hx645_2;have hw645_1:=hx645_1;have hw645_0:=hx645_0;cases e645
     obtain ⟨hx645_0,hx645_1,hx645_2,hx645_3⟩:=cb4 HB hx645_0 hx645_1 hx645_2 hx645_3;obtain ⟨hx645_4,hx645_5,hx645_6,hx645_7⟩:=cb4 HB hx645_4 hx645_5 hx645_6 hx645_7;have HR645_3:=A_ hi645_3;have HC645_3:=A_ hl645_3;clear hi645_3 hl645_3;have HR645_4:=A_ hi645_4;have HC645_4:=A_ hl645_4;clear hi645_4 hl645_4;have HR645_7:=A_ hi645_7;have HC645_7:=A_ hl645_7;clear hi645_7 hl645_7;replace p645:=eq_true p645;replace q645:=eq_true q645;refine start_ (n:=10) (S:=fun w'=>w'.cell? (ad644.add ((x5_1).toNat * 8))=some (.string ((rd_T82 l0 x5_1).f0))∧w'.cell? ⟨(ad644.add ((x5_1).toNat * 8)).block,(ad644.add ((x5_1).toNat * 8)).off+1,none⟩=some (.int .i64 ((rd_T82 l0 x5_1).f1))∧w'.cell? ⟨(ad644.add ((x5_1).toNat * 8)).block,(ad644.add ((x5_1).toNat * 8)).off+2,none⟩=some (.bool ((rd_T82 l0 x5_1).f2))∧w'.cell? ⟨(ad644.add ((x5_1).toNat * 8)).block,(ad644.add ((x5_1).toNat * 8)).off+3,none⟩=some (.slice A644_3 ((rd_T82 l0 x5_1).f3.f0).length c644_3)∧w'.cell? ⟨(ad644.add ((x5_1).toNat * 8)).block,(ad644.add ((x5_1).toNat * 8)).off+4,none⟩=some (.slice A644_4 ((rd_T82 l0 x5_1).f3.f1).length c644_4)∧w'.cell? ⟨(ad644.add ((x5_1).toNat * 8)).block,(ad644.add ((x5_1).toNat * 8)).off+5,none⟩=some (.int .i64 ((rd_T82 l0 x5_1).f3.f2))∧w'.cell? ⟨(ad644.add ((x5_1).toNat * 8)).block,(ad644.add ((x5_1).toNat * 8)).off+6,none⟩=some (.int .i64 ((rd_T82 l0 x5_1).f4))∧w'.cell? ⟨(ad644.add ((x5_1).toNat * 8)).block,(ad644.add ((x5_1).toNat * 8)).off+7,none⟩=some (.slice A644_7 ((rd_T82 l0 x5_1).f5).length c644_7)∧w'.cell? (ad645.add ((x5_1).toNat * 8))=some (.string ((rd_T82 l1 x5_1).f0))∧w'.cell? ⟨(ad645.add ((x5_1).toNat * 8)).block,(ad645.add ((x5_1).toNat * 8)).off+1,none⟩=some (.int .i64 ((rd_T82 l1 x5_1).f1))∧w'.cell? ⟨(ad645.add ((x5_1).toNat * 8)).block,(ad645.add ((x5_1).toNat * 8)).off+2,none⟩=some (.bool ((rd_T82 l1 x5_1).f2))∧w'.cell? ⟨(ad645.add ((x5_1).toNat * 8)).block,(ad645.add ((x5_1).toNat * 8)).off+3,none⟩=some (.slice A645_3 ((rd_T82 l1 x5_1).f3.f0).length c645_3)∧w'.cell? ⟨(ad645.add ((x5_1).toNat * 8)).block,(ad645.add ((x5_1).toNat * 8)).off+4,none⟩=some (.slice A645_4 ((rd_T82 l1 x5_1).f3.f1).length c645_4)∧w'.cell? ⟨(ad645.add ((x5_1).toNat * 8)).block,(ad645.add ((x5_1).toNat * 8)).off+5,none⟩=some (.int .i64 ((rd_T82 l1 x5_1).f3.f2))∧w'.cell? ⟨(ad645.add ((x5_1).toNat * 8)).block,(ad645.add ((x5_1).toNat * 8)).off+6,none⟩=some (.int .i64 ((rd_T82 l1 x5_1).f4))∧w'.cell? ⟨(ad645.add ((x5_1).toNat * 8)).block,(ad645.add ((x5_1).toNat * 8)).off+7,none⟩=some (.slice A645_7 ((rd_T82 l1 x5_1).f5).length c645_7)) (ds:=[]) #[yF,yF,yF,yF,yF,yF,yF,yF,yF,yF] (by kernel_rfl) rfl rfl ⟨((HB.out.cell (World.block_lt_of_cell? w _ hw644_0)).trans hw644_0),((HB.out.cell (World.block_lt_of_cell? w _ hw644_1)).trans hw644_1),((HB.out.cell (World.block_lt_of_cell? w _ hw644_2)).trans hw644_2),((HB.out.cell (World.block_lt_of_cell? w _ hw644_3)).trans hw644_3),((HB.out.cell (World.block_lt_of_cell? w _ hw644_4)).trans hw644_4),((HB.out.cell (World.block_lt_of_cell? w _ hw644_5)).trans hw644_5),((HB.out.cell (World.block_lt_of_cell? w _ hw644_6)).trans hw644_6),((HB.out.cell (World.block_lt_of_cell? w _ hw644_7)).trans hw644_7),((HB.out.cell (World.block_lt_of_cell? w _ hw645_0)).trans hw645_0),((HB.out.cell (World.block_lt_of_cell? w _ hw645_1)).trans hw645_1),((HB.out.cell (World.block_lt_of_cell? w _ hw645_2)).trans hw645_2),((HB.out.cell (World.block_lt_of_cell? w _ hw645_3)).trans hw645_3),((HB.out.cell (World.block_lt_of_cell? w _ hw645_4)).trans hw645_4),((HB.out.cell (World.block_lt_of_cell? w _ hw645_5)).trans hw645_5),((HB.out.cell (World.block_lt_of_cell? w _ hw645_6)).trans hw645_6),((HB.out.cell (World.block_lt_of_cell? w _ hw645_7)).trans hw645_7)⟩ (fun hHeld=>?_);refine with_tabW laws_eqHouseS.tab6 laws_eqHouseS.bits6 (fun HT_ HW_=>?_);generalize wr.drew=w9 at HB HR644_3 HR644_4 HR644_7 HR645_3 HR645_4 HR645_7 hx644_0 hx644_1 hx644_2 hx644_3 hx644_4 hx644_5 hx644_6 hx644_7 hx645_0 hx645_1 hx645_2 hx645_3 hx645_4 hx645_5 hx645_6 hx645_7 hHeld ⊢;refine pureZ 0 (some 17) (yA 1 9) ?_;refine pureZ 1 (some 18) (yA 2 8) ?_;refine pureZ 2 (some 19) (yA 3 7) ?_;refine pureZ 4 (some 21) #[yT,yT,yT,yF,yT,yF,yF,yF,yF,yF] ?_;refine pureZ 5 (some 22) #[yT,yT,yT,yF,yT,yT,yF,yF,yF,yF] ?_;refine pureZ 6 (some 23) #[yT,yT,yT,yF,yT,yT,yT,yF,yF,yF] ?_;refine takeZ16 3 (some 20) (yA 7 3) hHeld ?_;refine takeZ16 7 (some 24) (yA 8 2) hHeld ?_;refine oneZ 8 (some 25) (yA 9 1) (fun K hK=>?_);refine goes_ Tryz.func56 (by kernel_rfl) rfl #[.agg #[.string ((rd_T82 l0 x5_1).f0),.int .i64 ((rd_T82 l0 x5_1).f1),.bool ((rd_T82 l0 x5_1).f2),.slice A644_3 ((rd_T82 l0 x5_1).f3.f0).length c644_3,.slice A644_4 ((rd_T82 l0 x5_1).f3.f1).length c644_4,.int .i64 ((rd_T82 l0 x5_1).f3.f2),.int .i64 ((rd_T82 l0 x5_1).f4),.slice A644_7 ((rd_T82 l0 x5_1).f5).length c644_7],.agg #[.string ((rd_T82 l1 x5_1).f0),.int .i64 ((rd_T82 l1 x5_1).f1),.bool ((rd_T82 l1 x5_1).f2),.slice A645_3 ((rd_T82 l1 x5_1).f3.f0).length c645_3,.slice A645_4 ((rd_T82 l1 x5_1).f3.f1).length c645_4,.int .i64 ((rd_T82 l1 x5_1).f3.f2),.int .i64 ((rd_T82 l1 x5_1).f4),.slice A645_7 ((rd_T82 l1 x5_1).f5).length c645_7]] (by rfl) rfl rfl zz39 ?_;with_reducible refine (laws_eqHouse.calls k1 ((rd_T82 l0 x5_1).f0) ((rd_T82 l0 x5_1).f1) ((rd_T82 l0 x5_1).f2) _ _ ((rd_T82 l0 x5_1).f3.f0) _ _ ((rd_T82 l0 x5_1).f3.f1) ((rd_T82 l0 x5_1).f3.f2) ((rd_T82 l0 x5_1).f4) _ _ ((rd_T82 l0 x5_1).f5) ((rd_T82 l1 x5_1).f0) ((rd_T82 l1 x5_1).f1) ((rd_T82 l1 x5_1).f2) _ _ ((rd_T82 l1 x5_1).f3.f0) _ _ ((rd_T82 l1 x5_1).f3.f1) ((rd_T82 l1 x5_1).f3.f2) ((rd_T82 l1 x5_1).f4) _ _ ((rd_T82 l1 x5_1).f5) t646 _ ?side1 ?side2 ?side3 ?side4 ?side5 ?side6 ?side7 ?side8 ?side9 ?side10 ?side11 ?side12 A7.out).mono ?_
     (case side1=>exact (zz21 HR644_3 HB))
     (case side2=>exact HC644_3.out)
     (case side3=>exact (zz21 HR644_4 HB))
     (case side4=>exact HC644_4.out)
     (case side5=>exact (zz21 HR644_7 HB))
     (case side6=>exact HC644_7.out)
     (case side7=>exact (zz21 HR645_3 HB))
     (case side8=>exact HC645_3.out)
     (case side9=>exact (zz21 HR645_4 HB))
     (case side10=>exact HC645_4.out)
     (case side11=>exact (zz21 HR645_7 HB))
     (case side12=>exact HC645_7.out)
     rintro e w10 ⟨rfl,hb⟩;refine ⟨_,rfl,?_⟩;replace HB:=A_ (bS (zz0 HB) hb);(try clear hb)
     (try clear hb2)
     (try clear hk)
     (try clear hi)
     refine hK.out _ _ ⟨((HB.out.cell (World.block_lt_of_cell? w _ hw644_0)).trans hw644_0),((HB.out.cell (World.block_lt_of_cell? w _ hw644_1)).trans hw644_1),((HB.out.cell (World.block_lt_of_cell? w _ hw644_2)).trans hw644_2),((HB.out.cell (World.block_lt_of_cell? w _ hw644_3)).trans hw644_3),((HB.out.cell (World.block_lt_of_cell? w _ hw644_4)).trans hw644_4),((HB.out.cell (World.block_lt_of_cell? w _ hw644_5)).trans hw644_5),((HB.out.cell (World.block_lt_of_cell? w _ hw644_6)).trans hw644_6),((HB.out.cell (World.block_lt_of_cell? w _ hw644_7)).trans hw644_7),((HB.out.cell (World.block_lt_of_cell? w _ hw645_0)).trans hw645_0),((HB.out.cell (World.block_lt_of_cell? w _ hw645_1)).trans hw645_1),((HB.out.cell (World.block_lt_of_cell? w _ hw645_2)).trans hw645_2),((HB.out.cell (World.block_lt_of_cell? w _ hw645_3)).trans hw645_3),((HB.out.cell (World.block_lt_of_cell? w _ hw645_4)).trans hw645_4),((HB.out.cell (World.block_lt_of_cell? w _ hw645_5)).trans hw645_5),((HB.out.cell (World.block_lt_of_cell? w _ hw645_6)).trans hw645_6),((HB.out.cell (World.block_lt_of_cell? w _ hw645_7)).trans hw645_7)⟩ (fun hHeld=>?_);clear hK K;refine nZ 25 ?_;refine pureZ 9 (some 26) (yA 10 0) ?_;refine done_ (done_of HT_.out (by kernel_rfl)) ?_;go_upto_if 26 with (fail)
     obtain ⟨H⟩:=HF8;replace H:=iteB H;rcases H with ⟨rfl,H⟩|⟨rfl,H⟩
     ·have H':=A_ H
      clear H;go_wp2
      go_roundg k1
      case measure=>have:=HK1.out;omega
      case rel=>exact ⟨(wrap64 (x5_1+1)),zz7,H',⟨(zz17 HK1)⟩,⟨(zz0 HB)⟩⟩
     ·obtain rfl:=sI H
      go_wp2
      go_ret
      exact ⟨zz5,(zz0 HB)⟩
    ·obtain rfl:=sI H
     go_wp2
     go_ret
     exact ⟨zz5,(zz0 HB)⟩
 ·obtain ⟨c3b0,c3b1⟩:=eqF c3
  have c3b2:(l0.length == l1.length)=false:=by first|simpa using c3|(simp at c3 ⊢;omega)
  obtain rfl:=sI H;go_enter Tryz.func29,Tryz.ntmps29;go_wp2
  go_ret
  exact ⟨zz5,(zz0 HB)⟩
def laws_eqLookS.l0:Nat→List (S52)→List (S52)→Int→Option (Bool)
 | 0,_,_,_=>none
 | k+1,x0,x1,x5=>if x5 < (x0.length:Int) then (if 0≤x5 then (if x5 < (x1.length:Int) then ((laws_eqLook.f ((rd_T52 x0 x5).f0) ((rd_T52 x0 x5).f1) ((rd_T52 x0 x5).f2) ((rd_T52 x1 x5).f0) ((rd_T52 x1 x5).f1) ((rd_T52 x1 x5).f2)).bind fun t651=>(if t651=true then (laws_eqLookS.l0 k x0 x1 (wrap64 (x5+1))) else (some false))) else (none)) else (none)) else (some true)
def laws_eqLookS.f (k:Nat) (l0:List (S52)) (l1:List (S52)):Option (Bool):=if (l0.length:Int)=(l1.length:Int) then (laws_eqLookS.l0 k l0 l1 0) else (some false)
def laws_eqLookS.T6:Bool×List (List Nat×List Nat):=(true,[([],[]),([],[]),([0,1],[0,1]),([2],[2]),([],[]),([],[]),([4,5],[4,5]),([6],[6]),([3,7],[3,7]),([8],[8])])
def laws_eqLookS.B6:List Nat:=[0,0,3,7,0,0,48,112,255,511]
theorem laws_eqLookS.tab6:rtab .any (opsOf Tryz.f30 6)=laws_eqLookS.T6:=by kernel_rfl
theorem laws_eqLookS.bits6:waitsOk laws_eqLookS.T6.2 laws_eqLookS.B6=true:=by kernel_rfl
theorem laws_eqLookS.calls (k:Nat) (A0:Option Addr) (c0:Nat) (l0:List (S52)) (A1:Option Addr) (c1:Nat) (l1:List (S52)) (r:Bool) (w:World) (hr0:Kd.C k52 w A0 l0.length l0) (hc0:l0.length≤c0) (hr1:Kd.C k52 w A1 l1.length l1) (hc1:l1.length≤c1) (h:laws_eqLookS.f k l0 l1=some r) :
  Calls Tryz.prog 30 #[.slice A0 l0.length c0,.slice A1 l1.length c1] w fun e w'=>e=.returned (.bool r)∧Below w.heap.size w w':=by
 have hu52:=Tryz.underlying52;have HR0:=A_ hr0;have HC0:=A_ hc0;clear hr0 hc0;have HR1:=A_ hr1;have HC1:=A_ hc1;clear hr1 hc1;have HB:=A_ (Below.refl w.heap.size w);unfold laws_eqLookS.f at h
 have H:=h;clear h;replace H:=iteE H;rcases H with ⟨c3,H⟩|⟨c3,H⟩
 ·obtain ⟨c3b0,c3b1⟩:=eqT c3
  have c3b2:(l0.length == l1.length)=true:=by first|simpa using c3|(simp at c3 ⊢;omega)
  clear c3;have H':=A_ H;clear H;go_enter Tryz.func30,Tryz.ntmps30;go_wp2
  go_loopg [5] k (fun kq v5 w'=>∃ (x5_1:Int),v5=.int .i64 x5_1∧Aside0 (laws_eqLookS.l0 kq l0 l1 x5_1=some r)∧Aside0 (kq≤k)∧Aside0 (Below w.heap.size w w'))
  case atStart=>exact ⟨(0),zz7,H',⟨Nat.le_refl _⟩,⟨(zz0 HB)⟩⟩
  case round=>
   clear H';obtain ⟨x5_1,rfl,HA,HK1,HB⟩:=hrel;cases gk with
   | zero=>exact absurd HA.out (by simp [laws_eqLookS.l0])
   | succ k1=>
    obtain ⟨H⟩:=HA;simp only [laws_eqLookS.l0] at H
    replace H:=iteEd H;rcases H with ⟨c4b0,H⟩|⟨c4b0,H⟩
    ·replace H:=iteNd H
     obtain ⟨c5b0,H⟩:=H;replace H:=iteNd H;obtain ⟨c6b0,H⟩:=H;replace H:=bindA H;obtain ⟨t651,A7,H⟩:=H;have HF8:=A_ H;clear H;try go_wp2
     replace HB:=A_ (below_drew1 HB.out);obtain ⟨⟨ad649,e649,hx649_0,hx649_1,hx649_2⟩,p649,q649⟩:=atB (at_T52 HR0.out x5_1);have hw649_2:=hx649_2;have hw649_1:=hx649_1;have hw649_0:=hx649_0;cases e649
     obtain ⟨hx649_0,hx649_1,hx649_2⟩:=cb3 HB hx649_0 hx649_1 hx649_2;obtain ⟨⟨ad650,e650,hx650_0,hx650_1,hx650_2⟩,p650,q650⟩:=atB (at_T52 HR1.out x5_1);have hw650_2:=hx650_2;have hw650_1:=hx650_1;have hw650_0:=hx650_0;cases e650
     obtain ⟨hx650_0,hx650_1,hx650_2⟩:=cb3 HB hx650_0 hx650_1 hx650_2;refine start_ (n:=10) (S:=fun w'=>w'.cell? (ad649.add ((x5_1).toNat * 3))=some (.int .i64 ((rd_T52 l0 x5_1).f0))∧w'.cell? ⟨(ad649.add ((x5_1).toNat * 3)).block,(ad649.add ((x5_1).toNat * 3)).off+1,none⟩=some (.string ((rd_T52 l0 x5_1).f1))∧w'.cell? ⟨(ad649.add ((x5_1).toNat * 3)).block,(ad649.add ((x5_1).toNat * 3)).off+2,none⟩=some (.int .i64 ((rd_T52 l0 x5_1).f2))∧w'.cell? (ad650.add ((x5_1).toNat * 3))=some (.int .i64 ((rd_T52 l1 x5_1).f0))∧w'.cell? ⟨(ad650.add ((x5_1).toNat * 3)).block,(ad650.add ((x5_1).toNat * 3)).off+1,none⟩=some (.string ((rd_T52 l1 x5_1).f1))∧w'.cell? ⟨(ad650.add ((x5_1).toNat * 3)).block,(ad650.add ((x5_1).toNat * 3)).off+2,none⟩=some (.int .i64 ((rd_T52 l1 x5_1).f2))) (ds:=[]) #[yF,yF,yF,yF,yF,yF,yF,yF,yF,yF] (by kernel_rfl) rfl rfl ⟨((HB.out.cell (World.block_lt_of_cell? w _ hw649_0)).trans hw649_0),((HB.out.cell (World.block_lt_of_cell? w _ hw649_1)).trans hw649_1),((HB.out.cell (World.block_lt_of_cell? w _ hw649_2)).trans hw649_2),((HB.out.cell (World.block_lt_of_cell? w _ hw650_0)).trans hw650_0),((HB.out.cell (World.block_lt_of_cell? w _ hw650_1)).trans hw650_1),((HB.out.cell (World.block_lt_of_cell? w _ hw650_2)).trans hw650_2)⟩ (fun hHeld=>?_);refine with_tabW laws_eqLookS.tab6 laws_eqLookS.bits6 (fun HT_ HW_=>?_);generalize wr.drew=w9 at HB hx649_0 hx649_1 hx649_2 hx650_0 hx650_1 hx650_2 hHeld ⊢;refine pureZ 0 (some 17) (yA 1 9) ?_;refine pureZ 1 (some 18) (yA 2 8) ?_;refine pureZ 2 (some 19) (yA 3 7) ?_;refine pureZ 4 (some 21) #[yT,yT,yT,yF,yT,yF,yF,yF,yF,yF] ?_;refine pureZ 5 (some 22) #[yT,yT,yT,yF,yT,yT,yF,yF,yF,yF] ?_;refine pureZ 6 (some 23) #[yT,yT,yT,yF,yT,yT,yT,yF,yF,yF] ?_;refine takeZ6 3 (some 20) (yA 7 3) hHeld ?_;refine takeZ6 7 (some 24) (yA 8 2) hHeld ?_;refine oneZ 8 (some 25) (yA 9 1) (fun K hK=>?_);refine goes_ Tryz.func57 (by kernel_rfl) rfl #[.agg #[.int .i64 ((rd_T52 l0 x5_1).f0),.string ((rd_T52 l0 x5_1).f1),.int .i64 ((rd_T52 l0 x5_1).f2)],.agg #[.int .i64 ((rd_T52 l1 x5_1).f0),.string ((rd_T52 l1 x5_1).f1),.int .i64 ((rd_T52 l1 x5_1).f2)]] (by rfl) rfl rfl zz39 ?_;with_reducible refine (laws_eqLook.calls ((rd_T52 l0 x5_1).f0) ((rd_T52 l0 x5_1).f1) ((rd_T52 l0 x5_1).f2) ((rd_T52 l1 x5_1).f0) ((rd_T52 l1 x5_1).f1) ((rd_T52 l1 x5_1).f2) t651 _ A7.out).mono ?_
     rintro e w10 ⟨rfl,hb⟩;refine ⟨_,rfl,?_⟩;replace HB:=A_ (bS (zz0 HB) hb);(try clear hb)
     (try clear hb2)
     (try clear hk)
     (try clear hi)
     refine hK.out _ _ ⟨((HB.out.cell (World.block_lt_of_cell? w _ hw649_0)).trans hw649_0),((HB.out.cell (World.block_lt_of_cell? w _ hw649_1)).trans hw649_1),((HB.out.cell (World.block_lt_of_cell? w _ hw649_2)).trans hw649_2),((HB.out.cell (World.block_lt_of_cell? w _ hw650_0)).trans hw650_0),((HB.out.cell (World.block_lt_of_cell? w _ hw650_1)).trans hw650_1),((HB.out.cell (World.block_lt_of_cell? w _ hw650_2)).trans hw650_2)⟩ (fun hHeld=>?_);clear hK K;refine nZ 25 ?_;refine pureZ 9 (some 26) (yA 10 0) ?_;refine done_ (done_of HT_.out (by kernel_rfl)) ?_;go_upto_if 26 with (fail)
     obtain ⟨H⟩:=HF8;replace H:=iteB H;rcases H with ⟨rfl,H⟩|⟨rfl,H⟩
     ·have H':=A_ H
      clear H;go_wp2
      go_roundg k1
      case measure=>have:=HK1.out;omega
      case rel=>exact ⟨(wrap64 (x5_1+1)),zz7,H',⟨(zz17 HK1)⟩,⟨(zz0 HB)⟩⟩
     ·obtain rfl:=sI H
      go_wp2
      go_ret
      exact ⟨zz5,(zz0 HB)⟩
    ·obtain rfl:=sI H
     go_wp2
     go_ret
     exact ⟨zz5,(zz0 HB)⟩
 ·obtain ⟨c3b0,c3b1⟩:=eqF c3
  have c3b2:(l0.length == l1.length)=false:=by first|simpa using c3|(simp at c3 ⊢;omega)
  obtain rfl:=sI H;go_enter Tryz.func30,Tryz.ntmps30;go_wp2
  go_ret
  exact ⟨zz5,(zz0 HB)⟩
def laws_eqTrip.f (k:Nat) (a0_0:ByteArray) (a0_1:Int) (l0_2:List (S82)) (l0_3:List ByteArray) (l0_4:List (S52)) (a1_0:ByteArray) (a1_1:Int) (l1_2:List (S82)) (l1_3:List ByteArray) (l1_4:List (S52)):Option (Bool):=if a0_0.toList=a1_0.toList then (if a0_1=a1_1 then ((laws_eqHouseS.f k l0_2 l1_2).bind fun t654=>(if t654=true then ((laws_eqStringS.f k l0_3 l1_3).bind fun t655=>(if t655=true then ((laws_eqLookS.f k l0_4 l1_4).bind fun t656=>(if t656=true then (some true) else (some false))) else (some false))) else (some false))) else (some false)) else (some false)
theorem laws_eqTrip.calls (k:Nat) (a0_0:ByteArray) (a0_1:Int) (A0_2:Option Addr) (c0_2:Nat) (l0_2:List (S82)) (A0_3:Option Addr) (c0_3:Nat) (l0_3:List ByteArray) (A0_4:Option Addr) (c0_4:Nat) (l0_4:List (S52)) (a1_0:ByteArray) (a1_1:Int) (A1_2:Option Addr) (c1_2:Nat) (l1_2:List (S82)) (A1_3:Option Addr) (c1_3:Nat) (l1_3:List ByteArray) (A1_4:Option Addr) (c1_4:Nat) (l1_4:List (S52)) (r:Bool) (w:World) (hr0_2:Kd.C k82 w A0_2 l0_2.length l0_2) (hc0_2:l0_2.length≤c0_2) (hr0_3:Kd.C Kd.string w A0_3 l0_3.length l0_3) (hc0_3:l0_3.length≤c0_3) (hr0_4:Kd.C k52 w A0_4 l0_4.length l0_4) (hc0_4:l0_4.length≤c0_4) (hr1_2:Kd.C k82 w A1_2 l1_2.length l1_2) (hc1_2:l1_2.length≤c1_2) (hr1_3:Kd.C Kd.string w A1_3 l1_3.length l1_3) (hc1_3:l1_3.length≤c1_3) (hr1_4:Kd.C k52 w A1_4 l1_4.length l1_4) (hc1_4:l1_4.length≤c1_4) (h:laws_eqTrip.f k a0_0 a0_1 l0_2 l0_3 l0_4 a1_0 a1_1 l1_2 l1_3 l1_4=some r) :
  Calls Tryz.prog 10 #[.agg #[.string a0_0,.int .i64 a0_1,.slice A0_2 l0_2.length c0_2,.slice A0_3 l0_3.length c0_3,.slice A0_4 l0_4.length c0_4],.agg #[.string a1_0,.int .i64 a1_1,.slice A1_2 l1_2.length c1_2,.slice A1_3 l1_3.length c1_3,.slice A1_4 l1_4.length c1_4]] w fun e w'=>e=.returned (.bool r)∧Below w.heap.size w w':=by
 have hu33:=Tryz.underlying33;have HR0_2:=A_ hr0_2;have HC0_2:=A_ hc0_2;clear hr0_2 hc0_2;have HR0_3:=A_ hr0_3;have HC0_3:=A_ hc0_3;clear hr0_3 hc0_3;have HR0_4:=A_ hr0_4;have HC0_4:=A_ hc0_4;clear hr0_4 hc0_4;have HR1_2:=A_ hr1_2;have HC1_2:=A_ hc1_2;clear hr1_2 hc1_2;have HR1_3:=A_ hr1_3;have HC1_3:=A_ hc1_3;clear hr1_3 hc1_3;have HR1_4:=A_ hr1_4;have HC1_4:=A_ hc1_4;clear hr1_4 hc1_4;have HB:=A_ (Below.refl w.heap.size w);unfold laws_eqTrip.f at h
 have H:=h;clear h;have HF3:=A_ H;clear H;go_enter Tryz.func10,Tryz.ntmps10;go_upto_if 9 with (first|(refine boxF 2 #[.string a0_0,.int .i64 a0_1,.slice A0_2 l0_2.length c0_2,.slice A0_3 l0_3.length c0_3,.slice A0_4 l0_4.length c0_4] 33 ?_;intro gb652 hg w4 BK652 hb;have GE652:=geB hg (zz0 HB);replace HB:=A_ (bS (zz0 HB) hb);clear hb hg)|(refine boxF 3 #[.string a1_0,.int .i64 a1_1,.slice A1_2 l1_2.length c1_2,.slice A1_3 l1_3.length c1_3,.slice A1_4 l1_4.length c1_4] 33 ?_;intro gb653 hg w5 BK653 hb;have GE653:=geB hg (zz1 HB GE652);replace HB:=A_ (bS (zz1 HB GE652) hb);have NB652_653:=A_ ((by rw [hg];exact Nat.ne_of_lt (blk_lt (zz2 BK652)):gb652≠gb653));have NB653_652:=A_ ((by rw [hg];exact Nat.ne_of_gt (blk_lt (zz2 BK652)):gb653≠gb652));replace BK652:=A_ (bB (zz2 BK652) hb);clear hb hg;have hnb6:=NB652_653.out;have hnc6:=NB653_652.out;obtain ⟨_,_,_,_,_,_,_,_,_,_⟩:=cf5 BK652;obtain ⟨_,_,_,_,_,_,_,_,_,_⟩:=cf5 BK653))
 obtain ⟨H⟩:=HF3;replace H:=iteEq H;rcases H with ⟨c9b0,c9b1,H⟩|⟨c9b0,c9b1,c9,H⟩
 ·(first|rw [c9b0]|(simp only [i64_w,i32_w];rw [c9b0])|skip)
  replace H:=iteEq H;rcases H with ⟨c10b0,c10b1,H⟩|⟨c10b0,c10b1,c10,H⟩
  ·replace H:=bindA H
   obtain ⟨t654,A11,H⟩:=H;have HF12:=A_ H;clear H;have hnb13:=NB652_653.out;have hnc13:=NB653_652.out;obtain ⟨_,_,_,_,_,_,_,_,_,_⟩:=cf5 BK652;obtain ⟨_,_,_,_,_,_,_,_,_,_⟩:=cf5 BK653;go_upto_if 20 with (first|(refine gR 29 (some 19) Tryz.func29 (laws_eqHouseS.calls k _ _ l0_2 _ _ l1_2 t654 _ ?side1 ?side2 ?side3 ?side4 A11.out) ?_;(case side1=>exact (zz21 HR0_2 HB));(case side2=>exact HC0_2.out);(case side3=>exact (zz21 HR1_2 HB));(case side4=>exact HC1_2.out);rintro w16 hb;replace BK652:=A_ (bB (zz2 BK652) hb);replace BK653:=A_ (bB (zz2 BK653) hb);replace HB:=A_ (bS (zz3 HB GE652 GE653) hb);(try clear hb)))
   obtain ⟨H⟩:=HF12;replace H:=iteB H;rcases H with ⟨rfl,H⟩|⟨rfl,H⟩
   ·replace H:=bindA H
    obtain ⟨t655,A18,H⟩:=H;have HF19:=A_ H;clear H;have hnb20:=NB652_653.out;have hnc20:=NB653_652.out;obtain ⟨_,_,_,_,_,_,_,_,_,_⟩:=cf5 BK652;obtain ⟨_,_,_,_,_,_,_,_,_,_⟩:=cf5 BK653;go_upto_if 26 with (first|(refine gR 16 (some 25) Tryz.func16 (laws_eqStringS.calls k _ _ l0_3 _ _ l1_3 t655 _ ?side1 ?side2 ?side3 ?side4 A18.out) ?_;(case side1=>exact (zz21 HR0_3 HB));(case side2=>exact HC0_3.out);(case side3=>exact (zz21 HR1_3 HB));(case side4=>exact HC1_3.out);rintro w' ⟨nd,rfl⟩))
    obtain ⟨H⟩:=HF19;replace H:=iteB H;rcases H with ⟨rfl,H⟩|⟨rfl,H⟩
    ·replace H:=bindA H
     obtain ⟨t656,A24,H⟩:=H;have HF25:=A_ H;clear H;have hnb26:=NB652_653.out;have hnc26:=NB653_652.out;obtain ⟨_,_,_,_,_,_,_,_,_,_⟩:=cf5 BK652;obtain ⟨_,_,_,_,_,_,_,_,_,_⟩:=cf5 BK653;go_upto_if 32 with (first|(refine gR 30 (some 31) Tryz.func30 (laws_eqLookS.calls k _ _ l0_4 _ _ l1_4 t656 _ ?side1 ?side2 ?side3 ?side4 A24.out) ?_;(case side1=>exact (zz21 HR0_4 HB));(case side2=>exact HC0_4.out);(case side3=>exact (zz21 HR1_4 HB));(case side4=>exact HC1_4.out);rintro w29 hb;replace BK652:=A_ (bB (zz2 BK652) hb);replace BK653:=A_ (bB (zz2 BK653) hb);replace HB:=A_ (bS (zz3 HB GE652 GE653) hb);(try clear hb)))
     obtain ⟨H⟩:=HF25;replace H:=iteB H;rcases H with ⟨rfl,H⟩|⟨rfl,H⟩
     ·obtain rfl:=sI H
      go_wp2
      go_ret
      exact ⟨zz5,(zz3 HB GE652 GE653)⟩
     ·obtain rfl:=sI H
      go_wp2
      go_ret
      exact ⟨zz5,(zz3 HB GE652 GE653)⟩
    ·obtain rfl:=sI H
     go_wp2
     go_ret
     exact ⟨zz5,(zz3 HB GE652 GE653)⟩
   ·obtain rfl:=sI H
    go_wp2
    go_ret
    exact ⟨zz5,(zz3 HB GE652 GE653)⟩
  ·obtain rfl:=sI H
   have hnb31:=NB652_653.out;have hnc31:=NB653_652.out;obtain ⟨_,_,_,_,_,_,_,_,_,_⟩:=cf5 BK652;obtain ⟨_,_,_,_,_,_,_,_,_,_⟩:=cf5 BK653;go_wp2
   go_ret
   exact ⟨zz5,(zz3 HB GE652 GE653)⟩
 ·(first|rw [c9b0]|(simp only [i64_w,i32_w];rw [c9b0])|skip)
  obtain rfl:=sI H;go_wp2
  go_ret
  exact ⟨zz5,(zz3 HB GE652 GE653)⟩
def laws_szStringS.l0:Nat→List ByteArray→Int→Int→Option (Int)
 | 0,_,_,_=>none
 | k+1,x0,x1,x5=>if x5 < (x0.length:Int) then (if 0≤x5 then (if (wrap64 (x1 - ((rdOf ByteArray.empty x0 x5).size:Int))) < 0 then (some (-1)) else (laws_szStringS.l0 k x0 (wrap64 (x1 - ((rdOf ByteArray.empty x0 x5).size:Int))) (wrap64 (x5+1)))) else (none)) else (some x1)
def laws_szStringS.f (k:Nat) (l0:List ByteArray) (a1:Int):Option (Int):=if (wrap64 (a1 - (l0.length:Int))) < 0 then (some (-1)) else (laws_szStringS.l0 k l0 (wrap64 (a1 - (l0.length:Int))) 0)
theorem laws_szStringS.calls (k:Nat) (A0:Option Addr) (c0:Nat) (l0:List ByteArray) (a1:Int) (r:Int) (w:World) (hr0:Kd.C Kd.string w A0 l0.length l0) (hc0:l0.length≤c0) (h:laws_szStringS.f k l0 a1=some r) :
  Calls Tryz.prog 20 #[.slice A0 l0.length c0,.int .i64 a1] w fun e w'=>e=.returned (.int .i64 r)∧Drawn0 w w':=by
 have HR0:=A_ hr0;have HC0:=A_ hc0;clear hr0 hc0;unfold laws_szStringS.f at h
 have H:=h;clear h;replace H:=iteEd H;rcases H with ⟨c3b0,H⟩|⟨c3b0,H⟩
 ·obtain rfl:=sI H
  go_enter Tryz.func20,Tryz.ntmps20;go_wp2
  go_ret
  exact ⟨zz7,zz8⟩
 ·have H':=A_ H
  clear H;go_enter Tryz.func20,Tryz.ntmps20;go_wp2
  go_loopg [1,5] k (fun kq v1 v5 w'=>∃ (x1_1:Int) (x5_1:Int),v1=.int .i64 x1_1∧v5=.int .i64 x5_1∧Aside0 (laws_szStringS.l0 kq l0 x1_1 x5_1=some r)∧Aside0 (kq≤k)∧Drawn0 w w')
  case atStart=>exact ⟨(wrap64 (a1 - (l0.length:Int))),(0),zz7,zz7,H',⟨Nat.le_refl _⟩,zz8⟩
  case round=>
   clear H';obtain ⟨x1_1,x5_1,rfl,rfl,HA,HK1,⟨m1,rfl⟩⟩:=hrel;cases gk with
   | zero=>exact absurd HA.out (by simp [laws_szStringS.l0])
   | succ k1=>
    obtain ⟨H⟩:=HA;simp only [laws_szStringS.l0] at H
    replace H:=iteEd H;rcases H with ⟨c4b0,H⟩|⟨c4b0,H⟩
    ·replace H:=iteNd H
     obtain ⟨c5b0,H⟩:=H;replace H:=iteEd H;rcases H with ⟨c6b0,H⟩|⟨c6b0,H⟩
     ·obtain rfl:=sI H
      obtain ⟨⟨ad101,e101,hx101_0⟩,p101,q101⟩:=atB (Kd.at_string HR0.out x5_1);cases e101
      go_wp2
      go_ret
      exact ⟨zz7,zz8⟩
     ·have H':=A_ H
      clear H;obtain ⟨⟨ad101,e101,hx101_0⟩,p101,q101⟩:=atB (Kd.at_string HR0.out x5_1);cases e101
      go_wp2
      go_roundg k1
      case measure=>have:=HK1.out;omega
      case rel=>exact ⟨(wrap64 (x1_1 - ((rdOf ByteArray.empty l0 x5_1).size:Int))),(wrap64 (x5_1+1)),zz7,zz7,H',⟨(zz17 HK1)⟩,zz8⟩
    ·obtain rfl:=sI H
     go_wp2
     go_ret
     exact ⟨zz7,zz8⟩
def laws_szRuleS.l0:Nat→List (S134)→Int→Int→Option (Int)
 | 0,_,_,_=>none
 | k+1,x0,x1,x5=>if x5 < (x0.length:Int) then (if 0≤x5 then ((laws_szRule.f ((rd_T134 x0 x5).f0) ((rd_T134 x0 x5).f1) x1).bind fun t104=>(if t104 < 0 then (some (-1)) else (laws_szRuleS.l0 k x0 t104 (wrap64 (x5+1))))) else (none)) else (some x1)
def laws_szRuleS.f (k:Nat) (l0:List (S134)) (a1:Int):Option (Int):=if (wrap64 (a1 - (l0.length:Int))) < 0 then (some (-1)) else (laws_szRuleS.l0 k l0 (wrap64 (a1 - (l0.length:Int))) 0)
theorem laws_szRuleS.calls (k:Nat) (A0:Option Addr) (c0:Nat) (l0:List (S134)) (a1:Int) (r:Int) (w:World) (hr0:Kd.C k134 w A0 l0.length l0) (hc0:l0.length≤c0) (h:laws_szRuleS.f k l0 a1=some r) :
  Calls Tryz.prog 84 #[.slice A0 l0.length c0,.int .i64 a1] w fun e w'=>e=.returned (.int .i64 r)∧Below w.heap.size w w':=by
 have hu134:=Tryz.underlying134;have HR0:=A_ hr0;have HC0:=A_ hc0;clear hr0 hc0;have HB:=A_ (Below.refl w.heap.size w);unfold laws_szRuleS.f at h
 have H:=h;clear h;replace H:=iteEd H;rcases H with ⟨c3b0,H⟩|⟨c3b0,H⟩
 ·obtain rfl:=sI H
  go_enter Tryz.func84,Tryz.ntmps84;go_wp2
  go_ret
  exact ⟨zz5,(zz0 HB)⟩
 ·have H':=A_ H
  clear H;go_enter Tryz.func84,Tryz.ntmps84;go_wp2
  go_loopg [1,5] k (fun kq v1 v5 w'=>∃ (x1_1:Int) (x5_1:Int),v1=.int .i64 x1_1∧v5=.int .i64 x5_1∧Aside0 (laws_szRuleS.l0 kq l0 x1_1 x5_1=some r)∧Aside0 (kq≤k)∧Aside0 (Below w.heap.size w w'))
  case atStart=>exact ⟨(wrap64 (a1 - (l0.length:Int))),(0),zz7,zz7,H',⟨Nat.le_refl _⟩,⟨(zz0 HB)⟩⟩
  case round=>
   clear H';obtain ⟨x1_1,x5_1,rfl,rfl,HA,HK1,HB⟩:=hrel;cases gk with
   | zero=>exact absurd HA.out (by simp [laws_szRuleS.l0])
   | succ k1=>
    obtain ⟨H⟩:=HA;simp only [laws_szRuleS.l0] at H
    replace H:=iteEd H;rcases H with ⟨c4b0,H⟩|⟨c4b0,H⟩
    ·replace H:=iteNd H
     obtain ⟨c5b0,H⟩:=H;replace H:=bindA H;obtain ⟨t104,A6,H⟩:=H;have HF7:=A_ H;clear H;obtain ⟨⟨ad103,e103,hx103_0,hx103_1⟩,p103,q103⟩:=atB (at_T134 HR0.out x5_1);cases e103
     obtain ⟨hx103_0,hx103_1⟩:=cb2 HB hx103_0 hx103_1;go_upto_if 25 with (first|(refine gR 103 (some 23) Tryz.func103 (laws_szRule.calls ((rd_T134 l0 x5_1).f0) ((rd_T134 l0 x5_1).f1) x1_1 t104 _ A6.out) ?_;rintro w8 hb;replace HB:=A_ (bS (zz0 HB) hb);(try clear hb)))
     obtain ⟨H⟩:=HF7;replace H:=iteEd H;rcases H with ⟨c9b0,H⟩|⟨c9b0,H⟩
     ·(first|rw [c9b0]|(simp only [i64_w,i32_w];rw [c9b0])|skip)
      obtain rfl:=sI H;go_wp2
      go_ret
      exact ⟨zz5,(zz0 HB)⟩
     ·(first|rw [c9b0]|(simp only [i64_w,i32_w];rw [c9b0])|skip)
      have H':=A_ H;clear H;go_wp2
      go_roundg k1
      case measure=>have:=HK1.out;omega
      case rel=>exact ⟨(t104),(wrap64 (x5_1+1)),zz7,zz7,H',⟨(zz17 HK1)⟩,⟨(zz0 HB)⟩⟩
    ·obtain rfl:=sI H
     go_wp2
     go_ret
     exact ⟨zz5,(zz0 HB)⟩
def laws_szGroup.f (k:Nat) (l0_0:List ByteArray) (l0_1:List (S134)) (a0_2:Int) (a1:Int):Option (Int):=(laws_szStringS.f k l0_0 a1).bind fun t106=>(if t106 < 0 then (some (-1)) else ((laws_szRuleS.f k l0_1 t106).bind fun t107=>(if t107 < 0 then (some (-1)) else (some t107))))
theorem laws_szGroup.calls (k:Nat) (A0_0:Option Addr) (c0_0:Nat) (l0_0:List ByteArray) (A0_1:Option Addr) (c0_1:Nat) (l0_1:List (S134)) (a0_2:Int) (a1:Int) (r:Int) (w:World) (hr0_0:Kd.C Kd.string w A0_0 l0_0.length l0_0) (hc0_0:l0_0.length≤c0_0) (hr0_1:Kd.C k134 w A0_1 l0_1.length l0_1) (hc0_1:l0_1.length≤c0_1) (h:laws_szGroup.f k l0_0 l0_1 a0_2 a1=some r) :
  Calls Tryz.prog 63 #[.agg #[.slice A0_0 l0_0.length c0_0,.slice A0_1 l0_1.length c0_1,.int .i64 a0_2],.int .i64 a1] w fun e w'=>e=.returned (.int .i64 r)∧Below w.heap.size w w':=by
 have hu67:=Tryz.underlying67;have HR0_0:=A_ hr0_0;have HC0_0:=A_ hc0_0;clear hr0_0 hc0_0;have HR0_1:=A_ hr0_1;have HC0_1:=A_ hc0_1;clear hr0_1 hc0_1;have HB:=A_ (Below.refl w.heap.size w);unfold laws_szGroup.f at h
 have H:=h;clear h;replace H:=bindA H;obtain ⟨t106,A3,H⟩:=H;have HF4:=A_ H;clear H;go_enter Tryz.func63,Tryz.ntmps63;go_upto_if 10 with (first|(refine boxF 2 #[.slice A0_0 l0_0.length c0_0,.slice A0_1 l0_1.length c0_1,.int .i64 a0_2] 67 ?_;intro gb105 hg w5 BK105 hb;have GE105:=geB hg (zz0 HB);replace HB:=A_ (bS (zz0 HB) hb);clear hb hg;obtain ⟨_,_,_,_,_,_⟩:=cf3 BK105)|(refine gR 20 (some 8) Tryz.func20 (laws_szStringS.calls k _ _ l0_0 a1 t106 _ ?side1 ?side2 A3.out) ?_;(case side1=>exact (zz21 HR0_0 HB));(case side2=>exact HC0_0.out);rintro w' ⟨nd,rfl⟩))
 obtain ⟨H⟩:=HF4;replace H:=iteEd H;rcases H with ⟨c7b0,H⟩|⟨c7b0,H⟩
 ·(first|rw [c7b0]|(simp only [i64_w,i32_w];rw [c7b0])|skip)
  obtain rfl:=sI H;go_wp2
  go_ret
  exact ⟨zz5,(zz1 HB GE105)⟩
 ·(first|rw [c7b0]|(simp only [i64_w,i32_w];rw [c7b0])|skip)
  replace H:=bindA H;obtain ⟨t107,A8,H⟩:=H;have HF9:=A_ H;clear H;obtain ⟨_,_,_,_,_,_⟩:=cf3 BK105;go_upto_if 16 with (first|(refine gR 84 (some 14) Tryz.func84 (laws_szRuleS.calls k _ _ l0_1 t106 t107 _ ?side1 ?side2 A8.out) ?_;(case side1=>exact (zz21 HR0_1 HB));(case side2=>exact HC0_1.out);rintro w11 hb;replace BK105:=A_ (bB (zz2 BK105) hb);replace HB:=A_ (bS (zz1 HB GE105) hb);(try clear hb)))
  obtain ⟨H⟩:=HF9;replace H:=iteEd H;rcases H with ⟨c12b0,H⟩|⟨c12b0,H⟩
  ·(first|rw [c12b0]|(simp only [i64_w,i32_w];rw [c12b0])|skip)
   obtain rfl:=sI H;go_wp2
   go_ret
   exact ⟨zz5,(zz1 HB GE105)⟩
  ·(first|rw [c12b0]|(simp only [i64_w,i32_w];rw [c12b0])|skip)
   obtain rfl:=sI H;go_wp2
   go_ret
   exact ⟨zz5,(zz1 HB GE105)⟩
def laws_szItemS.l0:Nat→List (S119)→Int→Int→Option (Int)
 | 0,_,_,_=>none
 | k+1,x0,x1,x5=>if x5 < (x0.length:Int) then (if 0≤x5 then ((laws_szItem.f ((rd_T119 x0 x5).f0) ((rd_T119 x0 x5).f1) x1).bind fun t110=>(if t110 < 0 then (some (-1)) else (laws_szItemS.l0 k x0 t110 (wrap64 (x5+1))))) else (none)) else (some x1)
def laws_szItemS.f (k:Nat) (l0:List (S119)) (a1:Int):Option (Int):=if (wrap64 (a1 - (l0.length:Int))) < 0 then (some (-1)) else (laws_szItemS.l0 k l0 (wrap64 (a1 - (l0.length:Int))) 0)
theorem laws_szItemS.calls (k:Nat) (A0:Option Addr) (c0:Nat) (l0:List (S119)) (a1:Int) (r:Int) (w:World) (hr0:Kd.C k119 w A0 l0.length l0) (hc0:l0.length≤c0) (h:laws_szItemS.f k l0 a1=some r) :
  Calls Tryz.prog 64 #[.slice A0 l0.length c0,.int .i64 a1] w fun e w'=>e=.returned (.int .i64 r)∧Below w.heap.size w w':=by
 have hu119:=Tryz.underlying119;have HR0:=A_ hr0;have HC0:=A_ hc0;clear hr0 hc0;have HB:=A_ (Below.refl w.heap.size w);unfold laws_szItemS.f at h
 have H:=h;clear h;replace H:=iteEd H;rcases H with ⟨c3b0,H⟩|⟨c3b0,H⟩
 ·obtain rfl:=sI H
  go_enter Tryz.func64,Tryz.ntmps64;go_wp2
  go_ret
  exact ⟨zz5,(zz0 HB)⟩
 ·have H':=A_ H
  clear H;go_enter Tryz.func64,Tryz.ntmps64;go_wp2
  go_loopg [1,5] k (fun kq v1 v5 w'=>∃ (x1_1:Int) (x5_1:Int),v1=.int .i64 x1_1∧v5=.int .i64 x5_1∧Aside0 (laws_szItemS.l0 kq l0 x1_1 x5_1=some r)∧Aside0 (kq≤k)∧Aside0 (Below w.heap.size w w'))
  case atStart=>exact ⟨(wrap64 (a1 - (l0.length:Int))),(0),zz7,zz7,H',⟨Nat.le_refl _⟩,⟨(zz0 HB)⟩⟩
  case round=>
   clear H';obtain ⟨x1_1,x5_1,rfl,rfl,HA,HK1,HB⟩:=hrel;cases gk with
   | zero=>exact absurd HA.out (by simp [laws_szItemS.l0])
   | succ k1=>
    obtain ⟨H⟩:=HA;simp only [laws_szItemS.l0] at H
    replace H:=iteEd H;rcases H with ⟨c4b0,H⟩|⟨c4b0,H⟩
    ·replace H:=iteNd H
     obtain ⟨c5b0,H⟩:=H;replace H:=bindA H;obtain ⟨t110,A6,H⟩:=H;have HF7:=A_ H;clear H;obtain ⟨⟨ad109,e109,hx109_0,hx109_1⟩,p109,q109⟩:=atB (at_T119 HR0.out x5_1);cases e109
     obtain ⟨hx109_0,hx109_1⟩:=cb2 HB hx109_0 hx109_1;go_upto_if 25 with (first|(refine gR 85 (some 23) Tryz.func85 (laws_szItem.calls ((rd_T119 l0 x5_1).f0) ((rd_T119 l0 x5_1).f1) x1_1 t110 _ A6.out) ?_;rintro w8 hb;replace HB:=A_ (bS (zz0 HB) hb);(try clear hb)))
     obtain ⟨H⟩:=HF7;replace H:=iteEd H;rcases H with ⟨c9b0,H⟩|⟨c9b0,H⟩
     ·(first|rw [c9b0]|(simp only [i64_w,i32_w];rw [c9b0])|skip)
      obtain rfl:=sI H;go_wp2
      go_ret
      exact ⟨zz5,(zz0 HB)⟩
     ·(first|rw [c9b0]|(simp only [i64_w,i32_w];rw [c9b0])|skip)
      have H':=A_ H;clear H;go_wp2
      go_roundg k1
      case measure=>have:=HK1.out;omega
      case rel=>exact ⟨(t110),(wrap64 (x5_1+1)),zz7,zz7,H',⟨(zz17 HK1)⟩,⟨(zz0 HB)⟩⟩
    ·obtain rfl:=sI H
     go_wp2
     go_ret
     exact ⟨zz5,(zz0 HB)⟩
def laws_szHouse.f (k:Nat) (a0_0:ByteArray) (a0_1:Int) (a0_2:Bool) (l0_3:List ByteArray) (l0_4:List (S134)) (a0_5:Int) (a0_6:Int) (l0_7:List (S119)) (a1:Int):Option (Int):=if (wrap64 (a1 - (a0_0.size:Int))) < 0 then (some (-1)) else ((laws_szGroup.f k l0_3 l0_4 a0_5 (wrap64 (a1 - (a0_0.size:Int)))).bind fun t112=>(if t112 < 0 then (some (-1)) else ((laws_szItemS.f k l0_7 t112).bind fun t113=>(if t113 < 0 then (some (-1)) else (some t113)))))
theorem laws_szHouse.calls (k:Nat) (a0_0:ByteArray) (a0_1:Int) (a0_2:Bool) (A0_3:Option Addr) (c0_3:Nat) (l0_3:List ByteArray) (A0_4:Option Addr) (c0_4:Nat) (l0_4:List (S134)) (a0_5:Int) (a0_6:Int) (A0_7:Option Addr) (c0_7:Nat) (l0_7:List (S119)) (a1:Int) (r:Int) (w:World) (hr0_3:Kd.C Kd.string w A0_3 l0_3.length l0_3) (hc0_3:l0_3.length≤c0_3) (hr0_4:Kd.C k134 w A0_4 l0_4.length l0_4) (hc0_4:l0_4.length≤c0_4) (hr0_7:Kd.C k119 w A0_7 l0_7.length l0_7) (hc0_7:l0_7.length≤c0_7) (h:laws_szHouse.f k a0_0 a0_1 a0_2 l0_3 l0_4 a0_5 a0_6 l0_7 a1=some r) :
  Calls Tryz.prog 37 #[.agg #[.string a0_0,.int .i64 a0_1,.bool a0_2,.slice A0_3 l0_3.length c0_3,.slice A0_4 l0_4.length c0_4,.int .i64 a0_5,.int .i64 a0_6,.slice A0_7 l0_7.length c0_7],.int .i64 a1] w fun e w'=>e=.returned (.int .i64 r)∧Below w.heap.size w w':=by
 have hu70:=Tryz.underlying70;have hu67:=Tryz.underlying67;have HR0_3:=A_ hr0_3;have HC0_3:=A_ hc0_3;clear hr0_3 hc0_3;have HR0_4:=A_ hr0_4;have HC0_4:=A_ hc0_4;clear hr0_4 hc0_4;have HR0_7:=A_ hr0_7;have HC0_7:=A_ hc0_7;clear hr0_7 hc0_7;have HB:=A_ (Below.refl w.heap.size w);unfold laws_szHouse.f at h
 have H:=h;clear h;have HF3:=A_ H;clear H;go_enter Tryz.func37,Tryz.ntmps37;go_upto_if 11 with (first|(refine boxF 2 #[.string a0_0,.int .i64 a0_1,.bool a0_2,.slice A0_3 l0_3.length c0_3,.slice A0_4 l0_4.length c0_4,.int .i64 a0_5,.int .i64 a0_6,.slice A0_7 l0_7.length c0_7] 70 ?_;intro gb111 hg w4 BK111 hb;have GE111:=geB hg (zz0 HB);replace HB:=A_ (bS (zz0 HB) hb);clear hb hg;have hcz5_0:w4.cell? ⟨gb111,0,none⟩=some (.string a0_0):=(blk_cell BK111.out 0).trans rfl;have hcz5_1:w4.cell? ⟨gb111,1,none⟩=some (.int .i64 a0_1):=(blk_cell BK111.out 1).trans rfl;have hcz5_2:w4.cell? ⟨gb111,2,none⟩=some (.bool a0_2):=(blk_cell BK111.out 2).trans rfl;have hcz5_3:w4.cell? ⟨gb111,3,none⟩=some (.slice A0_3 l0_3.length c0_3):=(blk_cell BK111.out 3).trans rfl;have hcz5_4:w4.cell? ⟨gb111,4,none⟩=some (.slice A0_4 l0_4.length c0_4):=(blk_cell BK111.out 4).trans rfl;have hcz5_5:w4.cell? ⟨gb111,5,none⟩=some (.int .i64 a0_5):=(blk_cell BK111.out 5).trans rfl;have hcz5_6:w4.cell? ⟨gb111,6,none⟩=some (.int .i64 a0_6):=(blk_cell BK111.out 6).trans rfl;have hcz5_7:w4.cell? ⟨gb111,7,none⟩=some (.slice A0_7 l0_7.length c0_7):=(blk_cell BK111.out 7).trans rfl;have hfz5_0:=blk_frozen BK111.out 0;have hfz5_1:=blk_frozen BK111.out 1;have hfz5_2:=blk_frozen BK111.out 2;have hfz5_3:=blk_frozen BK111.out 3;have hfz5_4:=blk_frozen BK111.out 4;have hfz5_5:=blk_frozen BK111.out 5;have hfz5_6:=blk_frozen BK111.out 6;have hfz5_7:=blk_frozen BK111.out 7))
 obtain ⟨H⟩:=HF3;replace H:=iteEd H;rcases H with ⟨c6b0,H⟩|⟨c6b0,H⟩
 ·(first|rw [c6b0]|(simp only [i64_w,i32_w];rw [c6b0])|skip)
  obtain rfl:=sI H;go_wp2
  go_ret
  exact ⟨zz5,(zz1 HB GE111)⟩
 ·(first|rw [c6b0]|(simp only [i64_w,i32_w];rw [c6b0])|skip)
  replace H:=bindA H;obtain ⟨t112,A7,H⟩:=H;have HF8:=A_ H;clear H;have hcz9_0:w4.cell? ⟨gb111,0,none⟩=some (.string a0_0):=(blk_cell BK111.out 0).trans rfl;have hcz9_1:w4.cell? ⟨gb111,1,none⟩=some (.int .i64 a0_1):=(blk_cell BK111.out 1).trans rfl;have hcz9_2:w4.cell? ⟨gb111,2,none⟩=some (.bool a0_2):=(blk_cell BK111.out 2).trans rfl;have hcz9_3:w4.cell? ⟨gb111,3,none⟩=some (.slice A0_3 l0_3.length c0_3):=(blk_cell BK111.out 3).trans rfl;have hcz9_4:w4.cell? ⟨gb111,4,none⟩=some (.slice A0_4 l0_4.length c0_4):=(blk_cell BK111.out 4).trans rfl;have hcz9_5:w4.cell? ⟨gb111,5,none⟩=some (.int .i64 a0_5):=(blk_cell BK111.out 5).trans rfl;have hcz9_6:w4.cell? ⟨gb111,6,none⟩=some (.int .i64 a0_6):=(blk_cell BK111.out 6).trans rfl;have hcz9_7:w4.cell? ⟨gb111,7,none⟩=some (.slice A0_7 l0_7.length c0_7):=(blk_cell BK111.out 7).trans rfl;have hfz9_0:=blk_frozen BK111.out 0;have hfz9_1:=blk_frozen BK111.out 1;have hfz9_2:=blk_frozen BK111.out 2;have hfz9_3:=blk_frozen BK111.out 3;have hfz9_4:=blk_frozen BK111.out 4;have hfz9_5:=blk_frozen BK111.out 5;have hfz9_6:=blk_frozen BK111.out 6;have hfz9_7:=blk_frozen BK111.out 7;go_upto_if 17 with (first|(refine gR 63 (some 15) Tryz.func63 (laws_szGroup.calls k _ _ l0_3 _ _ l0_4 a0_5 (wrap64 (a1 - (a0_0.size:Int))) t112 _ ?side1 ?side2 ?side3 ?side4 A7.out) ?_;(case side1=>exact (zz21 HR0_3 HB));(case side2=>exact HC0_3.out);(case side3=>exact (zz21 HR0_4 HB));(case side4=>exact HC0_4.out);rintro w10 hb;replace BK111:=A_ (bB (zz2 BK111) hb);replace HB:=A_ (bS (zz1 HB GE111) hb);(try clear hb)))
  obtain ⟨H⟩:=HF8;replace H:=iteEd H;rcases H with ⟨c11b0,H⟩|⟨c11b0,H⟩
  ·(first|rw [c11b0]|(simp only [i64_w,i32_w];rw [c11b0])|skip)
   obtain rfl:=sI H;go_wp2
   go_ret
   exact ⟨zz5,(zz1 HB GE111)⟩
  ·(first|rw [c11b0]|(simp only [i64_w,i32_w];rw [c11b0])|skip)
   replace H:=bindA H;obtain ⟨t113,A12,H⟩:=H;have HF13:=A_ H;clear H;have hcz14_0:w10.cell? ⟨gb111,0,none⟩=some (.string a0_0):=(blk_cell BK111.out 0).trans rfl;have hcz14_1:w10.cell? ⟨gb111,1,none⟩=some (.int .i64 a0_1):=(blk_cell BK111.out 1).trans rfl;have hcz14_2:w10.cell? ⟨gb111,2,none⟩=some (.bool a0_2):=(blk_cell BK111.out 2).trans rfl;have hcz14_3:w10.cell? ⟨gb111,3,none⟩=some (.slice A0_3 l0_3.length c0_3):=(blk_cell BK111.out 3).trans rfl;have hcz14_4:w10.cell? ⟨gb111,4,none⟩=some (.slice A0_4 l0_4.length c0_4):=(blk_cell BK111.out 4).trans rfl;have hcz14_5:w10.cell? ⟨gb111,5,none⟩=some (.int .i64 a0_5):=(blk_cell BK111.out 5).trans rfl;have hcz14_6:w10.cell? ⟨gb111,6,none⟩=some (.int .i64 a0_6):=(blk_cell BK111.out 6).trans rfl;have hcz14_7:w10.cell? ⟨gb111,7,none⟩=some (.slice A0_7 l0_7.length c0_7):=(blk_cell BK111.out 7).trans rfl;have hfz14_0:=blk_frozen BK111.out 0;have hfz14_1:=blk_frozen BK111.out 1;have hfz14_2:=blk_frozen BK111.out 2;have hfz14_3:=blk_frozen BK111.out 3;have hfz14_4:=blk_frozen BK111.out 4;have hfz14_5:=blk_frozen BK111.out 5;have hfz14_6:=blk_frozen BK111.out 6;have hfz14_7:=blk_frozen BK111.out 7;go_upto_if 23 with (first|(refine gR 64 (some 21) Tryz.func64 (laws_szItemS.calls k _ _ l0_7 t112 t113 _ ?side1 ?side2 A12.out) ?_;(case side1=>exact (zz21 HR0_7 HB));(case side2=>exact HC0_7.out);rintro w15 hb;replace BK111:=A_ (bB (zz2 BK111) hb);replace HB:=A_ (bS (zz1 HB GE111) hb);(try clear hb)))
   obtain ⟨H⟩:=HF13;replace H:=iteEd H;rcases H with ⟨c16b0,H⟩|⟨c16b0,H⟩
   ·(first|rw [c16b0]|(simp only [i64_w,i32_w];rw [c16b0])|skip)
    obtain rfl:=sI H;go_wp2
    go_ret
    exact ⟨zz5,(zz1 HB GE111)⟩
   ·(first|rw [c16b0]|(simp only [i64_w,i32_w];rw [c16b0])|skip)
    obtain rfl:=sI H;go_wp2
    go_ret
    exact ⟨zz5,(zz1 HB GE111)⟩
def laws_szHouseS.l0:Nat→List (S70)→Int→Int→Option (Int)
 | 0,_,_,_=>none
 | k+1,x0,x1,x5=>if x5 < (x0.length:Int) then (if 0≤x5 then ((laws_szHouse.f k ((rd_T70 x0 x5).f0) ((rd_T70 x0 x5).f1) ((rd_T70 x0 x5).f2) ((rd_T70 x0 x5).f3.f0) ((rd_T70 x0 x5).f3.f1) ((rd_T70 x0 x5).f3.f2) ((rd_T70 x0 x5).f4) ((rd_T70 x0 x5).f5) x1).bind fun t115=>(if t115 < 0 then (some (-1)) else (laws_szHouseS.l0 k x0 t115 (wrap64 (x5+1))))) else (none)) else (some x1)
def laws_szHouseS.f (k:Nat) (l0:List (S70)) (a1:Int):Option (Int):=if (wrap64 (a1 - (l0.length:Int))) < 0 then (some (-1)) else (laws_szHouseS.l0 k l0 (wrap64 (a1 - (l0.length:Int))) 0)
theorem laws_szHouseS.calls (k:Nat) (A0:Option Addr) (c0:Nat) (l0:List (S70)) (a1:Int) (r:Int) (w:World) (hr0:Kd.C k70 w A0 l0.length l0) (hc0:l0.length≤c0) (h:laws_szHouseS.f k l0 a1=some r) :
  Calls Tryz.prog 19 #[.slice A0 l0.length c0,.int .i64 a1] w fun e w'=>e=.returned (.int .i64 r)∧Below w.heap.size w w':=by
 have hu70:=Tryz.underlying70;have HR0:=A_ hr0;have HC0:=A_ hc0;clear hr0 hc0;have HB:=A_ (Below.refl w.heap.size w);unfold laws_szHouseS.f at h
 have H:=h;clear h;replace H:=iteEd H;rcases H with ⟨c3b0,H⟩|⟨c3b0,H⟩
 ·obtain rfl:=sI H
  go_enter Tryz.func19,Tryz.ntmps19;go_wp2
  go_ret
  exact ⟨zz5,(zz0 HB)⟩
 ·have H':=A_ H
  clear H;go_enter Tryz.func19,Tryz.ntmps19;go_wp2
  go_loopg [1,5] k (fun kq v1 v5 w'=>∃ (x1_1:Int) (x5_1:Int),v1=.int .i64 x1_1∧v5=.int .i64 x5_1∧Aside0 (laws_szHouseS.l0 kq l0 x1_1 x5_1=some r)∧Aside0 (kq≤k)∧Aside0 (Below w.heap.size w w'))
  case atStart=>exact ⟨(wrap64 (a1 - (l0.length:Int))),(0),zz7,zz7,H',⟨Nat.le_refl _⟩,⟨(zz0 HB)⟩⟩
  case round=>
   clear H';obtain ⟨x1_1,x5_1,rfl,rfl,HA,HK1,HB⟩:=hrel;cases gk with
   | zero=>exact absurd HA.out (by simp [laws_szHouseS.l0])
   | succ k1=>
    obtain ⟨H⟩:=HA;simp only [laws_szHouseS.l0] at H
    replace H:=iteEd H;rcases H with ⟨c4b0,H⟩|⟨c4b0,H⟩
    ·replace H:=iteNd H
     obtain ⟨c5b0,H⟩:=H;replace H:=bindA H;obtain ⟨t115,A6,H⟩:=H;have HF7:=A_ H;clear H;obtain ⟨⟨ad114,A114_3,c114_3,A114_4,c114_4,A114_7,c114_7,e114,hx114_0,hx114_1,hx114_2,hx114_3,hx114_4,hx114_5,hx114_6,hx114_7,hl114_3,hi114_3,hl114_4,hi114_4,hl114_7,hi114_7⟩,p114,q114⟩:=atB (at_T70 HR0.out x5_1);cases e114
     obtain ⟨hx114_0,hx114_1,hx114_2,hx114_3⟩:=cb4 HB hx114_0 hx114_1 hx114_2 hx114_3;obtain ⟨hx114_4,hx114_5,hx114_6,hx114_7⟩:=cb4 HB hx114_4 hx114_5 hx114_6 hx114_7;have HR114_3:=A_ hi114_3;have HC114_3:=A_ hl114_3;clear hi114_3 hl114_3;have HR114_4:=A_ hi114_4;have HC114_4:=A_ hl114_4;clear hi114_4 hl114_4;have HR114_7:=A_ hi114_7;have HC114_7:=A_ hl114_7;clear hi114_7 hl114_7;go_upto_if 25 with (first|(refine gR 37 (some 23) Tryz.func37 (laws_szHouse.calls k1 ((rd_T70 l0 x5_1).f0) ((rd_T70 l0 x5_1).f1) ((rd_T70 l0 x5_1).f2) _ _ ((rd_T70 l0 x5_1).f3.f0) _ _ ((rd_T70 l0 x5_1).f3.f1) ((rd_T70 l0 x5_1).f3.f2) ((rd_T70 l0 x5_1).f4) _ _ ((rd_T70 l0 x5_1).f5) x1_1 t115 _ ?side1 ?side2 ?side3 ?side4 ?side5 ?side6 A6.out) ?_;(case side1=>exact (zz21 HR114_3 HB));(case side2=>exact HC114_3.out);(case side3=>exact (zz21 HR114_4 HB));(case side4=>exact HC114_4.out);(case side5=>exact (zz21 HR114_7 HB));(case side6=>exact HC114_7.out);rintro w8 hb;replace HB:=A_ (bS (zz0 HB) hb);(try clear hb)))
     obtain ⟨H⟩:=HF7;replace H:=iteEd H;rcases H with ⟨c9b0,H⟩|⟨c9b0,H⟩
     ·(first|rw [c9b0]|(simp only [i64_w,i32_w];rw [c9b0])|skip)
      obtain rfl:=sI H;go_wp2
      go_ret
      exact ⟨zz5,(zz0 HB)⟩
     ·(first|rw [c9b0]|(simp only [i64_w,i32_w];rw [c9b0])|skip)
      have H':=A_ H;clear H;go_wp2
      go_roundg k1
      case measure=>have:=HK1.out;omega
      case rel=>exact ⟨(t115),(wrap64 (x5_1+1)),zz7,zz7,H',⟨(zz17 HK1)⟩,⟨(zz0 HB)⟩⟩
    ·obtain rfl:=sI H
     go_wp2
     go_ret
     exact ⟨zz5,(zz0 HB)⟩
def laws_szLookS.l0:Nat→List (S72)→Int→Int→Option (Int)
 | 0,_,_,_=>none
 | k+1,x0,x1,x5=>if x5 < (x0.length:Int) then (if 0≤x5 then ((laws_szLook.f ((rd_T72 x0 x5).f0) ((rd_T72 x0 x5).f1) ((rd_T72 x0 x5).f2) x1).bind fun t118=>(if t118 < 0 then (some (-1)) else (laws_szLookS.l0 k x0 t118 (wrap64 (x5+1))))) else (none)) else (some x1)
def laws_szLookS.f (k:Nat) (l0:List (S72)) (a1:Int):Option (Int):=if (wrap64 (a1 - (l0.length:Int))) < 0 then (some (-1)) else (laws_szLookS.l0 k l0 (wrap64 (a1 - (l0.length:Int))) 0)
theorem laws_szLookS.calls (k:Nat) (A0:Option Addr) (c0:Nat) (l0:List (S72)) (a1:Int) (r:Int) (w:World) (hr0:Kd.C k72 w A0 l0.length l0) (hc0:l0.length≤c0) (h:laws_szLookS.f k l0 a1=some r) :
  Calls Tryz.prog 21 #[.slice A0 l0.length c0,.int .i64 a1] w fun e w'=>e=.returned (.int .i64 r)∧Below w.heap.size w w':=by
 have hu72:=Tryz.underlying72;have HR0:=A_ hr0;have HC0:=A_ hc0;clear hr0 hc0;have HB:=A_ (Below.refl w.heap.size w);unfold laws_szLookS.f at h
 have H:=h;clear h;replace H:=iteEd H;rcases H with ⟨c3b0,H⟩|⟨c3b0,H⟩
 ·obtain rfl:=sI H
  go_enter Tryz.func21,Tryz.ntmps21;go_wp2
  go_ret
  exact ⟨zz5,(zz0 HB)⟩
 ·have H':=A_ H
  clear H;go_enter Tryz.func21,Tryz.ntmps21;go_wp2
  go_loopg [1,5] k (fun kq v1 v5 w'=>∃ (x1_1:Int) (x5_1:Int),v1=.int .i64 x1_1∧v5=.int .i64 x5_1∧Aside0 (laws_szLookS.l0 kq l0 x1_1 x5_1=some r)∧Aside0 (kq≤k)∧Aside0 (Below w.heap.size w w'))
  case atStart=>exact ⟨(wrap64 (a1 - (l0.length:Int))),(0),zz7,zz7,H',⟨Nat.le_refl _⟩,⟨(zz0 HB)⟩⟩
  case round=>
   clear H';obtain ⟨x1_1,x5_1,rfl,rfl,HA,HK1,HB⟩:=hrel;cases gk with
   | zero=>exact absurd HA.out (by simp [laws_szLookS.l0])
   | succ k1=>
    obtain ⟨H⟩:=HA;simp only [laws_szLookS.l0] at H
    replace H:=iteEd H;rcases H with ⟨c4b0,H⟩|⟨c4b0,H⟩
    ·replace H:=iteNd H
     obtain ⟨c5b0,H⟩:=H;replace H:=bindA H;obtain ⟨t118,A6,H⟩:=H;have HF7:=A_ H;clear H;obtain ⟨⟨ad117,e117,hx117_0,hx117_1,hx117_2⟩,p117,q117⟩:=atB (at_T72 HR0.out x5_1);cases e117
     obtain ⟨hx117_0,hx117_1,hx117_2⟩:=cb3 HB hx117_0 hx117_1 hx117_2;go_upto_if 25 with (first|(refine gR 38 (some 23) Tryz.func38 (laws_szLook.calls ((rd_T72 l0 x5_1).f0) ((rd_T72 l0 x5_1).f1) ((rd_T72 l0 x5_1).f2) x1_1 t118 _ A6.out) ?_;rintro w8 hb;replace HB:=A_ (bS (zz0 HB) hb);(try clear hb)))
     obtain ⟨H⟩:=HF7;replace H:=iteEd H;rcases H with ⟨c9b0,H⟩|⟨c9b0,H⟩
     ·(first|rw [c9b0]|(simp only [i64_w,i32_w];rw [c9b0])|skip)
      obtain rfl:=sI H;go_wp2
      go_ret
      exact ⟨zz5,(zz0 HB)⟩
     ·(first|rw [c9b0]|(simp only [i64_w,i32_w];rw [c9b0])|skip)
      have H':=A_ H;clear H;go_wp2
      go_roundg k1
      case measure=>have:=HK1.out;omega
      case rel=>exact ⟨(t118),(wrap64 (x5_1+1)),zz7,zz7,H',⟨(zz17 HK1)⟩,⟨(zz0 HB)⟩⟩
    ·obtain rfl:=sI H
     go_wp2
     go_ret
     exact ⟨zz5,(zz0 HB)⟩
def laws_szTrip.f (k:Nat) (a0_0:ByteArray) (a0_1:Int) (l0_2:List (S70)) (l0_3:List ByteArray) (l0_4:List (S72)) (a1:Int):Option (Int):=if (wrap64 (a1 - (a0_0.size:Int))) < 0 then (some (-1)) else ((laws_szHouseS.f k l0_2 (wrap64 (a1 - (a0_0.size:Int)))).bind fun t120=>(if t120 < 0 then (some (-1)) else ((laws_szStringS.f k l0_3 t120).bind fun t121=>(if t121 < 0 then (some (-1)) else ((laws_szLookS.f k l0_4 t121).bind fun t122=>(if t122 < 0 then (some (-1)) else (some t122)))))))
theorem laws_szTrip.calls (k:Nat) (a0_0:ByteArray) (a0_1:Int) (A0_2:Option Addr) (c0_2:Nat) (l0_2:List (S70)) (A0_3:Option Addr) (c0_3:Nat) (l0_3:List ByteArray) (A0_4:Option Addr) (c0_4:Nat) (l0_4:List (S72)) (a1:Int) (r:Int) (w:World) (hr0_2:Kd.C k70 w A0_2 l0_2.length l0_2) (hc0_2:l0_2.length≤c0_2) (hr0_3:Kd.C Kd.string w A0_3 l0_3.length l0_3) (hc0_3:l0_3.length≤c0_3) (hr0_4:Kd.C k72 w A0_4 l0_4.length l0_4) (hc0_4:l0_4.length≤c0_4) (h:laws_szTrip.f k a0_0 a0_1 l0_2 l0_3 l0_4 a1=some r) :
  Calls Tryz.prog 5 #[.agg #[.string a0_0,.int .i64 a0_1,.slice A0_2 l0_2.length c0_2,.slice A0_3 l0_3.length c0_3,.slice A0_4 l0_4.length c0_4],.int .i64 a1] w fun e w'=>e=.returned (.int .i64 r)∧Below w.heap.size w w':=by
 have hu26:=Tryz.underlying26;have HR0_2:=A_ hr0_2;have HC0_2:=A_ hc0_2;clear hr0_2 hc0_2;have HR0_3:=A_ hr0_3;have HC0_3:=A_ hc0_3;clear hr0_3 hc0_3;have HR0_4:=A_ hr0_4;have HC0_4:=A_ hc0_4;clear hr0_4 hc0_4;have HB:=A_ (Below.refl w.heap.size w);unfold laws_szTrip.f at h
 have H:=h;clear h;have HF3:=A_ H;clear H;go_enter Tryz.func5,Tryz.ntmps5;go_upto_if 11 with (first|(refine boxF 2 #[.string a0_0,.int .i64 a0_1,.slice A0_2 l0_2.length c0_2,.slice A0_3 l0_3.length c0_3,.slice A0_4 l0_4.length c0_4] 26 ?_;intro gb119 hg w4 BK119 hb;have GE119:=geB hg (zz0 HB);replace HB:=A_ (bS (zz0 HB) hb);clear hb hg;obtain ⟨_,_,_,_,_,_,_,_,_,_⟩:=cf5 BK119))
 obtain ⟨H⟩:=HF3;replace H:=iteEd H;rcases H with ⟨c6b0,H⟩|⟨c6b0,H⟩
 ·(first|rw [c6b0]|(simp only [i64_w,i32_w];rw [c6b0])|skip)
  obtain rfl:=sI H;go_wp2
  go_ret
  exact ⟨zz5,(zz1 HB GE119)⟩
 ·(first|rw [c6b0]|(simp only [i64_w,i32_w];rw [c6b0])|skip)
  replace H:=bindA H;obtain ⟨t120,A7,H⟩:=H;have HF8:=A_ H;clear H;obtain ⟨_,_,_,_,_,_,_,_,_,_⟩:=cf5 BK119;go_upto_if 17 with (first|(refine gR 19 (some 15) Tryz.func19 (laws_szHouseS.calls k _ _ l0_2 (wrap64 (a1 - (a0_0.size:Int))) t120 _ ?side1 ?side2 A7.out) ?_;(case side1=>exact (zz21 HR0_2 HB));(case side2=>exact HC0_2.out);rintro w10 hb;replace BK119:=A_ (bB (zz2 BK119) hb);replace HB:=A_ (bS (zz1 HB GE119) hb);(try clear hb)))
  obtain ⟨H⟩:=HF8;replace H:=iteEd H;rcases H with ⟨c11b0,H⟩|⟨c11b0,H⟩
  ·(first|rw [c11b0]|(simp only [i64_w,i32_w];rw [c11b0])|skip)
   obtain rfl:=sI H;go_wp2
   go_ret
   exact ⟨zz5,(zz1 HB GE119)⟩
  ·(first|rw [c11b0]|(simp only [i64_w,i32_w];rw [c11b0])|skip)
   replace H:=bindA H;obtain ⟨t121,A12,H⟩:=H;have HF13:=A_ H;clear H;obtain ⟨_,_,_,_,_,_,_,_,_,_⟩:=cf5 BK119;go_upto_if 23 with (first|(refine gR 20 (some 21) Tryz.func20 (laws_szStringS.calls k _ _ l0_3 t120 t121 _ ?side1 ?side2 A12.out) ?_;(case side1=>exact (zz21 HR0_3 HB));(case side2=>exact HC0_3.out);rintro w' ⟨nd,rfl⟩))
   obtain ⟨H⟩:=HF13;replace H:=iteEd H;rcases H with ⟨c15b0,H⟩|⟨c15b0,H⟩
   ·(first|rw [c15b0]|(simp only [i64_w,i32_w];rw [c15b0])|skip)
    obtain rfl:=sI H;go_wp2
    go_ret
    exact ⟨zz5,(zz1 HB GE119)⟩
   ·(first|rw [c15b0]|(simp only [i64_w,i32_w];rw [c15b0])|skip)
    replace H:=bindA H;obtain ⟨t122,A16,H⟩:=H;have HF17:=A_ H;clear H;obtain ⟨_,_,_,_,_,_,_,_,_,_⟩:=cf5 BK119;go_upto_if 29 with (first|(refine gR 21 (some 27) Tryz.func21 (laws_szLookS.calls k _ _ l0_4 t121 t122 _ ?side1 ?side2 A16.out) ?_;(case side1=>exact (zz21 HR0_4 HB));(case side2=>exact HC0_4.out);rintro w19 hb;replace BK119:=A_ (bB (zz2 BK119) hb);replace HB:=A_ (bS (zz1 HB GE119) hb);(try clear hb)))
    obtain ⟨H⟩:=HF17;replace H:=iteEd H;rcases H with ⟨c20b0,H⟩|⟨c20b0,H⟩
    ·(first|rw [c20b0]|(simp only [i64_w,i32_w];rw [c20b0])|skip)
     obtain rfl:=sI H;go_wp2
     go_ret
     exact ⟨zz5,(zz1 HB GE119)⟩
    ·(first|rw [c20b0]|(simp only [i64_w,i32_w];rw [c20b0])|skip)
     obtain rfl:=sI H;go_wp2
     go_ret
     exact ⟨zz5,(zz1 HB GE119)⟩
def laws_markText.l0:Nat→Int→ByteArray→Option (ByteArray)
 | 0,_,_=>none
 | k+1,x0,x3=>if x0 > 0 then ((some (([(wrap64 (48+(Int.tmod x0 10))) % 256]:List Int):List Int)).bind fun y657=>(if (strOfNums y657).size+x3.size≤9223372036854775807 then (laws_markText.l0 k (wrap64 (Int.tdiv x0 10)) ((strOfNums y657)++x3)) else (none))) else (if 1+x3.size≤9223372036854775807 then (some ((⟨#[109]⟩:ByteArray)++x3)) else (none))
def laws_markText.f (k:Nat) (a0:Int):Option (ByteArray):=if a0≤0 then (some (⟨#[109,48]⟩:ByteArray)) else (laws_markText.l0 k a0 (⟨#[]⟩:ByteArray))
theorem laws_markText.mono_l:∀ k,(∀ y0 y1,LeO (laws_markText.l0 k y0 y1) (laws_markText.l0 (k+1) y0 y1))
 | 0=>by intros;intro r h;simp [laws_markText.l0] at h
 | k+1=>by
  have ih0:=laws_markText.mono_l k;intros;unfold laws_markText.l0;repeat' first|(with_reducible first|exact ih0 _ _|exact LeO.refl _|exact LeO.none _|refine LeO.ite ?_ ?_|refine LeO.bind ?_ (fun _=>?_))|exact LeO.none _|refine LeO.ite ?_ ?_|refine LeO.bind ?_ (fun _=>?_)
theorem laws_markText.mono:∀ a0 k,LeO (laws_markText.f k a0) (laws_markText.f (k+1) a0):=by
 intro a0 k;have ih0:=laws_markText.mono_l k;unfold laws_markText.f
 repeat' first|(with_reducible first|exact ih0 _ _|exact LeO.refl _|exact LeO.none _|refine LeO.ite ?_ ?_|refine LeO.bind ?_ (fun _=>?_))|exact LeO.none _|refine LeO.ite ?_ ?_|refine LeO.bind ?_ (fun _=>?_)
theorem laws_markText.calls (k:Nat) (a0:Int) (r:ByteArray) (w:World) (h:laws_markText.f k a0=some r) :
  Calls Tryz.prog 36 #[.int .i64 a0] w fun e w'=>e=.returned (.string r)∧Below w.heap.size w w':=by
 have HB:=A_ (Below.refl w.heap.size w);unfold laws_markText.f at h
 have H:=h;clear h;replace H:=iteEd H;rcases H with ⟨c2b0,H⟩|⟨c2b0,H⟩
 ·obtain rfl:=sI H
  go_enter Tryz.func36,Tryz.ntmps36;go_wp2
  go_ret
  exact ⟨zz5,(zz0 HB)⟩
 ·have H':=A_ H
  clear H;go_enter Tryz.func36,Tryz.ntmps36;go_wp2
  go_loopg [0,3] k (fun kq v0 v3 w'=>∃ (x0_1:Int) (x3_1:ByteArray),v0=.int .i64 x0_1∧v3=.string x3_1∧Aside0 (laws_markText.l0 kq x0_1 x3_1=some r)∧Aside0 (kq≤k)∧Aside0 (Below w.heap.size w w'))
  case atStart=>exact ⟨(a0),((⟨#[]⟩:ByteArray)),zz7,zz7,H',⟨Nat.le_refl _⟩,⟨(zz0 HB)⟩⟩
  case round=>
   clear H';obtain ⟨x0_1,x3_1,rfl,rfl,HA,HK1,HB⟩:=hrel;cases gk with
   | zero=>exact absurd HA.out (by simp [laws_markText.l0])
   | succ k1=>
    obtain ⟨H⟩:=HA;simp only [laws_markText.l0] at H
    replace H:=iteEg H;rcases H with ⟨c3b0,H⟩|⟨c3b0,H⟩
    ·obtain ⟨y657,Ny657⟩:=toY (([(wrap64 (48+(Int.tmod x0_1 10))) % 256]:List Int))
     (first|with_reducible replace H:=bindZ Ny657 H|rw [← Ny657.out] at H|skip)
     replace H:=iteN H;obtain ⟨c4,H⟩:=H;have c4b0:=eq_true c4;have c4b1:=dT c4;try have c4b2:(9223372036854775807 < (strOfNums y657).size+x3_1.size)=False:=eq_false (Nat.not_lt.2 c4)
     have H':=A_ H;clear H;go_wp2_with (first|((with_reducible refine gD (N:=12) rfl ?_);refine Kd.R_lit (Kd.int .u8) _ 5 ?hg (N:=12) ?hd (xs:=([(wrap64 (48+(Int.tmod x0_1 10))) % 256]:List Int)) (inner:=[.int .u8 ((wrap64 (48+(Int.tmod x0_1 10))) % 256)]) (ok:=fun _=>True) (okp:=fun _=>True) ?hr ?hp (fun _ hk=>hk) trivial (Below.refl _ _) (Nat.le_refl _) (by simp) ?_;(case hd=>rfl);(case hg=>rfl);(case hr=>exact zz14);(case hp=>exact (Reps.one (show Kd.M (Kd.int .u8) _ _ _ ((wrap64 (48+(Int.tmod x0_1 10))) % 256) [.int .u8 ((wrap64 (48+(Int.tmod x0_1 10))) % 256)] from rfl) (Reps.none _ _)));intro v658 w5 ho6 hb hg_ hnew_;clear hg_ hnew_;(first|rw [← Ny657.out] at ho6|(simp only [Int.reduceToNat] at ho6;rw [← Ny657.out] at ho6));have HO659:=A_ (Kd.R_lower ho6 (below_size (zz0 HB)));replace HB:=A_ (bS (zz0 HB) hb);clear hb ho6;have hcv7:=own_string (P:=Tryz.prog) Tryz.underlying99 Tryz.underlying5 Tryz.underlying9 (Kd.own_of_R HO659.out)))
     go_roundg k1
     case measure=>have:=HK1.out;omega
     case rel=>exact ⟨(wrap64 (Int.tdiv x0_1 10)),((strOfNums y657)++x3_1),zz7,zz7,H',⟨(zz17 HK1)⟩,⟨(zz0 HB)⟩⟩
    ·replace H:=iteE H
     rcases H with ⟨c8,H⟩|⟨c8,H⟩
     ·have c8b0:=eq_true c8
      have c8b1:=dT c8;try have c8b2:(9223372036854775807 < 1+x3_1.size)=False:=eq_false (Nat.not_lt.2 c8)
      obtain rfl:=sI H;go_wp2
      go_ret
      exact ⟨zz5,(zz0 HB)⟩
     ·exact absurd H (by simp)
def laws_markStringS.l0:Nat→List ByteArray→Int→Int→Option (Int×List ByteArray)
 | 0,_,_,_=>none
 | k+1,x0,x1,x5=>if x5 < (x0.length:Int) then ((laws_markText.f k x1).bind fun t660=>(if 0≤x5 then (laws_markStringS.l0 k (x0.set (x5:Int).toNat t660) (wrap64 (x1+1)) (wrap64 (x5+1))) else (none))) else (some (x1,x0))
def laws_markStringS.f (k:Nat) (l0:List ByteArray) (a1:Int):Option (Int×List ByteArray):=laws_markStringS.l0 k l0 a1 0
theorem laws_markStringS.mono_l:∀ k,(∀ y0 y1 y2,LeO (laws_markStringS.l0 k y0 y1 y2) (laws_markStringS.l0 (k+1) y0 y1 y2))
 | 0=>by intros;intro r h;simp [laws_markStringS.l0] at h
 | k+1=>by
  have ih0:=laws_markStringS.mono_l k;intros;unfold laws_markStringS.l0;repeat' first|(with_reducible first|exact ih0 _ _ _|exact laws_markText.mono _ _|exact LeO.refl _|exact LeO.none _|refine LeO.ite ?_ ?_|refine LeO.bind ?_ (fun _=>?_))|exact LeO.none _|refine LeO.ite ?_ ?_|refine LeO.bind ?_ (fun _=>?_)
theorem laws_markStringS.calls (k:Nat) (P0_:Nat→Prop) (u9000_:Value) (l0:List ByteArray) (a1:Int) (r1:Int) (r2:List ByteArray) (w0 w:World) (hB:Below w0.heap.size w0 w) (ho0:Kd.R Kd.string 9 w w0.heap.size P0_ u9000_ l0) (h:laws_markStringS.f k l0 a1=some (r1,r2)) :
  Calls Tryz.prog 17 #[u9000_,.int .i64 a1] w fun e w'=>e=.returned (.int .i64 r1)∧Kd.R Kd.string 9 w' w0.heap.size (fun k_=>(P0_ k_∨w.heap.size≤k_)) u9000_ r2∧Below w0.heap.size w0 w'∧Kept w w' (fun k_=>P0_ k_):=by
 have HO0:=A_ (show Kd.R Kd.string 9 w w0.heap.size (fun k_=>(P0_ k_∨w.heap.size≤k_)) u9000_ l0 from Kd.R_mono ho0 (fun k_ hk=>(.inl hk)));have HK:=A_ (Kept.refl w (fun k_=>P0_ k_));have HW0:=A_ hB.size;have HB:=A_ hB;clear hB;unfold laws_markStringS.f at h
 have H:=h;clear h;have H':=A_ H;clear H;go_enter Tryz.func17,Tryz.ntmps17;go_wp2
 go_loopg [1,5] k (fun kq v1 v5 w'=>∃ (x0_1:List ByteArray) (x1_1:Int) (x5_1:Int),v1=.int .i64 x1_1∧v5=.int .i64 x5_1∧Aside0 (laws_markStringS.l0 kq x0_1 x1_1 x5_1=some (r1,r2))∧Aside0 (kq≤k)∧Aside0 (Kd.R Kd.string 9 w' w0.heap.size (fun k_=>(P0_ k_∨w.heap.size≤k_)) u9000_ x0_1)∧Aside0 (Kept w w' (fun k_=>P0_ k_))∧Aside0 (Below w0.heap.size w0 w'))
 case atStart=>exact ⟨(l0),(a1),(0),zz7,zz7,H',⟨Nat.le_refl _⟩,⟨(zz12 HO0)⟩,⟨(zz49 HK)⟩,⟨(zz0 HB)⟩⟩
 case round=>
  clear H';obtain ⟨x0_1,x1_1,x5_1,rfl,rfl,HA,HK1,HO_0,HK,HB⟩:=hrel;cases gk with
  | zero=>exact absurd HA.out (by simp [laws_markStringS.l0])
  | succ k1=>
   obtain ⟨H⟩:=HA;simp only [laws_markStringS.l0] at H
   replace H:=iteEd H;rcases H with ⟨c3b0,H⟩|⟨c3b0,H⟩
   ·replace H:=bindA H
    obtain ⟨t660,A4,H⟩:=H;replace H:=iteNd H;obtain ⟨c5b0,H⟩:=H;obtain ⟨y661,Ny661⟩:=toY (x0_1.set (x5_1:Int).toNat t660);(first|with_reducible replace H:=bindZ Ny661 H|rw [← Ny661.out] at H|skip)
    have H':=A_ H;clear H;obtain ⟨Ao7,co7,eo7⟩:=Kd.R_slice HO_0.out;subst eo7;go_wp2_with (first|(refine gR 36 (some 15) Tryz.func36 (laws_markText.calls k1 x1_1 t660 _ A4.out) ?_;rintro w8 hb;replace HO_0:=A_ (rB (zz12 HO_0) hb);replace HK:=A_ (Kept.below (S:=(fun k_=>P0_ k_)) (zz49 HK) hb);replace HB:=A_ (bS (zz0 HB) hb);(try clear hb);have p6:0≤(x5_1:Int):=ofD;have q6:(x5_1:Int) < ((x0_1.length:Int):Int):=ofD;obtain ⟨go6,co6,eo6,gb6,gl6,cl6,HG6⟩:=Kd.R_form HO_0.out (by omega);(first|cases eo6|(injection eo6 with ea_ en_ ec_;(first|subst ea_|(injection ea_ with ea_;subst ea_));subst ec_;clear en_));have GB6:=A_ gb6;have GG6:=A_ HG6;clear gb6 gl6 HG6;have HMgo6:=A_ (show (P0_ go6∨w.heap.size≤go6) from (HO_0.out.1 _ rfl));obtain ⟨hx6_0,hf6_0⟩:=Kd.R_celln (⟨#[]⟩:ByteArray) HO_0.out (x5_1:Int) p6 q6;replace p6:=eq_true p6;replace q6:=eq_true q6;obtain ⟨hy9_,hz9_⟩:=Kd.R_celln (⟨#[]⟩:ByteArray) HO_0.out (x5_1:Int) ofD ofD;have HP9:=Kd.R_putg HO_0.out (x5_1:Int) t660)|((with_reducible refine gate_store (t:=9) (p:=16) rfl ?_);refine store_event (t:=9) (p:=16) (v:=?vo_w10) (w1:=(w8.setCell ⟨go6,(x5_1:Int).toNat,none⟩ (.string t660))) ?hg ?ho ?hn ?hr ?_;(case ho=>rfl);(case hg=>rfl);(case hn=>rfl);(case hr=>exact zz14);intro w10 hw;have hg:w8.grownBy w10 (some go6):=(by rw [hw];exact HP9.2);have hp_:Kd.R Kd.string 9 w10 w0.heap.size (fun k_=>(P0_ k_∨w.heap.size≤k_)) (.slice (some ⟨go6,0,none⟩) x0_1.length co7) y661:=(by rw [hw,Ny661.out];exact HP9.1);clear HP9;replace HB:=A_ ((by rw [hw];exact below_set (HB.out) GB6.out:Below w0.heap.size w0 w10));replace HK:=A_ (Kept.of_grown (S:=(fun k_=>P0_ k_)) hg (zz49 HK) (fun k_ e_=>(HO_0.out.1 k_ e_)));replace HO_0:=A_ (hp_);clear hg hw hp_))
    go_roundg k1
    case measure=>have:=HK1.out;omega
    case rel=>exact ⟨(y661),(wrap64 (x1_1+1)),(wrap64 (x5_1+1)),zz7,zz7,H',⟨(zz17 HK1)⟩,⟨(zz12 HO_0)⟩,⟨(zz49 HK)⟩,⟨(zz0 HB)⟩⟩
   ·simp only [Option.some.injEq,Prod.mk.injEq] at H
    obtain ⟨rfl,rfl⟩:=H;obtain ⟨Ao11,co11,eo11⟩:=Kd.R_slice HO_0.out;subst eo11;go_wp2
    go_ret
    exact ⟨zz5,(zz12 HO_0),(zz0 HB),(zz49 HK)⟩
def laws_markRuleS.l0:Nat→List (S104)→Int→Int→Option (Int×(List (S104)))
 | 0,_,_,_=>none
 | k+1,x0,x1,x5=>if x5 < (x0.length:Int) then (if 0≤x5 then ((some (x0.set (x5:Int).toNat (⟨((Int.tmod x1 3) == 0),(rd_T104 x0 x5).f1⟩:S104):List (S104))).bind fun y662=>((laws_markText.f k (wrap64 (x1+1))).bind fun t663=>(laws_markRuleS.l0 k (y662.set (x5:Int).toNat (⟨(rd_T104 y662 x5).f0,t663⟩:S104)) (wrap64 ((wrap64 (x1+1))+1)) (wrap64 (x5+1))))) else (none)) else (some (x1,x0))
def laws_markRuleS.f (k:Nat) (l0:List (S104)) (a1:Int):Option (Int×(List (S104))):=laws_markRuleS.l0 k l0 a1 0
theorem laws_markRuleS.calls (k:Nat) (P0_:Nat→Prop) (u9000_:Value) (l0:List (S104)) (a1:Int) (r1:Int) (r2:List (S104)) (w0 w:World) (hB:Below w0.heap.size w0 w) (ho0:Kd.R k104 104 w w0.heap.size P0_ u9000_ l0) (h:laws_markRuleS.f k l0 a1=some (r1,r2)) :
  Calls Tryz.prog 58 #[u9000_,.int .i64 a1] w fun e w'=>e=.returned (.int .i64 r1)∧Kd.R k104 104 w' w0.heap.size (fun k_=>(P0_ k_∨w.heap.size≤k_)) u9000_ r2∧Below w0.heap.size w0 w'∧Kept w w' (fun k_=>P0_ k_):=by
 have HO0:=A_ (show Kd.R k104 104 w w0.heap.size (fun k_=>(P0_ k_∨w.heap.size≤k_)) u9000_ l0 from Kd.R_mono ho0 (fun k_ hk=>(.inl hk)));have HK:=A_ (Kept.refl w (fun k_=>P0_ k_));have HW0:=A_ hB.size;have HB:=A_ hB;clear hB;unfold laws_markRuleS.f at h
 have H:=h;clear h;have H':=A_ H;clear H;go_enter Tryz.func58,Tryz.ntmps58;go_wp2
 go_loopg [1,5] k (fun kq v1 v5 w'=>∃ (x0_1:List (S104)) (x1_1:Int) (x5_1:Int),v1=.int .i64 x1_1∧v5=.int .i64 x5_1∧Aside0 (laws_markRuleS.l0 kq x0_1 x1_1 x5_1=some (r1,r2))∧Aside0 (kq≤k)∧Aside0 (Kd.R k104 104 w' w0.heap.size (fun k_=>(P0_ k_∨w.heap.size≤k_)) u9000_ x0_1)∧Aside0 (Kept w w' (fun k_=>P0_ k_))∧Aside0 (Below w0.heap.size w0 w'))
 case atStart=>exact ⟨(l0),(a1),(0),zz7,zz7,H',⟨Nat.le_refl _⟩,⟨(zz12 HO0)⟩,⟨(zz49 HK)⟩,⟨(zz0 HB)⟩⟩
 case round=>
  clear H';obtain ⟨x0_1,x1_1,x5_1,rfl,rfl,HA,HK1,HO_0,HK,HB⟩:=hrel;cases gk with
  | zero=>exact absurd HA.out (by simp [laws_markRuleS.l0])
  | succ k1=>
   obtain ⟨H⟩:=HA;simp only [laws_markRuleS.l0] at H
   replace H:=iteEd H;rcases H with ⟨c3b0,H⟩|⟨c3b0,H⟩
   ·replace H:=iteNd H
    obtain ⟨c4b0,H⟩:=H;obtain ⟨y662,Ny662⟩:=toY (x0_1.set (x5_1:Int).toNat (⟨((Int.tmod x1_1 3) == 0),(rd_T104 x0_1 x5_1).f1⟩:S104));(first|with_reducible replace H:=bindZ Ny662 H|rw [← Ny662.out] at H|skip)
    replace H:=bindA H;obtain ⟨t663,A6,H⟩:=H;obtain ⟨y664,Ny664⟩:=toY (y662.set (x5_1:Int).toNat (⟨(rd_T104 y662 x5_1).f0,t663⟩:S104));(first|with_reducible replace H:=bindZ Ny664 H|rw [← Ny664.out] at H|skip)
    have H':=A_ H;clear H;obtain ⟨Ao8,co8,eo8⟩:=Kd.R_slice HO_0.out;subst eo8;have p5:0≤(x5_1:Int):=ofD;have q5:(x5_1:Int) < ((x0_1.length:Int):Int):=ofD;obtain ⟨go5,co5,eo5,gb5,gl5,cl5,HG5⟩:=Kd.R_form HO_0.out (by omega);(first|cases eo5|(injection eo5 with ea_ en_ ec_;(first|subst ea_|(injection ea_ with ea_;subst ea_));subst ec_;clear en_))
    have GB5:=A_ gb5;have GG5:=A_ HG5;clear gb5 gl5 HG5;have HMgo5:=A_ (show (P0_ go5∨w.heap.size≤go5) from (HO_0.out.1 _ rfl));obtain ⟨ce5,hcl5,hM5,hcc5,hfr5⟩:=Kd.R_elem HO_0.out z104 (x5_1:Int) p5 q5;obtain rfl:=k104_openM hM5;have hx5_0:wr.cell? ⟨go5,(x5_1:Int).toNat * 2,none⟩=some (.bool ((rd_T104 x0_1 x5_1).f0)):=hcc5 0 _ rfl;have hx5_1:wr.cell? ⟨go5,(x5_1:Int).toNat * 2+1,none⟩=some (.string ((rd_T104 x0_1 x5_1).f1)):=hcc5 1 _ rfl;have hf5_0:wr.frozen? ⟨go5,(x5_1:Int).toNat * 2,none⟩=false:=hfr5 0;have hf5_1:wr.frozen? ⟨go5,(x5_1:Int).toNat * 2+1,none⟩=false:=hfr5 1;clear hcl5 hcc5 hfr5 hM5;replace p5:=eq_true p5;replace q5:=eq_true q5;have HX9:=A_ (show Kd.R k104 104 wr w0.heap.size (fun k_=>(P0_ k_∨w.heap.size≤k_)) (.slice (some ⟨go5,0,none⟩) x0_1.length co8) x0_1 from (zz12 HO_0));obtain ⟨ce9,hcl9,hM9,hcc9,hfr9⟩:=Kd.R_elem HX9.out z104 (x5_1:Int) ofD (by have h_:(x5_1:Int) < ((x0_1.length:Int):Int):=ofD;first|exact h_|(have e_:=(Kd.R_reads' HO_0.out).1;omega)|simpa using h_);obtain rfl:=k104_openM hM9;have HP9:=Kd.R_seg HX9.out (x5_1:Int) ofD (by have h_:(x5_1:Int) < ((x0_1.length:Int):Int):=ofD;first|exact h_|(have e_:=(Kd.R_reads' HO_0.out).1;omega)|simpa using h_) (seg:=[.bool ((Int.tmod x1_1 3) == 0)]) (j:=0) hcl9 hcc9 (show 1≤2 from by decide) (x':=(⟨((Int.tmod x1_1 3) == 0),(rd_T104 x0_1 x5_1).f1⟩:S104)) (k104_mkM _ _ _ (⟨((Int.tmod x1_1 3) == 0),(rd_T104 x0_1 x5_1).f1⟩:S104) ) (fun _ hk=>hk);have hx9_0:=hcc9 0 _ rfl;(try simp only [show (k104).sz=2 from rfl,Nat.mul_one,Nat.add_zero] at hx9_0)
    have hf9_0:=hfr9 0;(try simp only [show (k104).sz=2 from rfl,Nat.mul_one,Nat.add_zero] at hf9_0)
    clear hcl9 hcc9 hfr9 hM9;go_wp2_with (first|((with_reducible refine gate_store (t:=4) (p:=18) rfl ?_);refine store_event (t:=4) (p:=18) (v:=?vo_w10) (w1:=(wr.setCell ⟨go5,(x5_1:Int).toNat * 2,none⟩ (.bool ((Int.tmod x1_1 3) == 0)))) ?hg ?ho ?hn ?hr ?_;(case ho=>rfl);(case hg=>rfl);(case hn=>rfl);(case hr=>exact zz14);intro w10 hw;have hg:wr.grownBy w10 (some go5):=(by rw [hw];exact HP9.2);have hp_:Kd.R k104 104 w10 w0.heap.size (fun k_=>(P0_ k_∨w.heap.size≤k_)) (.slice (some ⟨go5,0,none⟩) x0_1.length co8) y662:=(by rw [hw,Ny662.out];exact HP9.1);clear HP9;replace HB:=A_ ((by rw [hw];exact below_set (HB.out) GB5.out:Below w0.heap.size w0 w10));replace HK:=A_ (Kept.of_grown (S:=(fun k_=>P0_ k_)) hg (zz49 HK) (fun k_ e_=>(HO_0.out.1 k_ e_)));replace HO_0:=A_ (hp_);clear hg hw hp_)|(refine gR 36 (some 24) Tryz.func36 (laws_markText.calls k1 (wrap64 (x1_1+1)) t663 _ A6.out) ?_;rintro w11 hb;replace HO_0:=A_ (rB (zz12 HO_0) hb);replace HK:=A_ (Kept.below (S:=(fun k_=>P0_ k_)) (zz49 HK) hb);replace HB:=A_ (bS (zz0 HB) hb);(try clear hb);have p7:0≤(x5_1:Int):=ofD;have q7:(x5_1:Int) < ((x0_1.length:Int):Int):=ofD;obtain ⟨ce7,hcl7,hM7,hcc7,hfr7⟩:=Kd.R_elem HO_0.out z104 (x5_1:Int) p7 q7;obtain rfl:=k104_openM hM7;have hx7_0:w11.cell? ⟨go5,(x5_1:Int).toNat * 2,none⟩=some (.bool ((rd_T104 y662 x5_1).f0)):=hcc7 0 _ rfl;have hx7_1:w11.cell? ⟨go5,(x5_1:Int).toNat * 2+1,none⟩=some (.string ((rd_T104 y662 x5_1).f1)):=hcc7 1 _ rfl;have hf7_0:w11.frozen? ⟨go5,(x5_1:Int).toNat * 2,none⟩=false:=hfr7 0;have hf7_1:w11.frozen? ⟨go5,(x5_1:Int).toNat * 2+1,none⟩=false:=hfr7 1;clear hcl7 hcc7 hfr7 hM7;replace p7:=eq_true p7;replace q7:=eq_true q7;have HX12:=A_ (show Kd.R k104 104 w11 w0.heap.size (fun k_=>(P0_ k_∨w.heap.size≤k_)) (.slice (some ⟨go5,0,none⟩) x0_1.length co8) y662 from (zz12 HO_0));obtain ⟨ce12,hcl12,hM12,hcc12,hfr12⟩:=Kd.R_elem HX12.out z104 (x5_1:Int) ofD (by have h_:(x5_1:Int) < ((x0_1.length:Int):Int):=ofD;first|exact h_|(have e_:=(Kd.R_reads' HO_0.out).1;omega)|simpa using h_);obtain rfl:=k104_openM hM12;have HP12:=Kd.R_seg HX12.out (x5_1:Int) ofD (by have h_:(x5_1:Int) < ((x0_1.length:Int):Int):=ofD;first|exact h_|(have e_:=(Kd.R_reads' HO_0.out).1;omega)|simpa using h_) (seg:=[.string t663]) (j:=1) hcl12 hcc12 (show 2≤2 from by decide) (x':=(⟨(rd_T104 y662 x5_1).f0,t663⟩:S104)) (k104_mkM _ _ _ (⟨(rd_T104 y662 x5_1).f0,t663⟩:S104) ) (fun _ hk=>hk);have hx12_1:=hcc12 1 _ rfl;(try simp only [show (k104).sz=2 from rfl,Nat.mul_one,Nat.add_zero] at hx12_1);have hf12_1:=hfr12 1;(try simp only [show (k104).sz=2 from rfl,Nat.mul_one,Nat.add_zero] at hf12_1);clear hcl12 hcc12 hfr12 hM12)|((with_reducible refine gate_store (t:=9) (p:=26) rfl ?_);refine store_event (t:=9) (p:=26) (v:=?vo_w13) (w1:=(w11.setCell ⟨go5,(x5_1:Int).toNat * 2+1,none⟩ (.string t663))) ?hg ?ho ?hn ?hr ?_;(case ho=>rfl);(case hg=>rfl);(case hn=>rfl);(case hr=>exact zz14);intro w13 hw;have hg:w11.grownBy w13 (some go5):=zz19;have hp_:Kd.R k104 104 w13 w0.heap.size (fun k_=>(P0_ k_∨w.heap.size≤k_)) (.slice (some ⟨go5,0,none⟩) x0_1.length co8) y664:=(by rw [hw,Ny664.out];exact HP12.1);clear HP12;replace HB:=A_ ((by rw [hw];exact below_set (HB.out) GB5.out:Below w0.heap.size w0 w13));replace HK:=A_ (Kept.of_grown (S:=(fun k_=>P0_ k_)) hg (zz49 HK) (fun k_ e_=>(HO_0.out.1 k_ e_)));replace HO_0:=A_ (hp_);clear hg hw hp_))
    go_roundg k1
    case measure=>have:=HK1.out;omega
    case rel=>exact ⟨(y664),(wrap64 ((wrap64 (x1_1+1))+1)),(wrap64 (x5_1+1)),zz7,zz7,H',⟨(zz17 HK1)⟩,⟨(zz12 HO_0)⟩,⟨(zz49 HK)⟩,⟨(zz0 HB)⟩⟩
   ·simp only [Option.some.injEq,Prod.mk.injEq] at H
    obtain ⟨rfl,rfl⟩:=H;obtain ⟨Ao14,co14,eo14⟩:=Kd.R_slice HO_0.out;subst eo14;go_wp2
    go_ret
    exact ⟨zz5,(zz12 HO_0),(zz0 HB),(zz49 HK)⟩
def laws_markItemS.l0:Nat→List (S111)→Int→Int→Option (Int×(List (S111)))
 | 0,_,_,_=>none
 | k+1,x0,x1,x5=>if x5 < (x0.length:Int) then ((laws_markText.f k x1).bind fun t665=>(if 0≤x5 then ((some (x0.set (x5:Int).toNat (⟨t665,(rd_T111 x0 x5).f1⟩:S111):List (S111))).bind fun y666=>(laws_markItemS.l0 k (y666.set (x5:Int).toNat (⟨(rd_T111 y666 x5).f0,wrap64 (x1+1)⟩:S111)) (wrap64 ((wrap64 (x1+1))+1)) (wrap64 (x5+1)))) else (none))) else (some (x1,x0))
def laws_markItemS.f (k:Nat) (l0:List (S111)) (a1:Int):Option (Int×(List (S111))):=laws_markItemS.l0 k l0 a1 0
theorem laws_markItemS.calls (k:Nat) (P0_:Nat→Prop) (u9000_:Value) (l0:List (S111)) (a1:Int) (r1:Int) (r2:List (S111)) (w0 w:World) (hB:Below w0.heap.size w0 w) (ho0:Kd.R k111 111 w w0.heap.size P0_ u9000_ l0) (h:laws_markItemS.f k l0 a1=some (r1,r2)) :
  Calls Tryz.prog 59 #[u9000_,.int .i64 a1] w fun e w'=>e=.returned (.int .i64 r1)∧Kd.R k111 111 w' w0.heap.size (fun k_=>(P0_ k_∨w.heap.size≤k_)) u9000_ r2∧Below w0.heap.size w0 w'∧Kept w w' (fun k_=>P0_ k_):=by
 have HO0:=A_ (show Kd.R k111 111 w w0.heap.size (fun k_=>(P0_ k_∨w.heap.size≤k_)) u9000_ l0 from Kd.R_mono ho0 (fun k_ hk=>(.inl hk)));have HK:=A_ (Kept.refl w (fun k_=>P0_ k_));have HW0:=A_ hB.size;have HB:=A_ hB;clear hB;unfold laws_markItemS.f at h
 have H:=h;clear h;have H':=A_ H;clear H;go_enter Tryz.func59,Tryz.ntmps59;go_wp2
 go_loopg [1,5] k (fun kq v1 v5 w'=>∃ (x0_1:List (S111)) (x1_1:Int) (x5_1:Int),v1=.int .i64 x1_1∧v5=.int .i64 x5_1∧Aside0 (laws_markItemS.l0 kq x0_1 x1_1 x5_1=some (r1,r2))∧Aside0 (kq≤k)∧Aside0 (Kd.R k111 111 w' w0.heap.size (fun k_=>(P0_ k_∨w.heap.size≤k_)) u9000_ x0_1)∧Aside0 (Kept w w' (fun k_=>P0_ k_))∧Aside0 (Below w0.heap.size w0 w'))
 case atStart=>exact ⟨(l0),(a1),(0),zz7,zz7,H',⟨Nat.le_refl _⟩,⟨(zz12 HO0)⟩,⟨(zz49 HK)⟩,⟨(zz0 HB)⟩⟩
 case round=>
  clear H';obtain ⟨x0_1,x1_1,x5_1,rfl,rfl,HA,HK1,HO_0,HK,HB⟩:=hrel;cases gk with
  | zero=>exact absurd HA.out (by simp [laws_markItemS.l0])
  | succ k1=>
   obtain ⟨H⟩:=HA;simp only [laws_markItemS.l0] at H
   replace H:=iteEd H;rcases H with ⟨c3b0,H⟩|⟨c3b0,H⟩
   ·replace H:=bindA H
    obtain ⟨t665,A4,H⟩:=H;replace H:=iteNd H;obtain ⟨c5b0,H⟩:=H;obtain ⟨y666,Ny666⟩:=toY (x0_1.set (x5_1:Int).toNat (⟨t665,(rd_T111 x0_1 x5_1).f1⟩:S111));(first|with_reducible replace H:=bindZ Ny666 H|rw [← Ny666.out] at H|skip)
    obtain ⟨y667,Ny667⟩:=toY (y666.set (x5_1:Int).toNat (⟨(rd_T111 y666 x5_1).f0,wrap64 (x1_1+1)⟩:S111));(first|with_reducible replace H:=bindZ Ny667 H|rw [← Ny667.out] at H|skip)
    have H':=A_ H;clear H;obtain ⟨Ao8,co8,eo8⟩:=Kd.R_slice HO_0.out;subst eo8;go_wp2_with (first|(refine gR 36 (some 15) Tryz.func36 (laws_markText.calls k1 x1_1 t665 _ A4.out) ?_;rintro w9 hb;replace HO_0:=A_ (rB (zz12 HO_0) hb);replace HK:=A_ (Kept.below (S:=(fun k_=>P0_ k_)) (zz49 HK) hb);replace HB:=A_ (bS (zz0 HB) hb);(try clear hb);have p6:0≤(x5_1:Int):=ofD;have q6:(x5_1:Int) < ((x0_1.length:Int):Int):=ofD;obtain ⟨go6,co6,eo6,gb6,gl6,cl6,HG6⟩:=Kd.R_form HO_0.out (by omega);(first|cases eo6|(injection eo6 with ea_ en_ ec_;(first|subst ea_|(injection ea_ with ea_;subst ea_));subst ec_;clear en_));have GB6:=A_ gb6;have GG6:=A_ HG6;clear gb6 gl6 HG6;have HMgo6:=A_ (show (P0_ go6∨w.heap.size≤go6) from (HO_0.out.1 _ rfl));obtain ⟨ce6,hcl6,hM6,hcc6,hfr6⟩:=Kd.R_elem HO_0.out z111 (x5_1:Int) p6 q6;obtain rfl:=k111_openM hM6;have hx6_0:w9.cell? ⟨go6,(x5_1:Int).toNat * 2,none⟩=some (.string ((rd_T111 x0_1 x5_1).f0)):=hcc6 0 _ rfl;have hx6_1:w9.cell? ⟨go6,(x5_1:Int).toNat * 2+1,none⟩=some (.int .i64 ((rd_T111 x0_1 x5_1).f1)):=hcc6 1 _ rfl;have hf6_0:w9.frozen? ⟨go6,(x5_1:Int).toNat * 2,none⟩=false:=hfr6 0;have hf6_1:w9.frozen? ⟨go6,(x5_1:Int).toNat * 2+1,none⟩=false:=hfr6 1;clear hcl6 hcc6 hfr6 hM6;replace p6:=eq_true p6;replace q6:=eq_true q6;have HX10:=A_ (show Kd.R k111 111 w9 w0.heap.size (fun k_=>(P0_ k_∨w.heap.size≤k_)) (.slice (some ⟨go6,0,none⟩) x0_1.length co8) x0_1 from (zz12 HO_0));obtain ⟨ce10,hcl10,hM10,hcc10,hfr10⟩:=Kd.R_elem HX10.out z111 (x5_1:Int) ofD (by have h_:(x5_1:Int) < ((x0_1.length:Int):Int):=ofD;first|exact h_|(have e_:=(Kd.R_reads' HO_0.out).1;omega)|simpa using h_);obtain rfl:=k111_openM hM10;have HP10:=Kd.R_seg HX10.out (x5_1:Int) ofD (by have h_:(x5_1:Int) < ((x0_1.length:Int):Int):=ofD;first|exact h_|(have e_:=(Kd.R_reads' HO_0.out).1;omega)|simpa using h_) (seg:=[.string t665]) (j:=0) hcl10 hcc10 (show 1≤2 from by decide) (x':=(⟨t665,(rd_T111 x0_1 x5_1).f1⟩:S111)) (k111_mkM _ _ _ (⟨t665,(rd_T111 x0_1 x5_1).f1⟩:S111) ) (fun _ hk=>hk);have hx10_0:=hcc10 0 _ rfl;(try simp only [show (k111).sz=2 from rfl,Nat.mul_one,Nat.add_zero] at hx10_0);have hf10_0:=hfr10 0;(try simp only [show (k111).sz=2 from rfl,Nat.mul_one,Nat.add_zero] at hf10_0);clear hcl10 hcc10 hfr10 hM10)|((with_reducible refine gate_store (t:=9) (p:=17) rfl ?_);refine store_event (t:=9) (p:=17) (v:=?vo_w11) (w1:=(w9.setCell ⟨go6,(x5_1:Int).toNat * 2,none⟩ (.string t665))) ?hg ?ho ?hn ?hr ?_;(case ho=>rfl);(case hg=>rfl);(case hn=>rfl);(case hr=>exact zz14);intro w11 hw;have hg:w9.grownBy w11 (some go6):=(by rw [hw];exact HP10.2);have hp_:Kd.R k111 111 w11 w0.heap.size (fun k_=>(P0_ k_∨w.heap.size≤k_)) (.slice (some ⟨go6,0,none⟩) x0_1.length co8) y666:=(by rw [hw,Ny666.out];exact HP10.1);clear HP10;replace HB:=A_ ((by rw [hw];exact below_set (HB.out) GB6.out:Below w0.heap.size w0 w11));replace HK:=A_ (Kept.of_grown (S:=(fun k_=>P0_ k_)) hg (zz49 HK) (fun k_ e_=>(HO_0.out.1 k_ e_)));replace HO_0:=A_ (hp_);clear hg hw hp_;have p7:0≤(x5_1:Int):=ofD;have q7:(x5_1:Int) < ((x0_1.length:Int):Int):=ofD;obtain ⟨ce7,hcl7,hM7,hcc7,hfr7⟩:=Kd.R_elem HO_0.out z111 (x5_1:Int) p7 q7;obtain rfl:=k111_openM hM7;have hx7_0:w11.cell? ⟨go6,(x5_1:Int).toNat * 2,none⟩=some (.string ((rd_T111 y666 x5_1).f0)):=hcc7 0 _ rfl;have hx7_1:w11.cell? ⟨go6,(x5_1:Int).toNat * 2+1,none⟩=some (.int .i64 ((rd_T111 y666 x5_1).f1)):=hcc7 1 _ rfl;have hf7_0:w11.frozen? ⟨go6,(x5_1:Int).toNat * 2,none⟩=false:=hfr7 0;have hf7_1:w11.frozen? ⟨go6,(x5_1:Int).toNat * 2+1,none⟩=false:=hfr7 1;clear hcl7 hcc7 hfr7 hM7;replace p7:=eq_true p7;replace q7:=eq_true q7;have HX12:=A_ (show Kd.R k111 111 w11 w0.heap.size (fun k_=>(P0_ k_∨w.heap.size≤k_)) (.slice (some ⟨go6,0,none⟩) x0_1.length co8) y666 from (zz12 HO_0));obtain ⟨ce12,hcl12,hM12,hcc12,hfr12⟩:=Kd.R_elem HX12.out z111 (x5_1:Int) ofD (by have h_:(x5_1:Int) < ((x0_1.length:Int):Int):=ofD;first|exact h_|(have e_:=(Kd.R_reads' HO_0.out).1;omega)|simpa using h_);obtain rfl:=k111_openM hM12;have HP12:=Kd.R_seg HX12.out (x5_1:Int) ofD (by have h_:(x5_1:Int) < ((x0_1.length:Int):Int):=ofD;first|exact h_|(have e_:=(Kd.R_reads' HO_0.out).1;omega)|simpa using h_) (seg:=[.int .i64 (wrap64 (x1_1+1))]) (j:=1) hcl12 hcc12 (show 2≤2 from by decide) (x':=(⟨(rd_T111 y666 x5_1).f0,wrap64 (x1_1+1)⟩:S111)) (k111_mkM _ _ _ (⟨(rd_T111 y666 x5_1).f0,wrap64 (x1_1+1)⟩:S111) ) (fun _ hk=>hk);have hx12_1:=hcc12 1 _ rfl;(try simp only [show (k111).sz=2 from rfl,Nat.mul_one,Nat.add_zero] at hx12_1);have hf12_1:=hfr12 1;(try simp only [show (k111).sz=2 from rfl,Nat.mul_one,Nat.add_zero] at hf12_1);clear hcl12 hcc12 hfr12 hM12)|((with_reducible refine gate_store (t:=3) (p:=24) rfl ?_);refine store_event (t:=3) (p:=24) (v:=?vo_w13) (w1:=(w11.setCell ⟨go6,(x5_1:Int).toNat * 2+1,none⟩ (.int .i64 (wrap64 (x1_1+1))))) ?hg ?ho ?hn ?hr ?_;(case ho=>rfl);(case hg=>rfl);(case hn=>rfl);(case hr=>exact zz14);intro w13 hw;have hg:w11.grownBy w13 (some go6):=zz19;have hp_:Kd.R k111 111 w13 w0.heap.size (fun k_=>(P0_ k_∨w.heap.size≤k_)) (.slice (some ⟨go6,0,none⟩) x0_1.length co8) y667:=(by rw [hw,Ny667.out];exact HP12.1);clear HP12;replace HB:=A_ ((by rw [hw];exact below_set (HB.out) GB6.out:Below w0.heap.size w0 w13));replace HK:=A_ (Kept.of_grown (S:=(fun k_=>P0_ k_)) hg (zz49 HK) (fun k_ e_=>(HO_0.out.1 k_ e_)));replace HO_0:=A_ (hp_);clear hg hw hp_))
    go_roundg k1
    case measure=>have:=HK1.out;omega
    case rel=>exact ⟨(y667),(wrap64 ((wrap64 (x1_1+1))+1)),(wrap64 (x5_1+1)),zz7,zz7,H',⟨(zz17 HK1)⟩,⟨(zz12 HO_0)⟩,⟨(zz49 HK)⟩,⟨(zz0 HB)⟩⟩
   ·simp only [Option.some.injEq,Prod.mk.injEq] at H
    obtain ⟨rfl,rfl⟩:=H;obtain ⟨Ao14,co14,eo14⟩:=Kd.R_slice HO_0.out;subst eo14;go_wp2
    go_ret
    exact ⟨zz5,(zz12 HO_0),(zz0 HB),(zz49 HK)⟩
def laws_markLookS.l0:Nat→List (S52)→Int→Int→Option (Int×(List (S52)))
 | 0,_,_,_=>none
 | k+1,x0,x1,x5=>if x5 < (x0.length:Int) then (if 0≤x5 then ((some (x0.set (x5:Int).toNat (⟨x1,(rd_T52 x0 x5).f1,(rd_T52 x0 x5).f2⟩:S52):List (S52))).bind fun y669=>((laws_markText.f k (wrap64 (x1+1))).bind fun t670=>((some (y669.set (x5:Int).toNat (⟨(rd_T52 y669 x5).f0,t670,(rd_T52 y669 x5).f2⟩:S52):List (S52))).bind fun y671=>(laws_markLookS.l0 k (y671.set (x5:Int).toNat (⟨(rd_T52 y671 x5).f0,(rd_T52 y671 x5).f1,wrap64 ((wrap64 (x1+1))+1)⟩:S52)) (wrap64 ((wrap64 ((wrap64 (x1+1))+1))+1)) (wrap64 (x5+1)))))) else (none)) else (some (x1,x0))
def laws_markLookS.f (k:Nat) (l0:List (S52)) (a1:Int):Option (Int×(List (S52))):=laws_markLookS.l0 k l0 a1 0
theorem laws_markLookS.calls (k:Nat) (P0_:Nat→Prop) (u9000_:Value) (l0:List (S52)) (a1:Int) (r1:Int) (r2:List (S52)) (w0 w:World) (hB:Below w0.heap.size w0 w) (ho0:Kd.R k52 52 w w0.heap.size P0_ u9000_ l0) (h:laws_markLookS.f k l0 a1=some (r1,r2)) :
  Calls Tryz.prog 32 #[u9000_,.int .i64 a1] w fun e w'=>e=.returned (.int .i64 r1)∧Kd.R k52 52 w' w0.heap.size (fun k_=>(P0_ k_∨w.heap.size≤k_)) u9000_ r2∧Below w0.heap.size w0 w'∧Kept w w' (fun k_=>P0_ k_):=by
 have HO0:=A_ (show Kd.R k52 52 w w0.heap.size (fun k_=>(P0_ k_∨w.heap.size≤k_)) u9000_ l0 from Kd.R_mono ho0 (fun k_ hk=>(.inl hk)));have HK:=A_ (Kept.refl w (fun k_=>P0_ k_));have HW0:=A_ hB.size;have HB:=A_ hB;clear hB;unfold laws_markLookS.f at h
 have H:=h;clear h;have H':=A_ H;clear H;go_enter Tryz.func32,Tryz.ntmps32;go_wp2
 go_loopg [1,5] k (fun kq v1 v5 w'=>∃ (x0_1:List (S52)) (x1_1:Int) (x5_1:Int),v1=.int .i64 x1_1∧v5=.int .i64 x5_1∧Aside0 (laws_markLookS.l0 kq x0_1 x1_1 x5_1=some (r1,r2))∧Aside0 (kq≤k)∧Aside0 (Kd.R k52 52 w' w0.heap.size (fun k_=>(P0_ k_∨w.heap.size≤k_)) u9000_ x0_1)∧Aside0 (Kept w w' (fun k_=>P0_ k_))∧Aside0 (Below w0.heap.size w0 w'))
 case atStart=>exact ⟨(l0),(a1),(0),zz7,zz7,H',⟨Nat.le_refl _⟩,⟨(zz12 HO0)⟩,⟨(zz49 HK)⟩,⟨(zz0 HB)⟩⟩
 case round=>
  clear H';obtain ⟨x0_1,x1_1,x5_1,rfl,rfl,HA,HK1,HO_0,HK,HB⟩:=hrel;cases gk with
  | zero=>exact absurd HA.out (by simp [laws_markLookS.l0])
  | succ k1=>
   obtain ⟨H⟩:=HA;simp only [laws_markLookS.l0] at H
   replace H:=iteEd H;rcases H with ⟨c3b0,H⟩|⟨c3b0,H⟩
   ·replace H:=iteNd H
    obtain ⟨c4b0,H⟩:=H;obtain ⟨y669,Ny669⟩:=toY (x0_1.set (x5_1:Int).toNat (⟨x1_1,(rd_T52 x0_1 x5_1).f1,(rd_T52 x0_1 x5_1).f2⟩:S52));(first|with_reducible replace H:=bindZ Ny669 H|rw [← Ny669.out] at H|skip)
    replace H:=bindA H;obtain ⟨t670,A6,H⟩:=H;obtain ⟨y671,Ny671,H⟩:=bindY H;obtain ⟨y672,Ny672⟩:=toY (y671.set (x5_1:Int).toNat (⟨(rd_T52 y671 x5_1).f0,(rd_T52 y671 x5_1).f1,wrap64 ((wrap64 (x1_1+1))+1)⟩:S52));(first|with_reducible replace H:=bindZ Ny672 H|rw [← Ny672.out] at H|skip)
    have H':=A_ H;clear H;obtain ⟨Ao9,co9,eo9⟩:=Kd.R_slice HO_0.out;subst eo9;have p5:0≤(x5_1:Int):=ofD;have q5:(x5_1:Int) < ((x0_1.length:Int):Int):=ofD;obtain ⟨go5,co5,eo5,gb5,gl5,cl5,HG5⟩:=Kd.R_form HO_0.out (by omega);(first|cases eo5|(injection eo5 with ea_ en_ ec_;(first|subst ea_|(injection ea_ with ea_;subst ea_));subst ec_;clear en_))
    have GB5:=A_ gb5;have GG5:=A_ HG5;clear gb5 gl5 HG5;have HMgo5:=A_ (show (P0_ go5∨w.heap.size≤go5) from (HO_0.out.1 _ rfl));obtain ⟨ce5,hcl5,hM5,hcc5,hfr5⟩:=Kd.R_elem HO_0.out z52 (x5_1:Int) p5 q5;obtain rfl:=k52_openM hM5;have hx5_0:wr.cell? ⟨go5,(x5_1:Int).toNat * 3,none⟩=some (.int .i64 ((rd_T52 x0_1 x5_1).f0)):=hcc5 0 _ rfl;have hx5_1:wr.cell? ⟨go5,(x5_1:Int).toNat * 3+1,none⟩=some (.string ((rd_T52 x0_1 x5_1).f1)):=hcc5 1 _ rfl;have hx5_2:wr.cell? ⟨go5,(x5_1:Int).toNat * 3+2,none⟩=some (.int .i64 ((rd_T52 x0_1 x5_1).f2)):=hcc5 2 _ rfl;have hf5_0:wr.frozen? ⟨go5,(x5_1:Int).toNat * 3,none⟩=false:=hfr5 0;have hf5_1:wr.frozen? ⟨go5,(x5_1:Int).toNat * 3+1,none⟩=false:=hfr5 1;have hf5_2:wr.frozen? ⟨go5,(x5_1:Int).toNat * 3+2,none⟩=false:=hfr5 2;clear hcl5 hcc5 hfr5 hM5;replace p5:=eq_true p5;replace q5:=eq_true q5;have HX10:=A_ (show Kd.R k52 52 wr w0.heap.size (fun k_=>(P0_ k_∨w.heap.size≤k_)) (.slice (some ⟨go5,0,none⟩) x0_1.length co9) x0_1 from (zz12 HO_0));obtain ⟨ce10,hcl10,hM10,hcc10,hfr10⟩:=Kd.R_elem HX10.out z52 (x5_1:Int) ofD (by have h_:(x5_1:Int) < ((x0_1.length:Int):Int):=ofD;first|exact h_|(have e_:=(Kd.R_reads' HO_0.out).1;omega)|simpa using h_);obtain rfl:=k52_openM hM10;have HP10:=Kd.R_seg HX10.out (x5_1:Int) ofD (by have h_:(x5_1:Int) < ((x0_1.length:Int):Int):=ofD;first|exact h_|(have e_:=(Kd.R_reads' HO_0.out).1;omega)|simpa using h_) (seg:=[.int .i64 x1_1]) (j:=0) hcl10 hcc10 (show 1≤3 from by decide) (x':=(⟨x1_1,(rd_T52 x0_1 x5_1).f1,(rd_T52 x0_1 x5_1).f2⟩:S52)) (k52_mkM _ _ _ (⟨x1_1,(rd_T52 x0_1 x5_1).f1,(rd_T52 x0_1 x5_1).f2⟩:S52) ) (fun _ hk=>hk);have hx10_0:=hcc10 0 _ rfl;(try simp only [show (k52).sz=3 from rfl,Nat.mul_one,Nat.add_zero] at hx10_0)
    have hf10_0:=hfr10 0;(try simp only [show (k52).sz=3 from rfl,Nat.mul_one,Nat.add_zero] at hf10_0)
    clear hcl10 hcc10 hfr10 hM10;go_wp2_with (first|((with_reducible refine gate_store (t:=3) (p:=16) rfl ?_);refine store_event (t:=3) (p:=16) (v:=?vo_w11) (w1:=(wr.setCell ⟨go5,(x5_1:Int).toNat * 3,none⟩ (.int .i64 x1_1))) ?hg ?ho ?hn ?hr ?_;(case ho=>rfl);(case hg=>rfl);(case hn=>rfl);(case hr=>exact zz14);intro w11 hw;have hg:wr.grownBy w11 (some go5):=(by rw [hw];exact HP10.2);have hp_:Kd.R k52 52 w11 w0.heap.size (fun k_=>(P0_ k_∨w.heap.size≤k_)) (.slice (some ⟨go5,0,none⟩) x0_1.length co9) y669:=(by rw [hw,Ny669.out];exact HP10.1);clear HP10;replace HB:=A_ ((by rw [hw];exact below_set (HB.out) GB5.out:Below w0.heap.size w0 w11));replace HK:=A_ (Kept.of_grown (S:=(fun k_=>P0_ k_)) hg (zz49 HK) (fun k_ e_=>(HO_0.out.1 k_ e_)));replace HO_0:=A_ (hp_);clear hg hw hp_)|(refine gR 36 (some 22) Tryz.func36 (laws_markText.calls k1 (wrap64 (x1_1+1)) t670 _ A6.out) ?_;rintro w12 hb;replace HO_0:=A_ (rB (zz12 HO_0) hb);replace HK:=A_ (Kept.below (S:=(fun k_=>P0_ k_)) (zz49 HK) hb);replace HB:=A_ (bS (zz0 HB) hb);(try clear hb);have p7:0≤(x5_1:Int):=ofD;have q7:(x5_1:Int) < ((x0_1.length:Int):Int):=ofD;obtain ⟨ce7,hcl7,hM7,hcc7,hfr7⟩:=Kd.R_elem HO_0.out z52 (x5_1:Int) p7 q7;obtain rfl:=k52_openM hM7;have hx7_0:w12.cell? ⟨go5,(x5_1:Int).toNat * 3,none⟩=some (.int .i64 ((rd_T52 y669 x5_1).f0)):=hcc7 0 _ rfl;have hx7_1:w12.cell? ⟨go5,(x5_1:Int).toNat * 3+1,none⟩=some (.string ((rd_T52 y669 x5_1).f1)):=hcc7 1 _ rfl;have hx7_2:w12.cell? ⟨go5,(x5_1:Int).toNat * 3+2,none⟩=some (.int .i64 ((rd_T52 y669 x5_1).f2)):=hcc7 2 _ rfl;have hf7_0:w12.frozen? ⟨go5,(x5_1:Int).toNat * 3,none⟩=false:=hfr7 0;have hf7_1:w12.frozen? ⟨go5,(x5_1:Int).toNat * 3+1,none⟩=false:=hfr7 1;have hf7_2:w12.frozen? ⟨go5,(x5_1:Int).toNat * 3+2,none⟩=false:=hfr7 2;clear hcl7 hcc7 hfr7 hM7;replace p7:=eq_true p7;replace q7:=eq_true q7;have HX13:=A_ (show Kd.R k52 52 w12 w0.heap.size (fun k_=>(P0_ k_∨w.heap.size≤k_)) (.slice (some ⟨go5,0,none⟩) x0_1.length co9) y669 from (zz12 HO_0));obtain ⟨ce13,hcl13,hM13,hcc13,hfr13⟩:=Kd.R_elem HX13.out z52 (x5_1:Int) ofD (by have h_:(x5_1:Int) < ((x0_1.length:Int):Int):=ofD;first|exact h_|(have e_:=(Kd.R_reads' HO_0.out).1;omega)|simpa using h_);obtain rfl:=k52_openM hM13;have HP13:=Kd.R_seg HX13.out (x5_1:Int) ofD (by have h_:(x5_1:Int) < ((x0_1.length:Int):Int):=ofD;first|exact h_|(have e_:=(Kd.R_reads' HO_0.out).1;omega)|simpa using h_) (seg:=[.string t670]) (j:=1) hcl13 hcc13 (show 2≤3 from by decide) (x':=(⟨(rd_T52 y669 x5_1).f0,t670,(rd_T52 y669 x5_1).f2⟩:S52)) (k52_mkM _ _ _ (⟨(rd_T52 y669 x5_1).f0,t670,(rd_T52 y669 x5_1).f2⟩:S52) ) (fun _ hk=>hk);have hx13_1:=hcc13 1 _ rfl;(try simp only [show (k52).sz=3 from rfl,Nat.mul_one,Nat.add_zero] at hx13_1);have hf13_1:=hfr13 1;(try simp only [show (k52).sz=3 from rfl,Nat.mul_one,Nat.add_zero] at hf13_1);clear hcl13 hcc13 hfr13 hM13)|((with_reducible refine gate_store (t:=9) (p:=24) rfl ?_);refine store_event (t:=9) (p:=24) (v:=?vo_w14) (w1:=(w12.setCell ⟨go5,(x5_1:Int).toNat * 3+1,none⟩ (.string t670))) ?hg ?ho ?hn ?hr ?_;(case ho=>rfl);(case hg=>rfl);(case hn=>rfl);(case hr=>exact zz14);intro w14 hw;have hg:w12.grownBy w14 (some go5):=(by rw [hw];exact HP13.2);have hp_:Kd.R k52 52 w14 w0.heap.size (fun k_=>(P0_ k_∨w.heap.size≤k_)) (.slice (some ⟨go5,0,none⟩) x0_1.length co9) y671:=(by rw [hw,Ny671.out];exact HP13.1);clear HP13;replace HB:=A_ ((by rw [hw];exact below_set (HB.out) GB5.out:Below w0.heap.size w0 w14));replace HK:=A_ (Kept.of_grown (S:=(fun k_=>P0_ k_)) hg (zz49 HK) (fun k_ e_=>(HO_0.out.1 k_ e_)));replace HO_0:=A_ (hp_);clear hg hw hp_;have p8:0≤(x5_1:Int):=ofD;have q8:(x5_1:Int) < ((x0_1.length:Int):Int):=ofD;obtain ⟨ce8,hcl8,hM8,hcc8,hfr8⟩:=Kd.R_elem HO_0.out z52 (x5_1:Int) p8 q8;obtain rfl:=k52_openM hM8;have hx8_0:w14.cell? ⟨go5,(x5_1:Int).toNat * 3,none⟩=some (.int .i64 ((rd_T52 y671 x5_1).f0)):=hcc8 0 _ rfl;have hx8_1:w14.cell? ⟨go5,(x5_1:Int).toNat * 3+1,none⟩=some (.string ((rd_T52 y671 x5_1).f1)):=hcc8 1 _ rfl;have hx8_2:w14.cell? ⟨go5,(x5_1:Int).toNat * 3+2,none⟩=some (.int .i64 ((rd_T52 y671 x5_1).f2)):=hcc8 2 _ rfl;have hf8_0:w14.frozen? ⟨go5,(x5_1:Int).toNat * 3,none⟩=false:=hfr8 0;have hf8_1:w14.frozen? ⟨go5,(x5_1:Int).toNat * 3+1,none⟩=false:=hfr8 1;have hf8_2:w14.frozen? ⟨go5,(x5_1:Int).toNat * 3+2,none⟩=false:=hfr8 2;clear hcl8 hcc8 hfr8 hM8;replace p8:=eq_true p8;replace q8:=eq_true q8;have HX15:=A_ (show Kd.R k52 52 w14 w0.heap.size (fun k_=>(P0_ k_∨w.heap.size≤k_)) (.slice (some ⟨go5,0,none⟩) x0_1.length co9) y671 from (zz12 HO_0));obtain ⟨ce15,hcl15,hM15,hcc15,hfr15⟩:=Kd.R_elem HX15.out z52 (x5_1:Int) ofD (by have h_:(x5_1:Int) < ((x0_1.length:Int):Int):=ofD;first|exact h_|(have e_:=(Kd.R_reads' HO_0.out).1;omega)|simpa using h_);obtain rfl:=k52_openM hM15;have HP15:=Kd.R_seg HX15.out (x5_1:Int) ofD (by have h_:(x5_1:Int) < ((x0_1.length:Int):Int):=ofD;first|exact h_|(have e_:=(Kd.R_reads' HO_0.out).1;omega)|simpa using h_) (seg:=[.int .i64 (wrap64 ((wrap64 (x1_1+1))+1))]) (j:=2) hcl15 hcc15 (show 3≤3 from by decide) (x':=(⟨(rd_T52 y671 x5_1).f0,(rd_T52 y671 x5_1).f1,wrap64 ((wrap64 (x1_1+1))+1)⟩:S52)) (k52_mkM _ _ _ (⟨(rd_T52 y671 x5_1).f0,(rd_T52 y671 x5_1).f1,wrap64 ((wrap64 (x1_1+1))+1)⟩:S52) ) (fun _ hk=>hk);have hx15_2:=hcc15 2 _ rfl;(try simp only [show (k52).sz=3 from rfl,Nat.mul_one,Nat.add_zero] at hx15_2);have hf15_2:=hfr15 2;(try simp only [show (k52).sz=3 from rfl,Nat.mul_one,Nat.add_zero] at hf15_2);clear hcl15 hcc15 hfr15 hM15)|((with_reducible refine gate_store (t:=3) (p:=31) rfl ?_);refine store_event (t:=3) (p:=31) (v:=?vo_w16) (w1:=(w14.setCell ⟨go5,(x5_1:Int).toNat * 3+2,none⟩ (.int .i64 (wrap64 ((wrap64 (x1_1+1))+1))))) ?hg ?ho ?hn ?hr ?_;(case ho=>rfl);(case hg=>rfl);(case hn=>rfl);(case hr=>exact zz14);intro w16 hw;have hg:w14.grownBy w16 (some go5):=(by rw [hw];exact HP15.2);have hp_:Kd.R k52 52 w16 w0.heap.size (fun k_=>(P0_ k_∨w.heap.size≤k_)) (.slice (some ⟨go5,0,none⟩) x0_1.length co9) y672:=(by rw [hw,Ny672.out];exact HP15.1);clear HP15;replace HB:=A_ ((by rw [hw];exact below_set (HB.out) GB5.out:Below w0.heap.size w0 w16));replace HK:=A_ (Kept.of_grown (S:=(fun k_=>P0_ k_)) hg (zz49 HK) (fun k_ e_=>(HO_0.out.1 k_ e_)));replace HO_0:=A_ (hp_);clear hg hw hp_))
    go_roundg k1
    case measure=>have:=HK1.out;omega
    case rel=>exact ⟨(y672),(wrap64 ((wrap64 ((wrap64 (x1_1+1))+1))+1)),(wrap64 (x5_1+1)),zz7,zz7,H',⟨(zz17 HK1)⟩,⟨(zz12 HO_0)⟩,⟨(zz49 HK)⟩,⟨(zz0 HB)⟩⟩
   ·simp only [Option.some.injEq,Prod.mk.injEq] at H
    obtain ⟨rfl,rfl⟩:=H;obtain ⟨Ao17,co17,eo17⟩:=Kd.R_slice HO_0.out;subst eo17;go_wp2
    go_ret
    exact ⟨zz5,(zz12 HO_0),(zz0 HB),(zz49 HK)⟩
def spec_l2Name.l0:Nat→ByteArray→Int→Option (Bool)
 | 0,_,_=>none
 | k+1,x0,x3=>if x3 < (x0.size:Int) then (if 0≤x3 then (if (bt x0 x3) < 97 then (some false) else (if (bt x0 x3) > 122 then (some false) else (spec_l2Name.l0 k x0 (wrap64 (x3+1))))) else (none)) else ((spec_l6In.f (x0.size:Int) 1 8).bind fun t123=>(some t123))
def spec_l2Name.f (k:Nat) (a0:ByteArray):Option (Bool):=spec_l2Name.l0 k a0 0
theorem spec_l2Name.mono_l:∀ k,(∀ y0 y1,LeO (spec_l2Name.l0 k y0 y1) (spec_l2Name.l0 (k+1) y0 y1))
 | 0=>by intros;intro r h;simp [spec_l2Name.l0] at h
 | k+1=>by
  have ih0:=spec_l2Name.mono_l k;intros;unfold spec_l2Name.l0;repeat' first|(with_reducible first|exact ih0 _ _|exact LeO.refl _|exact LeO.none _|refine LeO.ite ?_ ?_|refine LeO.bind ?_ (fun _=>?_))|exact LeO.none _|refine LeO.ite ?_ ?_|refine LeO.bind ?_ (fun _=>?_)
theorem spec_l2Name.mono:∀ a0 k,LeO (spec_l2Name.f k a0) (spec_l2Name.f (k+1) a0):=by
 intro a0 k;have ih0:=spec_l2Name.mono_l k;unfold spec_l2Name.f
 repeat' first|(with_reducible first|exact ih0 _ _|exact LeO.refl _|exact LeO.none _|refine LeO.ite ?_ ?_|refine LeO.bind ?_ (fun _=>?_))|exact LeO.none _|refine LeO.ite ?_ ?_|refine LeO.bind ?_ (fun _=>?_)
theorem spec_l2Name.calls (k:Nat) (a0:ByteArray) (r:Bool) (w:World) (h:spec_l2Name.f k a0=some r) :
  Calls Tryz.prog 39 #[.string a0] w fun e w'=>e=.returned (.bool r)∧Drawn0 w w':=by
 unfold spec_l2Name.f at h
 have H:=h;clear h;have H':=A_ H;clear H;go_enter Tryz.func39,Tryz.ntmps39;go_wp2
 go_loopg [3] k (fun kq v3 w'=>∃ (x3_1:Int),v3=.int .i64 x3_1∧Aside0 (spec_l2Name.l0 kq a0 x3_1=some r)∧Aside0 (kq≤k)∧Drawn0 w w')
 case atStart=>exact ⟨(0),zz7,H',⟨Nat.le_refl _⟩,zz8⟩
 case round=>
  clear H';obtain ⟨x3_1,rfl,HA,HK1,⟨m1,rfl⟩⟩:=hrel;cases gk with
  | zero=>exact absurd HA.out (by simp [spec_l2Name.l0])
  | succ k1=>
   obtain ⟨H⟩:=HA;simp only [spec_l2Name.l0] at H
   replace H:=iteEd H;rcases H with ⟨c2b0,H⟩|⟨c2b0,H⟩
   ·replace H:=iteNd H
    obtain ⟨c3b0,H⟩:=H;replace H:=iteEd H;rcases H with ⟨c5b0,H⟩|⟨c5b0,H⟩
    ·obtain rfl:=sI H
     have p4:0≤(x3_1:Int):=ofD;have q4:x3_1 < (a0.size:Int):=ofD;have hx4:=bt_at a0 x3_1;replace p4:=eq_true p4;replace q4:=eq_true q4;go_wp2
     go_ret
     exact ⟨zz7,zz8⟩
    ·replace H:=iteEg H
     rcases H with ⟨c7b0,H⟩|⟨c7b0,H⟩
     ·obtain rfl:=sI H
      have p4:0≤(x3_1:Int):=ofD;have q4:x3_1 < (a0.size:Int):=ofD;have hx4:=bt_at a0 x3_1;replace p4:=eq_true p4;replace q4:=eq_true q4;have p6:0≤(x3_1:Int):=ofD;have q6:x3_1 < (a0.size:Int):=ofD;have hx6:=bt_at a0 x3_1;replace p6:=eq_true p6;replace q6:=eq_true q6;go_wp2
      go_ret
      exact ⟨zz7,zz8⟩
     ·have H':=A_ H
      clear H;have p4:0≤(x3_1:Int):=ofD;have q4:x3_1 < (a0.size:Int):=ofD;have hx4:=bt_at a0 x3_1;replace p4:=eq_true p4;replace q4:=eq_true q4;have p6:0≤(x3_1:Int):=ofD;have q6:x3_1 < (a0.size:Int):=ofD;have hx6:=bt_at a0 x3_1;replace p6:=eq_true p6;replace q6:=eq_true q6;go_wp2
      go_roundg k1
      case measure=>have:=HK1.out;omega
      case rel=>exact ⟨(wrap64 (x3_1+1)),zz7,H',⟨(zz17 HK1)⟩,zz8⟩
   ·replace H:=bindA H
    obtain ⟨t123,A8,H⟩:=H;obtain rfl:=sI H;go_wp2_with (first|(refine gR 40 (some 22) Tryz.func40 (spec_l6In.calls (a0.size:Int) 1 8 t123 _ A8.out) ?_;rintro w' ⟨nd,rfl⟩))
    go_ret
    exact ⟨zz7,zz8⟩
def spec_l1Cut.l0:Nat→ByteArray→Int→Int→Option (ByteArray×ByteArray×Bool)
 | 0,_,_,_=>none
 | k+1,x0,x1,x7=>if x7 < (x0.size:Int) then (if 0≤x7 then (if (bt x0 x7)=x1 then (if x7≤(x0.size:Int) then (if 0≤(wrap64 (x7+1)) then (if (wrap64 (x7+1))≤(x0.size:Int) then (some (x0.extract 0 (x7:Int).toNat,x0.extract ((wrap64 (x7+1)):Int).toNat x0.size,true)) else (none)) else (none)) else (none)) else (spec_l1Cut.l0 k x0 x1 (wrap64 (x7+1)))) else (none)) else (some (x0,(⟨#[]⟩:ByteArray),false))
def spec_l1Cut.f (k:Nat) (a0:ByteArray) (a1:Int):Option (ByteArray×ByteArray×Bool):=spec_l1Cut.l0 k a0 a1 0
theorem spec_l1Cut.calls (k:Nat) (a0:ByteArray) (a1:Int) (r1:ByteArray) (r2:ByteArray) (r3:Bool) (w:World) (h:spec_l1Cut.f k a0 a1=some (r1,r2,r3)) :
  Calls Tryz.prog 43 #[.string a0,.int .u8 a1] w fun e w'=>e=.returned (.tuple #[.string r1,.string r2,.bool r3])∧Drawn0 w w':=by
 unfold spec_l1Cut.f at h
 have H:=h;clear h;have H':=A_ H;clear H;go_enter Tryz.func43,Tryz.ntmps43;go_wp2
 repeat (go_quiet (fail);try go_wp2)
 go_loopg [7] k (fun kq v7 w'=>∃ (x7_1:Int),v7=.int .i64 x7_1∧Aside0 (spec_l1Cut.l0 kq a0 a1 x7_1=some (r1,r2,r3))∧Aside0 (kq≤k)∧Drawn0 w w')
 case atStart=>exact ⟨(0),zz7,H',⟨Nat.le_refl _⟩,zz8⟩
 case round=>
  clear H';obtain ⟨x7_1,rfl,HA,HK1,⟨m1,rfl⟩⟩:=hrel;cases gk with
  | zero=>exact absurd HA.out (by simp [spec_l1Cut.l0])
  | succ k1=>
   obtain ⟨H⟩:=HA;simp only [spec_l1Cut.l0] at H
   replace H:=iteEd H;rcases H with ⟨c3b0,H⟩|⟨c3b0,H⟩
   ·replace H:=iteNd H
    obtain ⟨c4b0,H⟩:=H;replace H:=iteEq H;rcases H with ⟨c6b0,c6b1,H⟩|⟨c6b0,c6b1,c6,H⟩
    ·have c7b0:=eq_true (ofD:0≤x7_1)
     replace H:=iteN H;obtain ⟨c8,H⟩:=H;have c8b0:=eq_true c8;have c8b1:=dT c8;clear c8;obtain ⟨ji9,hji9⟩:∃ j_:Int,(wrap64 (x7_1+1))=j_:=⟨_,rfl⟩;(first|rw [hji9] at H|simp only [hji9] at H)
     have hji9w:(IntKind.i64.wrap (x7_1+1))=ji9:=(i64_w _).trans hji9;replace H:=iteN H;obtain ⟨c10,H⟩:=H;have c10b0:=eq_true c10;have c10b1:=dT c10;clear c10;replace H:=iteN H;obtain ⟨c11,H⟩:=H;have c11b0:=eq_true c11;have c11b1:=dT c11;clear c11;simp only [Option.some.injEq,Prod.mk.injEq] at H
     obtain ⟨rfl,rfl,rfl⟩:=H;have p5:0≤(x7_1:Int):=ofD;have q5:x7_1 < (a0.size:Int):=ofD;have hx5:=bt_at a0 x7_1;replace p5:=eq_true p5;replace q5:=eq_true q5;go_wp2
     repeat (go_quiet (fail);try go_wp2)
     go_ret3
     exact ⟨(by first|rfl|(simp only [i64_w,i32_w];done)|(simp only [aid_isEmpty,aid_isEmpty2];done)|(simp;done)|((simp only [← hji9] <;> (first|rfl|simp));done)|(simp [*];done)),zz8⟩
    ·have H':=A_ H
     clear H;have p5:0≤(x7_1:Int):=ofD;have q5:x7_1 < (a0.size:Int):=ofD;have hx5:=bt_at a0 x7_1;replace p5:=eq_true p5;replace q5:=eq_true q5;go_wp2
     repeat (go_quiet (fail);try go_wp2)
     go_roundg k1
     case measure=>have:=HK1.out;omega
     case rel=>exact ⟨(wrap64 (x7_1+1)),zz7,H',⟨(zz17 HK1)⟩,zz8⟩
   ·simp only [Option.some.injEq,Prod.mk.injEq] at H
    obtain ⟨rfl,rfl,rfl⟩:=H;go_wp2
    repeat (go_quiet (fail);try go_wp2)
    go_ret3
    exact ⟨zz7,zz8⟩
mutual
def spec_l1Hex.j0:Nat→Int→Bool→Option (Int)
 | 0,_,_=>none
 | k+1,x0,x3=>if x3=true then (some ((x0 - 48) % 256)) else (if x0 ≥ 97 then (spec_l1Hex.j1 k x0 (decide (x0≤102))) else (spec_l1Hex.j1 k x0 false))
def spec_l1Hex.j1:Nat→Int→Bool→Option (Int)
 | 0,_,_=>none
 | k+1,x0,x13=>if x13=true then (some (((x0 - 97) % 256)+10)) else (if x0 ≥ 65 then (if x0≤70 then (some (((x0 - 65) % 256)+10)) else (some (-1))) else (some (-1)))
end
def spec_l1Hex.f (k:Nat) (a0:Int):Option (Int):=if a0 ≥ 48 then (spec_l1Hex.j0 k a0 (decide (a0≤57))) else (spec_l1Hex.j0 k a0 false)
theorem spec_l1Hex.mono_l:∀ k,(∀ y0 y1,LeO (spec_l1Hex.j0 k y0 y1) (spec_l1Hex.j0 (k+1) y0 y1))∧(∀ y0 y1,LeO (spec_l1Hex.j1 k y0 y1) (spec_l1Hex.j1 (k+1) y0 y1))
 | 0=>by refine ⟨?_,?_⟩ <;> (intros;intro r h;simp [spec_l1Hex.j0,spec_l1Hex.j1] at h)
 | k+1=>by
  obtain ⟨ih0,ih1⟩:=spec_l1Hex.mono_l k;refine ⟨?_,?_⟩ <;> intros <;> (first|unfold spec_l1Hex.j0|unfold spec_l1Hex.j1) <;>
  repeat' first|(with_reducible first|exact ih0 _ _|exact ih1 _ _|exact LeO.refl _|exact LeO.none _|refine LeO.ite ?_ ?_|refine LeO.bind ?_ (fun _=>?_))|exact LeO.none _|refine LeO.ite ?_ ?_|refine LeO.bind ?_ (fun _=>?_)
theorem spec_l1Hex.mono:∀ a0 k,LeO (spec_l1Hex.f k a0) (spec_l1Hex.f (k+1) a0):=by
 intro a0 k;obtain ⟨ih0,ih1⟩:=spec_l1Hex.mono_l k;unfold spec_l1Hex.f
 repeat' first|(with_reducible first|exact ih0 _ _|exact ih1 _ _|exact LeO.refl _|exact LeO.none _|refine LeO.ite ?_ ?_|refine LeO.bind ?_ (fun _=>?_))|exact LeO.none _|refine LeO.ite ?_ ?_|refine LeO.bind ?_ (fun _=>?_)
theorem spec_l1Hex.calls (k:Nat) (a0:Int) (r:Int) (w:World) (h:spec_l1Hex.f k a0=some r) :
  Calls Tryz.prog 106 #[.int .u8 a0] w fun e w'=>e=.returned (.int .i64 r)∧Drawn0 w w':=by
 unfold spec_l1Hex.f at h
 have H:=h;clear h;have HC2:=A_ H;clear H;go_enter Tryz.func106,Tryz.ntmps106;go_upto_region 1 with (fail)
 go_cut [3] (fun v3 wc=>∃ (kq:Nat) (x3_1:Bool),v3=.bool x3_1∧Aside0 (spec_l1Hex.j0 kq a0 x3_1=some r)∧Aside0 (kq≤k)∧Drawn0 w wc)
 case first=>
  obtain ⟨H⟩:=HC2;replace H:=iteEe H;rcases H with ⟨c3b0,H⟩|⟨c3b0,H⟩
  ·(first|rw [c3b0]|(simp only [i64_w,i32_w];rw [c3b0])|skip)
   have H':=A_ H;clear H;go_wp2
   go_meet
   case rel=>exact ⟨_,(decide (a0≤57)),zz7,H',⟨zz63⟩,zz8⟩
  ·(first|rw [c3b0]|(simp only [i64_w,i32_w];rw [c3b0])|skip)
   have H':=A_ H;clear H;go_wp2
   go_meet
   case rel=>exact ⟨_,(false),zz7,H',⟨zz63⟩,zz8⟩
 case rest=>
  clear HC2;obtain ⟨kq,x3_1,rfl,HA,HJ1,⟨mc1,rfl⟩⟩:=hcut;cases kq with
  | zero=>exact absurd HA.out (by simp [spec_l1Hex.j0])
  | succ kj1=>
   obtain ⟨H⟩:=HA;simp only [spec_l1Hex.j0] at H
   replace H:=iteB H;rcases H with ⟨rfl,H⟩|⟨rfl,H⟩
   ·obtain rfl:=sI H
    go_wp2
    go_ret
    exact ⟨zz7,zz8⟩
   ·have HC5:=A_ H
    clear H;go_upto_region 3 with (fail)
    go_cut [13] (fun v13 wc=>∃ (kq:Nat) (x13_4:Bool),v13=.bool x13_4∧Aside0 (spec_l1Hex.j1 kq a0 x13_4=some r)∧Aside0 (kq≤kj1)∧Drawn0 w wc)
    case first=>
     obtain ⟨H⟩:=HC5;replace H:=iteEe H;rcases H with ⟨c6b0,H⟩|⟨c6b0,H⟩
     ·(first|rw [c6b0]|(simp only [i64_w,i32_w];rw [c6b0])|skip)
      have H':=A_ H;clear H;go_wp2
      go_meet
      case rel=>exact ⟨_,(decide (a0≤102)),zz7,H',⟨(zz65 HJ1)⟩,zz8⟩
     ·(first|rw [c6b0]|(simp only [i64_w,i32_w];rw [c6b0])|skip)
      have H':=A_ H;clear H;go_wp2
      go_meet
      case rel=>exact ⟨_,(false),zz7,H',⟨(zz65 HJ1)⟩,zz8⟩
    case rest=>
     clear HC5;obtain ⟨kq,x13_4,rfl,HA,HJ4,⟨mc4,rfl⟩⟩:=hcut;cases kq with
     | zero=>exact absurd HA.out (by simp [spec_l1Hex.j1])
     | succ kj4=>
      obtain ⟨H⟩:=HA;simp only [spec_l1Hex.j1] at H
      replace H:=iteB H;rcases H with ⟨rfl,H⟩|⟨rfl,H⟩
      ·obtain rfl:=sI H
       go_wp2
       go_ret
       exact ⟨zz7,zz8⟩
      ·replace H:=iteE H
       rcases H with ⟨c8,H⟩|⟨c8,H⟩
       ·have c8b0:=geT c8
        clear c8;replace H:=iteEd H;rcases H with ⟨c9b0,H⟩|⟨c9b0,H⟩
        ·obtain rfl:=sI H
         go_wp2
         go_ret
         exact ⟨zz7,zz8⟩
        ·obtain rfl:=sI H
         go_wp2
         go_ret
         exact ⟨zz7,zz8⟩
       ·have c8b0:=geF c8
        clear c8;obtain rfl:=sI H;go_wp2
        go_ret
        exact ⟨zz7,zz8⟩
mutual
def spec_EscNorm.l0:Nat→ByteArray→ByteArray→Int→Option (ByteArray×Bool)
 | 0,_,_,_=>none
 | k+1,x0,x4,x5=>if x5 < (x0.size:Int) then (if 0≤x5 then (if (bt x0 x5)=37 then (if (wrap64 (x5+2)) ≥ (x0.size:Int) then (spec_EscNorm.j1 k x0 x4 x5 true) else (if 0≤(wrap64 (x5+1)) then (if (wrap64 (x5+1)) < (x0.size:Int) then ((spec_l1Hex.f k (bt x0 (wrap64 (x5+1)))).bind fun t130=>(if t130 < 0 then (spec_EscNorm.j1 k x0 x4 x5 true) else (if 0≤(wrap64 (x5+2)) then (if (wrap64 (x5+2)) < (x0.size:Int) then ((spec_l1Hex.f k (bt x0 (wrap64 (x5+2)))).bind fun t131=>(spec_EscNorm.j1 k x0 x4 x5 (decide (t131 < 0)))) else (none)) else (none)))) else (none)) else (none))) else (spec_EscNorm.j2 k x0 x4 x5 (wrap64 (bt x0 x5)))) else (none)) else (some (x4,true))
def spec_EscNorm.j2:Nat→ByteArray→ByteArray→Int→Int→Option (ByteArray×Bool)
 | 0,_,_,_,_=>none
 | k+1,x0,x4,x5,x6=>(spec_l1Plain.f ((x6) % 256)).bind fun t134=>(if t134=true then ((some (([(x6) % 256]:List Int):List Int)).bind fun y135=>(if x4.size+(strOfNums y135).size≤9223372036854775807 then (spec_EscNorm.l0 k x0 (x4++(strOfNums y135)) (wrap64 (x5+1))) else (none))) else ((spec_l1Sign.f x6).bind fun t138=>(if x4.size+t138.size≤9223372036854775807 then (spec_EscNorm.l0 k x0 (x4++t138) (wrap64 (x5+1))) else (none))))
def spec_EscNorm.j1:Nat→ByteArray→ByteArray→Int→Bool→Option (ByteArray×Bool)
 | 0,_,_,_,_=>none
 | k+1,x0,x4,x5,x44=>if x44=true then (some ((⟨#[]⟩:ByteArray),false)) else (if 0≤(wrap64 (x5+1)) then (if (wrap64 (x5+1)) < (x0.size:Int) then ((spec_l1Hex.f k (bt x0 (wrap64 (x5+1)))).bind fun t132=>(if 0≤(wrap64 (x5+2)) then (if (wrap64 (x5+2)) < (x0.size:Int) then ((spec_l1Hex.f k (bt x0 (wrap64 (x5+2)))).bind fun t133=>(spec_EscNorm.j2 k x0 x4 (wrap64 (x5+2)) (wrap64 ((wrap64 (t132 * 16))+t133)))) else (none)) else (none))) else (none)) else (none))
end
def spec_EscNorm.f (k:Nat) (a0:ByteArray):Option (ByteArray×Bool):=if (a0.size:Int) > 60 then (some ((⟨#[]⟩:ByteArray),false)) else (spec_EscNorm.l0 k a0 (⟨#[]⟩:ByteArray) 0)
theorem spec_EscNorm.mono_l:∀ k,(∀ y0 y1 y2,LeO (spec_EscNorm.l0 k y0 y1 y2) (spec_EscNorm.l0 (k+1) y0 y1 y2))∧(∀ y0 y1 y2 y3,LeO (spec_EscNorm.j2 k y0 y1 y2 y3) (spec_EscNorm.j2 (k+1) y0 y1 y2 y3))∧(∀ y0 y1 y2 y3,LeO (spec_EscNorm.j1 k y0 y1 y2 y3) (spec_EscNorm.j1 (k+1) y0 y1 y2 y3))
 | 0=>by refine ⟨?_,?_,?_⟩ <;> (intros;intro r h;simp [spec_EscNorm.l0,spec_EscNorm.j2,spec_EscNorm.j1] at h)
 | k+1=>by
  obtain ⟨ih0,ih1,ih2⟩:=spec_EscNorm.mono_l k;refine ⟨?_,?_,?_⟩ <;> intros <;> (first|unfold spec_EscNorm.l0|unfold spec_EscNorm.j2|unfold spec_EscNorm.j1) <;>
  repeat' first|(with_reducible first|exact ih0 _ _ _|exact ih1 _ _ _ _|exact ih2 _ _ _ _|exact spec_l1Hex.mono _ _|exact LeO.refl _|exact LeO.none _|refine LeO.ite ?_ ?_|refine LeO.bind ?_ (fun _=>?_))|exact LeO.none _|refine LeO.ite ?_ ?_|refine LeO.bind ?_ (fun _=>?_)
theorem spec_EscNorm.mono:∀ a0 k,LeO (spec_EscNorm.f k a0) (spec_EscNorm.f (k+1) a0):=by
 intro a0 k;obtain ⟨ih0,ih1,ih2⟩:=spec_EscNorm.mono_l k;unfold spec_EscNorm.f
 repeat' first|(with_reducible first|exact ih0 _ _ _|exact ih1 _ _ _ _|exact ih2 _ _ _ _|exact spec_l1Hex.mono _ _|exact LeO.refl _|exact LeO.none _|refine LeO.ite ?_ ?_|refine LeO.bind ?_ (fun _=>?_))|exact LeO.none _|refine LeO.ite ?_ ?_|refine LeO.bind ?_ (fun _=>?_)
theorem spec_EscNorm.calls (k:Nat) (a0:ByteArray) (r1:ByteArray) (r2:Bool) (w:World) (h:spec_EscNorm.f k a0=some (r1,r2)) :
  Calls Tryz.prog 90 #[.string a0] w fun e w'=>e=.returned (.tuple #[.string r1,.bool r2])∧Below w.heap.size w w':=by
 have HB:=A_ (Below.refl w.heap.size w);unfold spec_EscNorm.f at h
 have H:=h;clear h;replace H:=iteE H;rcases H with ⟨c2,H⟩|⟨c2,H⟩
 ·have c2b0:=gtT c2
  have c2b1:decide (60 < a0.size)=true:=dT (by omega);clear c2;simp only [Option.some.injEq,Prod.mk.injEq] at H
  obtain ⟨rfl,rfl⟩:=H;go_enter Tryz.func90,Tryz.ntmps90;go_wp2
  repeat (go_quiet (fail);try go_wp2)
  go_ret2
  exact ⟨zz5,(zz0 HB)⟩
 ·have c2b0:=gtF c2
  have c2b1:decide (60 < a0.size)=false:=dF (by omega);clear c2;have H':=A_ H;clear H;go_enter Tryz.func90,Tryz.ntmps90;go_wp2
  repeat (go_quiet (fail);try go_wp2)
  go_loopg [4,5] k (fun kq v4 v5 w'=>∃ (x4_1:ByteArray) (x5_1:Int),v4=.string x4_1∧v5=.int .i64 x5_1∧Aside0 (spec_EscNorm.l0 kq a0 x4_1 x5_1=some (r1,r2))∧Aside0 (kq≤k)∧Aside0 (Below w.heap.size w w'))
  case atStart=>exact ⟨((⟨#[]⟩:ByteArray)),(0),zz7,zz7,H',⟨Nat.le_refl _⟩,⟨(zz0 HB)⟩⟩
  case round=>
   clear H';obtain ⟨x4_1,x5_1,rfl,rfl,HA,HK1,HB⟩:=hrel;cases gk with
   | zero=>exact absurd HA.out (by simp [spec_EscNorm.l0])
   | succ k1=>
    obtain ⟨H⟩:=HA;simp only [spec_EscNorm.l0] at H
    replace H:=iteEd H;rcases H with ⟨c3b0,H⟩|⟨c3b0,H⟩
    ·replace H:=iteNd H
     obtain ⟨c4b0,H⟩:=H;have HC7:=A_ H;clear H;have p5:0≤(x5_1:Int):=ofD;have q5:x5_1 < (a0.size:Int):=ofD;have hx5:=bt_at a0 x5_1;replace p5:=eq_true p5;replace q5:=eq_true q5;have p6:0≤(x5_1:Int):=ofD;have q6:x5_1 < (a0.size:Int):=ofD;have hx6:=bt_at a0 x5_1;replace p6:=eq_true p6;replace q6:=eq_true q6;go_upto_if 23 with (fail)
     repeat (go_quiet (fail);go_upto_if 23 with (fail))
     go_cut [5,6] (fun v5 v6 wc=>∃ (kq:Nat) (x5_6:Int) (x6_6:Int),v5=.int .i64 x5_6∧v6=.int .i64 x6_6∧Aside0 (spec_EscNorm.j2 kq a0 x4_1 x5_6 x6_6=some (r1,r2))∧Aside0 (kq≤k1)∧Aside0 (Below w.heap.size w wc))
     case first=>
      obtain ⟨H⟩:=HC7;replace H:=iteEq H;rcases H with ⟨c8b0,c8b1,H⟩|⟨c8b0,c8b1,c8,H⟩
      ·(first|rw [c8b0]|(simp only [i64_w,i32_w];rw [c8b0])|skip)
       have HC9:=A_ H;clear H;go_upto_region 9 with (fail)
       repeat (go_quiet (fail);go_upto_region 9 with (fail))
       go_cut [44] (fun v44 wc=>∃ (kq:Nat) (x44_8:Bool),v44=.bool x44_8∧Aside0 (spec_EscNorm.j1 kq a0 x4_1 x5_1 x44_8=some (r1,r2))∧Aside0 (kq≤k1)∧Aside0 (Below w.heap.size w wc))
       case first=>
        obtain ⟨H⟩:=HC9;replace H:=iteEe H;rcases H with ⟨c10b0,H⟩|⟨c10b0,H⟩
        ·(first|rw [c10b0]|(simp only [i64_w,i32_w];rw [c10b0])|skip)
         have H':=A_ H;clear H;go_wp2
         repeat (go_quiet (fail);try go_wp2)
         go_meet
         case rel=>exact ⟨_,(true),zz7,H',⟨(zz65 HK1)⟩,⟨(zz0 HB)⟩⟩
        ·(first|rw [c10b0]|(simp only [i64_w,i32_w];rw [c10b0])|skip)
         obtain ⟨ji11,hji11⟩:∃ j_:Int,(wrap64 (x5_1+1))=j_:=⟨_,rfl⟩;(first|rw [hji11] at H|simp only [hji11] at H)
         have hji11w:(IntKind.i64.wrap (x5_1+1))=ji11:=(i64_w _).trans hji11;replace H:=iteNd H;obtain ⟨c12b0,H⟩:=H;replace H:=iteNd H;obtain ⟨c13b0,H⟩:=H;replace H:=bindA H;obtain ⟨t130,A15,H⟩:=H;have HF16:=A_ H;clear H;have p14:0≤((ji11):Int):=ofD;have q14:(ji11) < (a0.size:Int):=ofD;have hx14:=bt_at a0 (ji11);replace p14:=eq_true p14;replace q14:=eq_true q14;go_wp2_with (first|(go_at_call 106;(with_reducible refine (spec_l1Hex.calls k1 (bt a0 (ji11)) t130 _ A15.out).mono ?_);rintro e w' ⟨rfl,⟨nd,rfl⟩⟩;(try first|exact ⟨rfl,_,World.drewN_drewN _ _ _⟩|exact ⟨rfl,_,Eq.trans (World.drewN_drewN _ _ _) (congrArg (World.drewN _) (Nat.add_assoc _ _ _))⟩))|((with_reducible refine atG ?_ ?_ fun K_ hK_=>?_);rfl;exact undecG)|((with_reducible refine atI ?_ fun K_ hK_=>?_);exact undecI))
         repeat (go_quiet (first|(go_at_call 106;(with_reducible refine (spec_l1Hex.calls k1 (bt a0 (ji11)) t130 _ A15.out).mono ?_);rintro e w' ⟨rfl,⟨nd,rfl⟩⟩;(try first|exact ⟨rfl,_,World.drewN_drewN _ _ _⟩|exact ⟨rfl,_,Eq.trans (World.drewN_drewN _ _ _) (congrArg (World.drewN _) (Nat.add_assoc _ _ _))⟩))|((with_reducible refine atG ?_ ?_ fun K_ hK_=>?_);rfl;exact undecG)|((with_reducible refine atI ?_ fun K_ hK_=>?_);exact undecI));go_wp2_with (first|(go_at_call 106;(with_reducible refine (spec_l1Hex.calls k1 (bt a0 (ji11)) t130 _ A15.out).mono ?_);rintro e w' ⟨rfl,⟨nd,rfl⟩⟩;(try first|exact ⟨rfl,_,World.drewN_drewN _ _ _⟩|exact ⟨rfl,_,Eq.trans (World.drewN_drewN _ _ _) (congrArg (World.drewN _) (Nat.add_assoc _ _ _))⟩))|((with_reducible refine atG ?_ ?_ fun K_ hK_=>?_);rfl;exact undecG)|((with_reducible refine atI ?_ fun K_ hK_=>?_);exact undecI)))
         refine unG hK_ ?_;clear hK_ K_;obtain ⟨H⟩:=HF16;replace H:=iteE H;rcases H with ⟨c17,H⟩|⟨c17,H⟩
         ·have c17b0:=dT c17
          (first|refine iteT ?_|refine iteF ?_|skip)
          clear c17;(first|rw [c17b0]|(simp only [i64_w,i32_w];rw [c17b0])|skip)
          have H':=A_ H;clear H;(try ((with_reducible refine upS ?_);go_simp))
          go_wp2
          repeat (go_quiet (fail);try go_wp2)
          go_meet
          case rel=>exact ⟨_,(true),zz7,H',⟨(zz65 HK1)⟩,⟨(zz0 HB)⟩⟩
         ·have c17b0:=dF c17
          (first|refine iteT ?_|refine iteF ?_|skip)
          clear c17;(first|rw [c17b0]|(simp only [i64_w,i32_w];rw [c17b0])|skip)
          obtain ⟨ji18,hji18⟩:∃ j_:Int,(wrap64 (x5_1+2))=j_:=⟨_,rfl⟩;(first|rw [hji18] at H|simp only [hji18] at H)
          (try rw [hji18] at c10b0)
          have hji18w:(IntKind.i64.wrap (x5_1+2))=ji18:=(i64_w _).trans hji18;replace H:=iteNd H;obtain ⟨c19b0,H⟩:=H;replace H:=iteNd H;obtain ⟨c20b0,H⟩:=H;replace H:=bindA H;obtain ⟨t131,A22,H⟩:=H;have H':=A_ H;clear H;have p21:0≤((ji18):Int):=ofD;have q21:(ji18) < (a0.size:Int):=ofD;have hx21:=bt_at a0 (ji18);replace p21:=eq_true p21;replace q21:=eq_true q21;go_wp2_with (first|(go_at_call 106;(with_reducible refine (spec_l1Hex.calls k1 (bt a0 (ji18)) t131 _ A22.out).mono ?_);rintro e w' ⟨rfl,⟨nd,rfl⟩⟩;(try first|exact ⟨rfl,_,World.drewN_drewN _ _ _⟩|exact ⟨rfl,_,Eq.trans (World.drewN_drewN _ _ _) (congrArg (World.drewN _) (Nat.add_assoc _ _ _))⟩)))
          repeat (go_quiet (first|(go_at_call 106;(with_reducible refine (spec_l1Hex.calls k1 (bt a0 (ji18)) t131 _ A22.out).mono ?_);rintro e w' ⟨rfl,⟨nd,rfl⟩⟩;(try first|exact ⟨rfl,_,World.drewN_drewN _ _ _⟩|exact ⟨rfl,_,Eq.trans (World.drewN_drewN _ _ _) (congrArg (World.drewN _) (Nat.add_assoc _ _ _))⟩)));try go_wp2_with (first|(go_at_call 106;(with_reducible refine (spec_l1Hex.calls k1 (bt a0 (ji18)) t131 _ A22.out).mono ?_);rintro e w' ⟨rfl,⟨nd,rfl⟩⟩;(try first|exact ⟨rfl,_,World.drewN_drewN _ _ _⟩|exact ⟨rfl,_,Eq.trans (World.drewN_drewN _ _ _) (congrArg (World.drewN _) (Nat.add_assoc _ _ _))⟩))))
          go_meet
          case rel=>exact ⟨_,(decide (t131 < 0)),zz7,H',⟨(zz65 HK1)⟩,⟨(zz0 HB)⟩⟩
       case rest=>
        clear HC9;obtain ⟨kq,x44_8,rfl,HA,HJ8,HB⟩:=hcut;cases kq with
        | zero=>exact absurd HA.out (by simp [spec_EscNorm.j1])
        | succ kj8=>
         obtain ⟨H⟩:=HA;simp only [spec_EscNorm.j1] at H
         replace H:=iteB H;rcases H with ⟨rfl,H⟩|⟨rfl,H⟩
         ·simp only [Option.some.injEq,Prod.mk.injEq] at H
          obtain ⟨rfl,rfl⟩:=H;go_wp2
          repeat (go_quiet (fail);try go_wp2)
          go_ret2
          exact ⟨zz5,(zz0 HB)⟩
         ·obtain ⟨ji24,hji24⟩:∃ j_:Int,(wrap64 (x5_1+1))=j_:=⟨_,rfl⟩
          (first|rw [hji24] at H|simp only [hji24] at H)
          have hji24w:(IntKind.i64.wrap (x5_1+1))=ji24:=(i64_w _).trans hji24;replace H:=iteNd H;obtain ⟨c25b0,H⟩:=H;replace H:=iteNd H;obtain ⟨c26b0,H⟩:=H;replace H:=bindA H;obtain ⟨t132,A28,H⟩:=H;obtain ⟨ji29,hji29⟩:∃ j_:Int,(wrap64 (x5_1+2))=j_:=⟨_,rfl⟩;(first|rw [hji29] at H|simp only [hji29] at H)
          (try rw [hji29] at A28)
          have hji29w:(IntKind.i64.wrap (x5_1+2))=ji29:=(i64_w _).trans hji29;replace H:=iteNd H;obtain ⟨c30b0,H⟩:=H;replace H:=iteNd H;obtain ⟨c31b0,H⟩:=H;replace H:=bindA H;obtain ⟨t133,A33,H⟩:=H;have H':=A_ H;clear H;have p27:0≤((ji24):Int):=ofD;have q27:(ji24) < (a0.size:Int):=ofD;have hx27:=bt_at a0 (ji24);replace p27:=eq_true p27;replace q27:=eq_true q27;go_wp2_with (first|(go_at_call 106;(with_reducible refine (spec_l1Hex.calls kj8 (bt a0 (ji24)) t132 _ A28.out).mono ?_);rintro e w' ⟨rfl,⟨nd,rfl⟩⟩;(try first|exact ⟨rfl,_,World.drewN_drewN _ _ _⟩|exact ⟨rfl,_,Eq.trans (World.drewN_drewN _ _ _) (congrArg (World.drewN _) (Nat.add_assoc _ _ _))⟩);have p32:0≤((ji29):Int):=ofD;have q32:(ji29) < (a0.size:Int):=ofD;have hx32:=bt_at a0 (ji29);replace p32:=eq_true p32;replace q32:=eq_true q32)|(go_at_call 106;(with_reducible refine (spec_l1Hex.calls kj8 (bt a0 (ji29)) t133 _ A33.out).mono ?_);rintro e w' ⟨rfl,⟨nd,rfl⟩⟩;(try first|exact ⟨rfl,_,World.drewN_drewN _ _ _⟩|exact ⟨rfl,_,Eq.trans (World.drewN_drewN _ _ _) (congrArg (World.drewN _) (Nat.add_assoc _ _ _))⟩)))
          repeat (go_quiet (first|(go_at_call 106;(with_reducible refine (spec_l1Hex.calls kj8 (bt a0 (ji24)) t132 _ A28.out).mono ?_);rintro e w' ⟨rfl,⟨nd,rfl⟩⟩;(try first|exact ⟨rfl,_,World.drewN_drewN _ _ _⟩|exact ⟨rfl,_,Eq.trans (World.drewN_drewN _ _ _) (congrArg (World.drewN _) (Nat.add_assoc _ _ _))⟩);have p32:0≤((ji29):Int):=ofD;have q32:(ji29) < (a0.size:Int):=ofD;have hx32:=bt_at a0 (ji29);replace p32:=eq_true p32;replace q32:=eq_true q32)|(go_at_call 106;(with_reducible refine (spec_l1Hex.calls kj8 (bt a0 (ji29)) t133 _ A33.out).mono ?_);rintro e w' ⟨rfl,⟨nd,rfl⟩⟩;(try first|exact ⟨rfl,_,World.drewN_drewN _ _ _⟩|exact ⟨rfl,_,Eq.trans (World.drewN_drewN _ _ _) (congrArg (World.drewN _) (Nat.add_assoc _ _ _))⟩)));try go_wp2_with (first|(go_at_call 106;(with_reducible refine (spec_l1Hex.calls kj8 (bt a0 (ji24)) t132 _ A28.out).mono ?_);rintro e w' ⟨rfl,⟨nd,rfl⟩⟩;(try first|exact ⟨rfl,_,World.drewN_drewN _ _ _⟩|exact ⟨rfl,_,Eq.trans (World.drewN_drewN _ _ _) (congrArg (World.drewN _) (Nat.add_assoc _ _ _))⟩);have p32:0≤((ji29):Int):=ofD;have q32:(ji29) < (a0.size:Int):=ofD;have hx32:=bt_at a0 (ji29);replace p32:=eq_true p32;replace q32:=eq_true q32)|(go_at_call 106;(with_reducible refine (spec_l1Hex.calls kj8 (bt a0 (ji29)) t133 _ A33.out).mono ?_);rintro e w' ⟨rfl,⟨nd,rfl⟩⟩;(try first|exact ⟨rfl,_,World.drewN_drewN _ _ _⟩|exact ⟨rfl,_,Eq.trans (World.drewN_drewN _ _ _) (congrArg (World.drewN _) (Nat.add_assoc _ _ _))⟩))))
          go_meet
          case rel=>exact ⟨_,(ji29),(wrap64 ((wrap64 (t132 * 16))+t133)),(by first|rfl|(simp only [i64_w,i32_w];done)|(simp only [aid_isEmpty,aid_isEmpty2];done)|(simp;done)|((simp only [← hji29] <;> (first|rfl|simp));done)|(simp [*];done)),zz7,H',⟨(by have:=HK1.out;have:=HJ8.out;first|omega|exact Nat.le_refl _)⟩,⟨(zz0 HB)⟩⟩
      ·(first|rw [c8b0]|(simp only [i64_w,i32_w];rw [c8b0])|skip)
       have H':=A_ H;clear H;go_wp2
       repeat (go_quiet (fail);try go_wp2)
       go_meet
       case rel=>exact ⟨_,(x5_1),(wrap64 (bt a0 x5_1)),zz7,zz7,H',⟨(zz65 HK1)⟩,⟨(zz0 HB)⟩⟩
     case rest=>
      clear HC7;obtain ⟨kq,x5_6,x6_6,rfl,rfl,HA,HJ6,HB⟩:=hcut;cases kq with
      | zero=>exact absurd HA.out (by simp [spec_EscNorm.j2])
      | succ kj6=>
       obtain ⟨H⟩:=HA;simp only [spec_EscNorm.j2] at H
       replace H:=bindA H;obtain ⟨t134,A34,H⟩:=H;have HF35:=A_ H;clear H;go_upto_if 61 with (first|(go_at_call 88;(with_reducible refine (spec_l1Plain.calls ((x6_6) % 256) t134 _ A34.out).mono ?_);rintro e w' ⟨rfl,⟨nd,rfl⟩⟩;(try first|exact ⟨rfl,_,World.drewN_drewN _ _ _⟩|exact ⟨rfl,_,Eq.trans (World.drewN_drewN _ _ _) (congrArg (World.drewN _) (Nat.add_assoc _ _ _))⟩)))
       repeat (go_quiet (first|(go_at_call 88;(with_reducible refine (spec_l1Plain.calls ((x6_6) % 256) t134 _ A34.out).mono ?_);rintro e w' ⟨rfl,⟨nd,rfl⟩⟩;(try first|exact ⟨rfl,_,World.drewN_drewN _ _ _⟩|exact ⟨rfl,_,Eq.trans (World.drewN_drewN _ _ _) (congrArg (World.drewN _) (Nat.add_assoc _ _ _))⟩)));go_upto_if 61 with (first|(go_at_call 88;(with_reducible refine (spec_l1Plain.calls ((x6_6) % 256) t134 _ A34.out).mono ?_);rintro e w' ⟨rfl,⟨nd,rfl⟩⟩;(try first|exact ⟨rfl,_,World.drewN_drewN _ _ _⟩|exact ⟨rfl,_,Eq.trans (World.drewN_drewN _ _ _) (congrArg (World.drewN _) (Nat.add_assoc _ _ _))⟩))))
       obtain ⟨H⟩:=HF35;replace H:=iteB H;rcases H with ⟨rfl,H⟩|⟨rfl,H⟩
       ·obtain ⟨y135,Ny135,H⟩:=bindY H
        replace H:=iteN H;obtain ⟨c37,H⟩:=H;have c37b0:=eq_true c37;have c37b1:=dT c37;try have c37b2:(9223372036854775807 < x4_1.size+(strOfNums y135).size)=False:=eq_false (Nat.not_lt.2 c37)
        have H':=A_ H;clear H;go_wp2_with (first|((with_reducible refine gD (N:=65) rfl ?_);refine Kd.R_lit (Kd.int .u8) _ 5 ?hg (N:=65) ?hd (xs:=([(x6_6) % 256]:List Int)) (inner:=[.int .u8 ((x6_6) % 256)]) (ok:=fun _=>True) (okp:=fun _=>True) ?hr ?hp (fun _ hk=>hk) trivial (Below.refl _ _) (Nat.le_refl _) (by simp) ?_;(case hd=>rfl);(case hg=>rfl);(case hr=>exact zz14);(case hp=>exact (Reps.one (show Kd.M (Kd.int .u8) _ _ _ ((x6_6) % 256) [.int .u8 ((x6_6) % 256)] from rfl) (Reps.none _ _)));intro v136 w38 ho39 hb hg_ hnew_;clear hg_ hnew_;(first|rw [← Ny135.out] at ho39|(simp only [Int.reduceToNat] at ho39;rw [← Ny135.out] at ho39));have HO137:=A_ (Kd.R_lower ho39 (below_size (zz0 HB)));replace HB:=A_ (bS (zz0 HB) hb);clear hb ho39;have hcv40:=own_string (P:=Tryz.prog) Tryz.underlying99 Tryz.underlying5 Tryz.underlying9 (Kd.own_of_R HO137.out)))
        repeat (go_quiet (first|((with_reducible refine gD (N:=65) rfl ?_);refine Kd.R_lit (Kd.int .u8) _ 5 ?hg (N:=65) ?hd (xs:=([(x6_6) % 256]:List Int)) (inner:=[.int .u8 ((x6_6) % 256)]) (ok:=fun _=>True) (okp:=fun _=>True) ?hr ?hp (fun _ hk=>hk) trivial (Below.refl _ _) (Nat.le_refl _) (by simp) ?_;(case hd=>rfl);(case hg=>rfl);(case hr=>exact zz14);(case hp=>exact (Reps.one (show Kd.M (Kd.int .u8) _ _ _ ((x6_6) % 256) [.int .u8 ((x6_6) % 256)] from rfl) (Reps.none _ _)));intro v136 w38 ho39 hb hg_ hnew_;clear hg_ hnew_;(first|rw [← Ny135.out] at ho39|(simp only [Int.reduceToNat] at ho39;rw [← Ny135.out] at ho39));have HO137:=A_ (Kd.R_lower ho39 (below_size (zz0 HB)));replace HB:=A_ (bS (zz0 HB) hb);clear hb ho39;have hcv40:=own_string (P:=Tryz.prog) Tryz.underlying99 Tryz.underlying5 Tryz.underlying9 (Kd.own_of_R HO137.out)));try go_wp2_with (first|((with_reducible refine gD (N:=65) rfl ?_);refine Kd.R_lit (Kd.int .u8) _ 5 ?hg (N:=65) ?hd (xs:=([(x6_6) % 256]:List Int)) (inner:=[.int .u8 ((x6_6) % 256)]) (ok:=fun _=>True) (okp:=fun _=>True) ?hr ?hp (fun _ hk=>hk) trivial (Below.refl _ _) (Nat.le_refl _) (by simp) ?_;(case hd=>rfl);(case hg=>rfl);(case hr=>exact zz14);(case hp=>exact (Reps.one (show Kd.M (Kd.int .u8) _ _ _ ((x6_6) % 256) [.int .u8 ((x6_6) % 256)] from rfl) (Reps.none _ _)));intro v136 w38 ho39 hb hg_ hnew_;clear hg_ hnew_;(first|rw [← Ny135.out] at ho39|(simp only [Int.reduceToNat] at ho39;rw [← Ny135.out] at ho39));have HO137:=A_ (Kd.R_lower ho39 (below_size (zz0 HB)));replace HB:=A_ (bS (zz0 HB) hb);clear hb ho39;have hcv40:=own_string (P:=Tryz.prog) Tryz.underlying99 Tryz.underlying5 Tryz.underlying9 (Kd.own_of_R HO137.out))))
        go_roundg kj6
        case measure=>have:=HK1.out;have:=HJ6.out;omega
        case rel=>exact ⟨(x4_1++(strOfNums y135)),(wrap64 (x5_6+1)),zz7,zz7,H',⟨(zz72 HK1 HJ6)⟩,⟨(zz0 HB)⟩⟩
       ·replace H:=bindA H
        obtain ⟨t138,A41,H⟩:=H;replace H:=iteN H;obtain ⟨c42,H⟩:=H;have c42b0:=eq_true c42;have c42b1:=dT c42;try have c42b2:(9223372036854775807 < x4_1.size+t138.size)=False:=eq_false (Nat.not_lt.2 c42)
        have H':=A_ H;clear H;go_wp2_with (first|(go_at_call 107;(with_reducible refine (spec_l1Sign.calls x6_6 t138 _ A41.out).mono ?_);rintro e w' ⟨rfl,⟨nd,rfl⟩⟩;(try first|exact ⟨rfl,_,World.drewN_drewN _ _ _⟩|exact ⟨rfl,_,Eq.trans (World.drewN_drewN _ _ _) (congrArg (World.drewN _) (Nat.add_assoc _ _ _))⟩)))
        repeat (go_quiet (first|(go_at_call 107;(with_reducible refine (spec_l1Sign.calls x6_6 t138 _ A41.out).mono ?_);rintro e w' ⟨rfl,⟨nd,rfl⟩⟩;(try first|exact ⟨rfl,_,World.drewN_drewN _ _ _⟩|exact ⟨rfl,_,Eq.trans (World.drewN_drewN _ _ _) (congrArg (World.drewN _) (Nat.add_assoc _ _ _))⟩)));try go_wp2_with (first|(go_at_call 107;(with_reducible refine (spec_l1Sign.calls x6_6 t138 _ A41.out).mono ?_);rintro e w' ⟨rfl,⟨nd,rfl⟩⟩;(try first|exact ⟨rfl,_,World.drewN_drewN _ _ _⟩|exact ⟨rfl,_,Eq.trans (World.drewN_drewN _ _ _) (congrArg (World.drewN _) (Nat.add_assoc _ _ _))⟩))))
        go_roundg kj6
        case measure=>have:=HK1.out;have:=HJ6.out;omega
        case rel=>exact ⟨(x4_1++t138),(wrap64 (x5_6+1)),zz7,zz7,H',⟨(zz72 HK1 HJ6)⟩,⟨(zz0 HB)⟩⟩
    ·simp only [Option.some.injEq,Prod.mk.injEq] at H
     obtain ⟨rfl,rfl⟩:=H;go_wp2
     repeat (go_quiet (fail);try go_wp2)
     go_ret2
     exact ⟨zz5,(zz0 HB)⟩
def spec_l1House.l0:Nat→ByteArray→Int→Option (Bool)
 | 0,_,_=>none
 | k+1,x0,x3=>if x3 < (x0.size:Int) then (if 0≤x3 then (if (bt x0 x3) < 97 then (some false) else (if (bt x0 x3) > 122 then (some false) else (spec_l1House.l0 k x0 (wrap64 (x3+1))))) else (none)) else ((spec_l6In.f (x0.size:Int) 1 5).bind fun t124=>(some t124))
def spec_l1House.f (k:Nat) (a0:ByteArray):Option (Bool):=spec_l1House.l0 k a0 0
theorem spec_l1House.mono_l:∀ k,(∀ y0 y1,LeO (spec_l1House.l0 k y0 y1) (spec_l1House.l0 (k+1) y0 y1))
 | 0=>by intros;intro r h;simp [spec_l1House.l0] at h
 | k+1=>by
  have ih0:=spec_l1House.mono_l k;intros;unfold spec_l1House.l0;repeat' first|(with_reducible first|exact ih0 _ _|exact LeO.refl _|exact LeO.none _|refine LeO.ite ?_ ?_|refine LeO.bind ?_ (fun _=>?_))|exact LeO.none _|refine LeO.ite ?_ ?_|refine LeO.bind ?_ (fun _=>?_)
theorem spec_l1House.mono:∀ a0 k,LeO (spec_l1House.f k a0) (spec_l1House.f (k+1) a0):=by
 intro a0 k;have ih0:=spec_l1House.mono_l k;unfold spec_l1House.f
 repeat' first|(with_reducible first|exact ih0 _ _|exact LeO.refl _|exact LeO.none _|refine LeO.ite ?_ ?_|refine LeO.bind ?_ (fun _=>?_))|exact LeO.none _|refine LeO.ite ?_ ?_|refine LeO.bind ?_ (fun _=>?_)
theorem spec_l1House.calls (k:Nat) (a0:ByteArray) (r:Bool) (w:World) (h:spec_l1House.f k a0=some r) :
  Calls Tryz.prog 66 #[.string a0] w fun e w'=>e=.returned (.bool r)∧Drawn0 w w':=by
 unfold spec_l1House.f at h
 have H:=h;clear h;have H':=A_ H;clear H;go_enter Tryz.func66,Tryz.ntmps66;go_wp2
 go_loopg [3] k (fun kq v3 w'=>∃ (x3_1:Int),v3=.int .i64 x3_1∧Aside0 (spec_l1House.l0 kq a0 x3_1=some r)∧Aside0 (kq≤k)∧Drawn0 w w')
 case atStart=>exact ⟨(0),zz7,H',⟨Nat.le_refl _⟩,zz8⟩
 case round=>
  clear H';obtain ⟨x3_1,rfl,HA,HK1,⟨m1,rfl⟩⟩:=hrel;cases gk with
  | zero=>exact absurd HA.out (by simp [spec_l1House.l0])
  | succ k1=>
   obtain ⟨H⟩:=HA;simp only [spec_l1House.l0] at H
   replace H:=iteEd H;rcases H with ⟨c2b0,H⟩|⟨c2b0,H⟩
   ·replace H:=iteNd H
    obtain ⟨c3b0,H⟩:=H;replace H:=iteEd H;rcases H with ⟨c5b0,H⟩|⟨c5b0,H⟩
    ·obtain rfl:=sI H
     have p4:0≤(x3_1:Int):=ofD;have q4:x3_1 < (a0.size:Int):=ofD;have hx4:=bt_at a0 x3_1;replace p4:=eq_true p4;replace q4:=eq_true q4;go_wp2
     go_ret
     exact ⟨zz7,zz8⟩
    ·replace H:=iteEg H
     rcases H with ⟨c7b0,H⟩|⟨c7b0,H⟩
     ·obtain rfl:=sI H
      have p4:0≤(x3_1:Int):=ofD;have q4:x3_1 < (a0.size:Int):=ofD;have hx4:=bt_at a0 x3_1;replace p4:=eq_true p4;replace q4:=eq_true q4;have p6:0≤(x3_1:Int):=ofD;have q6:x3_1 < (a0.size:Int):=ofD;have hx6:=bt_at a0 x3_1;replace p6:=eq_true p6;replace q6:=eq_true q6;go_wp2
      go_ret
      exact ⟨zz7,zz8⟩
     ·have H':=A_ H
      clear H;have p4:0≤(x3_1:Int):=ofD;have q4:x3_1 < (a0.size:Int):=ofD;have hx4:=bt_at a0 x3_1;replace p4:=eq_true p4;replace q4:=eq_true q4;have p6:0≤(x3_1:Int):=ofD;have q6:x3_1 < (a0.size:Int):=ofD;have hx6:=bt_at a0 x3_1;replace p6:=eq_true p6;replace q6:=eq_true q6;go_wp2
      go_roundg k1
      case measure=>have:=HK1.out;omega
      case rel=>exact ⟨(wrap64 (x3_1+1)),zz7,H',⟨(zz17 HK1)⟩,zz8⟩
   ·replace H:=bindA H
    obtain ⟨t124,A8,H⟩:=H;obtain rfl:=sI H;go_wp2_with (first|(refine gR 40 (some 22) Tryz.func40 (spec_l6In.calls (a0.size:Int) 1 5 t124 _ A8.out) ?_;rintro w' ⟨nd,rfl⟩))
    go_ret
    exact ⟨zz7,zz8⟩
def spec_l1Path.l0:Nat→ByteArray→Int→ByteArray→List ByteArray→Bool→ByteArray→Option (ByteArray)
 | 0,_,_,_,_,_,_=>none
 | k+1,x3,x4,x126000,x126001,x126002,x126003=>if x4 < (x126001.length:Int) then (if x4 > 0 then (if x3.size+1≤9223372036854775807 then (if 0≤x4 then (if x3.size+1+(rdOf ByteArray.empty x126001 x4).size≤9223372036854775807 then (spec_l1Path.l0 k ((x3++(⟨#[47]⟩:ByteArray))++(rdOf ByteArray.empty x126001 x4)) (wrap64 (x4+1)) x126000 x126001 x126002 x126003) else (none)) else (none)) else (none)) else (if 0≤x4 then (if x3.size+(rdOf ByteArray.empty x126001 x4).size≤9223372036854775807 then (spec_l1Path.l0 k (x3++(rdOf ByteArray.empty x126001 x4)) (wrap64 (x4+1)) x126000 x126001 x126002 x126003) else (none)) else (none))) else (if x126002=true then (if x3.size+1≤9223372036854775807 then (if x3.size+1+x126003.size≤9223372036854775807 then (some ((x3++(⟨#[63]⟩:ByteArray))++x126003)) else (none)) else (none)) else (some x3))
def spec_l1Path.f (k:Nat) (a0_0:ByteArray) (l0_1:List ByteArray) (a0_2:Bool) (a0_3:ByteArray):Option (ByteArray):=spec_l1Path.l0 k (⟨#[47]⟩:ByteArray) 0 a0_0 l0_1 a0_2 a0_3
theorem spec_l1Path.mono_l:∀ k,(∀ y0 y1 y2 y3 y4 y5,LeO (spec_l1Path.l0 k y0 y1 y2 y3 y4 y5) (spec_l1Path.l0 (k+1) y0 y1 y2 y3 y4 y5))
 | 0=>by intros;intro r h;simp [spec_l1Path.l0] at h
 | k+1=>by
  have ih0:=spec_l1Path.mono_l k;intros;unfold spec_l1Path.l0;repeat' first|(with_reducible first|exact ih0 _ _ _ _ _ _|exact LeO.refl _|exact LeO.none _|refine LeO.ite ?_ ?_|refine LeO.bind ?_ (fun _=>?_))|exact LeO.none _|refine LeO.ite ?_ ?_|refine LeO.bind ?_ (fun _=>?_)
theorem spec_l1Path.mono:∀ a0 a1 a2 a3 k,LeO (spec_l1Path.f k a0 a1 a2 a3) (spec_l1Path.f (k+1) a0 a1 a2 a3):=by
 intro a0 a1 a2 a3 k;have ih0:=spec_l1Path.mono_l k;unfold spec_l1Path.f
 repeat' first|(with_reducible first|exact ih0 _ _ _ _ _ _|exact LeO.refl _|exact LeO.none _|refine LeO.ite ?_ ?_|refine LeO.bind ?_ (fun _=>?_))|exact LeO.none _|refine LeO.ite ?_ ?_|refine LeO.bind ?_ (fun _=>?_)
theorem spec_l1Path.calls (k:Nat) (a0_0:ByteArray) (A0_1:Option Addr) (c0_1:Nat) (l0_1:List ByteArray) (a0_2:Bool) (a0_3:ByteArray) (r:ByteArray) (w:World) (hr0_1:Kd.C Kd.string w A0_1 l0_1.length l0_1) (hc0_1:l0_1.length≤c0_1) (h:spec_l1Path.f k a0_0 l0_1 a0_2 a0_3=some r) :
  Calls Tryz.prog 105 #[.agg #[.string a0_0,.slice A0_1 l0_1.length c0_1,.bool a0_2,.string a0_3]] w fun e w'=>e=.returned (.string r)∧Below w.heap.size w w':=by
 have hu48:=Tryz.underlying48;have HR0_1:=A_ hr0_1;have HC0_1:=A_ hc0_1;clear hr0_1 hc0_1;have HB:=A_ (Below.refl w.heap.size w);unfold spec_l1Path.f at h
 have H:=h;clear h;have H':=A_ H;clear H;go_enter Tryz.func105,Tryz.ntmps105;go_wp2_with (first|(refine boxF 1 #[.string a0_0,.slice A0_1 l0_1.length c0_1,.bool a0_2,.string a0_3] 48 ?_;intro gb125 hg w2 BK125 hb;have GE125:=geB hg (zz0 HB);replace HB:=A_ (bS (zz0 HB) hb);clear hb hg))
 go_loopg [3,4] k (fun kq v3 v4 w'=>∃ (x3_1:ByteArray) (x4_1:Int),v3=.string x3_1∧v4=.int .i64 x4_1∧Aside0 (spec_l1Path.l0 kq x3_1 x4_1 a0_0 l0_1 a0_2 a0_3=some r)∧Aside0 (kq≤k)∧Aside0 (w'.heap[gb125]?=some (.cells #[.string a0_0,(.slice A0_1 l0_1.length c0_1),.bool a0_2,.string a0_3] 48 (0,0)))∧Aside0 (Below w.heap.size w w'))
 case atStart=>exact ⟨((⟨#[47]⟩:ByteArray)),(0),zz7,zz7,H',⟨Nat.le_refl _⟩,⟨(zz2 BK125)⟩,⟨(zz1 HB GE125)⟩⟩
 case round=>
  clear H';obtain ⟨x3_1,x4_1,rfl,rfl,HA,HK1,BK125,HB⟩:=hrel;cases gk with
  | zero=>exact absurd HA.out (by simp [spec_l1Path.l0])
  | succ k1=>
   obtain ⟨H⟩:=HA;simp only [spec_l1Path.l0] at H
   replace H:=iteEd H;rcases H with ⟨c3b0,H⟩|⟨c3b0,H⟩
   ·replace H:=iteEg H
    rcases H with ⟨c4b0,H⟩|⟨c4b0,H⟩
    ·replace H:=iteN H
     obtain ⟨c5,H⟩:=H;have c5b0:=eq_true c5;have c5b1:=dT c5;try have c5b2:(9223372036854775807 < x3_1.size+1)=False:=eq_false (Nat.not_lt.2 c5)
     replace H:=iteNd H;obtain ⟨c6b0,H⟩:=H;replace H:=iteN H;obtain ⟨c7,H⟩:=H;have c7b0:=eq_true c7;have c7b1:=dT c7;try have c7b2:(9223372036854775807 < x3_1.size+1+(rdOf ByteArray.empty l0_1 x4_1).size)=False:=eq_false (Nat.not_lt.2 c7)
     have H':=A_ H;clear H;obtain ⟨_,_,_,_,_,_,_,_⟩:=cf4 BK125;obtain ⟨⟨ad126,e126,hx126_0⟩,p126,q126⟩:=atB (Kd.at_string HR0_1.out x4_1);cases e126
     replace hx126_0:=cbl HB hx126_0;go_wp2
     go_roundg k1
     case measure=>have:=HK1.out;omega
     case rel=>exact ⟨((x3_1++(⟨#[47]⟩:ByteArray))++(rdOf ByteArray.empty l0_1 x4_1)),(wrap64 (x4_1+1)),zz7,zz7,H',⟨(zz17 HK1)⟩,⟨(zz2 BK125)⟩,⟨(zz1 HB GE125)⟩⟩
    ·replace H:=iteNd H
     obtain ⟨c9b0,H⟩:=H;replace H:=iteN H;obtain ⟨c10,H⟩:=H;have c10b0:=eq_true c10;have c10b1:=dT c10;try have c10b2:(9223372036854775807 < x3_1.size+(rdOf ByteArray.empty l0_1 x4_1).size)=False:=eq_false (Nat.not_lt.2 c10)
     have H':=A_ H;clear H;obtain ⟨_,_,_,_,_,_,_,_⟩:=cf4 BK125;obtain ⟨⟨ad127,e127,hx127_0⟩,p127,q127⟩:=atB (Kd.at_string HR0_1.out x4_1);cases e127
     replace hx127_0:=cbl HB hx127_0;go_wp2
     go_roundg k1
     case measure=>have:=HK1.out;omega
     case rel=>exact ⟨(x3_1++(rdOf ByteArray.empty l0_1 x4_1)),(wrap64 (x4_1+1)),zz7,zz7,H',⟨(zz17 HK1)⟩,⟨(zz2 BK125)⟩,⟨(zz1 HB GE125)⟩⟩
   ·replace H:=iteB H
    rcases H with ⟨rfl,H⟩|⟨rfl,H⟩
    ·replace H:=iteN H
     obtain ⟨c13,H⟩:=H;have c13b0:=eq_true c13;have c13b1:=dT c13;try have c13b2:(9223372036854775807 < x3_1.size+1)=False:=eq_false (Nat.not_lt.2 c13)
     replace H:=iteN H;obtain ⟨c14,H⟩:=H;have c14b0:=eq_true c14;have c14b1:=dT c14;try have c14b2:(9223372036854775807 < x3_1.size+1+a0_3.size)=False:=eq_false (Nat.not_lt.2 c14)
     obtain rfl:=sI H;obtain ⟨_,_,_,_,_,_,_,_⟩:=cf4 BK125;go_wp2
     go_ret
     exact ⟨zz5,(zz1 HB GE125)⟩
    ·obtain rfl:=sI H
     obtain ⟨_,_,_,_,_,_,_,_⟩:=cf4 BK125;go_wp2
     go_ret
     exact ⟨zz5,(zz1 HB GE125)⟩
def spec_l1Split.l0:Nat→Int→List ByteArray→ByteArray→Bool→Option (List ByteArray)
 | 0,_,_,_,_=>none
 | k+1,x1,x5,x6,x7=>if x7=true then ((spec_l1Cut.f k x6 x1).bind fun bt153=>(if x5.length < 8796093022208 then (spec_l1Split.l0 k x1 (x5++[bt153.1]) bt153.2.1 bt153.2.2) else (none))) else (some x5)
def spec_l1Split.f (k:Nat) (a0:ByteArray) (a1:Int):Option (List ByteArray):=spec_l1Split.l0 k a1 (([]:List ByteArray)) a0 true
theorem spec_l1Split.calls (k:Nat) (a0:ByteArray) (a1:Int) (r:List ByteArray) (w:World) (h:spec_l1Split.f k a0 a1=some r) :
  Calls Tryz.prog 89 #[.string a0,.int .u8 a1] w fun e w'=>∃ v0_:Value,e=.returned (v0_)∧Kd.R Kd.string 9 w' w.heap.size (fun _=>True) v0_ r∧Below w.heap.size w w':=by
 have HB:=A_ (Below.refl w.heap.size w);unfold spec_l1Split.f at h
 have H:=h;clear h;obtain ⟨y150,Ny150⟩:=toY (([]:List ByteArray));(first|with_reducible replace H:=bindZ Ny150 H|rw [← Ny150.out] at H|skip)
 have H':=A_ H;clear H;go_enter Tryz.func89,Tryz.ntmps89;go_wp2_with (first|((with_reducible refine gD (N:=9) rfl ?_);refine Kd.R_lit Kd.string _ 9 ?hg (N:=9) ?hd (xs:=([]:List ByteArray)) (inner:=[]) (ok:=fun _=>True) (okp:=fun _=>True) ?hr ?hp (fun _ hk=>hk) trivial (Below.refl _ _) (Nat.le_refl _) (by simp) ?_;(case hd=>rfl);(case hg=>rfl);(case hr=>exact zz14);(case hp=>exact (Reps.none _ _));intro v151 w3 ho4 hb hg_ hnew_;clear hg_ hnew_;(first|rw [← Ny150.out] at ho4|(simp only [Int.reduceToNat] at ho4;rw [← Ny150.out] at ho4));have HO152:=A_ (Kd.R_lower ho4 (below_size (zz0 HB)));replace HB:=A_ (bS (zz0 HB) hb);clear hb ho4))
 go_loopg [5,6,7] k (fun kq v5 v6 v7 w'=>∃ (x5_1:List ByteArray) (x6_1:ByteArray) (x7_1:Bool),v6=.string x6_1∧v7=.bool x7_1∧Aside0 (spec_l1Split.l0 kq a1 x5_1 x6_1 x7_1=some r)∧Aside0 (kq≤k)∧Aside0 (Kd.R Kd.string 9 w' w.heap.size (fun _=>True) v5 x5_1)∧Aside0 (Below w.heap.size w w'))
 case atStart=>exact ⟨(y150),(a0),(true),zz7,zz7,H',⟨Nat.le_refl _⟩,⟨(zz12 HO152)⟩,⟨(zz0 HB)⟩⟩
 case round=>
  clear H';obtain ⟨x5_1,x6_1,x7_1,rfl,rfl,HA,HK1,HO_5,HB⟩:=hrel;cases gk with
  | zero=>exact absurd HA.out (by simp [spec_l1Split.l0])
  | succ k1=>
   obtain ⟨H⟩:=HA;simp only [spec_l1Split.l0] at H
   replace H:=iteB H;rcases H with ⟨rfl,H⟩|⟨rfl,H⟩
   ·replace H:=bindA H
    obtain ⟨⟨t153,t154,t155⟩,A6,H⟩:=H;try dsimp only at H
    replace H:=iteN H;obtain ⟨c7,H⟩:=H;have LMc7:=A_ c7;clear c7;obtain ⟨y156,Ny156⟩:=toY (x5_1++[t153]);(first|with_reducible replace H:=bindZ Ny156 H|rw [← Ny156.out] at H|skip)
    have H':=A_ H;clear H;go_wp2_with (first|(refine gR 43 (some 15) Tryz.func43 (spec_l1Cut.calls k1 x6_1 a1 t153 t154 t155 _ A6.out) ?_;rintro w' ⟨nd,rfl⟩)|((with_reducible refine gate_builtin (b:=.append) (xs:=#[.tmp 19,.tmp 21]) rfl ?_);at_builtin;refine Kd.R_append Kd.string (w0:=w) w.heap.size rfl (.tmp 19) (.tmp 21) 23 9 (.string ⟨#[]⟩) 16 rfl Tryz.underlying23 info9 rfl (by decide) (by omega) u5 x5_1 t153 [.string t153] (fun _=>True) (fun _=>False) rfl rfl ?aP (fun _ hk=>hk.elim) ?aF ?aO ?aB ?aS ?aL ?_;(case aP=>exact rfl);(case aB=>exact (zz0 HB));(case aF=>exact (fun _ _=>trivial));(case aO=>exact (zz12 HO_5));(case aS=>exact (below_size (zz0 HB)));(case aL=>exact (zz17 LMc7));intro v157 w8 ho hb hg hat;rw [← Ny156.out] at ho;replace HB:=A_ (hb);have HO158:=A_ (ho);clear HO_5;clear ho hb hg hat))
    go_roundg k1
    case measure=>have:=HK1.out;omega
    case rel=>exact ⟨(y156),(t154),(t155),zz7,zz7,H',⟨(zz17 HK1)⟩,⟨(zz12 HO158)⟩,⟨(zz0 HB)⟩⟩
   ·obtain rfl:=sI H
    go_wp2
    go_ret
    exact ⟨_,zz5,(zz12 HO_5),(zz0 HB)⟩
mutual
def spec_PathClean.l0:Nat→List ByteArray→List ByteArray→Int→Option (List ByteArray)
 | 0,_,_,_=>none
 | k+1,x0,x3,x4=>if x4 < (x0.length:Int) then (if 0≤x4 then (if (rdOf ByteArray.empty x0 x4).toList=([]:List UInt8) then (spec_PathClean.j1 k x0 x3 x4 true) else (spec_PathClean.j1 k x0 x3 x4 ((rdOf ByteArray.empty x0 x4).toList == ([46]:List UInt8)))) else (none)) else (some x3)
def spec_PathClean.j1:Nat→List ByteArray→List ByteArray→Int→Bool→Option (List ByteArray)
 | 0,_,_,_,_=>none
 | k+1,x0,x3,x4,x19=>if x19=true then (spec_PathClean.l0 k x0 x3 (wrap64 (x4+1))) else (if 0≤x4 then (if x4 < (x0.length:Int) then (if (rdOf ByteArray.empty x0 x4).toList=([46,46]:List UInt8) then (if 0≤(mx (wrap64 ((x3.length:Int) - 1)) 0) then (if (mx (wrap64 ((x3.length:Int) - 1)) 0)≤(x3.length:Int) then (spec_PathClean.l0 k x0 (x3.take ((mx (wrap64 ((x3.length:Int) - 1)) 0):Int).toNat) (wrap64 (x4+1))) else (none)) else (none)) else (if x3.length < 8796093022208 then (spec_PathClean.l0 k x0 (x3++[rdOf ByteArray.empty x0 x4]) (wrap64 (x4+1))) else (none))) else (none)) else (none))
end
def spec_PathClean.f (k:Nat) (l0:List ByteArray):Option (List ByteArray):=spec_PathClean.l0 k l0 (([]:List ByteArray)) 0
theorem spec_PathClean.calls (k:Nat) (A0:Option Addr) (c0:Nat) (l0:List ByteArray) (r:List ByteArray) (w:World) (hr0:Kd.C Kd.string w A0 l0.length l0) (hc0:l0.length≤c0) (h:spec_PathClean.f k l0=some r) :
  Calls Tryz.prog 91 #[.slice A0 l0.length c0] w fun e w'=>∃ v0_:Value,e=.returned (v0_)∧Kd.R Kd.string 9 w' w.heap.size (fun _=>True) v0_ r∧Below w.heap.size w w':=by
 have HR0:=A_ hr0;have HC0:=A_ hc0;clear hr0 hc0;have HB:=A_ (Below.refl w.heap.size w);unfold spec_PathClean.f at h
 have H:=h;clear h;obtain ⟨y159,Ny159⟩:=toY (([]:List ByteArray));(first|with_reducible replace H:=bindZ Ny159 H|rw [← Ny159.out] at H|skip)
 have H':=A_ H;clear H;go_enter Tryz.func91,Tryz.ntmps91;go_wp2_with (first|((with_reducible refine gD (N:=5) rfl ?_);refine Kd.R_lit Kd.string _ 9 ?hg (N:=5) ?hd (xs:=([]:List ByteArray)) (inner:=[]) (ok:=fun _=>True) (okp:=fun _=>True) ?hr ?hp (fun _ hk=>hk) trivial (Below.refl _ _) (Nat.le_refl _) (by simp) ?_;(case hd=>rfl);(case hg=>rfl);(case hr=>exact zz14);(case hp=>exact (Reps.none _ _));intro v160 w2 ho3 hb hg_ hnew_;clear hg_ hnew_;(first|rw [← Ny159.out] at ho3|(simp only [Int.reduceToNat] at ho3;rw [← Ny159.out] at ho3));have HO161:=A_ (Kd.R_lower ho3 (below_size (zz0 HB)));replace HB:=A_ (bS (zz0 HB) hb);clear hb ho3))
 go_loopg [3,4] k (fun kq v3 v4 w'=>∃ (x3_1:List ByteArray) (x4_1:Int),v4=.int .i64 x4_1∧Aside0 (spec_PathClean.l0 kq l0 x3_1 x4_1=some r)∧Aside0 (kq≤k)∧Aside0 (Kd.R Kd.string 9 w' w.heap.size (fun _=>True) v3 x3_1)∧Aside0 (Below w.heap.size w w'))
 case atStart=>exact ⟨(y159),(0),zz7,H',⟨Nat.le_refl _⟩,⟨(zz12 HO161)⟩,⟨(zz0 HB)⟩⟩
 case round=>
  clear H';obtain ⟨x3_1,x4_1,rfl,HA,HK1,HO_3,HB⟩:=hrel;cases gk with
  | zero=>exact absurd HA.out (by simp [spec_PathClean.l0])
  | succ k1=>
   obtain ⟨H⟩:=HA;simp only [spec_PathClean.l0] at H
   replace H:=iteEd H;rcases H with ⟨c4b0,H⟩|⟨c4b0,H⟩
   ·have HC5:=A_ H
    clear H;go_upto_region 6 with (fail)
    go_cut [19] (fun v19 wc=>∃ (kq:Nat) (x19_4:Bool),v19=.bool x19_4∧Aside0 (spec_PathClean.j1 kq l0 x3_1 x4_1 x19_4=some r)∧Aside0 (kq≤k1)∧Aside0 (Kd.R Kd.string 9 wc w.heap.size (fun _=>True) u3 x3_1)∧Aside0 (Below w.heap.size w wc))
    case first=>
     obtain ⟨H⟩:=HC5;replace H:=iteNd H;obtain ⟨c6b0,H⟩:=H;(first|rw [c6b0]|(simp only [i64_w,i32_w];rw [c6b0])|skip)
     replace H:=iteEq H;rcases H with ⟨c7b0,c7b1,H⟩|⟨c7b0,c7b1,c7,H⟩
     ·have H':=A_ H
      clear H;obtain ⟨⟨ad162,e162,hx162_0⟩,p162,q162⟩:=atB (Kd.at_string HR0.out x4_1);cases e162
      replace hx162_0:=cbl HB hx162_0;go_wp2
      go_meet
      case rel=>exact ⟨_,(true),zz7,H',⟨(zz65 HK1)⟩,⟨(zz12 HO_3)⟩,⟨(zz0 HB)⟩⟩
     ·have H':=A_ H
      clear H;obtain ⟨⟨ad162,e162,hx162_0⟩,p162,q162⟩:=atB (Kd.at_string HR0.out x4_1);cases e162
      replace hx162_0:=cbl HB hx162_0;obtain ⟨⟨ad163,e163,hx163_0⟩,p163,q163⟩:=atB (Kd.at_string HR0.out x4_1);obtain rfl:ad162=ad163:=(by injection e163);replace hx163_0:=cbl HB hx163_0;go_wp2
      go_meet
      case rel=>exact ⟨_,(((rdOf ByteArray.empty l0 x4_1).toList == ([46]:List UInt8))),zz7,H',⟨(zz65 HK1)⟩,⟨(zz12 HO_3)⟩,⟨(zz0 HB)⟩⟩
    case rest=>
     clear HC5;obtain ⟨kq,x19_4,rfl,HA,HJ4,HO_3,HB⟩:=hcut;cases kq with
     | zero=>exact absurd HA.out (by simp [spec_PathClean.j1])
     | succ kj4=>
      obtain ⟨H⟩:=HA;simp only [spec_PathClean.j1] at H
      replace H:=iteB H;rcases H with ⟨rfl,H⟩|⟨rfl,H⟩
      ·have H':=A_ H
       clear H;go_wp2
       go_roundg kj4
       case measure=>have:=HK1.out;have:=HJ4.out;omega
       case rel=>exact ⟨(x3_1),(wrap64 (x4_1+1)),zz7,H',⟨(zz72 HK1 HJ4)⟩,⟨(zz12 HO_3)⟩,⟨(zz0 HB)⟩⟩
      ·replace H:=iteN H
       obtain ⟨c9,H⟩:=H;have c9b0:=dT c9;clear c9;replace H:=iteNd H;obtain ⟨c10b0,H⟩:=H;replace H:=iteEq H;rcases H with ⟨c11b0,c11b1,H⟩|⟨c11b0,c11b1,c11,H⟩
       ·obtain ⟨ji12,hji12⟩:∃ j_:Int,(mx (wrap64 ((x3_1.length:Int) - 1)) 0)=j_:=⟨_,rfl⟩
        (first|rw [hji12] at H|simp only [hji12] at H)
        have hji12_:(if (wrap64 ((x3_1.length:Int) - 1)) < 0 then 0 else (wrap64 ((x3_1.length:Int) - 1)))=ji12:=hji12;replace H:=iteN H;obtain ⟨c13,H⟩:=H;have c13b0:=eq_true c13;have c13b1:=dT c13;clear c13;replace H:=iteN H;obtain ⟨c14,H⟩:=H;have c14b0:=eq_true c14;have c14b1:=dT c14;clear c14;obtain ⟨y165,Ny165⟩:=toY (x3_1.take ((ji12):Int).toNat);(first|with_reducible replace H:=bindZ Ny165 H|rw [← Ny165.out] at H|skip)
        have H':=A_ H;clear H;obtain ⟨⟨ad164,e164,hx164_0⟩,p164,q164⟩:=atB (Kd.at_string HR0.out x4_1);cases e164
        replace hx164_0:=cbl HB hx164_0;obtain ⟨Ao15,co15,eo15⟩:=Kd.R_slice HO_3.out;subst eo15;have q16:((ji12):Int)≤((x3_1.length:Int):Int):=ofD;obtain ⟨i016,hi016,_,hsz16,_⟩:=info_parts info9;have hcut16:=cut_to (P:=Tryz.prog) 23 9 .i64 Tryz.underlying23 hi016 Ao15 x3_1.length co15 (ji12) ofD q16 (Kd.R_reads' HO_3.out).2.1;have hr16:=Kd.R_take (m:=((ji12):Int).toNat) HO_3.out (by omega);have hy16:y165.length=((ji12):Int).toNat:=(by rw [Ny165.out,List.length_take];omega);rw [← Ny165.out] at hr16;rw [← hy16] at hr16 hcut16;clear hy16 hi016 hsz16 HO_3;have HO167:=A_ hr16;clear hr16;replace q16:=eq_true q16;go_wp2
        go_roundg kj4
        case measure=>have:=HK1.out;have:=HJ4.out;omega
        case rel=>exact ⟨(y165),(wrap64 (x4_1+1)),zz7,H',⟨(zz72 HK1 HJ4)⟩,⟨(zz12 HO167)⟩,⟨(zz0 HB)⟩⟩
       ·replace H:=iteN H
        obtain ⟨c17,H⟩:=H;have LMc17:=A_ c17;clear c17;obtain ⟨y169,Ny169⟩:=toY (x3_1++[rdOf ByteArray.empty l0 x4_1]);(first|with_reducible replace H:=bindZ Ny169 H|rw [← Ny169.out] at H|skip)
        have H':=A_ H;clear H;obtain ⟨⟨ad164,e164,hx164_0⟩,p164,q164⟩:=atB (Kd.at_string HR0.out x4_1);cases e164
        replace hx164_0:=cbl HB hx164_0;obtain ⟨⟨ad168,e168,hx168_0⟩,p168,q168⟩:=atB (Kd.at_string HR0.out x4_1);obtain rfl:ad164=ad168:=(by injection e168);replace hx168_0:=cbl HB hx168_0;go_wp2_with (first|((with_reducible refine gate_builtin (b:=.append) (xs:=#[.tmp 12,.tmp 17]) rfl ?_);at_builtin;refine Kd.R_append Kd.string (w0:=w) w.heap.size rfl (.tmp 12) (.tmp 17) 23 9 (.string ⟨#[]⟩) 16 rfl Tryz.underlying23 info9 rfl (by decide) (by omega) u3 x3_1 (rdOf ByteArray.empty l0 x4_1) [.string (rdOf ByteArray.empty l0 x4_1)] (fun _=>True) (fun _=>False) rfl rfl ?aP (fun _ hk=>hk.elim) ?aF ?aO ?aB ?aS ?aL ?_;(case aP=>exact rfl);(case aB=>exact (zz0 HB));(case aF=>exact (fun _ _=>trivial));(case aO=>exact (zz12 HO_3));(case aS=>exact (below_size (zz0 HB)));(case aL=>exact (zz17 LMc17));intro v170 w18 ho hb hg hat;rw [← Ny169.out] at ho;replace HB:=A_ (hb);have HO171:=A_ (ho);clear HO_3;clear ho hb hg hat))
        go_roundg kj4
        case measure=>have:=HK1.out;have:=HJ4.out;omega
        case rel=>exact ⟨(y169),(wrap64 (x4_1+1)),zz7,H',⟨(zz72 HK1 HJ4)⟩,⟨(zz12 HO171)⟩,⟨(zz0 HB)⟩⟩
   ·obtain rfl:=sI H
    go_wp2
    go_ret
    exact ⟨_,zz5,(zz12 HO_3),(zz0 HB)⟩
def spec_l12House.l0:Nat→ByteArray→Int→ByteArray→Int→List (S82)→List ByteArray→List (S52)→Option (Int)
 | 0,_,_,_,_,_,_,_=>none
 | k+1,x1,x5,x248000,x248001,x248002,x248003,x248004=>if x5 < (x248002.length:Int) then (if 0≤x5 then (if ((rd_T82 x248002 x5).f0).toList=x1.toList then (some x5) else (spec_l12House.l0 k x1 (wrap64 (x5+1)) x248000 x248001 x248002 x248003 x248004)) else (none)) else (some (-1))
def spec_l12House.f (k:Nat) (a0_0:ByteArray) (a0_1:Int) (l0_2:List (S82)) (l0_3:List ByteArray) (l0_4:List (S52)) (a1:ByteArray):Option (Int):=spec_l12House.l0 k a1 0 a0_0 a0_1 l0_2 l0_3 l0_4
theorem spec_l12House.calls (k:Nat) (a0_0:ByteArray) (a0_1:Int) (A0_2:Option Addr) (c0_2:Nat) (l0_2:List (S82)) (A0_3:Option Addr) (c0_3:Nat) (l0_3:List ByteArray) (A0_4:Option Addr) (c0_4:Nat) (l0_4:List (S52)) (a1:ByteArray) (r:Int) (w:World) (hr0_2:Kd.C k82 w A0_2 l0_2.length l0_2) (hc0_2:l0_2.length≤c0_2) (hr0_3:Kd.C Kd.string w A0_3 l0_3.length l0_3) (hc0_3:l0_3.length≤c0_3) (hr0_4:Kd.C k52 w A0_4 l0_4.length l0_4) (hc0_4:l0_4.length≤c0_4) (h:spec_l12House.f k a0_0 a0_1 l0_2 l0_3 l0_4 a1=some r) :
  Calls Tryz.prog 67 #[.agg #[.string a0_0,.int .i64 a0_1,.slice A0_2 l0_2.length c0_2,.slice A0_3 l0_3.length c0_3,.slice A0_4 l0_4.length c0_4],.string a1] w fun e w'=>e=.returned (.int .i64 r)∧Below w.heap.size w w':=by
 have hu33:=Tryz.underlying33;have HR0_2:=A_ hr0_2;have HC0_2:=A_ hc0_2;clear hr0_2 hc0_2;have HR0_3:=A_ hr0_3;have HC0_3:=A_ hc0_3;clear hr0_3 hc0_3;have HR0_4:=A_ hr0_4;have HC0_4:=A_ hc0_4;clear hr0_4 hc0_4;have HB:=A_ (Below.refl w.heap.size w);unfold spec_l12House.f at h
 have H:=h;clear h;have H':=A_ H;clear H;go_enter Tryz.func67,Tryz.ntmps67;go_wp2_with (first|(refine boxF 2 #[.string a0_0,.int .i64 a0_1,.slice A0_2 l0_2.length c0_2,.slice A0_3 l0_3.length c0_3,.slice A0_4 l0_4.length c0_4] 33 ?_;intro gb247 hg w3 BK247 hb;have GE247:=geB hg (zz0 HB);replace HB:=A_ (bS (zz0 HB) hb);clear hb hg))
 go_loopg [5] k (fun kq v5 w'=>∃ (x5_1:Int),v5=.int .i64 x5_1∧Aside0 (spec_l12House.l0 kq a1 x5_1 a0_0 a0_1 l0_2 l0_3 l0_4=some r)∧Aside0 (kq≤k)∧Aside0 (w'.heap[gb247]?=some (.cells #[.string a0_0,.int .i64 a0_1,(.slice A0_2 l0_2.length c0_2),(.slice A0_3 l0_3.length c0_3),(.slice A0_4 l0_4.length c0_4)] 33 (0,0)))∧Aside0 (Below w.heap.size w w'))
 case atStart=>exact ⟨(0),zz7,H',⟨Nat.le_refl _⟩,⟨(zz2 BK247)⟩,⟨(zz1 HB GE247)⟩⟩
 case round=>
  clear H';obtain ⟨x5_1,rfl,HA,HK1,BK247,HB⟩:=hrel;cases gk with
  | zero=>exact absurd HA.out (by simp [spec_l12House.l0])
  | succ k1=>
   obtain ⟨H⟩:=HA;simp only [spec_l12House.l0] at H
   replace H:=iteEd H;rcases H with ⟨c4b0,H⟩|⟨c4b0,H⟩
   ·replace H:=iteNd H
    obtain ⟨c5b0,H⟩:=H;replace H:=iteEq H;rcases H with ⟨c6b0,c6b1,H⟩|⟨c6b0,c6b1,c6,H⟩
    ·obtain rfl:=sI H
     obtain ⟨_,_,_,_,_,_,_,_,_,_⟩:=cf5 BK247;obtain ⟨⟨ad248,A248_3,c248_3,A248_4,c248_4,A248_7,c248_7,e248,hx248_0,hx248_1,hx248_2,hx248_3,hx248_4,hx248_5,hx248_6,hx248_7,hl248_3,hi248_3,hl248_4,hi248_4,hl248_7,hi248_7⟩,p248,q248⟩:=atB (at_T82 HR0_2.out x5_1);cases e248
     obtain ⟨hx248_0,hx248_1,hx248_2,hx248_3⟩:=cb4 HB hx248_0 hx248_1 hx248_2 hx248_3;obtain ⟨hx248_4,hx248_5,hx248_6,hx248_7⟩:=cb4 HB hx248_4 hx248_5 hx248_6 hx248_7;have HR248_3:=A_ hi248_3;have HC248_3:=A_ hl248_3;clear hi248_3 hl248_3;have HR248_4:=A_ hi248_4;have HC248_4:=A_ hl248_4;clear hi248_4 hl248_4;have HR248_7:=A_ hi248_7;have HC248_7:=A_ hl248_7;clear hi248_7 hl248_7;go_wp2
     go_ret
     exact ⟨zz5,(zz1 HB GE247)⟩
    ·have H':=A_ H
     clear H;obtain ⟨_,_,_,_,_,_,_,_,_,_⟩:=cf5 BK247;obtain ⟨⟨ad248,A248_3,c248_3,A248_4,c248_4,A248_7,c248_7,e248,hx248_0,hx248_1,hx248_2,hx248_3,hx248_4,hx248_5,hx248_6,hx248_7,hl248_3,hi248_3,hl248_4,hi248_4,hl248_7,hi248_7⟩,p248,q248⟩:=atB (at_T82 HR0_2.out x5_1);cases e248
     obtain ⟨hx248_0,hx248_1,hx248_2,hx248_3⟩:=cb4 HB hx248_0 hx248_1 hx248_2 hx248_3;obtain ⟨hx248_4,hx248_5,hx248_6,hx248_7⟩:=cb4 HB hx248_4 hx248_5 hx248_6 hx248_7;have HR248_3:=A_ hi248_3;have HC248_3:=A_ hl248_3;clear hi248_3 hl248_3;have HR248_4:=A_ hi248_4;have HC248_4:=A_ hl248_4;clear hi248_4 hl248_4;have HR248_7:=A_ hi248_7;have HC248_7:=A_ hl248_7;clear hi248_7 hl248_7;go_wp2
     go_roundg k1
     case measure=>have:=HK1.out;omega
     case rel=>exact ⟨(wrap64 (x5_1+1)),zz7,H',⟨(zz17 HK1)⟩,⟨(zz2 BK247)⟩,⟨(zz1 HB GE247)⟩⟩
   ·obtain rfl:=sI H
    obtain ⟨_,_,_,_,_,_,_,_,_,_⟩:=cf5 BK247;go_wp2
    go_ret
    exact ⟨zz5,(zz1 HB GE247)⟩
mutual
def spec_RuleOk.j0:Nat→ByteArray→Bool→Option (Bool)
 | 0,_,_=>none
 | k+1,x0,x16=>if x16=true then (some false) else (spec_RuleOk.l0 k x0 0)
def spec_RuleOk.l0:Nat→ByteArray→Int→Option (Bool)
 | 0,_,_=>none
 | k+1,x0,x3=>if x3 < (x0.size:Int) then (if 0≤x3 then ((spec_l1Plain.f (bt x0 x3)).bind fun t249=>(if t249=true then (spec_RuleOk.l0 k x0 (wrap64 (x3+1))) else (if (bt x0 x3)=47 then (spec_RuleOk.l0 k x0 (wrap64 (x3+1))) else (if (bt x0 x3)=42 then (spec_RuleOk.l0 k x0 (wrap64 (x3+1))) else (if (bt x0 x3)=63 then (spec_RuleOk.l0 k x0 (wrap64 (x3+1))) else (if (bt x0 x3)=37 then (spec_RuleOk.l0 k x0 (wrap64 (x3+1))) else (if (bt x0 x3) ≥ 65 then (if ((bt x0 x3)≤70) then (spec_RuleOk.l0 k x0 (wrap64 (x3+1))) else (if (bt x0 x3)=36 then (if (x3=(wrap64 ((x0.size:Int) - 1))) then (spec_RuleOk.l0 k x0 (wrap64 (x3+1))) else (some false)) else (some false))) else (if (bt x0 x3)=36 then (if (x3=(wrap64 ((x0.size:Int) - 1))) then (spec_RuleOk.l0 k x0 (wrap64 (x3+1))) else (some false)) else (some false))))))))) else (none)) else (some true)
end
def spec_RuleOk.f (k:Nat) (a0:ByteArray):Option (Bool):=if (a0.size:Int) > 16 then (spec_RuleOk.j0 k a0 true) else (if a0.toList=([]:List UInt8) then (spec_RuleOk.j0 k a0 true) else (if 0 < (a0.size:Int) then (spec_RuleOk.j0 k a0 ((bt a0 0) != 47)) else (none)))
theorem spec_RuleOk.calls (k:Nat) (a0:ByteArray) (r:Bool) (w:World) (h:spec_RuleOk.f k a0=some r) :
  Calls Tryz.prog 68 #[.string a0] w fun e w'=>e=.returned (.bool r)∧Drawn0 w w':=by
 unfold spec_RuleOk.f at h
 have H:=h;clear h;have HC2:=A_ H;clear H;go_enter Tryz.func68,Tryz.ntmps68;go_upto_region 1 with (fail)
 go_cut [16] (fun v16 wc=>∃ (kq:Nat) (x16_1:Bool),v16=.bool x16_1∧Aside0 (spec_RuleOk.j0 kq a0 x16_1=some r)∧Aside0 (kq≤k)∧Drawn0 w wc)
 case first=>
  obtain ⟨H⟩:=HC2;replace H:=iteE H;rcases H with ⟨c3,H⟩|⟨c3,H⟩
  ·have c3b0:=gtT c3
   have c3b1:decide (16 < a0.size)=true:=dT (by omega);clear c3;(first|rw [c3b0]|(simp only [i64_w,i32_w];rw [c3b0])|skip)
   have H':=A_ H;clear H;go_wp2
   go_meet
   case rel=>exact ⟨_,(true),zz7,H',⟨zz63⟩,zz8⟩
  ·have c3b0:=gtF c3
   have c3b1:decide (16 < a0.size)=false:=dF (by omega);clear c3;(first|rw [c3b0]|(simp only [i64_w,i32_w];rw [c3b0])|skip)
   replace H:=iteEq H;rcases H with ⟨c4b0,c4b1,H⟩|⟨c4b0,c4b1,c4,H⟩
   ·have H':=A_ H
    clear H;go_wp2
    go_meet
    case rel=>exact ⟨_,(true),zz7,H',⟨zz63⟩,zz8⟩
   ·replace H:=iteN H
    obtain ⟨c5,H⟩:=H;have c5b0:=dT c5;have c5b1:decide (0 < a0.size)=true:=dT (by omega);clear c5;have H':=A_ H;clear H;have p6:0≤(0:Int):=(by omega);have q6:0 < a0.size:=(by have:(0:Int) < (a0.size:Int):=ofD;omega);have hx6:∀ h:0 < a0.size,((a0[0]'h).toNat:Int)=bt a0 0:=bt_at a0 0;clear p6;have qi6:(0 < (a0.size:Int))=True:=eq_true ofD;replace q6:=eq_true q6;go_wp2
    go_meet
    case rel=>exact ⟨_,(((bt a0 0) != 47)),zz7,H',⟨zz63⟩,zz8⟩
 case rest=>
  clear HC2;obtain ⟨kq,x16_1,rfl,HA,HJ1,⟨mc1,rfl⟩⟩:=hcut;cases kq with
  | zero=>exact absurd HA.out (by simp [spec_RuleOk.j0])
  | succ kj1=>
   obtain ⟨H⟩:=HA;simp only [spec_RuleOk.j0] at H
   replace H:=iteB H;rcases H with ⟨rfl,H⟩|⟨rfl,H⟩
   ·obtain rfl:=sI H
    go_wp2
    go_ret
    exact ⟨zz7,zz8⟩
   ·have H':=A_ H
    clear H;go_wp2
    go_loopg [3] kj1 (fun kq v3 w'=>∃ (x3_2:Int),v3=.int .i64 x3_2∧Aside0 (spec_RuleOk.l0 kq a0 x3_2=some r)∧Aside0 (kq≤kj1)∧Drawn0 w w')
    case atStart=>exact ⟨(0),zz7,H',⟨Nat.le_refl _⟩,zz8⟩
    case round=>
     clear H';obtain ⟨x3_2,rfl,HA,HK2,⟨m2,rfl⟩⟩:=hrel;cases gk with
     | zero=>exact absurd HA.out (by simp [spec_RuleOk.l0])
     | succ k2=>
      obtain ⟨H⟩:=HA;simp only [spec_RuleOk.l0] at H
      replace H:=iteEd H;rcases H with ⟨c8b0,H⟩|⟨c8b0,H⟩
      ·replace H:=iteNd H
       obtain ⟨c9b0,H⟩:=H;replace H:=bindA H;obtain ⟨t249,A11,H⟩:=H;have HF12:=A_ H;clear H;have p10:0≤(x3_2:Int):=ofD;have q10:x3_2 < (a0.size:Int):=ofD;have hx10:=bt_at a0 x3_2;replace p10:=eq_true p10;replace q10:=eq_true q10;go_wp2_with (first|(refine gR 88 (some 27) Tryz.func88 (spec_l1Plain.calls (bt a0 x3_2) t249 _ A11.out) ?_;rintro w' ⟨nd,rfl⟩)|((with_reducible refine atG ?_ ?_ fun K_ hK_=>?_);rfl;exact undecG)|((with_reducible refine atI ?_ fun K_ hK_=>?_);exact undecI))
       refine unG hK_ ?_;clear hK_ K_;obtain ⟨H⟩:=HF12;replace H:=iteB H;rcases H with ⟨rfl,H⟩|⟨rfl,H⟩
       ·(first|refine iteT ?_|refine iteF ?_|skip)
        have H':=A_ H;clear H;(try ((with_reducible refine upS ?_);go_simp))
        go_wp2
        go_roundg k2
        case measure=>have:=HJ1.out;have:=HK2.out;omega
        case rel=>exact ⟨(wrap64 (x3_2+1)),zz7,H',⟨(zz72 HJ1 HK2)⟩,zz8⟩
       ·(first|refine iteT ?_|refine iteF ?_|skip)
        replace H:=iteEq H;rcases H with ⟨c14b0,c14b1,H⟩|⟨c14b0,c14b1,c14,H⟩
        ·have H':=A_ H
         clear H;go_wp2
         go_roundg k2
         case measure=>have:=HJ1.out;have:=HK2.out;omega
         case rel=>exact ⟨(wrap64 (x3_2+1)),zz7,H',⟨(zz72 HJ1 HK2)⟩,zz8⟩
        ·replace H:=iteEq H
         rcases H with ⟨c15b0,c15b1,H⟩|⟨c15b0,c15b1,c15,H⟩
         ·have H':=A_ H
          clear H;go_wp2
          go_roundg k2
          case measure=>have:=HJ1.out;have:=HK2.out;omega
          case rel=>exact ⟨(wrap64 (x3_2+1)),zz7,H',⟨(zz72 HJ1 HK2)⟩,zz8⟩
         ·replace H:=iteEq H
          rcases H with ⟨c16b0,c16b1,H⟩|⟨c16b0,c16b1,c16,H⟩
          ·have H':=A_ H
           clear H;go_wp2
           go_roundg k2
           case measure=>have:=HJ1.out;have:=HK2.out;omega
           case rel=>exact ⟨(wrap64 (x3_2+1)),zz7,H',⟨(zz72 HJ1 HK2)⟩,zz8⟩
          ·replace H:=iteEq H
           rcases H with ⟨c17b0,c17b1,H⟩|⟨c17b0,c17b1,c17,H⟩
           ·have H':=A_ H
            clear H;go_wp2
            go_roundg k2
            case measure=>have:=HJ1.out;have:=HK2.out;omega
            case rel=>exact ⟨(wrap64 (x3_2+1)),zz7,H',⟨(zz72 HJ1 HK2)⟩,zz8⟩
           ·replace H:=iteEe H
            rcases H with ⟨c18b0,H⟩|⟨c18b0,H⟩
            ·replace H:=iteE H
             rcases H with ⟨c19,H⟩|⟨c19,H⟩
             ·have c19b0:decide ((bt a0 x3_2)≤70)=true:=dT c19
              clear c19;have H':=A_ H;clear H;go_wp2
              go_roundg k2
              case measure=>have:=HJ1.out;have:=HK2.out;omega
              case rel=>exact ⟨(wrap64 (x3_2+1)),zz7,H',⟨(zz72 HJ1 HK2)⟩,zz8⟩
             ·have c19b0:decide ((bt a0 x3_2)≤70)=false:=dF c19
              clear c19;replace H:=iteEq H;rcases H with ⟨c20b0,c20b1,H⟩|⟨c20b0,c20b1,c20,H⟩
              ·replace H:=iteEq H
               rcases H with ⟨c21b0,c21b1,H⟩|⟨c21b0,c21b1,c21,H⟩
               ·have H':=A_ H
                clear H;go_wp2
                go_roundg k2
                case measure=>have:=HJ1.out;have:=HK2.out;omega
                case rel=>exact ⟨(wrap64 (x3_2+1)),zz7,H',⟨(zz72 HJ1 HK2)⟩,zz8⟩
               ·obtain rfl:=sI H
                go_wp2
                go_ret
                exact ⟨zz7,zz8⟩
              ·obtain rfl:=sI H
               go_wp2
               go_ret
               exact ⟨zz7,zz8⟩
            ·replace H:=iteEq H
             rcases H with ⟨c22b0,c22b1,H⟩|⟨c22b0,c22b1,c22,H⟩
             ·replace H:=iteEq H
              rcases H with ⟨c23b0,c23b1,H⟩|⟨c23b0,c23b1,c23,H⟩
              ·have H':=A_ H
               clear H;go_wp2
               go_roundg k2
               case measure=>have:=HJ1.out;have:=HK2.out;omega
               case rel=>exact ⟨(wrap64 (x3_2+1)),zz7,H',⟨(zz72 HJ1 HK2)⟩,zz8⟩
              ·obtain rfl:=sI H
               go_wp2
               go_ret
               exact ⟨zz7,zz8⟩
             ·obtain rfl:=sI H
              go_wp2
              go_ret
              exact ⟨zz7,zz8⟩
      ·obtain rfl:=sI H
       go_wp2
       go_ret
       exact ⟨zz7,zz8⟩
def spec_l3Put.l0:Nat→List ByteArray→ByteArray→Int→Option (List ByteArray)
 | 0,_,_,_=>none
 | k+1,x0,x1,x5=>if x5 < (x0.length:Int) then (if 0≤x5 then (if (rdOf ByteArray.empty x0 x5).toList=x1.toList then (some x0) else (spec_l3Put.l0 k x0 x1 (wrap64 (x5+1)))) else (none)) else (if x0.length < 8796093022208 then (some (x0++[x1])) else (none))
def spec_l3Put.f (k:Nat) (l0:List ByteArray) (a1:ByteArray):Option (List ByteArray):=spec_l3Put.l0 k l0 a1 0
theorem spec_l3Put.calls (k:Nat) (P0_:Nat→Prop) (u9000_:Value) (l0:List ByteArray) (a1:ByteArray) (r:List ByteArray) (w0 w:World) (hB:Below w0.heap.size w0 w) (ho0:Kd.R Kd.string 9 w w0.heap.size P0_ u9000_ l0) (h:spec_l3Put.f k l0 a1=some r) :
  Calls Tryz.prog 34 #[u9000_,.string a1] w fun e w'=>∃ v0_:Value,e=.returned (v0_)∧Kd.R Kd.string 9 w' w0.heap.size (fun k_=>(P0_ k_∨w.heap.size≤k_)) v0_ r∧Below w0.heap.size w0 w'∧Kept w w' (fun k_=>P0_ k_):=by
 have HO0:=A_ (show Kd.R Kd.string 9 w w0.heap.size (fun k_=>(P0_ k_∨w.heap.size≤k_)) u9000_ l0 from Kd.R_mono ho0 (fun k_ hk=>(.inl hk)));have HK:=A_ (Kept.refl w (fun k_=>P0_ k_));have HW0:=A_ hB.size;have HB:=A_ hB;clear hB;unfold spec_l3Put.f at h
 have H:=h;clear h;have H':=A_ H;clear H;go_enter Tryz.func34,Tryz.ntmps34;go_wp2
 go_loopg [5] k (fun kq v5 w'=>∃ (x5_1:Int),v5=.int .i64 x5_1∧Aside0 (spec_l3Put.l0 kq l0 a1 x5_1=some r)∧Aside0 (kq≤k)∧Aside0 (Kd.R Kd.string 9 w' w0.heap.size (fun k_=>(P0_ k_∨w.heap.size≤k_)) u9000_ l0)∧Aside0 (Kept w w' (fun k_=>P0_ k_))∧Aside0 (Below w0.heap.size w0 w'))
 case atStart=>exact ⟨(0),zz7,H',⟨Nat.le_refl _⟩,⟨(zz12 HO0)⟩,⟨(zz49 HK)⟩,⟨(zz0 HB)⟩⟩
 case round=>
  clear H';obtain ⟨x5_1,rfl,HA,HK1,HO_0,HK,HB⟩:=hrel;cases gk with
  | zero=>exact absurd HA.out (by simp [spec_l3Put.l0])
  | succ k1=>
   obtain ⟨H⟩:=HA;simp only [spec_l3Put.l0] at H
   replace H:=iteEd H;rcases H with ⟨c3b0,H⟩|⟨c3b0,H⟩
   ·replace H:=iteNd H
    obtain ⟨c4b0,H⟩:=H;replace H:=iteEq H;rcases H with ⟨c5b0,c5b1,H⟩|⟨c5b0,c5b1,c5,H⟩
    ·obtain rfl:=sI H
     obtain ⟨Ao6,co6,eo6⟩:=Kd.R_slice HO_0.out;subst eo6;obtain ⟨⟨ad746,e746,hx746_0⟩,p746,q746⟩:=atB (Kd.at_string (Kd.R_reads' HO_0.out).2.2 x5_1);cases e746
     go_wp2
     go_ret
     exact ⟨_,zz5,(zz12 HO_0),(zz0 HB),(zz49 HK)⟩
    ·have H':=A_ H
     clear H;obtain ⟨Ao7,co7,eo7⟩:=Kd.R_slice HO_0.out;subst eo7;obtain ⟨⟨ad746,e746,hx746_0⟩,p746,q746⟩:=atB (Kd.at_string (Kd.R_reads' HO_0.out).2.2 x5_1);cases e746
     go_wp2
     go_roundg k1
     case measure=>have:=HK1.out;omega
     case rel=>exact ⟨(wrap64 (x5_1+1)),zz7,H',⟨(zz17 HK1)⟩,⟨(zz12 HO_0)⟩,⟨(zz49 HK)⟩,⟨(zz0 HB)⟩⟩
   ·replace H:=iteE H
    rcases H with ⟨c8,H⟩|⟨c8,H⟩
    ·have LMc8:=A_ c8
     clear c8;obtain ⟨y747,Ny747⟩:=toY (l0++[a1]);(first|with_reducible replace H:=bindZ Ny747 H|rw [← Ny747.out] at H|skip)
     obtain rfl:=sI H;obtain ⟨Ao9,co9,eo9⟩:=Kd.R_slice HO_0.out;subst eo9;go_wp2_with (first|((with_reducible refine gate_builtin (b:=.append) (xs:=#[.tmp 19,.tmp 21]) rfl ?_);at_builtin;refine Kd.R_append Kd.string (w0:=w0) w0.heap.size rfl (.tmp 19) (.tmp 21) 23 9 (.string ⟨#[]⟩) 16 rfl Tryz.underlying23 info9 rfl (by decide) (by omega) (.slice Ao9 l0.length co9) l0 a1 [.string a1] (fun k_=>(P0_ k_∨w.heap.size≤k_)) (fun _=>False) rfl rfl ?aP (fun _ hk=>hk.elim) ?aF ?aO ?aB ?aS ?aL ?_;(case aP=>exact rfl);(case aB=>exact (zz0 HB));(case aF=>exact (fun k_ hk=>(.inr (Nat.le_trans (by first|exact HK.out.1|exact (show Kept w _ (fun k_=>P0_ k_) from (zz49 HK)).1) hk))));(case aO=>exact (zz12 HO_0));(case aS=>exact (below_size (zz0 HB)));(case aL=>exact (zz17 LMc8));intro v748 w10 ho hb hg hat;rw [← Ny747.out] at ho;replace HB:=A_ (hb);replace HK:=A_ (Kept.of_grown (S:=(fun k_=>P0_ k_)) hg (zz49 HK) (fun k_ e_=>(HO_0.out.1 k_ e_)));have HO749:=A_ (ho);clear HO_0;clear ho hb hg hat))
     go_ret
     exact ⟨_,zz5,(zz12 HO749),(zz0 HB),(zz49 HK)⟩
    ·exact absurd H (by simp)
def impl_allSmallLetters.l0:Nat→ByteArray→Int→Option (Bool)
 | 0,_,_=>none
 | k+1,x0,x3=>if x3 < (x0.size:Int) then (if 0≤x3 then (if (bt x0 x3) < 97 then (some false) else (if (bt x0 x3) > 122 then (some false) else (impl_allSmallLetters.l0 k x0 (wrap64 (x3+1))))) else (none)) else (some true)
def impl_allSmallLetters.f (k:Nat) (a0:ByteArray):Option (Bool):=impl_allSmallLetters.l0 k a0 0
theorem impl_allSmallLetters.mono_l:∀ k,(∀ y0 y1,LeO (impl_allSmallLetters.l0 k y0 y1) (impl_allSmallLetters.l0 (k+1) y0 y1))
 | 0=>by intros;intro r h;simp [impl_allSmallLetters.l0] at h
 | k+1=>by
  have ih0:=impl_allSmallLetters.mono_l k;intros;unfold impl_allSmallLetters.l0;repeat' first|(with_reducible first|exact ih0 _ _|exact LeO.refl _|exact LeO.none _|refine LeO.ite ?_ ?_|refine LeO.bind ?_ (fun _=>?_))|exact LeO.none _|refine LeO.ite ?_ ?_|refine LeO.bind ?_ (fun _=>?_)
theorem impl_allSmallLetters.mono:∀ a0 k,LeO (impl_allSmallLetters.f k a0) (impl_allSmallLetters.f (k+1) a0):=by
 intro a0 k;have ih0:=impl_allSmallLetters.mono_l k;unfold impl_allSmallLetters.f
 repeat' first|(with_reducible first|exact ih0 _ _|exact LeO.refl _|exact LeO.none _|refine LeO.ite ?_ ?_|refine LeO.bind ?_ (fun _=>?_))|exact LeO.none _|refine LeO.ite ?_ ?_|refine LeO.bind ?_ (fun _=>?_)
theorem impl_allSmallLetters.calls (k:Nat) (a0:ByteArray) (r:Bool) (w:World) (h:impl_allSmallLetters.f k a0=some r) :
  Calls Tryz.prog 74 #[.string a0] w fun e w'=>e=.returned (.bool r)∧Drawn0 w w':=by
 unfold impl_allSmallLetters.f at h
 have H:=h;clear h;have H':=A_ H;clear H;go_enter Tryz.func74,Tryz.ntmps74;go_wp2
 go_loopg [3] k (fun kq v3 w'=>∃ (x3_1:Int),v3=.int .i64 x3_1∧Aside0 (impl_allSmallLetters.l0 kq a0 x3_1=some r)∧Aside0 (kq≤k)∧Drawn0 w w')
 case atStart=>exact ⟨(0),zz7,H',⟨Nat.le_refl _⟩,zz8⟩
 case round=>
  clear H';obtain ⟨x3_1,rfl,HA,HK1,⟨m1,rfl⟩⟩:=hrel;cases gk with
  | zero=>exact absurd HA.out (by simp [impl_allSmallLetters.l0])
  | succ k1=>
   obtain ⟨H⟩:=HA;simp only [impl_allSmallLetters.l0] at H
   replace H:=iteEd H;rcases H with ⟨c2b0,H⟩|⟨c2b0,H⟩
   ·replace H:=iteNd H
    obtain ⟨c3b0,H⟩:=H;replace H:=iteEd H;rcases H with ⟨c5b0,H⟩|⟨c5b0,H⟩
    ·obtain rfl:=sI H
     have p4:0≤(x3_1:Int):=ofD;have q4:x3_1 < (a0.size:Int):=ofD;have hx4:=bt_at a0 x3_1;replace p4:=eq_true p4;replace q4:=eq_true q4;go_wp2
     go_ret
     exact ⟨zz7,zz8⟩
    ·replace H:=iteEg H
     rcases H with ⟨c7b0,H⟩|⟨c7b0,H⟩
     ·obtain rfl:=sI H
      have p4:0≤(x3_1:Int):=ofD;have q4:x3_1 < (a0.size:Int):=ofD;have hx4:=bt_at a0 x3_1;replace p4:=eq_true p4;replace q4:=eq_true q4;have p6:0≤(x3_1:Int):=ofD;have q6:x3_1 < (a0.size:Int):=ofD;have hx6:=bt_at a0 x3_1;replace p6:=eq_true p6;replace q6:=eq_true q6;go_wp2
      go_ret
      exact ⟨zz7,zz8⟩
     ·have H':=A_ H
      clear H;have p4:0≤(x3_1:Int):=ofD;have q4:x3_1 < (a0.size:Int):=ofD;have hx4:=bt_at a0 x3_1;replace p4:=eq_true p4;replace q4:=eq_true q4;have p6:0≤(x3_1:Int):=ofD;have q6:x3_1 < (a0.size:Int):=ofD;have hx6:=bt_at a0 x3_1;replace p6:=eq_true p6;replace q6:=eq_true q6;go_wp2
      go_roundg k1
      case measure=>have:=HK1.out;omega
      case rel=>exact ⟨(wrap64 (x3_1+1)),zz7,H',⟨(zz17 HK1)⟩,zz8⟩
   ·obtain rfl:=sI H
    go_wp2
    go_ret
    exact ⟨zz7,zz8⟩
mutual
def impl_PathClean.l0:Nat→List ByteArray→List ByteArray→Int→Int→Option (List ByteArray)
 | 0,_,_,_,_=>none
 | k+1,x3,x6,x7,x8=>if x8 < x7 then (if 0≤x8 then (if x8 < (x6.length:Int) then (if (rdOf ByteArray.empty x6 x8).toList=([]:List UInt8) then (impl_PathClean.j1 k x3 (rdOf ByteArray.empty x6 x8) x6 x7 x8 (rdOf ByteArray.empty x6 x8) ((rdOf ByteArray.empty x6 x8).toList == ([]:List UInt8))) else (impl_PathClean.j1 k x3 (rdOf ByteArray.empty x6 x8) x6 x7 x8 (rdOf ByteArray.empty x6 x8) ((rdOf ByteArray.empty x6 x8).toList == ([46]:List UInt8)))) else (none)) else (none)) else (some x3)
def impl_PathClean.j1:Nat→List ByteArray→ByteArray→List ByteArray→Int→Int→ByteArray→Bool→Option (List ByteArray)
 | 0,_,_,_,_,_,_,_=>none
 | k+1,x3,x5,x6,x7,x8,x12,x13=>if x13=true then (impl_PathClean.l0 k x3 x6 x7 (wrap64 (x8+1))) else (if x12.toList=([46,46]:List UInt8) then (if (x3.length:Int) > 0 then (if 0≤(wrap64 ((x3.length:Int) - 1)) then (if (wrap64 ((x3.length:Int) - 1))≤(x3.length:Int) then (impl_PathClean.l0 k (x3.take ((wrap64 ((x3.length:Int) - 1)):Int).toNat) x6 x7 (wrap64 (x8+1))) else (none)) else (none)) else (impl_PathClean.l0 k x3 x6 x7 (wrap64 (x8+1)))) else (if x3.length < 8796093022208 then (impl_PathClean.l0 k (x3++[x5]) x6 x7 (wrap64 (x8+1))) else (none)))
end
def impl_PathClean.f (k:Nat) (l0:List ByteArray):Option (List ByteArray):=impl_PathClean.l0 k ([]:List ByteArray) l0 (l0.length:Int) 0
theorem impl_PathClean.calls (k:Nat) (A0:Option Addr) (c0:Nat) (l0:List ByteArray) (r:List ByteArray) (w:World) (hr0:Kd.C Kd.string w A0 l0.length l0) (hc0:l0.length≤c0) (h:impl_PathClean.f k l0=some r) :
  Calls Tryz.prog 120 #[.slice A0 l0.length c0] w fun e w'=>∃ v0_:Value,e=.returned (v0_)∧Kd.R Kd.string 9 w' w.heap.size (fun _=>True) v0_ r∧Below w.heap.size w w':=by
 have HR0:=A_ hr0;have HC0:=A_ hc0;clear hr0 hc0;have HB:=A_ (Below.refl w.heap.size w);unfold impl_PathClean.f at h
 have H:=h;clear h;have H':=A_ H;clear H;go_enter Tryz.func120,Tryz.ntmps120;go_wp2
 go_step3
 go_wp2
 go_step3
 go_wp2
 go_loopg [3,8] k (fun kq v3 v8 w'=>∃ (x3_1:List ByteArray) (x8_1:Int),v8=.int .i64 x8_1∧Aside0 (impl_PathClean.l0 kq x3_1 l0 (l0.length:Int) x8_1=some r)∧Aside0 (kq≤k)∧Aside0 (Kd.R Kd.string 9 w' w.heap.size (fun _=>True) v3 x3_1)∧Aside0 (Below w.heap.size w w'))
 case atStart=>exact ⟨(([]:List ByteArray)),(0),zz7,H',⟨Nat.le_refl _⟩,⟨zz85⟩,⟨(zz0 HB)⟩⟩
 case round=>
  clear H';obtain ⟨x3_1,x8_1,rfl,HA,HK1,HO_3,HB⟩:=hrel;cases gk with
  | zero=>exact absurd HA.out (by simp [impl_PathClean.l0])
  | succ k1=>
   obtain ⟨H⟩:=HA;simp only [impl_PathClean.l0] at H
   replace H:=iteEd H;rcases H with ⟨c2b0,H⟩|⟨c2b0,H⟩
   ·replace H:=iteNd H
    obtain ⟨c3b0,H⟩:=H;replace H:=iteNd H;obtain ⟨c4b0,H⟩:=H;have HC5:=A_ H;clear H;obtain ⟨⟨ad458,e458,hx458_0⟩,p458,q458⟩:=atB (Kd.at_string HR0.out x8_1);cases e458
    replace hx458_0:=cbl HB hx458_0;go_upto_if 13 with (fail)
    go_cut [13] (fun v13 wc=>∃ (kq:Nat) (x13_4:Bool),v13=.bool x13_4∧Aside0 (impl_PathClean.j1 kq x3_1 (rdOf ByteArray.empty l0 x8_1) l0 (l0.length:Int) x8_1 (rdOf ByteArray.empty l0 x8_1) x13_4=some r)∧Aside0 (kq≤k1)∧Aside0 (Kd.R Kd.string 9 wc w.heap.size (fun _=>True) u3 x3_1)∧Aside0 (Below w.heap.size w wc))
    case first=>
     obtain ⟨H⟩:=HC5;replace H:=iteE H;rcases H with ⟨c6,H⟩|⟨c6,H⟩
     ·have c6b0:((rdOf ByteArray.empty l0 x8_1).toList == ([]:List UInt8))=true:=beq_iff_eq.mpr c6
      have c6i0:(rdOf ByteArray.empty l0 x8_1).toList.isEmpty=true:=(aid_isEmpty2 _).symm.trans c6b0;have c6b1:((rdOf ByteArray.empty l0 x8_1).toList != ([]:List UInt8))=false:=bne_eq_false_iff_eq.mpr c6;clear c6;(first|rw [c6b0]|(simp only [i64_w,i32_w];rw [c6b0])|skip)
      have H':=A_ H;clear H;go_wp2
      all_goals (first|(exfalso;have h_:(rdOf ByteArray.empty l0 x8_1).toList.isEmpty=false:=(by assumption);rw [c6i0] at h_;cases h_;done)|skip)
      go_meet
      case rel=>exact ⟨_,(((rdOf ByteArray.empty l0 x8_1).toList == ([]:List UInt8))),zz7,H',⟨(zz65 HK1)⟩,⟨(zz12 HO_3)⟩,⟨(zz0 HB)⟩⟩
     ·have c6b0:((rdOf ByteArray.empty l0 x8_1).toList == ([]:List UInt8))=false:=beq_eq_false_iff_ne.mpr c6
      have c6i0:(rdOf ByteArray.empty l0 x8_1).toList.isEmpty=false:=(aid_isEmpty2 _).symm.trans c6b0;have c6b1:((rdOf ByteArray.empty l0 x8_1).toList != ([]:List UInt8))=true:=bne_iff_ne.mpr c6;(first|rw [c6b0]|(simp only [i64_w,i32_w];rw [c6b0])|skip)
      have H':=A_ H;clear H;go_wp2
      all_goals (first|(exfalso;have h_:(rdOf ByteArray.empty l0 x8_1).toList.isEmpty=true:=(by assumption);rw [c6i0] at h_;cases h_;done)|skip)
      go_meet
      case rel=>exact ⟨_,(((rdOf ByteArray.empty l0 x8_1).toList == ([46]:List UInt8))),zz7,H',⟨(zz65 HK1)⟩,⟨(zz12 HO_3)⟩,⟨(zz0 HB)⟩⟩
    case rest=>
     clear HC5;obtain ⟨kq,x13_4,rfl,HA,HJ4,HO_3,HB⟩:=hcut;cases kq with
     | zero=>exact absurd HA.out (by simp [impl_PathClean.j1])
     | succ kj4=>
      obtain ⟨H⟩:=HA;simp only [impl_PathClean.j1] at H
      replace H:=iteB H;rcases H with ⟨rfl,H⟩|⟨rfl,H⟩
      ·have H':=A_ H
       clear H;go_wp2
       go_roundg kj4
       case measure=>have:=HK1.out;have:=HJ4.out;omega
       case rel=>exact ⟨(x3_1),(wrap64 (x8_1+1)),zz7,H',⟨(zz72 HK1 HJ4)⟩,⟨(zz12 HO_3)⟩,⟨(zz0 HB)⟩⟩
      ·replace H:=iteE H
       rcases H with ⟨c8,H⟩|⟨c8,H⟩
       ·obtain ⟨c8b0,c8b1⟩:=eqT c8
        clear c8;replace H:=iteE H;rcases H with ⟨c9,H⟩|⟨c9,H⟩
        ·have c9b0:=gtT c9
         have c9b1:decide (0 < x3_1.length)=true:=dT (by omega);clear c9;obtain ⟨ji10,hji10⟩:∃ j_:Int,(wrap64 ((x3_1.length:Int) - 1))=j_:=⟨_,rfl⟩;(first|rw [hji10] at H|simp only [hji10] at H)
         have hji10w:(IntKind.i64.wrap ((x3_1.length:Int) - 1))=ji10:=(i64_w _).trans hji10;replace H:=iteN H;obtain ⟨c11,H⟩:=H;have c11b0:=eq_true c11;have c11b1:=dT c11;clear c11;replace H:=iteN H;obtain ⟨c12,H⟩:=H;have c12b0:=eq_true c12;have c12b1:=dT c12;clear c12;obtain ⟨y459,Ny459⟩:=toY (x3_1.take ((ji10):Int).toNat);(first|with_reducible replace H:=bindZ Ny459 H|rw [← Ny459.out] at H|skip)
         have H':=A_ H;clear H;obtain ⟨Ao13,co13,eo13⟩:=Kd.R_slice HO_3.out;subst eo13;have q14:((ji10):Int)≤((x3_1.length:Int):Int):=ofD;obtain ⟨i014,hi014,_,hsz14,_⟩:=info_parts info9;have hcut14:=cut_to (P:=Tryz.prog) 23 9 .i64 Tryz.underlying23 hi014 Ao13 x3_1.length co13 (ji10) ofD q14 (Kd.R_reads' HO_3.out).2.1;have hr14:=Kd.R_take (m:=((ji10):Int).toNat) HO_3.out (by omega);have hy14:y459.length=((ji10):Int).toNat:=(by rw [Ny459.out,List.length_take];omega);rw [← Ny459.out] at hr14;rw [← hy14] at hr14 hcut14;clear hy14 hi014 hsz14 HO_3;have HO461:=A_ hr14;clear hr14;replace q14:=eq_true q14;go_wp2
         go_roundg kj4
         case measure=>have:=HK1.out;have:=HJ4.out;omega
         case rel=>exact ⟨(y459),(wrap64 (x8_1+1)),zz7,H',⟨(zz72 HK1 HJ4)⟩,⟨(zz12 HO461)⟩,⟨(zz0 HB)⟩⟩
        ·have c9b0:=gtF c9
         have c9b1:decide (0 < x3_1.length)=false:=dF (by omega);clear c9;have H':=A_ H;clear H;obtain ⟨Ao15,co15,eo15⟩:=Kd.R_slice HO_3.out;subst eo15;go_wp2
         go_roundg kj4
         case measure=>have:=HK1.out;have:=HJ4.out;omega
         case rel=>exact ⟨(x3_1),(wrap64 (x8_1+1)),zz7,H',⟨(zz72 HK1 HJ4)⟩,⟨(zz12 HO_3)⟩,⟨(zz0 HB)⟩⟩
       ·obtain ⟨c8b0,c8b1⟩:=eqF c8
        replace H:=iteN H;obtain ⟨c16,H⟩:=H;have LMc16:=A_ c16;clear c16;obtain ⟨y462,Ny462⟩:=toY (x3_1++[(rdOf ByteArray.empty l0 x8_1)]);(first|with_reducible replace H:=bindZ Ny462 H|rw [← Ny462.out] at H|skip)
        have H':=A_ H;clear H;go_wp2_with (first|((with_reducible refine gate_builtin (b:=.append) (xs:=#[.tmp 26,.tmp 28]) rfl ?_);at_builtin;refine Kd.R_append Kd.string (w0:=w) w.heap.size rfl (.tmp 26) (.tmp 28) 23 9 (.string ⟨#[]⟩) 16 rfl Tryz.underlying23 info9 rfl (by decide) (by omega) u3 x3_1 (rdOf ByteArray.empty l0 x8_1) [.string (rdOf ByteArray.empty l0 x8_1)] (fun _=>True) (fun _=>False) rfl rfl ?aP (fun _ hk=>hk.elim) ?aF ?aO ?aB ?aS ?aL ?_;(case aP=>exact rfl);(case aB=>exact (zz0 HB));(case aF=>exact (fun _ _=>trivial));(case aO=>exact (zz12 HO_3));(case aS=>exact (below_size (zz0 HB)));(case aL=>exact (zz17 LMc16));intro v463 w17 ho hb hg hat;rw [← Ny462.out] at ho;replace HB:=A_ (hb);have HO464:=A_ (ho);clear HO_3;clear ho hb hg hat))
        go_roundg kj4
        case measure=>have:=HK1.out;have:=HJ4.out;omega
        case rel=>exact ⟨(y462),(wrap64 (x8_1+1)),zz7,H',⟨(zz72 HK1 HJ4)⟩,⟨(zz12 HO464)⟩,⟨(zz0 HB)⟩⟩
   ·obtain rfl:=sI H
    go_wp2
    go_ret
    exact ⟨_,zz5,(zz12 HO_3),(zz0 HB)⟩
mutual
def impl_RuleOk.j0:Nat→ByteArray→Bool→Option (Bool)
 | 0,_,_=>none
 | k+1,x0,x17=>if x17=true then (some false) else ((strings_TrimSuffix.f x0 (⟨#[36]⟩:ByteArray)).bind fun t562=>(impl_RuleOk.l0 k t562 0))
def impl_RuleOk.l0:Nat→ByteArray→Int→Option (Bool)
 | 0,_,_=>none
 | k+1,x3,x4=>if x4 < (x3.size:Int) then (if 0≤x4 then ((impl_isPatternByte.f (bt x3 x4)).bind fun t563=>(if t563=true then (impl_RuleOk.l0 k x3 (wrap64 (x4+1))) else (some false))) else (none)) else (some true)
end
def impl_RuleOk.f (k:Nat) (a0:ByteArray):Option (Bool):=if (a0.size:Int) < 1 then (impl_RuleOk.j0 k a0 true) else (if (a0.size:Int) > 16 then (impl_RuleOk.j0 k a0 true) else (if 0 < (a0.size:Int) then (impl_RuleOk.j0 k a0 ((bt a0 0) != 47)) else (none)))
theorem impl_RuleOk.calls (k:Nat) (a0:ByteArray) (r:Bool) (w:World) (h:impl_RuleOk.f k a0=some r) :
  Calls Tryz.prog 94 #[.string a0] w fun e w'=>e=.returned (.bool r)∧Drawn0 w w':=by
 unfold impl_RuleOk.f at h
 have H:=h;clear h;have HC2:=A_ H;clear H;go_enter Tryz.func94,Tryz.ntmps94;go_upto_region 1 with (fail)
 go_cut [17] (fun v17 wc=>∃ (kq:Nat) (x17_1:Bool),v17=.bool x17_1∧Aside0 (impl_RuleOk.j0 kq a0 x17_1=some r)∧Aside0 (kq≤k)∧Drawn0 w wc)
 case first=>
  obtain ⟨H⟩:=HC2;replace H:=iteE H;rcases H with ⟨c3,H⟩|⟨c3,H⟩
  ·have c3b0:=dT c3
   have c3b1:decide (a0.size < 1)=true:=dT (by omega);clear c3;(first|rw [c3b0]|(simp only [i64_w,i32_w];rw [c3b0])|skip)
   have H':=A_ H;clear H;go_wp2
   go_meet
   case rel=>exact ⟨_,(true),zz7,H',⟨zz63⟩,zz8⟩
  ·have c3b0:=dF c3
   have c3b1:decide (a0.size < 1)=false:=dF (by omega);clear c3;(first|rw [c3b0]|(simp only [i64_w,i32_w];rw [c3b0])|skip)
   replace H:=iteE H;rcases H with ⟨c4,H⟩|⟨c4,H⟩
   ·have c4b0:=gtT c4
    have c4b1:decide (16 < a0.size)=true:=dT (by omega);clear c4;have H':=A_ H;clear H;go_wp2
    go_meet
    case rel=>exact ⟨_,(true),zz7,H',⟨zz63⟩,zz8⟩
   ·have c4b0:=gtF c4
    have c4b1:decide (16 < a0.size)=false:=dF (by omega);clear c4;replace H:=iteN H;obtain ⟨c5,H⟩:=H;have c5b0:=dT c5;have c5b1:decide (0 < a0.size)=true:=dT (by omega);clear c5;have H':=A_ H;clear H;have p6:0≤(0:Int):=(by omega);have q6:0 < a0.size:=(by have:(0:Int) < (a0.size:Int):=ofD;omega);have hx6:∀ h:0 < a0.size,((a0[0]'h).toNat:Int)=bt a0 0:=bt_at a0 0;clear p6;have qi6:(0 < (a0.size:Int))=True:=eq_true ofD;replace q6:=eq_true q6;go_wp2
    go_meet
    case rel=>exact ⟨_,(((bt a0 0) != 47)),zz7,H',⟨zz63⟩,zz8⟩
 case rest=>
  clear HC2;obtain ⟨kq,x17_1,rfl,HA,HJ1,⟨mc1,rfl⟩⟩:=hcut;cases kq with
  | zero=>exact absurd HA.out (by simp [impl_RuleOk.j0])
  | succ kj1=>
   obtain ⟨H⟩:=HA;simp only [impl_RuleOk.j0] at H
   replace H:=iteB H;rcases H with ⟨rfl,H⟩|⟨rfl,H⟩
   ·obtain rfl:=sI H
    go_wp2
    go_ret
    exact ⟨zz7,zz8⟩
   ·replace H:=bindA H
    obtain ⟨t562,A8,H⟩:=H;have H':=A_ H;clear H;go_wp2_with (first|(refine gR 109 (some 19) Tryz.func109 (strings_TrimSuffix.calls a0 (⟨#[36]⟩:ByteArray) t562 _ A8.out) ?_;rintro w' ⟨nd,rfl⟩))
    go_loopg [4] kj1 (fun kq v4 w'=>∃ (x4_2:Int),v4=.int .i64 x4_2∧Aside0 (impl_RuleOk.l0 kq t562 x4_2=some r)∧Aside0 (kq≤kj1)∧Drawn0 w w')
    case atStart=>exact ⟨(0),zz7,H',⟨Nat.le_refl _⟩,zz8⟩
    case round=>
     clear H';obtain ⟨x4_2,rfl,HA,HK2,⟨m2,rfl⟩⟩:=hrel;cases gk with
     | zero=>exact absurd HA.out (by simp [impl_RuleOk.l0])
     | succ k2=>
      obtain ⟨H⟩:=HA;simp only [impl_RuleOk.l0] at H
      replace H:=iteEd H;rcases H with ⟨c9b0,H⟩|⟨c9b0,H⟩
      ·replace H:=iteNd H
       obtain ⟨c10b0,H⟩:=H;replace H:=bindA H;obtain ⟨t563,A12,H⟩:=H;have HF13:=A_ H;clear H;have p11:0≤(x4_2:Int):=ofD;have q11:x4_2 < (t562.size:Int):=ofD;have hx11:=bt_at t562 x4_2;replace p11:=eq_true p11;replace q11:=eq_true q11;go_upto_if 30 with (first|(refine gR 110 (some 29) Tryz.func110 (impl_isPatternByte.calls (bt t562 x4_2) t563 _ A12.out) ?_;rintro w' ⟨nd,rfl⟩))
       obtain ⟨H⟩:=HF13;replace H:=iteB H;rcases H with ⟨rfl,H⟩|⟨rfl,H⟩
       ·have H':=A_ H
        clear H;go_wp2
        go_roundg k2
        case measure=>have:=HJ1.out;have:=HK2.out;omega
        case rel=>exact ⟨(wrap64 (x4_2+1)),zz7,H',⟨(zz72 HJ1 HK2)⟩,zz8⟩
       ·obtain rfl:=sI H
        go_wp2
        go_ret
        exact ⟨zz7,zz8⟩
      ·obtain rfl:=sI H
       go_wp2
       go_ret
       exact ⟨zz7,zz8⟩
def impl_rulesOk.l0:Nat→List (S104)→Int→Int→Option (Bool)
 | 0,_,_,_=>none
 | k+1,x5,x6,x7=>if x7 < x6 then (if 0≤x7 then (if x7 < (x5.length:Int) then ((impl_RuleOk.f k ((rd_T104 x5 x7).f1)).bind fun t566=>(if t566=true then (impl_rulesOk.l0 k x5 x6 (wrap64 (x7+1))) else (some false))) else (none)) else (none)) else (some true)
def impl_rulesOk.f (k:Nat) (l0:List (S104)):Option (Bool):=impl_rulesOk.l0 k l0 (l0.length:Int) 0
theorem impl_rulesOk.calls (k:Nat) (A0:Option Addr) (c0:Nat) (l0:List (S104)) (r:Bool) (w:World) (hr0:Kd.C k104 w A0 l0.length l0) (hc0:l0.length≤c0) (h:impl_rulesOk.f k l0=some r) :
  Calls Tryz.prog 77 #[.slice A0 l0.length c0] w fun e w'=>e=.returned (.bool r)∧Below w.heap.size w w':=by
 have hu104:=Tryz.underlying104;have HR0:=A_ hr0;have HC0:=A_ hc0;clear hr0 hc0;have HB:=A_ (Below.refl w.heap.size w);unfold impl_rulesOk.f at h
 have H:=h;clear h;have H':=A_ H;clear H;go_enter Tryz.func77,Tryz.ntmps77;go_wp2
 go_loopg [7] k (fun kq v7 w'=>∃ (x7_1:Int),v7=.int .i64 x7_1∧Aside0 (impl_rulesOk.l0 kq l0 (l0.length:Int) x7_1=some r)∧Aside0 (kq≤k)∧Aside0 (Below w.heap.size w w'))
 case atStart=>exact ⟨(0),zz7,H',⟨Nat.le_refl _⟩,⟨(zz0 HB)⟩⟩
 case round=>
  clear H';obtain ⟨x7_1,rfl,HA,HK1,HB⟩:=hrel;cases gk with
  | zero=>exact absurd HA.out (by simp [impl_rulesOk.l0])
  | succ k1=>
   obtain ⟨H⟩:=HA;simp only [impl_rulesOk.l0] at H
   replace H:=iteEd H;rcases H with ⟨c2b0,H⟩|⟨c2b0,H⟩
   ·replace H:=iteNd H
    obtain ⟨c3b0,H⟩:=H;replace H:=iteNd H;obtain ⟨c4b0,H⟩:=H;replace H:=bindA H;obtain ⟨t566,A5,H⟩:=H;have HF6:=A_ H;clear H;obtain ⟨⟨ad564,e564,hx564_0,hx564_1⟩,p564,q564⟩:=atB (at_T104 HR0.out x7_1);cases e564
    obtain ⟨hx564_0,hx564_1⟩:=cb2 HB hx564_0 hx564_1;go_upto_if 14 with (first|(refine boxF 4 #[.bool false,.string (⟨#[]⟩:ByteArray)] 104 ?_;intro gb565 hg w7 BK565 hb;have GE565:=geB hg (zz0 HB);replace HB:=A_ (bS (zz0 HB) hb);clear hb hg;obtain ⟨_,_,_,_⟩:=cf2 BK565)|((with_reducible refine gate_store (t:=104) (p:=4) rfl ?_);refine store_event (t:=104) (p:=4) (v:=?vo_w9) (w1:=((w7.setCell ⟨gb565,0,none⟩ (.bool ((rd_T104 l0 x7_1).f0))).setCell ⟨gb565,1,none⟩ (.string ((rd_T104 l0 x7_1).f1)))) ?hg ?ho ?hn ?hr ?_;(case ho=>rfl);(case hg=>rfl);(case hn=>rfl);(case hr=>exact zz14);intro w9 hw;have n0_:Aside0 (w9.heap[gb565]?=some (.cells #[.bool ((rd_T104 l0 x7_1).f0),.string ((rd_T104 l0 x7_1).f1)] 104 (0,0))):=⟨(by rw [hw];exact (zz30 BK565))⟩;have n1_:Aside0 (Below w.heap.size w w9):=⟨(by rw [hw];exact (zz1 HB GE565))⟩;clear hw;clear BK565;clear HB;have BK565:=n0_;have HB:=n1_;clear n0_ n1_;obtain ⟨_,_,_,_⟩:=cf2 BK565)|(refine gR 94 (some 13) Tryz.func94 (impl_RuleOk.calls k1 ((rd_T104 l0 x7_1).f1) t566 _ A5.out) ?_;rintro w' ⟨nd,rfl⟩))
    obtain ⟨H⟩:=HF6;replace H:=iteB H;rcases H with ⟨rfl,H⟩|⟨rfl,H⟩
    ·have H':=A_ H
     clear H;go_wp2
     go_roundg k1
     case measure=>have:=HK1.out;omega
     case rel=>exact ⟨(wrap64 (x7_1+1)),zz7,H',⟨(zz17 HK1)⟩,⟨(zz1 HB GE565)⟩⟩
    ·obtain rfl:=sI H
     go_wp2
     go_ret
     exact ⟨zz5,(zz1 HB GE565)⟩
   ·obtain rfl:=sI H
    go_wp2
    go_ret
    exact ⟨zz5,(zz0 HB)⟩
def slices_Index_string_string.l0:Nat→List ByteArray→ByteArray→Int→Int→Option (Int)
 | 0,_,_,_,_=>none
 | k+1,x0,x1,x7,x8=>if x8 < x7 then (if 0≤x8 then (if x8 < (x0.length:Int) then (if x1.toList=(rdOf ByteArray.empty x0 x8).toList then (some x8) else (slices_Index_string_string.l0 k x0 x1 x7 (wrap64 (x8+1)))) else (none)) else (none)) else (some (-1))
def slices_Index_string_string.f (k:Nat) (l0:List ByteArray) (a1:ByteArray):Option (Int):=slices_Index_string_string.l0 k l0 a1 (l0.length:Int) 0
theorem slices_Index_string_string.calls (k:Nat) (A0:Option Addr) (c0:Nat) (l0:List ByteArray) (a1:ByteArray) (r:Int) (w:World) (hr0:Kd.C Kd.string w A0 l0.length l0) (hc0:l0.length≤c0) (h:slices_Index_string_string.f k l0 a1=some r) :
  Calls Tryz.prog 83 #[.slice A0 l0.length c0,.string a1] w fun e w'=>e=.returned (.int .i64 r)∧Drawn0 w w':=by
 have HR0:=A_ hr0;have HC0:=A_ hc0;clear hr0 hc0;unfold slices_Index_string_string.f at h
 have H:=h;clear h;have H':=A_ H;clear H;go_enter Tryz.func83,Tryz.ntmps83;go_wp2
 go_loopg [8] k (fun kq v8 w'=>∃ (x8_1:Int),v8=.int .i64 x8_1∧Aside0 (slices_Index_string_string.l0 kq l0 a1 (l0.length:Int) x8_1=some r)∧Aside0 (kq≤k)∧Drawn0 w w')
 case atStart=>exact ⟨(0),zz7,H',⟨Nat.le_refl _⟩,zz8⟩
 case round=>
  clear H';obtain ⟨x8_1,rfl,HA,HK1,⟨m1,rfl⟩⟩:=hrel;cases gk with
  | zero=>exact absurd HA.out (by simp [slices_Index_string_string.l0])
  | succ k1=>
   obtain ⟨H⟩:=HA;simp only [slices_Index_string_string.l0] at H
   replace H:=iteEd H;rcases H with ⟨c3b0,H⟩|⟨c3b0,H⟩
   ·replace H:=iteNd H
    obtain ⟨c4b0,H⟩:=H;replace H:=iteNd H;obtain ⟨c5b0,H⟩:=H;replace H:=iteEq H;rcases H with ⟨c6b0,c6b1,H⟩|⟨c6b0,c6b1,c6,H⟩
    ·obtain rfl:=sI H
     obtain ⟨⟨ad575,e575,hx575_0⟩,p575,q575⟩:=atB (Kd.at_string HR0.out x8_1);cases e575
     go_wp2
     go_ret
     exact ⟨zz7,zz8⟩
    ·have H':=A_ H
     clear H;obtain ⟨⟨ad575,e575,hx575_0⟩,p575,q575⟩:=atB (Kd.at_string HR0.out x8_1);cases e575
     go_wp2
     go_roundg k1
     case measure=>have:=HK1.out;omega
     case rel=>exact ⟨(wrap64 (x8_1+1)),zz7,H',⟨(zz17 HK1)⟩,zz8⟩
   ·obtain rfl:=sI H
    go_wp2
    go_ret
    exact ⟨zz7,zz8⟩
def laws_heldStringS.l0:Nat→List ByteArray→Int→Int→Option (Int)
 | 0,_,_,_=>none
 | k+1,x0,x1,x5=>if x5 < (x0.length:Int) then (if 0≤x5 then ((laws_markText.f k x1).bind fun t767=>(if (rdOf ByteArray.empty x0 x5).toList=t767.toList then (laws_heldStringS.l0 k x0 (wrap64 (x1+1)) (wrap64 (x5+1))) else (some (-1)))) else (none)) else (some x1)
def laws_heldStringS.f (k:Nat) (l0:List ByteArray) (a1:Int):Option (Int):=laws_heldStringS.l0 k l0 a1 0
theorem laws_heldStringS.mono_l:∀ k,(∀ y0 y1 y2,LeO (laws_heldStringS.l0 k y0 y1 y2) (laws_heldStringS.l0 (k+1) y0 y1 y2))
 | 0=>by intros;intro r h;simp [laws_heldStringS.l0] at h
 | k+1=>by
  have ih0:=laws_heldStringS.mono_l k;intros;unfold laws_heldStringS.l0;repeat' first|(with_reducible first|exact ih0 _ _ _|exact laws_markText.mono _ _|exact LeO.refl _|exact LeO.none _|refine LeO.ite ?_ ?_|refine LeO.bind ?_ (fun _=>?_))|exact LeO.none _|refine LeO.ite ?_ ?_|refine LeO.bind ?_ (fun _=>?_)
theorem laws_heldStringS.calls (k:Nat) (A0:Option Addr) (c0:Nat) (l0:List ByteArray) (a1:Int) (r:Int) (w:World) (hr0:Kd.C Kd.string w A0 l0.length l0) (hc0:l0.length≤c0) (h:laws_heldStringS.f k l0 a1=some r) :
  Calls Tryz.prog 18 #[.slice A0 l0.length c0,.int .i64 a1] w fun e w'=>e=.returned (.int .i64 r)∧Below w.heap.size w w':=by
 have HR0:=A_ hr0;have HC0:=A_ hc0;clear hr0 hc0;have HB:=A_ (Below.refl w.heap.size w);unfold laws_heldStringS.f at h
 have H:=h;clear h;have H':=A_ H;clear H;go_enter Tryz.func18,Tryz.ntmps18;go_wp2
 go_loopg [1,5] k (fun kq v1 v5 w'=>∃ (x1_1:Int) (x5_1:Int),v1=.int .i64 x1_1∧v5=.int .i64 x5_1∧Aside0 (laws_heldStringS.l0 kq l0 x1_1 x5_1=some r)∧Aside0 (kq≤k)∧Aside0 (Below w.heap.size w w'))
 case atStart=>exact ⟨(a1),(0),zz7,zz7,H',⟨Nat.le_refl _⟩,⟨(zz0 HB)⟩⟩
 case round=>
  clear H';obtain ⟨x1_1,x5_1,rfl,rfl,HA,HK1,HB⟩:=hrel;cases gk with
  | zero=>exact absurd HA.out (by simp [laws_heldStringS.l0])
  | succ k1=>
   obtain ⟨H⟩:=HA;simp only [laws_heldStringS.l0] at H
   replace H:=iteEd H;rcases H with ⟨c3b0,H⟩|⟨c3b0,H⟩
   ·replace H:=iteNd H
    obtain ⟨c4b0,H⟩:=H;replace H:=bindA H;obtain ⟨t767,A5,H⟩:=H;have HF6:=A_ H;clear H;try go_wp2
    replace HB:=A_ (below_drew1 HB.out);obtain ⟨⟨ad766,e766,hx766_0⟩,p766,q766⟩:=atB (Kd.at_string HR0.out x5_1);have hw766_0:=hx766_0;cases e766
    replace hx766_0:=cbl HB hx766_0;refine start_ (n:=7) (S:=fun w'=>w'.cell? (ad766.add (x5_1).toNat)=some (.string (rdOf ByteArray.empty l0 x5_1))) (ds:=[]) #[yF,yF,yF,yF,yF,yF,yF] (by kernel_rfl) rfl rfl (((HB.out.cell (World.block_lt_of_cell? w _ hw766_0)).trans hw766_0)) (fun hHeld=>?_);generalize wr.drew=w7 at HB hx766_0 hHeld ⊢;refine pureY 0 (some 12) (yA 1 6) ?_;refine pureY 1 (some 13) (yA 2 5) ?_;refine pureY 2 (some 14) (yA 3 4) ?_;refine pureY 4 (some 16) #[yT,yT,yT,yF,yT,yF,yF] ?_;refine take_ (i:=3) (N:=some 15) (v:=?_) (a':=?_) (yA 5 2) rfl rfl (by kernel_rfl) (fun _ _ _ h=>h) (Or.inl ⟨by rfl,?_⟩) hHeld ?_ ?_;rotate_left
    ·intro w' s0
     go_simp
     with_reducible rfl
    rotate_left
    ·simp only [Act.put,List.setIfInBounds_toArray,List.set_cons_zero,List.set_cons_succ,i64_w,i32_w]
     rfl
    refine one_ (i:=5) (N:=some 17) (yA 6 1) rfl rfl (by kernel_rfl) (by decide) (fun K hK=>?_);refine goes_ Tryz.func36 (by kernel_rfl) rfl #[.int .i64 x1_1] (by rfl) rfl rfl zz39 ?_;with_reducible refine (laws_markText.calls k1 x1_1 t767 _ A5.out).mono ?_
    rintro e w8 ⟨rfl,hb⟩;refine ⟨_,rfl,?_⟩;replace HB:=A_ (bS (zz0 HB) hb);(try clear hb)
    (try clear hb2)
    (try clear hk)
    (try clear hi)
    refine hK.out _ _ (((HB.out.cell (World.block_lt_of_cell? w _ hw766_0)).trans hw766_0)) (fun hHeld=>?_);clear hK K;refine nZ 17 ?_;refine pureY 6 (some 18) (yA 7 0) ?_;refine done_ (by kernel_rfl) ?_;go_upto_if 18 with (fail)
    obtain ⟨H⟩:=HF6;replace H:=iteEq H;rcases H with ⟨c9b0,c9b1,H⟩|⟨c9b0,c9b1,c9,H⟩
    ·(first|rw [c9b0]|(simp only [i64_w,i32_w];rw [c9b0])|skip)
     have H':=A_ H;clear H;go_wp2
     go_roundg k1
     case measure=>have:=HK1.out;omega
     case rel=>exact ⟨(wrap64 (x1_1+1)),(wrap64 (x5_1+1)),zz7,zz7,H',⟨(zz17 HK1)⟩,⟨(zz0 HB)⟩⟩
    ·(first|rw [c9b0]|(simp only [i64_w,i32_w];rw [c9b0])|skip)
     obtain rfl:=sI H;go_wp2
     go_ret
     exact ⟨zz5,(zz0 HB)⟩
   ·obtain rfl:=sI H
    go_wp2
    go_ret
    exact ⟨zz5,(zz0 HB)⟩

def spec_l1Text.f (k:Nat) (a0_0:ByteArray) (l0_1:List ByteArray) (a0_2:Bool) (a0_3:ByteArray):Option (ByteArray):=if 2+a0_0.size≤9223372036854775807 then ((spec_l1Path.f k a0_0 l0_1 a0_2 a0_3).bind fun t129=>(if 2+a0_0.size+t129.size≤9223372036854775807 then (some (((⟨#[47,47]⟩:ByteArray)++a0_0)++t129)) else (none))) else (none)
theorem spec_l1Text.mono:∀ a0 a1 a2 a3 k,LeO (spec_l1Text.f k a0 a1 a2 a3) (spec_l1Text.f (k+1) a0 a1 a2 a3):=by
 intro a0 a1 a2 a3 k;unfold spec_l1Text.f
 repeat' first|(with_reducible first|exact spec_l1Path.mono _ _ _ _ _|exact LeO.refl _|exact LeO.none _|refine LeO.ite ?_ ?_|refine LeO.bind ?_ (fun _=>?_))|exact LeO.none _|refine LeO.ite ?_ ?_|refine LeO.bind ?_ (fun _=>?_)
theorem spec_l1Text.calls (k:Nat) (a0_0:ByteArray) (A0_1:Option Addr) (c0_1:Nat) (l0_1:List ByteArray) (a0_2:Bool) (a0_3:ByteArray) (r:ByteArray) (w:World) (hr0_1:Kd.C Kd.string w A0_1 l0_1.length l0_1) (hc0_1:l0_1.length≤c0_1) (h:spec_l1Text.f k a0_0 l0_1 a0_2 a0_3=some r) :
  Calls Tryz.prog 87 #[.agg #[.string a0_0,.slice A0_1 l0_1.length c0_1,.bool a0_2,.string a0_3]] w fun e w'=>e=.returned (.string r)∧Below w.heap.size w w':=by
 have hu48:=Tryz.underlying48;have HR0_1:=A_ hr0_1;have HC0_1:=A_ hc0_1;clear hr0_1 hc0_1;have HB:=A_ (Below.refl w.heap.size w);unfold spec_l1Text.f at h
 have H:=h;clear h;replace H:=iteE H;rcases H with ⟨c2,H⟩|⟨c2,H⟩
 ·have c2b0:=eq_true c2
  have c2b1:=dT c2;try have c2b2:(9223372036854775807 < 2+a0_0.size)=False:=eq_false (Nat.not_lt.2 c2)
  replace H:=bindA H;obtain ⟨t129,A3,H⟩:=H;replace H:=iteN H;obtain ⟨c4,H⟩:=H;have c4b0:=eq_true c4;have c4b1:=dT c4;try have c4b2:(9223372036854775807 < 2+a0_0.size+t129.size)=False:=eq_false (Nat.not_lt.2 c4)
  obtain rfl:=sI H;go_enter Tryz.func87,Tryz.ntmps87;try go_wp2_with (first|(refine boxF 1 #[.string a0_0,.slice A0_1 l0_1.length c0_1,.bool a0_2,.string a0_3] 48 ?_;intro gb128 hg w5 BK128 hb;have GE128:=geB hg (zz0 HB);replace HB:=A_ (bS (zz0 HB) hb);clear hb hg))
  replace BK128:=A_ (blk_drew BK128.out);replace HB:=A_ (below_drew1 HB.out);refine start_ (n:=7) (S:=fun w'=>w'.cell? ⟨gb128,0,none⟩=some (.string a0_0)∧w'.cell? ⟨gb128,1,none⟩=some (.slice A0_1 l0_1.length c0_1)∧w'.cell? ⟨gb128,2,none⟩=some (.bool a0_2)∧w'.cell? ⟨gb128,3,none⟩=some (.string a0_3)) (ds:=[]) #[yF,yF,yF,yF,yF,yF,yF] (by kernel_rfl) rfl rfl ⟨(blk_cell BK128.out 0).trans rfl,(blk_cell BK128.out 1).trans rfl,(blk_cell BK128.out 2).trans rfl,(blk_cell BK128.out 3).trans rfl⟩ (fun hHeld=>?_);generalize w5.drew=w6 at BK128 HB hHeld ⊢;refine pureY 0 (some 3) (yA 1 6) ?_;refine takeY4 1 (some 4) (yA 2 5) hHeld ?_;refine pureY 2 (some 5) (yA 3 4) ?_;refine takeY4 3 (some 6) (yA 4 3) hHeld ?_;refine one_ (i:=4) (N:=some 7) (yA 5 2) rfl rfl (by kernel_rfl) (by decide) (fun K hK=>?_);refine goes_ Tryz.func105 (by kernel_rfl) rfl #[.agg #[.string a0_0,.slice A0_1 l0_1.length c0_1,.bool a0_2,.string a0_3]] (by rfl) rfl rfl zz39 ?_;with_reducible refine (spec_l1Path.calls k a0_0 _ _ l0_1 a0_2 a0_3 t129 _ ?side1 ?side2 A3.out).mono ?_
  (case side1=>exact (zz21 HR0_1 HB))
  (case side2=>exact HC0_1.out)
  rintro e w7 ⟨rfl,hb⟩;refine ⟨_,rfl,?_⟩;replace BK128:=A_ (bB (zz2 BK128) hb);replace HB:=A_ (bS (zz1 HB GE128) hb);(try clear hb)
  (try clear hb2)
  (try clear hk)
  (try clear hi)
  refine hK.out _ _ ⟨(blk_cell BK128.out 0).trans rfl,(blk_cell BK128.out 1).trans rfl,(blk_cell BK128.out 2).trans rfl,(blk_cell BK128.out 3).trans rfl⟩ (fun hHeld=>?_);clear hK K;refine nZ 7 ?_;refine pureY 5 (some 8) (yA 6 1) ?_;refine pureY 6 (some 2) (yA 7 0) ?_;refine done_ (by kernel_rfl) ?_;try go_wp2
  go_ret
  exact ⟨zz5,(zz1 HB GE128)⟩
 ·exact absurd H (by simp)
def spec_l1Norm.f (k:Nat) (a0:ByteArray):Option (Bool):=(spec_EscNorm.f k a0).bind fun bt139=>(if bt139.2=true then (some (bt139.1.toList == a0.toList)) else (some false))
theorem spec_l1Norm.mono:∀ a0 k,LeO (spec_l1Norm.f k a0) (spec_l1Norm.f (k+1) a0):=by
 intro a0 k;unfold spec_l1Norm.f
 repeat' first|(with_reducible first|exact spec_EscNorm.mono _ _|exact LeO.refl _|exact LeO.none _|refine LeO.ite ?_ ?_|refine LeO.bind ?_ (fun _=>?_))|exact LeO.none _|refine LeO.ite ?_ ?_|refine LeO.bind ?_ (fun _=>?_)
theorem spec_l1Norm.calls (k:Nat) (a0:ByteArray) (r:Bool) (w:World) (h:spec_l1Norm.f k a0=some r) :
  Calls Tryz.prog 104 #[.string a0] w fun e w'=>e=.returned (.bool r)∧Below w.heap.size w w':=by
 have HB:=A_ (Below.refl w.heap.size w);unfold spec_l1Norm.f at h
 have H:=h;clear h;replace H:=bindA H;obtain ⟨⟨t139,t140⟩,A2,H⟩:=H;try dsimp only at H
 have HF3:=A_ H;clear H;go_enter Tryz.func104,Tryz.ntmps104;go_wp2_with (first|(refine gR 90 (some 7) Tryz.func90 (spec_EscNorm.calls k a0 t139 t140 _ A2.out) ?_;rintro w4 hb;replace HB:=A_ (bS (zz0 HB) hb);(try clear hb))|((with_reducible refine atG ?_ ?_ fun K_ hK_=>?_);rfl;exact undecG)|((with_reducible refine atI ?_ fun K_ hK_=>?_);exact undecI))
 refine unG hK_ ?_;clear hK_ K_;obtain ⟨H⟩:=HF3;replace H:=iteB H;rcases H with ⟨rfl,H⟩|⟨rfl,H⟩
 ·(first|refine iteT ?_|refine iteF ?_|skip)
  obtain rfl:=sI H;(try ((with_reducible refine upS ?_);go_simp))
  go_wp2
  go_ret
  exact ⟨zz5,(zz0 HB)⟩
 ·(first|refine iteT ?_|refine iteF ?_|skip)
  obtain rfl:=sI H;(try ((with_reducible refine upS ?_);go_simp))
  go_wp2
  go_ret
  exact ⟨zz5,(zz0 HB)⟩
def impl_isName.f (k:Nat) (a0:ByteArray):Option (Bool):=if (a0.size:Int) ≥ 1 then (if (a0.size:Int)≤8 then ((impl_allSmallLetters.f k a0).bind fun t403=>(some t403)) else (some false)) else (some false)
theorem impl_isName.calls (k:Nat) (a0:ByteArray) (r:Bool) (w:World) (h:impl_isName.f k a0=some r) :
  Calls Tryz.prog 47 #[.string a0] w fun e w'=>e=.returned (.bool r)∧Drawn0 w w':=by
 unfold impl_isName.f at h
 have H:=h;clear h;replace H:=iteE H;rcases H with ⟨c2,H⟩|⟨c2,H⟩
 ·have c2b0:=geT c2
  have c2b1:decide (1≤a0.size)=true:=dT (by omega);clear c2;replace H:=iteE H;rcases H with ⟨c3,H⟩|⟨c3,H⟩
  ·have c3b0:=dT c3
   have c3b1:decide (a0.size≤8)=true:=dT (by omega);clear c3;replace H:=bindA H;obtain ⟨t403,A4,H⟩:=H;obtain rfl:=sI H;go_enter Tryz.func47,Tryz.ntmps47;go_wp2_with (first|(go_at_call 74;(with_reducible refine (impl_allSmallLetters.calls k a0 t403 _ A4.out).mono ?_);rintro e w' ⟨rfl,⟨nd,rfl⟩⟩))
   go_ret
   exact ⟨zz7,zz8⟩
  ·have c3b0:=dF c3
   have c3b1:decide (a0.size≤8)=false:=dF (by omega);clear c3;obtain rfl:=sI H;go_enter Tryz.func47,Tryz.ntmps47;go_wp2
   go_ret
   exact ⟨zz7,zz8⟩
 ·have c2b0:=geF c2
  have c2b1:decide (1≤a0.size)=false:=dF (by omega);clear c2;obtain rfl:=sI H;go_enter Tryz.func47,Tryz.ntmps47;go_wp2
  go_ret
  exact ⟨zz7,zz8⟩
def impl_isHouse.f (k:Nat) (a0:ByteArray):Option (Bool):=if (a0.size:Int) ≥ 1 then (if (a0.size:Int)≤5 then ((impl_allSmallLetters.f k a0).bind fun t469=>(some t469)) else (some false)) else (some false)
theorem impl_isHouse.calls (k:Nat) (a0:ByteArray) (r:Bool) (w:World) (h:impl_isHouse.f k a0=some r) :
  Calls Tryz.prog 76 #[.string a0] w fun e w'=>e=.returned (.bool r)∧Drawn0 w w':=by
 unfold impl_isHouse.f at h
 have H:=h;clear h;replace H:=iteE H;rcases H with ⟨c2,H⟩|⟨c2,H⟩
 ·have c2b0:=geT c2
  have c2b1:decide (1≤a0.size)=true:=dT (by omega);clear c2;replace H:=iteE H;rcases H with ⟨c3,H⟩|⟨c3,H⟩
  ·have c3b0:=dT c3
   have c3b1:decide (a0.size≤5)=true:=dT (by omega);clear c3;replace H:=bindA H;obtain ⟨t469,A4,H⟩:=H;obtain rfl:=sI H;go_enter Tryz.func76,Tryz.ntmps76;go_wp2_with (first|(go_at_call 74;(with_reducible refine (impl_allSmallLetters.calls k a0 t469 _ A4.out).mono ?_);rintro e w' ⟨rfl,⟨nd,rfl⟩⟩))
   go_ret
   exact ⟨zz7,zz8⟩
  ·have c3b0:=dF c3
   have c3b1:decide (a0.size≤5)=false:=dF (by omega);clear c3;obtain rfl:=sI H;go_enter Tryz.func76,Tryz.ntmps76;go_wp2
   go_ret
   exact ⟨zz7,zz8⟩
 ·have c2b0:=geF c2
  have c2b1:decide (1≤a0.size)=false:=dF (by omega);clear c2;obtain rfl:=sI H;go_enter Tryz.func76,Tryz.ntmps76;go_wp2
  go_ret
  exact ⟨zz7,zz8⟩
def slices_Contains_string_string.f (k:Nat) (l0:List ByteArray) (a1:ByteArray):Option (Bool):=(slices_Index_string_string.f k l0 a1).bind fun t576=>(some (decide (t576 ≥ 0)))
theorem slices_Contains_string_string.calls (k:Nat) (A0:Option Addr) (c0:Nat) (l0:List ByteArray) (a1:ByteArray) (r:Bool) (w:World) (hr0:Kd.C Kd.string w A0 l0.length l0) (hc0:l0.length≤c0) (h:slices_Contains_string_string.f k l0 a1=some r) :
  Calls Tryz.prog 62 #[.slice A0 l0.length c0,.string a1] w fun e w'=>e=.returned (.bool r)∧Drawn0 w w':=by
 have HR0:=A_ hr0;have HC0:=A_ hc0;clear hr0 hc0;unfold slices_Contains_string_string.f at h
 have H:=h;clear h;replace H:=bindA H;obtain ⟨t576,A3,H⟩:=H;obtain rfl:=sI H;go_enter Tryz.func62,Tryz.ntmps62;go_wp2_with (first|(refine gR 83 (some 7) Tryz.func83 (slices_Index_string_string.calls k _ _ l0 a1 t576 _ ?side1 ?side2 A3.out) ?_;(case side1=>exact (by repeat (first|exact HR0.out|(with_reducible refine Kd.C_alloc ?_ _)|(with_reducible refine Kd.C_drewN ?_ _)|(with_reducible refine Kd.C_drew ?_))));(case side2=>exact HC0.out);rintro w' ⟨nd,rfl⟩))
 go_ret
 exact ⟨zz7,zz8⟩
end Go.Proofs.YtnnciiiackinpaaGreatDoor.P
end
section
namespace Go.Proofs.YtnnciiiackinpaaGreatDoor.P
open Go.RowKit Go.Proofs.YtnnciiiackinpaaGreatDoorW.PrintWords Go.Proofs.YtnnciiiackinpaaGreatDoorW.PrintLast Go.Proofs.YtnnciiiackinpaaGreatDoorW.PrintMore
set_option linter.unusedVariables false
section
variable {P:Program} {ops:Array Oper} {Q:Exit→Act→World→Prop}
theorem callv_ {oi:Oper} {N:Option Tmp} {a:Act} {w:World} {K:Act→World→Prop} {f:FuncId} {fn:Func} {as1:Array Operand} {ts:Array TypeId} {cap:Array Value} (hf:P.funcs[f]?=some fn) (hname:(fn.name == "runtime.NumGoroutine")=false) (hb:fn.body.isSome=true) (args:Array Value)
  (hw:Region.wanted oi (yielded ops a.tmps)=true) (hN:oi.dst=N) (t:Operand) (hop:oi.op=.call { callee:=.value t,args:=as1,argTypes:=ts }) (hv:a.eval t=.func (.func f) #[] cap) (hargs:as1.map a.eval++cap=args)
  (h:Calls P f args w fun e w'=>∃ v,e=.returned v∧K (a.put N v) w'):if Region.wanted oi (yielded ops a.tmps)=true then Oper.wp P oi a w K Q else K (a.put N undef) w:=by
 refine call_ f args hw hN ?_ h
 have he:=enters_ hf hname hb args w
 unfold execOp
 simp [hop,resolve,hv,Deferred.ofValue,invoke,hargs,he]
end
theorem size_set (w:World) (p:Addr) (u:Value):(w.setCell p u).heap.size=w.heap.size:=by simp
end Go.Proofs.YtnnciiiackinpaaGreatDoor.P
end
section
namespace Go.Proofs.YtnnciiiackinpaaGreatDoor.P
open Go.RowKit Go.Proofs.YtnnciiiackinpaaGreatDoorW.PrintWords Go.Proofs.YtnnciiiackinpaaGreatDoorW.PrintLast Go.Proofs.YtnnciiiackinpaaGreatDoorW.PrintMore
set_option linter.unusedVariables false
def strings_explode.f (a0:ByteArray) (a1:Int):Option (List ByteArray):=none
theorem strings_explode.calls (a0:ByteArray) (a1:Int) (r:List ByteArray) (w:World) (h:strings_explode.f a0 a1=some r) :
  Calls Tryz.prog 144 #[.string a0,.int .i64 a1] w fun e w'=>∃ v0_:Value,e=.returned (v0_)∧Kd.R Kd.string 9 w' w.heap.size (fun _=>True) v0_ r∧Below w.heap.size w w':=by
 cases h
end Go.Proofs.YtnnciiiackinpaaGreatDoor.P
end
section
namespace Go.Proofs.YtnnciiiackinpaaGreatDoor.P
open Go.RowKit Go.Proofs.YtnnciiiackinpaaGreatDoorW.PrintWords Go.Proofs.YtnnciiiackinpaaGreatDoorW.PrintLast Go.Proofs.YtnnciiiackinpaaGreatDoorW.PrintMore
set_option linter.unusedVariables false
set_option linter.unusedSimpArgs false
section
variable {P:Program} {ops:Array Oper} {o:Oper} {a:Act} {Q:Exit→Act→World→Prop} {md:Region.Mode} {S:World→Prop} {ds:List Nat} {W:World}
theorem rgP (i:Nat) (N:Option Tmp) {v:Value} {fuel:Nat} {l:Array Bool} (l':Array Bool) {a':Act}
  (h:wpAnyLast P md ops Q S ds fuel l' a' W) (hi:ops[i]?=some o:=by rfl) (hN:o.dst=N:=by rfl) (hc:anyB md ops l l' i=true:=by kernel_rfl)
  (hQ:∀ c a w,Q (.panic c) (a.put o.dst v) w→Q (.panic c) a w:=by exact fun _ _ _ h=>h)
  (hy:Yields P ops o v a:=by exact Or.inl ⟨by rfl,by intro w';go_simp;with_reducible rfl⟩)
  (ha:a.put N v=a':=by (simp only [Act.put,List.setIfInBounds_toArray,List.set_cons_zero,List.set_cons_succ,i64_w,i32_w];rfl)):wpAnyLast P md ops Q S ds (fuel+1) l a W:=pure_ l' hi hN hc hQ hy ha h
theorem rgT (i:Nat) (N:Option Tmp) {v:Value} {fuel:Nat} {l:Array Bool} (l':Array Bool) (hS:S W) {a':Act}
  (h:wpAnyLast P md ops Q S ds fuel l' a' W) (hi:ops[i]?=some o:=by rfl) (hN:o.dst=N:=by rfl) (hc:takeB md ops ds l l' i=true:=by kernel_rfl)
  (hQ:∀ c a w,Q (.panic c) (a.put o.dst v) w→Q (.panic c) a w:=by exact fun _ _ _ h=>h)
  (hy:YieldsIf P ops S o v a:=by exact Or.inl ⟨by rfl,by rintro w' ⟨s0,s1⟩;go_simp;with_reducible rfl⟩)
  (ha:a.put N v=a':=by (simp only [Act.put,List.setIfInBounds_toArray,List.set_cons_zero,List.set_cons_succ,i64_w,i32_w];rfl)):wpAnyLast P md ops Q S ds (fuel+1) l a W:=take_ l' hi hN hc hQ hy hS ha h
theorem rgN (N:Tmp) {fuel:Nat} {l:Array Bool} {b a':Act} {v:Value} (h:wpAnyLast P md ops Q S ds fuel l a' W) (hb:a=b.put (some N) v:=by rfl) (ha:b.put (some N) v=a':=by (simp only [Act.put,List.setIfInBounds_toArray,List.set_cons_zero,List.set_cons_succ,i64_w,i32_w];rfl)):wpAnyLast P md ops Q S ds fuel l a W:=norm_ (hb.trans ha) h
end
end Go.Proofs.YtnnciiiackinpaaGreatDoor.P
end
section
namespace Go.Proofs.YtnnciiiackinpaaGreatDoor.P
open Go.RowKit Go.Proofs.YtnnciiiackinpaaGreatDoorW.PrintWords Go.Proofs.YtnnciiiackinpaaGreatDoorW.PrintLast Go.Proofs.YtnnciiiackinpaaGreatDoorW.PrintMore
set_option linter.unusedVariables false
set_option linter.unusedSimpArgs false
abbrev Hz:=S82
abbrev kHz:=k82
def hzAt (l:List Hz) (i:Nat):Hz:=l.getD i z82
theorem infoS1:(Tryz.prog.info? 9).map (·.size)=some 1:=by kernel_rfl
theorem infoI1:(Tryz.prog.info? 3).map (·.size)=some 1:=by kernel_rfl
theorem infoB1:(Tryz.prog.info? 4).map (·.size)=some 1:=by kernel_rfl
structure Row (w0 w wc:World) (ok:Nat→Prop) (g n cap i:Nat) (R:List Hz) (q:Hz) (l:List Hz):Prop where
  S:Kd.S kHz 82 wc w0.heap.size ok (.slice (some ⟨g,0,none⟩) n cap) l
  B:Below w0.heap.size w0 wc
  K:Kept w wc ok
  len:l.length=n
  lt:i < n
  rest:l.drop (i+1)=R
  at_:hzAt l i=q
def At (w0 w wc:World) (ok:Nat→Prop) (g n cap i:Nat) (R:List Hz) (q:Hz):Prop:=∃ l,Row w0 w wc ok g n cap i R q l
def hzC (q:Hz) (v3 v4 v7:Value):List Value:=[.string q.f0,.int .i64 q.f1,.bool q.f2,v3,v4,.int .i64 q.f3.f2,.int .i64 q.f4,v7]
section
variable {w0 w W:World} {ok:Nat→Prop} {g n cap i:Nat} {R:List Hz} {q:Hz}
theorem At.below {w1:World} (h:At w0 w W ok g n cap i R q) (hb:Below W.heap.size W w1):At w0 w w1 ok g n cap i R q:=by
  obtain ⟨l,hr⟩:=h
  exact ⟨l,Kd.S_below hr.S hb,hr.B.trans (hb.mono hr.B.size),hr.K.below hb,hr.len,hr.lt,hr.rest,hr.at_⟩
theorem At.lend (h:At w0 w W ok g n cap i R q):∃ l v3 v4 v7 oki,Row w0 w W ok g n cap i R q l∧Kd.string.R 9 W w0.heap.size oki v3 q.f3.f0∧k104.R 104 W w0.heap.size oki v4 q.f3.f1∧k111.R 111 W w0.heap.size oki v7 q.f5 ∧
    (∀ j u,(hzC q v3 v4 v7)[j]?=some u→W.cell? ⟨g,i * 8+j,none⟩=some u)∧(∀ j,W.frozen? ⟨g,i * 8+j,none⟩=false)∧(∀ k,oki k→ok k∧k≠g) ∧
    Kd.H kHz 82 W w0.heap.size ok (.slice (some ⟨g,0,none⟩) n cap) l (i:Int) oki (hzC q v3 v4 v7):=by
  obtain ⟨l,hr⟩:=h
  have hlt:=hr.lt
  obtain ⟨oki,c,hcl,hM,hcc,hfr,hoki,hH⟩:=Kd.S_elem hr.S z82 (i:Int) (by omega) (by omega)
  rw [Int.toNat_natCast] at hM hcc hfr
  rw [show l.getD i z82=q from hr.at_] at hM
  obtain ⟨v3,v4,v7,rfl,g3,g4,g7⟩:=k82_openM hM
  exact ⟨l,v3,v4,v7,oki,hr,g3,g4,g7,hcc,hfr,hoki,hH⟩
theorem Row.turned {w1:World} {l:List Hz} {x':Hz} (hr:Row w0 w W ok g n cap i R q l) (hS:Kd.S kHz 82 w1 w0.heap.size ok (.slice (some ⟨g,0,none⟩) n cap) (l.set i x')) (hB:Below w0.heap.size w0 w1) (hK:Kept w w1 ok):At w0 w w1 ok g n cap i R x':=
  ⟨l.set i x',hS,hB,hK,by rw [List.length_set];exact hr.len,hr.lt,by rw [List.drop_set_of_lt (by omega)];exact hr.rest,by unfold hzAt;rw [List.getD_eq_getElem?_getD,List.getElem?_set_self (by rw [hr.len];exact hr.lt)];rfl⟩
theorem At.put {o:Oper} {a:Act} {ops:Array Oper} {rest:List Oper} {Q:Exit→Act→World→Prop} (h:At w0 w W ok g n cap i R q) (hN:o.dst=none) (hgd:o.guard=none) (t:TypeId) (p x:Operand) (ho:o.op=.store t p x) (j:Nat) (x':Hz) (u:Value)
    (haddr:a.eval p=.pointer (some ⟨g,i * 8+j,none⟩)) (hx:a.eval x=u) (hu:u.cells.toList=[u]) (ht:(Tryz.prog.info? t).map (·.size)=some 1) (hone:u.oneCell'=true) (hj:j+1≤8)
    (hM:∀ oki v3 v4 v7,Kd.string.R 9 W w0.heap.size oki v3 q.f3.f0→k104.R 104 W w0.heap.size oki v4 q.f3.f1→k111.R 111 W w0.heap.size oki v7 q.f5→kHz.M W w0.heap.size oki x' ((hzC q v3 v4 v7).take j++[u]++(hzC q v3 v4 v7).drop (j+1)))
    (hK:∀ w1,At w0 w w1 ok g n cap i R x'→wpList Tryz.prog ops Q rest a w1):wpList Tryz.prog ops Q (o :: rest) a W:=by
  obtain ⟨l,v3,v4,v7,oki,hr,g3,g4,g7,hcc,hfr,hoki,hH⟩:=h.lend
  have hlt:=hr.lt
  refine Kd.H_store kHz (w0:=w0) w0.heap.size hN hgd t p x ho 82 (i:Int) j l x' u [u] (hzC q v3 v4 v7) ok oki oki haddr (by rw [Int.toNat_natCast];rfl) hx hu ht (by intro y hy;rw [List.mem_singleton.1 hy];exact hone) hH (by omega) (by omega) (show j+1≤8 from hj) (hM oki v3 v4 v7 g3 g4 g7) (fun _ hk=>hk) hr.B ?_
  intro w1 hS hB hg
  rw [Int.toNat_natCast] at hS
  exact hK w1 (hr.turned hS hB (Kept.of_grown hg hr.K (fun k hk=>.inl (by injection hk with hk;subst hk;exact (Kd.S_R hS).1 _ rfl))))
theorem Row.back {w5:World} {l:List Hz} {oki S:Nat→Prop} {c:List Value} {x':Hz} (hr:Row w0 w W ok g n cap i R q l) (hH:Kd.H kHz 82 W w0.heap.size ok (.slice (some ⟨g,0,none⟩) n cap) l (i:Int) oki c) (hoki:∀ k,oki k→ok k∧k≠g)
    (hk:Kept W w5 S) (hS:∀ k,S k→oki k) (hb:Below w0.heap.size w0 w5) (hM:kHz.M w5 w0.heap.size oki x' c):At w0 w w5 ok g n cap i R x':=by
  have h1:=Kd.H_back (Kd.H_kept hH hk (fun k h1 h2 h3=>h2 (hS k h3))) hM (fun _ hk=>hk)
  rw [Int.toNat_natCast] at h1
  exact hr.turned h1 hb (hr.K.then_ hk (fun k h=>.inl (hoki k (hS k h)).1))
end
def mhLoop (k:Nat):List Hz→Int→Option Int
  | [],m=>some m
  | h :: r,m=>(laws_markText.f k m).bind fun t=>(laws_markStringS.f k h.f3.f0 (wrap64 (wrap64 (wrap64 (m+1)+1)+1))).bind fun a=>(laws_markRuleS.f k h.f3.f1 a.1).bind fun b=>(laws_markItemS.f k h.f5 (wrap64 (wrap64 (b.1+1)+1))).bind fun c=>mhLoop k r c.1
def laws_markHouseS.f (k:Nat) (l0:List Hz) (a1:Int):Option Int:=if l0.length≤1000000000 then mhLoop k l0 a1 else none
set_option maxHeartbeats 8000000 in
set_option maxRecDepth 100000 in
theorem laws_markHouseS.calls (k:Nat) (ok:Nat→Prop) (u:Value) (l0:List Hz) (a1:Int) (r1:Int) (w0 w:World) (hS:Kd.S kHz 82 w w0.heap.size ok u l0) (hB:Below w0.heap.size w0 w) (h:laws_markHouseS.f k l0 a1=some r1) :
    Calls Tryz.prog 31 #[u,.int .i64 a1] w fun e w'=>e=.returned (.int .i64 r1)∧Below w0.heap.size w0 w'∧Kept w w' ok:=by
  obtain ⟨A,cc,hu⟩:=Kd.S_slice hS
  unfold laws_markHouseS.f at h
  split at h
  case isFalse=>cases h
  rename_i hbig
  obtain ⟨n,hn⟩:∃ n,l0.length=n:=⟨_,rfl⟩
  rw [hn] at hu hbig
  subst hu
  have HS:=A_ hS
  have HB:=A_ hB
  have H0:=A_ h
  have HK:=A_ (Kept.refl w ok)
  clear hS hB h
  go_enter Tryz.func31,Tryz.ntmps31
  go_wp2
  go_loopg [1,5] n (fun g v1 v5 wx=>∃ (i:Nat) (gs:List Hz) (m:Int),v1=.int .i64 m∧v5=.int .i64 i∧i+g=n∧gs.length=n∧Aside0 (mhLoop k (gs.drop i) m=some r1)∧Aside0 (Kd.S kHz 82 wx w0.heap.size ok (.slice A n cc) gs)∧Aside0 (Below w0.heap.size w0 wx)∧Aside0 (Kept w wx ok))
  case atStart=>exact ⟨0,l0,a1,rfl,rfl,by omega,hn,by rw [List.drop_zero];exact H0,HS,HB,HK⟩
  case round=>
    clear H0 HS HB HK
    obtain ⟨i,gs,m,rfl,rfl,hig,hgn,H,HS,HB,HK⟩:=hrel
    cases gk with
    | zero=>
      have c1b:decide ((i:Int) < (n:Int))=false:=decide_eq_false (by omega)
      have c1n:decide (i < n)=false:=decide_eq_false (by omega)
      have hr:=H.out
      rw [List.drop_of_length_le (by omega)] at hr
      simp only [mhLoop,Option.some.injEq] at hr
      subst hr
      clear H
      go_wp2
      go_ret
      exact ⟨rfl,HB.out,HK.out⟩
    | succ g1=>
      have c1b:decide ((i:Int) < (n:Int))=true:=decide_eq_true (by omega)
      have c1n:decide (i < n)=true:=decide_eq_true (by omega)
      have p0:(0≤(i:Int))=True:=eq_true (by omega)
      have q0:((i:Int) < (n:Int))=True:=eq_true (by omega)
      have q1:(i < n)=True:=eq_true (by omega)
      have hgi:i < gs.length:=by omega
      have h1:=H.out
      rw [List.drop_eq_getElem_cons hgi] at h1
      obtain ⟨R,hR⟩:∃ R,gs.drop (i+1)=R:=⟨_,rfl⟩
      obtain ⟨q,hq⟩:∃ q,gs[i]=q:=⟨_,rfl⟩
      rw [hR,hq] at h1
      simp only [mhLoop] at h1
      obtain ⟨t,A1,h2⟩:=Option.bind_eq_some_iff.mp h1
      obtain ⟨⟨m1,ns⟩,A2,h3⟩:=Option.bind_eq_some_iff.mp h2
      obtain ⟨⟨m2,rs⟩,A3,h4⟩:=Option.bind_eq_some_iff.mp h3
      obtain ⟨⟨m3,is⟩,A4,h5⟩:=Option.bind_eq_some_iff.mp h4
      have HA1:=A_ A1
      have HA2:=A_ A2
      have HA3:=A_ A3
      have HA4:=A_ A4
      have H':=A_ h5
      clear H h1 h2 h3 h4 h5 A1 A2 A3 A4
      obtain ⟨g,cap,eu,_,_,_⟩:=Kd.S_form HS.out (by omega)
      rw [hgn] at eu
      injection eu with eu1 eu2 eu3
      subst eu1
      subst eu3
      clear eu2
      have HX:=A_ (show At w0 w wr ok g n cc i R q from ⟨gs,HS.out,HB.out,HK.out,hgn,by omega,hR,by unfold hzAt;rw [List.getD_eq_getElem?_getD,List.getElem?_eq_getElem hgi,hq];rfl⟩)
      clear HS HB HK hR hq hgn
      go_wp2_with (first
        | (go_at_call 36;
           (with_reducible refine (laws_markText.calls k m t _ HA1.out).mono ?_)
           rintro e w5 ⟨rfl,hb5⟩
           replace HX:=A_ (HX.out.below hb5)
           clear hb5)
        | ((with_reducible refine gate_store (t:=9) (p:=17) rfl ?_)
           refine HX.out.put rfl rfl 9 (.tmp 17) (.tmp 15) rfl 0 ⟨t,q.f1,q.f2,q.f3,q.f4,q.f5⟩ (.string t) rfl rfl rfl infoS1 rfl (by decide) (fun oki v3 v4 v7 g3 g4 g7=>k82_mkM _ _ _ ⟨t,q.f1,q.f2,q.f3,q.f4,q.f5⟩ g3 g4 g7) ?_
           intro w6 hx
           replace HX:=A_ hx
           clear hx
           skip)
        | ((with_reducible refine gate_store (t:=3) (p:=24) rfl ?_)
           refine HX.out.put rfl rfl 3 (.tmp 24) (.tmp 22) rfl 1 ⟨t,wrap64 (m+1),q.f2,q.f3,q.f4,q.f5⟩ (.int .i64 (wrap64 (m+1))) rfl rfl rfl infoI1 rfl (by decide) (fun oki v3 v4 v7 g3 g4 g7=>k82_mkM _ _ _ ⟨t,wrap64 (m+1),q.f2,q.f3,q.f4,q.f5⟩ g3 g4 g7) ?_
           intro w6 hx
           replace HX:=A_ hx
           clear hx
           skip)
        | ((with_reducible refine gate_store (t:=4) (p:=33) rfl ?_)
           refine HX.out.put rfl rfl 4 (.tmp 33) (.tmp 31) rfl 2 ⟨t,wrap64 (m+1),(Int.tmod (wrap64 (wrap64 (m+1)+1)) 3 == 0),q.f3,q.f4,q.f5⟩ (.bool (Int.tmod (wrap64 (wrap64 (m+1)+1)) 3 == 0)) rfl rfl rfl infoB1 rfl (by decide) (fun oki v3 v4 v7 g3 g4 g7=>k82_mkM _ _ _ ⟨t,wrap64 (m+1),(Int.tmod (wrap64 (wrap64 (m+1)+1)) 3 == 0),q.f3,q.f4,q.f5⟩ g3 g4 g7) ?_
           intro w6 hx
           replace HX:=A_ hx
           clear hx
           obtain ⟨l1,v3,v4,v7,oki,hr,g3,g4,g7,hcc,hfr,hoki,hH⟩:=HX.out.lend
           obtain ⟨B3,b3,rfl⟩:=Kd.R_slice g3
           obtain ⟨B4,b4,rfl⟩:=Kd.R_slice g4
           obtain ⟨B7,b7,rfl⟩:=Kd.R_slice g7
           have hxx:=hcc 3 _ rfl
           have HR:=A_ hr
           have G3:=A_ g3
           have G4:=A_ g4
           have G7:=A_ g7
           have HO:=A_ hoki
           have HH:=A_ hH
           clear HX hr g3 g4 g7 hcc hfr hoki hH
           skip)
        | (go_at_call 17;
           (with_reducible refine (laws_markStringS.calls k (fun k_=>some k_=(Value.slice B3 q.f3.f0.length b3).ownBlock) (.slice B3 q.f3.f0.length b3) q.f3.f0 _ m1 ns w0 _ HR.out.B (Kd.R_tight rfl G3.out) HA2.out).mono ?_)
           rintro e w9 ⟨rfl,ho,hb,hk⟩
           have HX:=A_ (HR.out.back (x':=⟨t,wrap64 (m+1),(Int.tmod (wrap64 (wrap64 (m+1)+1)) 3 == 0),⟨ns,q.f3.f1,q.f3.f2⟩,q.f4,q.f5⟩) HH.out HO.out hk (fun k hk2=>G3.out.1 k hk2.symm) hb (k82_mkM _ _ _ ⟨t,wrap64 (m+1),(Int.tmod (wrap64 (wrap64 (m+1)+1)) 3 == 0),⟨ns,q.f3.f1,q.f3.f2⟩,q.f4,q.f5⟩ (Kd.R_mono (Kd.R_tight rfl ho) (fun k hk2=>G3.out.1 k hk2.symm)) (Kd.R_mono (Kd.R_step (Kd.R_tight rfl G4.out) (fun k hk2 hlt=>hk.2 k hlt (fun e=>by obtain ⟨cells,hc⟩:=Kd.R_typed G4.out k hk2.symm;exact Kd.R_ne G3.out hc (by decide) e))) (fun k hk2=>G4.out.1 k hk2.symm)) (Kd.R_mono (Kd.R_step (Kd.R_tight rfl G7.out) (fun k hk2 hlt=>hk.2 k hlt (fun e=>by obtain ⟨cells,hc⟩:=Kd.R_typed G7.out k hk2.symm;exact Kd.R_ne G3.out hc (by decide) e))) (fun k hk2=>G7.out.1 k hk2.symm))))
           clear ho hb hk hxx HR G3 G4 G7 HO HH
           obtain ⟨l1,v3,v4,v7,oki,hr,g3,g4,g7,hcc,hfr,hoki,hH⟩:=HX.out.lend
           obtain ⟨B3,b3,rfl⟩:=Kd.R_slice g3
           obtain ⟨B4,b4,rfl⟩:=Kd.R_slice g4
           obtain ⟨B7,b7,rfl⟩:=Kd.R_slice g7
           have hxx:=hcc 4 _ rfl
           have HR:=A_ hr
           have G3:=A_ g3
           have G4:=A_ g4
           have G7:=A_ g7
           have HO:=A_ hoki
           have HH:=A_ hH
           clear HX hr g3 g4 g7 hcc hfr hoki hH
           skip)
        | (go_at_call 58;
           (with_reducible refine (laws_markRuleS.calls k (fun k_=>some k_=(Value.slice B4 q.f3.f1.length b4).ownBlock) (.slice B4 q.f3.f1.length b4) q.f3.f1 m1 m2 rs w0 _ HR.out.B (Kd.R_tight rfl G4.out) HA3.out).mono ?_)
           rintro e w9 ⟨rfl,ho,hb,hk⟩
           have HX:=A_ (HR.out.back (x':=⟨t,wrap64 (m+1),(Int.tmod (wrap64 (wrap64 (m+1)+1)) 3 == 0),⟨ns,rs,q.f3.f2⟩,q.f4,q.f5⟩) HH.out HO.out hk (fun k hk2=>G4.out.1 k hk2.symm) hb (k82_mkM _ _ _ ⟨t,wrap64 (m+1),(Int.tmod (wrap64 (wrap64 (m+1)+1)) 3 == 0),⟨ns,rs,q.f3.f2⟩,q.f4,q.f5⟩ (Kd.R_mono (Kd.R_step (Kd.R_tight rfl G3.out) (fun k hk2 hlt=>hk.2 k hlt (fun e=>by obtain ⟨cells,hc⟩:=Kd.R_typed G3.out k hk2.symm;exact Kd.R_ne G4.out hc (by decide) e))) (fun k hk2=>G3.out.1 k hk2.symm)) (Kd.R_mono (Kd.R_tight rfl ho) (fun k hk2=>G4.out.1 k hk2.symm)) (Kd.R_mono (Kd.R_step (Kd.R_tight rfl G7.out) (fun k hk2 hlt=>hk.2 k hlt (fun e=>by obtain ⟨cells,hc⟩:=Kd.R_typed G7.out k hk2.symm;exact Kd.R_ne G4.out hc (by decide) e))) (fun k hk2=>G7.out.1 k hk2.symm))))
           clear ho hb hk hxx HR G3 G4 G7 HO HH
           skip)
        | ((with_reducible refine gate_store (t:=3) (p:=57) rfl ?_)
           refine HX.out.put rfl rfl 3 (.tmp 57) (.tmp 54) rfl 5 ⟨t,wrap64 (m+1),(Int.tmod (wrap64 (wrap64 (m+1)+1)) 3 == 0),⟨ns,rs,m2⟩,q.f4,q.f5⟩ (.int .i64 m2) rfl rfl rfl infoI1 rfl (by decide) (fun oki v3 v4 v7 g3 g4 g7=>k82_mkM _ _ _ ⟨t,wrap64 (m+1),(Int.tmod (wrap64 (wrap64 (m+1)+1)) 3 == 0),⟨ns,rs,m2⟩,q.f4,q.f5⟩ g3 g4 g7) ?_
           intro w6 hx
           replace HX:=A_ hx
           clear hx
           skip)
        | ((with_reducible refine gate_store (t:=3) (p:=64) rfl ?_)
           refine HX.out.put rfl rfl 3 (.tmp 64) (.tmp 62) rfl 6 ⟨t,wrap64 (m+1),(Int.tmod (wrap64 (wrap64 (m+1)+1)) 3 == 0),⟨ns,rs,m2⟩,wrap64 (m2+1),q.f5⟩ (.int .i64 (wrap64 (m2+1))) rfl rfl rfl infoI1 rfl (by decide) (fun oki v3 v4 v7 g3 g4 g7=>k82_mkM _ _ _ ⟨t,wrap64 (m+1),(Int.tmod (wrap64 (wrap64 (m+1)+1)) 3 == 0),⟨ns,rs,m2⟩,wrap64 (m2+1),q.f5⟩ g3 g4 g7) ?_
           intro w6 hx
           replace HX:=A_ hx
           clear hx
           obtain ⟨l1,v3,v4,v7,oki,hr,g3,g4,g7,hcc,hfr,hoki,hH⟩:=HX.out.lend
           obtain ⟨B3,b3,rfl⟩:=Kd.R_slice g3
           obtain ⟨B4,b4,rfl⟩:=Kd.R_slice g4
           obtain ⟨B7,b7,rfl⟩:=Kd.R_slice g7
           have hxx:=hcc 7 _ rfl
           have HR:=A_ hr
           have G3:=A_ g3
           have G4:=A_ g4
           have G7:=A_ g7
           have HO:=A_ hoki
           have HH:=A_ hH
           clear HX hr g3 g4 g7 hcc hfr hoki hH
           skip)
        | (go_at_call 59;
           (with_reducible refine (laws_markItemS.calls k (fun k_=>some k_=(Value.slice B7 q.f5.length b7).ownBlock) (.slice B7 q.f5.length b7) q.f5 _ m3 is w0 _ HR.out.B (Kd.R_tight rfl G7.out) HA4.out).mono ?_)
           rintro e w9 ⟨rfl,ho,hb,hk⟩
           have HX:=A_ (HR.out.back (x':=⟨t,wrap64 (m+1),(Int.tmod (wrap64 (wrap64 (m+1)+1)) 3 == 0),⟨ns,rs,m2⟩,wrap64 (m2+1),is⟩) HH.out HO.out hk (fun k hk2=>G7.out.1 k hk2.symm) hb (k82_mkM _ _ _ ⟨t,wrap64 (m+1),(Int.tmod (wrap64 (wrap64 (m+1)+1)) 3 == 0),⟨ns,rs,m2⟩,wrap64 (m2+1),is⟩ (Kd.R_mono (Kd.R_step (Kd.R_tight rfl G3.out) (fun k hk2 hlt=>hk.2 k hlt (fun e=>by obtain ⟨cells,hc⟩:=Kd.R_typed G3.out k hk2.symm;exact Kd.R_ne G7.out hc (by decide) e))) (fun k hk2=>G3.out.1 k hk2.symm)) (Kd.R_mono (Kd.R_step (Kd.R_tight rfl G4.out) (fun k hk2 hlt=>hk.2 k hlt (fun e=>by obtain ⟨cells,hc⟩:=Kd.R_typed G4.out k hk2.symm;exact Kd.R_ne G7.out hc (by decide) e))) (fun k hk2=>G4.out.1 k hk2.symm)) (Kd.R_mono (Kd.R_tight rfl ho) (fun k hk2=>G7.out.1 k hk2.symm))))
           clear ho hb hk hxx HR G3 G4 G7 HO HH
           skip))
      obtain ⟨l9,h9⟩:=HX.out
      have H9:=A_ h9
      clear h9 HX
      go_roundg g1
      case measure=>omega
      case rel=>exact ⟨i+1,l9,m3,rfl,by simp,by omega,H9.out.len,⟨by rw [H9.out.rest];exact H'.out⟩,⟨H9.out.S⟩,⟨H9.out.B⟩,⟨H9.out.K⟩⟩
end Go.Proofs.YtnnciiiackinpaaGreatDoor.P
end
section
namespace Go.Proofs.YtnnciiiackinpaaGreatDoor.P
open Go.RowKit Go.Proofs.YtnnciiiackinpaaGreatDoorW.PrintWords Go.Proofs.YtnnciiiackinpaaGreatDoorW.PrintLast Go.Proofs.YtnnciiiackinpaaGreatDoorW.PrintMore
set_option linter.unusedVariables false
set_option linter.unusedSimpArgs false
theorem row_at {w:World} {A:Option Addr} {xs:List ByteArray} (h:Kd.C Kd.string w A xs.length xs) (hn:0 < xs.length) :
  ∃ bk o,A=some ⟨bk,o,none⟩∧bk < w.heap.size∧∀ (j:Nat) x,xs[j]?=some x→w.cell? ⟨bk,o+j,none⟩=some (.string x):=by
 obtain ⟨_,_,h3⟩:=h
 obtain ⟨ad,rfl,hc⟩:=h3 hn
 have cells:∀ (j:Nat) x,xs[j]?=some x→w.cell? (ad.add j)=some (.string x):=by
  intro j x hx
  obtain ⟨c,hl,hk,hcell⟩:=hc j x hx
  have hk':c=[Value.string x]:=hk
  subst hk'
  have:=hcell 0 (.string x) rfl
  rw [show j * Kd.string.sz+0=j from by show j * 1+0=j;omega] at this
  exact this
 have h0:=cells 0 xs[0] (List.getElem?_eq_getElem hn)
 obtain ⟨bk,o,sp⟩:=ad
 have h0':w.cell? ⟨bk,o,sp⟩=some (.string xs[0]):=h0
 have hsp:sp=none:=by
  cases sp with
  | none=>rfl
  | some y=>
   unfold World.cell? at h0'
   simp at h0'
   split at h0' <;> simp at h0'
 subst hsp
 refine ⟨bk,o,rfl,?_,fun j x hx=>?_⟩
 ·rcases Nat.lt_or_ge bk w.heap.size with h|h
  ·exact h
  ·unfold World.cell? at h0'
   simp [Array.getElem?_eq_none h] at h0'
 ·have:=cells j x hx
  unfold Addr.add at this
  split at this
  ·rename_i hj;subst hj;exact this
  ·exact this
end Go.Proofs.YtnnciiiackinpaaGreatDoor.P
end
section
namespace Go.Proofs.YtnnciiiackinpaaGreatDoor.P
open Go.RowKit Go.Proofs.YtnnciiiackinpaaGreatDoorW.PrintWords Go.Proofs.YtnnciiiackinpaaGreatDoorW.PrintLast Go.Proofs.YtnnciiiackinpaaGreatDoorW.PrintMore
set_option linter.unusedVariables false
set_option linter.unusedSimpArgs false
set_option maxHeartbeats 8000000
set_option maxRecDepth 100000
def hexS:ByteArray:=⟨#[48,49,50,51,52,53,54,55,56,57,65,66,67,68,69,70]⟩
def figAt (k:Nat):Nat:=if k < 10 then 48+k else 55+k
def figI (b:Int):Int×Bool:=if 48≤b∧b≤57 then (b - 48,true) else if 65≤b∧b≤70 then (b - 55,true) else (0,false)
def impl_figureValue.f (a0:Int):Option (Int×Bool):=if 0≤a0∧a0 < 256 then some (figI (if 97≤a0∧a0≤102 then a0 - 32 else a0)) else none
theorem hex_at:∀ k:Nat,k < 16→hexS.size=16∧∃ h:k < hexS.size,(hexS[k]'h).toNat=figAt k:=by decide +kernel
theorem fig_hit {k:Nat} {b:Int} (hk:k < 16) (h:(figAt k:Int)=b):figI b=((k:Int),true):=by
 unfold figAt at h;unfold figI
 split at h
 ·rw [if_pos (by omega)];congr 1;omega
 ·rw [if_neg (by omega),if_pos (by omega)];congr 1;omega
theorem fig_miss {b:Int} (h:∀ j:Nat,j < 16→(figAt j:Int)≠b):figI b=(0,false):=by
 unfold figI
 split
 ·rename_i hh
  exact absurd (by unfold figAt;rw [if_pos (by omega)];omega) (h (b - 48).toNat (by omega))
 ·split
  ·rename_i hh
   exact absurd (by unfold figAt;rw [if_neg (by omega)];omega) (h (b - 55).toNat (by omega))
  ·rfl
theorem impl_figureValue.calls (a0:Int) (r0:Int) (r1:Bool) (w:World) (h:impl_figureValue.f a0=some (r0,r1)) :
  Calls Tryz.prog 143 #[.int .u8 a0] w fun e w'=>e=.returned (.tuple #[.int .i64 r0,.bool r1])∧Below w.heap.size w w':=by
 unfold impl_figureValue.f at h
 split at h
 case isFalse=>cases h
 rename_i hh
 have h:=sI h;obtain ⟨b,hb⟩:∃ b,b=(if 97≤a0∧a0≤102 then a0 - 32 else a0):=⟨_,rfl⟩;rw [← hb] at h;by_cases h1:97≤a0
 ·by_cases h2:a0≤102
  ·rw [if_pos ⟨h1,h2⟩] at hb
   go_enter Tryz.func143,Tryz.ntmps143;go_wp2
   go_loopw [4] (fun n w'=>∃ k:Nat,k≤16∧w'=w.iter hexS k∧∀ j:Nat,j < k→(figAt j:Int)≠(a0 - 32)) (fun _ w'=>16 - w'.iterPos w.heap.size)
   case atStart=>exact ⟨0,by omega,rfl,fun j hj=>absurd hj (by omega)⟩
   case round=>
    obtain ⟨k,hk,rfl,hne⟩:=hrel;have hbel:∀ p,Below w.heap.size w (w.iter hexS p):=fun p=>(Below.refl _ _).alloc (Nat.le_refl _) _
    by_cases hlt:k < 16
    ·obtain ⟨hsz,hx,hf⟩:=hex_at k hlt
     have hnx:∀ ty,(Instr.next (.pointer (some ⟨w.heap.size,0,none⟩)) true ty).run Tryz.prog (w.iter hexS k)=.ok (.tuple #[.bool true,.int .i64 k,.int .i32 (figAt k:Nat)]) (w.iter hexS (k+1)):=fun ty=>by
      have hfl:figAt k < 128:=by unfold figAt;split <;> omega
      rw [← hf];exact run_next_ascii w hexS k ty hx (by rw [hf];exact hfl)
     by_cases he:(figAt k:Int)=(a0 - 32)
     ·have hr:=fig_hit hlt he
      rw [← hb,h,Prod.mk.injEq] at hr;obtain ⟨rfl,rfl⟩:=hr;go_wp2
      go_ret2
      exact ⟨rfl,hbel _⟩
     ·go_wp2
      refine ⟨⟨k+1,by omega,rfl,fun j hj=>?_⟩,by simp;omega⟩;by_cases e:j=k
      ·subst e;exact he
      ·exact hne j (by omega)
    ·obtain rfl:k=16:=by omega
     have hr:=fig_miss hne;rw [← hb,h,Prod.mk.injEq] at hr;obtain ⟨rfl,rfl⟩:=hr;have hnx:∀ ty,(Instr.next (.pointer (some ⟨w.heap.size,0,none⟩)) true ty).run Tryz.prog (w.iter hexS 16)=_:=fun ty=>run_next_end w hexS 16 ty (by decide)
     go_wp2
     go_ret2
     exact ⟨rfl,hbel _⟩
  ·rw [if_neg (fun e=>h2 e.2)] at hb
   go_enter Tryz.func143,Tryz.ntmps143;go_wp2
   go_loopw [4] (fun n w'=>∃ k:Nat,k≤16∧w'=w.iter hexS k∧∀ j:Nat,j < k→(figAt j:Int)≠a0) (fun _ w'=>16 - w'.iterPos w.heap.size)
   case atStart=>exact ⟨0,by omega,rfl,fun j hj=>absurd hj (by omega)⟩
   case round=>
    obtain ⟨k,hk,rfl,hne⟩:=hrel;have hbel:∀ p,Below w.heap.size w (w.iter hexS p):=fun p=>(Below.refl _ _).alloc (Nat.le_refl _) _
    by_cases hlt:k < 16
    ·obtain ⟨hsz,hx,hf⟩:=hex_at k hlt
     have hnx:∀ ty,(Instr.next (.pointer (some ⟨w.heap.size,0,none⟩)) true ty).run Tryz.prog (w.iter hexS k)=.ok (.tuple #[.bool true,.int .i64 k,.int .i32 (figAt k:Nat)]) (w.iter hexS (k+1)):=fun ty=>by
      have hfl:figAt k < 128:=by unfold figAt;split <;> omega
      rw [← hf];exact run_next_ascii w hexS k ty hx (by rw [hf];exact hfl)
     by_cases he:(figAt k:Int)=a0
     ·have hr:=fig_hit hlt he
      rw [← hb,h,Prod.mk.injEq] at hr;obtain ⟨rfl,rfl⟩:=hr;go_wp2
      go_ret2
      exact ⟨rfl,hbel _⟩
     ·go_wp2
      refine ⟨⟨k+1,by omega,rfl,fun j hj=>?_⟩,by simp;omega⟩;by_cases e:j=k
      ·subst e;exact he
      ·exact hne j (by omega)
    ·obtain rfl:k=16:=by omega
     have hr:=fig_miss hne;rw [← hb,h,Prod.mk.injEq] at hr;obtain ⟨rfl,rfl⟩:=hr;have hnx:∀ ty,(Instr.next (.pointer (some ⟨w.heap.size,0,none⟩)) true ty).run Tryz.prog (w.iter hexS 16)=_:=fun ty=>run_next_end w hexS 16 ty (by decide)
     go_wp2
     go_ret2
     exact ⟨rfl,hbel _⟩
 ·rw [if_neg (fun e=>h1 e.1)] at hb
  go_enter Tryz.func143,Tryz.ntmps143;go_wp2
  go_loopw [4] (fun n w'=>∃ k:Nat,k≤16∧w'=w.iter hexS k∧∀ j:Nat,j < k→(figAt j:Int)≠a0) (fun _ w'=>16 - w'.iterPos w.heap.size)
  case atStart=>exact ⟨0,by omega,rfl,fun j hj=>absurd hj (by omega)⟩
  case round=>
   obtain ⟨k,hk,rfl,hne⟩:=hrel;have hbel:∀ p,Below w.heap.size w (w.iter hexS p):=fun p=>(Below.refl _ _).alloc (Nat.le_refl _) _
   by_cases hlt:k < 16
   ·obtain ⟨hsz,hx,hf⟩:=hex_at k hlt
    have hnx:∀ ty,(Instr.next (.pointer (some ⟨w.heap.size,0,none⟩)) true ty).run Tryz.prog (w.iter hexS k)=.ok (.tuple #[.bool true,.int .i64 k,.int .i32 (figAt k:Nat)]) (w.iter hexS (k+1)):=fun ty=>by
     have hfl:figAt k < 128:=by unfold figAt;split <;> omega
     rw [← hf];exact run_next_ascii w hexS k ty hx (by rw [hf];exact hfl)
    by_cases he:(figAt k:Int)=a0
    ·have hr:=fig_hit hlt he
     rw [← hb,h,Prod.mk.injEq] at hr;obtain ⟨rfl,rfl⟩:=hr;go_wp2
     go_ret2
     exact ⟨rfl,hbel _⟩
    ·go_wp2
     refine ⟨⟨k+1,by omega,rfl,fun j hj=>?_⟩,by simp;omega⟩;by_cases e:j=k
     ·subst e;exact he
     ·exact hne j (by omega)
   ·obtain rfl:k=16:=by omega
    have hr:=fig_miss hne;rw [← hb,h,Prod.mk.injEq] at hr;obtain ⟨rfl,rfl⟩:=hr;have hnx:∀ ty,(Instr.next (.pointer (some ⟨w.heap.size,0,none⟩)) true ty).run Tryz.prog (w.iter hexS 16)=_:=fun ty=>run_next_end w hexS 16 ty (by decide)
    go_wp2
    go_ret2
    exact ⟨rfl,hbel _⟩
end Go.Proofs.YtnnciiiackinpaaGreatDoor.P
end
section
namespace Go.Proofs.YtnnciiiackinpaaGreatDoor.P
open Go.RowKit Go.Proofs.YtnnciiiackinpaaGreatDoorW.PrintWords Go.Proofs.YtnnciiiackinpaaGreatDoorW.PrintLast Go.Proofs.YtnnciiiackinpaaGreatDoorW.PrintMore Go.Proofs.YtnnciiiackinpaaGreatDoor.B Go.Proofs.YtnnciiiackinpaaGreatDoor.Ad
set_option linter.unusedVariables false
set_option linter.unusedSimpArgs false
def SmRow (b:Nat) (s:ByteArray) (i:Nat) (w:World):Prop:=
 b < w.heap.size∧∀ j,j < s.size→w.cell? ⟨b,j,none⟩=some (.int .u8 ((if j < i then sm ((L s).getD j 0) else (L s).getD j 0).toNat:Nat))∧w.frozen? ⟨b,j,none⟩=false
theorem sm_start (w:World) (e:TypeId) (s:ByteArray):SmRow w.heap.size s 0 (Lib.bytesWorld w e s):=by
 refine ⟨by rw [Lib.bytesWorld_size];omega,fun j hj=>⟨?_,?_⟩⟩
 ·rw [Lib.bytesWorld_cell w e s j hj];simp [L]
 ·have hk:s.size≤(Lib.bytesCells w e s).size:=by rw [Lib.bytesCells];simp
  simp only [World.frozen?,Lib.bytesWorld_at_new]
  simp
  omega
theorem sm_below (w:World) (e:TypeId) (s:ByteArray):Below w.heap.size w (Lib.bytesWorld w e s):=by
 refine ⟨rfl,rfl,rfl,by rw [Lib.bytesWorld_size];omega,fun j hj=>Lib.bytesWorld_at_old w e s j hj⟩
theorem sm_set {b:Nat} {s:ByteArray} {i:Nat} {w:World} (h:SmRow b s i w) (hi:i < s.size):SmRow b s (i+1) (w.setCell ⟨b,i,none⟩ (.int .u8 ((sm ((L s).getD i 0)).toNat:Nat))):=by
 refine ⟨by rw [size_set];exact h.1,fun j hj=>⟨?_,by rw [World.frozen?_setCell];exact (h.2 j hj).2⟩⟩
 rcases Nat.lt_trichotomy j i with h1|h1|h1
 ·rw [World.cell?_setCell_other _ _ _ _ (by intro e;injection e with _ e;omega),(h.2 j hj).1,if_pos h1,if_pos (by omega)]
 ·subst h1;rw [World.cell?_setCell_same _ _ _ (h.2 j hj).1,if_pos (by omega)]
 ·rw [World.cell?_setCell_other _ _ _ _ (by intro e;injection e with _ e;omega),(h.2 j hj).1,if_neg (by omega),if_neg (by omega)]
theorem sm_skip {b:Nat} {s:ByteArray} {i:Nat} {w:World} (h:SmRow b s i w) (hi:i < s.size) (he:sm ((L s).getD i 0)=(L s).getD i 0):SmRow b s (i+1) w:=by
 refine ⟨h.1,fun j hj=>⟨?_,(h.2 j hj).2⟩⟩
 rw [(h.2 j hj).1]
 rcases Nat.lt_trichotomy j i with h1|h1|h1
 ·rw [if_pos h1,if_pos (by omega)]
 ·subst h1;rw [if_neg (by omega),if_pos (by omega),he]
 ·rw [if_neg (by omega),if_neg (by omega)]
end Go.Proofs.YtnnciiiackinpaaGreatDoor.P
end
section
namespace Go.Proofs.YtnnciiiackinpaaGreatDoor.P
open Go.RowKit Go.Proofs.YtnnciiiackinpaaGreatDoorW.PrintWords Go.Proofs.YtnnciiiackinpaaGreatDoorW.PrintLast Go.Proofs.YtnnciiiackinpaaGreatDoorW.PrintMore Go.Proofs.YtnnciiiackinpaaGreatDoor.B Go.Proofs.YtnnciiiackinpaaGreatDoor.Ad
set_option linter.unusedVariables false
set_option linter.unusedSimpArgs false
set_option maxHeartbeats 8000000
set_option maxRecDepth 100000
def strings_Join.f (l0:List ByteArray) (a1:ByteArray):Option (ByteArray):=
 if l0.length≤140737488355328∧(Lib.join (l0.map L) (L a1)).length≤140737488355328 then some (ofL (Lib.join (l0.map L) (L a1))) else none
theorem strings_Join.calls (A0:Option Addr) (c0:Nat) (l0:List ByteArray) (a1:ByteArray) (r:ByteArray) (w:World) (hr0:Kd.C Kd.string w A0 l0.length l0) (hc0:l0.length≤c0) (h:strings_Join.f l0 a1=some r) :
  Calls Tryz.prog 100 #[.slice A0 l0.length c0,.string a1] w fun e w'=>e=.returned (.string r)∧Below w.heap.size w w':=by
 unfold strings_Join.f at h
 split at h
 ·rename_i hh
  obtain rfl:=sI h;rcases Nat.eq_zero_or_pos l0.length with h0|h0
  ·obtain rfl:l0=[]:=List.length_eq_zero_iff.1 h0
   exact (Tryz.strings_Join_none A0 c0 a1 w).mono fun e w' ⟨he,hw⟩=>⟨he,hw ▸ Below.refl _ _⟩
  ·obtain ⟨bk,o,rfl,hb,hcells⟩:=row_at hr0 h0
   exact Tryz.strings_Join bk o c0 l0 a1 w hcells hb hh.1 hc0 hh.2
 ·cases h
def stringslite_Index.f (a0:ByteArray) (a1:ByteArray):Option (Int):=match L a1 with
 | [c]=>some (Lib.indexByte (L a0) c)
 | _=>none
theorem one_of_L {a:ByteArray} {c:UInt8} (h:L a=[c]):a=⟨#[c]⟩:=L_inj (by rw [h])
theorem stringslite_Index.calls (a0:ByteArray) (a1:ByteArray) (r:Int) (w:World) (h:stringslite_Index.f a0 a1=some r) :
  Calls Tryz.prog 111 #[.string a0,.string a1] w fun e w'=>e=.returned (.int .i64 r)∧Below w.heap.size w w':=by
 unfold stringslite_Index.f at h
 split at h
 ·rename_i c hc
  obtain rfl:=sI h;obtain rfl:=one_of_L hc;exact (Tryz.stringslite_Index_one a0 c w).mono fun e w' ⟨he,hw⟩=>⟨he,hw ▸ Below.refl _ _⟩
 ·cases h
def strings_Count.f (a0:ByteArray) (a1:ByteArray):Option (Int):=match L a1 with
 | [c]=>some (Lib.countByte (L a0) c)
 | _=>none
theorem strings_Count.calls (a0:ByteArray) (a1:ByteArray) (r:Int) (w:World) (h:strings_Count.f a0 a1=some r) :
  Calls Tryz.prog 145 #[.string a0,.string a1] w fun e w'=>e=.returned (.int .i64 r)∧Below w.heap.size w w':=by
 unfold strings_Count.f at h
 split at h
 ·rename_i c hc
  obtain rfl:=sI h;obtain rfl:=one_of_L hc;exact (Tryz.strings_Count_one a0 c w).mono fun e w' ⟨he,hw⟩=>⟨he,hw ▸ Below.refl _ _⟩
 ·cases h
def slices_Clone_string_string.f (l0:List ByteArray):Option (List ByteArray):=if l0.length * 16≤140737488355328 then some l0 else none
theorem slices_Clone_string_string.calls (A0:Option Addr) (c0:Nat) (l0:List ByteArray) (r:List ByteArray) (w:World) (hr0:Kd.C Kd.string w A0 l0.length l0) (hc0:l0.length≤c0) (h:slices_Clone_string_string.f l0=some r) :
  Calls Tryz.prog 118 #[.slice A0 l0.length c0] w fun e w'=>∃ v0_:Value,e=.returned (v0_)∧Kd.R Kd.string 9 w' w.heap.size (fun _=>True) v0_ r∧Below w.heap.size w w':=by
 unfold slices_Clone_string_string.f at h
 split at h
 ·rename_i hh
  obtain rfl:=sI h;rcases Nat.eq_zero_or_pos l0.length with h0|h0
  ·obtain rfl:l0=[]:=List.length_eq_zero_iff.1 h0
   cases A0 with
   | none=>exact (Tryz.slices_Clone_string_nil 0 c0 w).mono fun e w' ⟨he,hw⟩=>⟨_,he,Kd.R_nil _ _ _ _ _,hw ▸ Below.refl _ _⟩
   | some a=>exact (Tryz.slices_Clone_string_zero a c0 w).mono fun e w' ⟨v,he,ho,_,hb⟩=>⟨v,he,Kd.R_of_own ho (fun _ _=>trivial),hb⟩
  ·obtain ⟨bk,o,rfl,hb,hcells⟩:=row_at hr0 h0
   refine (Tryz.slices_Clone_string bk o l0.length c0 l0 w (Nat.le_refl _) hh (fun j hj=>?_)).mono fun e w' ⟨v,he,ho,_,hb'⟩=>⟨v,he,Kd.R_of_own ?_ (fun _ _=>trivial),hb'⟩
   ·rw [List.getD_eq_getElem?_getD,List.getElem?_eq_getElem hj]
    exact hcells j _ (List.getElem?_eq_getElem hj)
   ·rw [List.take_length] at ho
    exact ho
 ·cases h
def sq:ByteArray:=⟨#[47,63]⟩
theorem sq_at:sq.size=2∧(∀ h:0 < sq.size,(sq[0]'h).toNat=47)∧(∀ h:1 < sq.size,(sq[1]'h).toNat=63):=by decide +kernel
theorem valid_same (r:Int):Utf8.valid r=Lib.validRune r:=by
 unfold Utf8.valid Lib.validRune
 rw [Bool.eq_iff_iff];simp only [Bool.or_eq_true,Bool.and_eq_true,decide_eq_true_eq]
 omega
theorem decode_skip (s:ByteArray) (pos:Nat) (h:pos < s.size) (ha:128≤(s[pos]'h).toNat) :
  pos+(Utf8.decode s pos).2≤s.size∧∀ j,pos≤j→j < pos+(Utf8.decode s pos).2→∀ hj:j < s.size,128≤(s[j]'hj).toNat:=by
 have hn:¬ (s[pos]'h).toNat < 128:=by omega
 have one:pos+1≤s.size∧∀ j,pos≤j→j < pos+1→∀ hj:j < s.size,128≤(s[j]'hj).toNat:=by
  refine ⟨h,fun j h1 h2 hj=>?_⟩;obtain rfl:j=pos:=by omega
  exact ha
 have cont:∀ k,(decide (pos+k < s.size) && ((s.get! (pos+k)).toNat / 64 == 2))=true→pos+k < s.size∧∀ hj:pos+k < s.size,128≤(s[pos+k]'hj).toNat:=by
  intro k hk;simp only [Bool.and_eq_true,decide_eq_true_eq,beq_iff_eq] at hk
  refine ⟨hk.1,fun hj=>?_⟩;have e:=get_at s (pos+k) hj;rw [Nat.add_zero] at e;rw [e] at hk;omega
 simp only [Utf8.decode,get_at s pos h,hn,if_false]
 split
 ·rename_i h1
  simp only [Bool.and_eq_true] at h1
  obtain ⟨l1,b1⟩:=cont 1 (by simpa using h1.2);split
  ·refine ⟨(by show pos+2≤_;omega),fun j h2 h3 hj=>?_⟩
   have h3':j < pos+2:=h3;rcases (by omega:j=pos∨j=pos+1) with e|e
   ·subst e;exact ha
   ·subst e;exact b1 hj
  ·exact one
 ·split
  ·rename_i _ h1
   simp only [Bool.and_eq_true] at h1
   obtain ⟨l1,b1⟩:=cont 1 (by simpa using h1.1.2);obtain ⟨l2,b2⟩:=cont 2 (by simpa using h1.2);split
   ·refine ⟨(by show pos+3≤_;omega),fun j h2 h3 hj=>?_⟩
    have h3':j < pos+3:=h3;rcases (by omega:j=pos∨j=pos+1∨j=pos+2) with e|e|e
    ·subst e;exact ha
    ·subst e;exact b1 hj
    ·subst e;exact b2 hj
   ·exact one
  ·split
   ·rename_i _ _ h1
    simp only [Bool.and_eq_true] at h1
    obtain ⟨l1,b1⟩:=cont 1 (by simpa using h1.1.1.2);obtain ⟨l2,b2⟩:=cont 2 (by simpa using h1.1.2);obtain ⟨l3,b3⟩:=cont 3 (by simpa using h1.2);split
    ·refine ⟨(by show pos+4≤_;omega),fun j h2 h3 hj=>?_⟩
     have h3':j < pos+4:=h3;rcases (by omega:j=pos∨j=pos+1∨j=pos+2∨j=pos+3) with e|e|e|e
     ·subst e;exact ha
     ·subst e;exact b1 hj
     ·subst e;exact b2 hj
     ·subst e;exact b3 hj
    ·exact one
   ·exact one
theorem noAny_skip {s:ByteArray} {pos n:Nat} (h:Lib.NoAny (L s) (L sq) pos) (hb:∀ j,pos≤j→j < pos+n→∀ hj:j < s.size,128≤(s[j]'hj).toNat):Lib.NoAny (L s) (L sq) (pos+n):=by
 intro j b hj hx;rcases Nat.lt_or_ge j pos with hlt|hge
 ·exact h j b hlt hx
 ·obtain ⟨hl,he⟩:=List.getElem?_eq_some_iff.1 hx
  have hjs:j < s.size:=by rw [← L_size];exact hl
  have h1:=hb j hge hj hjs;have h2:(s[j]'hjs)=b:=by rw [← he];rfl
  rw [h2] at h1;have:L sq=[47,63]:=rfl;rw [this];simp only [List.contains_cons,List.contains_nil,Bool.or_false,Bool.or_eq_false_iff,beq_eq_false_iff_ne]
  constructor
  ·rintro rfl;exact absurd h1 (by decide)
  ·rintro rfl;exact absurd h1 (by decide)
theorem indexRune_far (r:Int) (w:World) (h0:128≤r) (h1:r≤2147483647) :
  Calls Tryz.prog 113 #[.string sq,.int .i32 r] w fun e w'=>e=.returned (.int .i64 (-1))∧Below w.heap.size w w':=by
 have g0:decide (0≤r)=true:=dT (by omega);have g1:decide (r < 128)=false:=dF (by omega);obtain ⟨hsz,hs0,hs1⟩:=sq_at;by_cases hr:r=65533
 ·subst hr
  have n0:=fun ty=>run_next_ascii (P:=Tryz.prog) w sq 0 ty (by rw [hsz];decide) (by rw [hs0];decide)
  have n1:=fun ty=>run_next_ascii (P:=Tryz.prog) w sq 1 ty (by rw [hsz];decide) (by rw [hs1];decide)
  rw [hs0] at n0;rw [hs1] at n1;have n2:=fun ty=>run_next_end (P:=Tryz.prog) w sq 2 ty (by rw [hsz];decide)
  clear hsz hs0 hs1 h0 h1 g0 g1;go_enter Tryz.func113,Tryz.ntmps113;go_wp2
  go_loopg [5,6] 2 (fun g _ _ wx=>∃ i:Nat,i+g=2∧wx=w.iter sq i)
  case atStart=>exact ⟨0,by omega,rfl⟩
  case round=>
   obtain ⟨i,hig,rfl⟩:=hrel;cases gk with
   | zero=>
    obtain rfl:i=2:=by omega
    go_wp2
    go_ret
    exact ⟨rfl,(Below.refl _ _).alloc (Nat.le_refl _) _⟩
   | succ g=>
    rcases (by omega:i=0∨i=1) with e|e
    ·subst e
     go_wp2
     go_roundg g
     case measure=>omega
     case rel=>exact ⟨1,by omega,rfl⟩
    ·subst e
     go_wp2
     go_roundg g
     case measure=>omega
     case rel=>exact ⟨2,by omega,rfl⟩
 ·have g2:(r == 65533)=false:=by simp [hr]
  cases hv:Lib.validRune r with
  | false=>
   go_enter Tryz.func113,Tryz.ntmps113;go_wp2_with (go_at_call 134;refine (Tryz.utf8_ValidRune _ _).mono ?_;rintro e w' ⟨rfl,hw⟩;rw [hw,hv])
   go_ret
   exact ⟨rfl,Below.refl _ _⟩
  | true=>
   obtain ⟨e1,e2,e3⟩:=encode_facts r (by rw [valid_same];exact hv) h0;go_enter Tryz.func113,Tryz.ntmps113;go_wp2_with (go_at_call 134;refine (Tryz.utf8_ValidRune _ _).mono ?_;rintro e w' ⟨rfl,hw⟩;rw [hw,hv])
   go_step3
   go_wp2
   generalize Utf8.encode r=nd at e1 e2 e3 ⊢;refine wp_loop_rounds 1 ?_;rw [rounds_succ];by_cases hn:nd.size=2
   ·obtain ⟨x,hx⟩:∃ x:UInt8,∀ h:1 < nd.size,nd[1]'h=x:=⟨nd[1]'(by omega),fun _=>rfl⟩
    have hx1:128≤x.toNat:=by
     have:=e3 (by omega);simp only [hn] at this
     rw [← hx (by omega)];exact this
    clear e3;have hne:((63:Int) != (x.toNat:Int))=true:=by simp;omega
    have hnz:((nd.size:Nat):Int) - 1=1:=by omega
    rw [hnz];have HN:=A_ hn;have hlt:(1:Int) < (nd.size:Int):=by omega
    clear hn hnz e1 e2;have hs1':=hs1 (by rw [hsz];decide);have hi1:(1:Int) < (sq.size:Int):=by rw [hsz];decide
    have hs2:(2:Int)≤(sq.size:Int):=by rw [hsz];decide
    go_wp2
    go_step3
    go_wp2
    go_quiet (fail)
    have HB:Aside0 (Below w.heap.size w (w.drewN nq)):=⟨pw_below_drewN (Below.refl _ _) nq⟩;generalize w.drewN nq=w1 at HB ⊢;have hib:Lib.indexByte (sq.extract 2 2).data.toList ((x.toNat:Int)).toNat.toUInt8=-1:=rfl;go_wp2
    go_quiet ((go_at_call 133;exact Calls.quiet_of_same (Tryz.strings_IndexByte _ _ _)))
    go_wp2
    rw [Exit.noGoto_ret];go_wp2
    rw [Exit.noGoto_ret];go_ret
    exact ⟨rfl,pw_below_drewN HB.out _⟩
   ·have hge:decide ((nd.size:Int) - 1 < 2)=false:=dF (by omega)
    go_wp2
    rw [Exit.noGoto_ret];go_ret
    exact ⟨rfl,Below.refl _ _⟩
def strings_IndexAny.f (a0 a1:ByteArray):Option Int:=if L a1=[47,63]∧a0.size < 4294967281 then some (Lib.indexAny (L a0) (L a1)) else none
def iterTo (w:World) (b:Nat) (s:ByteArray) (p:Nat):World:={ w with heap:=w.heap.setIfInBounds b (.stringIter s p) }
theorem iterTo_at {w:World} {b:Nat} {s:ByteArray} {p q:Nat} (h:w.heap[b]?=some (.stringIter s q)):(iterTo w b s p).heap[b]?=some (.stringIter s p):=by
 obtain ⟨hl,_⟩:=Array.getElem?_eq_some_iff.1 h;simp [iterTo,hl]
theorem iterTo_below {w0 w:World} {b:Nat} {s:ByteArray} {p:Nat} (h:Below w0.heap.size w0 w) (hb:w0.heap.size≤b):Below w0.heap.size w0 (iterTo w b s p):=
 ⟨h.os,h.tape,h.output,(by simp [iterTo];exact h.size),fun i hi=>by
  rw [← h.block i hi];simp only [iterTo]
  exact Array.getElem?_setIfInBounds_ne (by omega)⟩
theorem run_next_in {P:Program} (w:World) (b:Nat) (s:ByteArray) (pos:Nat) (hb:w.heap[b]?=some (.stringIter s pos)) (h:pos < s.size) (ty:TypeId) :
  (Instr.next (.pointer (some ⟨b,0,none⟩)) true ty).run P w=.ok (.tuple #[.bool true,.int .i64 pos,.int .i32 (Utf8.decode s pos).1]) (iterTo w b s (pos+(Utf8.decode s pos).2)):=by
 simp only [Instr.next,getObj,setObj,Sem.run_bind,Sem.run,hb,Result.andThen,h,if_true,iterTo]
 simp [goInt]
theorem run_next_out {P:Program} (w:World) (b:Nat) (s:ByteArray) (pos:Nat) (hb:w.heap[b]?=some (.stringIter s pos)) (h:¬ pos < s.size) (ty:TypeId) :
  (Instr.next (.pointer (some ⟨b,0,none⟩)) true ty).run P w=.ok (.tuple #[.bool false]) w:=by
 simp [Instr.next,getObj,Sem.run,hb,h]
theorem indexAny_few (s:ByteArray) (w:World) (h8:s.size≤8) :
  Calls Tryz.prog 97 #[.string s,.string sq] w fun e w'=>e=.returned (.int .i64 (Lib.indexAny (L s) (L sq)))∧Below w.heap.size w w':=by
 have hemp:sq.toList.isEmpty=false:=by decide +kernel
 have hn1:((sq.size:Int) == 1)=false:=by decide +kernel
 have h8z:decide ((8:Int) < (s.size:Int))=false:=dF (by omega);go_enter Tryz.func97,Tryz.ntmps97;go_wp2_with (go_at_call 114;refine (Tryz.strings_shouldUseASCIISet _ _).mono ?_;rintro e w' ⟨rfl,hw⟩;rw [hw,h8z])
 go_loopg [9,10] s.size (fun g _ _ wx=>∃ i:Nat,i+g=s.size∧Aside0 (wx.heap[w.heap.size]?=some (.stringIter s i))∧Aside0 (Lib.NoAny (L s) (L sq) i)∧Aside0 (Below w.heap.size w wx))
 case atStart=>exact ⟨0,by omega,⟨World.iter_heap w s 0⟩,⟨Lib.NoAny.zero _ _⟩,⟨(Below.refl _ _).alloc (Nat.le_refl _) _⟩⟩
 case round=>
  obtain ⟨i,hig,hI,HN,HB⟩:=hrel;cases gk with
  | zero=>
   obtain rfl:i=s.size:=by omega
   have hnx:=run_next_out (P:=Tryz.prog) wr w.heap.size s s.size hI.out (by omega);go_wp2
   go_ret
   exact ⟨(by rw [Lib.indexAny_none (by rw [L_size];exact HN.out)];rfl),HB.out⟩
  | succ g=>
   have hi:i < s.size:=by omega
   have hnx:=run_next_in (P:=Tryz.prog) wr w.heap.size s i hI.out hi;obtain ⟨x,hx⟩:∃ x:UInt8,s[i]'hi=x:=⟨_,rfl⟩;have Hx:Aside0 ((L s)[i]?=some x):=⟨(by rw [← hx];exact Lib.data_getElem? s i hi)⟩;by_cases hlt:x.toNat < 128
   ·have hd:=decode_ascii s i hi (by rw [hx];exact hlt)
    rw [hx] at hd;rw [hd] at hnx;clear hd;have HI2:Aside0 ((iterTo wr w.heap.size s (i+1)).heap[w.heap.size]?=some (.stringIter s (i+1))):=⟨iterTo_at hI.out⟩;have HB2:Aside0 (Below w.heap.size w (iterTo wr w.heap.size s (i+1))):=⟨iterTo_below HB.out (Nat.le_refl _)⟩;simp only at hnx
    have hcon:=Lib.contains_iff_indexByte (L sq) x;have hback:((x.toNat:Int)).toNat.toUInt8=x:=by simp
    obtain ⟨q,hq⟩:∃ q,Lib.indexByte sq.data.toList x=q:=⟨_,rfl⟩;have hcon:(L sq).contains x=decide (0≤q):=by rw [← hq];exact hcon
    clear hx HB hI;generalize iterTo wr w.heap.size s (i+1)=w2 at hnx HI2 HB2;cases hin:(L sq).contains x
    ·rw [hin] at hcon
     have hlt0:¬ ((0:Int)≤q):=of_decide_eq_false hcon.symm;clear hcon;have HS:Aside0 (Lib.NoAny (L s) (L sq) (i+1)):=⟨HN.out.succ Hx.out hin⟩;clear hin;go_wp2_with (go_at_call 113;refine (Tryz.strings_IndexRune_ascii _ _ _ (by omega) (by omega)).mono ?_;rintro e w' ⟨rfl,hw⟩;rw [hw,hback,hq])
     go_roundg g
     case measure=>omega
     case rel=>exact ⟨i+1,by omega,HI2,HS,HB2⟩
    ·rw [hin] at hcon
     have hge:(0:Int)≤q:=of_decide_eq_true hcon.symm;clear hcon;have HE:Aside0 (Lib.indexAny (L s) (L sq)=i):=⟨Lib.indexAny_hit HN.out Hx.out hin⟩;clear hin;go_wp2_with (go_at_call 113;refine (Tryz.strings_IndexRune_ascii _ _ _ (by omega) (by omega)).mono ?_;rintro e w' ⟨rfl,hw⟩;rw [hw,hback,hq])
     go_ret
     exact ⟨(by rw [HE.out];rfl),HB2.out⟩
   ·obtain ⟨hd1,hd2⟩:=decode_high s i hi (by rw [hx];omega)
    have hd3:=decode_le s i;obtain ⟨hk1,hk2⟩:=decode_skip s i hi (by rw [hx];omega);generalize (Utf8.decode s i).2=n at hnx hd2 hk1 hk2;generalize (Utf8.decode s i).1=c at hnx hd1 hd3;have HI2:Aside0 ((iterTo wr w.heap.size s (i+n)).heap[w.heap.size]?=some (.stringIter s (i+n))):=⟨iterTo_at hI.out⟩;have HB2:Aside0 (Below w.heap.size w (iterTo wr w.heap.size s (i+n))):=⟨iterTo_below HB.out (Nat.le_refl _)⟩;have HS:Aside0 (Lib.NoAny (L s) (L sq) (i+n)):=⟨noAny_skip HN.out hk2⟩;have hlo:(128:Int)≤(c:Int):=by omega
    have hhi:(c:Int)≤2147483647:=by omega
    have HK:=A_ hk1;have HD:=A_ hd2;clear hx HB hI HN Hx hk1 hk2 hd1 hd2 hd3 hlt;generalize iterTo wr w.heap.size s (i+n)=w2 at hnx HI2 HB2;go_wp2_with (go_at_call 113;refine (indexRune_far _ _ hlo hhi).mono ?_;rintro e w' ⟨rfl,hb⟩)
    have HC:=A_ hb;clear hb;go_roundg (g+1 - n)
    case measure=>have:=HK.out;have:=HD.out;omega
    case rel=>exact ⟨i+n,(zz17 HK),⟨(HC.out.block _ (by obtain ⟨hl,_⟩:=Array.getElem?_eq_some_iff.1 HI2.out;exact hl)).trans HI2.out⟩,HS,⟨HB2.out.trans (HC.out.mono HB2.out.size)⟩⟩
theorem strings_IndexAny.calls (a0 a1:ByteArray) (r:Int) (w:World) (h:strings_IndexAny.f a0 a1=some r) :
  Calls Tryz.prog 97 #[.string a0,.string a1] w fun e w'=>e=.returned (.int .i64 r)∧Below w.heap.size w w':=by
 unfold strings_IndexAny.f at h
 split at h
 ·rename_i hh
  obtain rfl:=sI h;obtain rfl:a1=sq:=L_inj (by rw [hh.1];rfl);rcases Nat.lt_or_ge 8 a0.size with h8|h8
  ·refine (Tryz.strings_IndexAny_long (fun w=>by kernel_rfl) a0 sq w (by decide +kernel) h8 hh.2 (by decide +kernel) (fun j b hb=>?_)).mono fun e w' ⟨he,hw⟩=>⟨he,hw ▸ ((Below.refl _ _).alloc (Nat.le_refl _) _).alloc (by simp) _⟩
   have hb':([47,63]:List UInt8)[j]?=some b:=hb;match j,hb' with
   | 0,hb'=>injection hb' with hb';subst hb';decide
   | 1,hb'=>injection hb' with hb';subst hb';decide
  ·exact indexAny_few a0 w h8
 ·cases h
end Go.Proofs.YtnnciiiackinpaaGreatDoor.P
end
section
namespace Go.Proofs.YtnnciiiackinpaaGreatDoor.P
open Go.RowKit Go.Proofs.YtnnciiiackinpaaGreatDoorW.PrintWords Go.Proofs.YtnnciiiackinpaaGreatDoorW.PrintLast Go.Proofs.YtnnciiiackinpaaGreatDoorW.PrintMore
attribute [local go_sem] max2_int min2_int max_two min_two max_three min_three max_four min_four
set_option linter.unusedVariables false
set_option linter.unusedSimpArgs false
set_option maxHeartbeats 8000000
set_option maxRecDepth 100000
def impl_writePath.f (a0_0:ByteArray) (l0_1:List ByteArray) (a0_2:Bool) (a0_3:ByteArray):Option (ByteArray):=(strings_Join.f l0_1 (⟨#[47]⟩:ByteArray)).bind fun t466=>(if 1+t466.size≤9223372036854775807 then (if a0_2=true then (if 1+a0_3.size≤9223372036854775807 then (if 1+t466.size+1+a0_3.size≤9223372036854775807 then (some (((⟨#[47]⟩:ByteArray)++t466)++((⟨#[63]⟩:ByteArray)++a0_3))) else (none)) else (none)) else (some ((⟨#[47]⟩:ByteArray)++t466))) else (none))
theorem impl_writePath.calls (a0_0:ByteArray) (A0_1:Option Addr) (c0_1:Nat) (l0_1:List ByteArray) (a0_2:Bool) (a0_3:ByteArray) (r:ByteArray) (w:World) (hr0_1:Kd.C Kd.string w A0_1 l0_1.length l0_1) (hc0_1:l0_1.length≤c0_1) (h:impl_writePath.f a0_0 l0_1 a0_2 a0_3=some r) :
  Calls Tryz.prog 80 #[.agg #[.string a0_0,.slice A0_1 l0_1.length c0_1,.bool a0_2,.string a0_3]] w fun e w'=>e=.returned (.string r)∧Below w.heap.size w w':=by
 have hu48:=Tryz.underlying48;have HR0_1:=A_ hr0_1;have HC0_1:=A_ hc0_1;clear hr0_1 hc0_1;have HB:=A_ (Below.refl w.heap.size w);unfold impl_writePath.f at h
 have H:=h;clear h;replace H:=bindA H;obtain ⟨t466,A2,H⟩:=H;replace H:=iteE H;rcases H with ⟨c3,H⟩|⟨c3,H⟩
 ·have c3b0:=eq_true c3
  have c3b1:=dT c3;try have c3b2:(9223372036854775807 < 1+t466.size)=False:=eq_false (Nat.not_lt.2 c3)
  have HF4:=A_ H;clear H;go_enter Tryz.func80,Tryz.ntmps80;go_upto_if 9 with (first|(refine boxF 1 #[.string a0_0,.slice A0_1 l0_1.length c0_1,.bool a0_2,.string a0_3] 48 ?_;intro gb465 hg w5 BK465 hb;have GE465:=geB hg (zz0 HB);replace HB:=A_ (bS (zz0 HB) hb);clear hb hg;obtain ⟨_,_,_,_,_,_,_,_⟩:=cf4 BK465)|(refine gR 100 (some 6) Tryz.func100 (strings_Join.calls _ _ l0_1 (⟨#[47]⟩:ByteArray) t466 _ ?side1 ?side2 A2.out) ?_;(case side1=>exact (zz21 HR0_1 HB));(case side2=>exact HC0_1.out);rintro w7 hb;replace BK465:=A_ (bB (zz2 BK465) hb);replace HB:=A_ (bS (zz1 HB GE465) hb);(try clear hb);obtain ⟨_,_,_,_,_,_,_,_⟩:=cf4 BK465))
  obtain ⟨H⟩:=HF4;replace H:=iteB H;rcases H with ⟨rfl,H⟩|⟨rfl,H⟩
  ·replace H:=iteN H
   obtain ⟨c10,H⟩:=H;have c10b0:=eq_true c10;have c10b1:=dT c10;try have c10b2:(9223372036854775807 < 1+a0_3.size)=False:=eq_false (Nat.not_lt.2 c10)
   replace H:=iteN H;obtain ⟨c11,H⟩:=H;have c11b0:=eq_true c11;have c11b1:=dT c11;try have c11b2:(9223372036854775807 < 1+t466.size+1+a0_3.size)=False:=eq_false (Nat.not_lt.2 c11)
   obtain rfl:=sI H;obtain ⟨_,_,_,_,_,_,_,_⟩:=cf4 BK465;go_wp2
   go_ret
   exact ⟨zz5,(zz1 HB GE465)⟩
  ·obtain rfl:=sI H
   go_wp2
   go_ret
   exact ⟨zz5,(zz1 HB GE465)⟩
 ·exact absurd H (by simp)
def impl_writeAddr.f (a0_0:ByteArray) (l0_1:List ByteArray) (a0_2:Bool) (a0_3:ByteArray):Option (ByteArray):=if 2+a0_0.size≤9223372036854775807 then ((impl_writePath.f a0_0 l0_1 a0_2 a0_3).bind fun t468=>(if 2+a0_0.size+t468.size≤9223372036854775807 then (some (((⟨#[47,47]⟩:ByteArray)++a0_0)++t468)) else (none))) else (none)
theorem impl_writeAddr.calls (a0_0:ByteArray) (A0_1:Option Addr) (c0_1:Nat) (l0_1:List ByteArray) (a0_2:Bool) (a0_3:ByteArray) (r:ByteArray) (w:World) (hr0_1:Kd.C Kd.string w A0_1 l0_1.length l0_1) (hc0_1:l0_1.length≤c0_1) (h:impl_writeAddr.f a0_0 l0_1 a0_2 a0_3=some r) :
  Calls Tryz.prog 55 #[.agg #[.string a0_0,.slice A0_1 l0_1.length c0_1,.bool a0_2,.string a0_3]] w fun e w'=>e=.returned (.string r)∧Below w.heap.size w w':=by
 have hu48:=Tryz.underlying48;have HR0_1:=A_ hr0_1;have HC0_1:=A_ hc0_1;clear hr0_1 hc0_1;have HB:=A_ (Below.refl w.heap.size w);unfold impl_writeAddr.f at h
 have H:=h;clear h;replace H:=iteE H;rcases H with ⟨c2,H⟩|⟨c2,H⟩
 ·have c2b0:=eq_true c2
  have c2b1:=dT c2;try have c2b2:(9223372036854775807 < 2+a0_0.size)=False:=eq_false (Nat.not_lt.2 c2)
  replace H:=bindA H;obtain ⟨t468,A3,H⟩:=H;replace H:=iteN H;obtain ⟨c4,H⟩:=H;have c4b0:=eq_true c4;have c4b1:=dT c4;try have c4b2:(9223372036854775807 < 2+a0_0.size+t468.size)=False:=eq_false (Nat.not_lt.2 c4)
  obtain rfl:=sI H;go_enter Tryz.func55,Tryz.ntmps55;try go_wp2_with (first|(refine boxF 1 #[.string a0_0,.slice A0_1 l0_1.length c0_1,.bool a0_2,.string a0_3] 48 ?_;intro gb467 hg w5 BK467 hb;have GE467:=geB hg (zz0 HB);replace HB:=A_ (bS (zz0 HB) hb);clear hb hg))
  replace BK467:=A_ (blk_drew BK467.out);replace HB:=A_ (below_drew1 HB.out);refine start_ (n:=7) (S:=fun w'=>w'.cell? ⟨gb467,0,none⟩=some (.string a0_0)∧w'.cell? ⟨gb467,1,none⟩=some (.slice A0_1 l0_1.length c0_1)∧w'.cell? ⟨gb467,2,none⟩=some (.bool a0_2)∧w'.cell? ⟨gb467,3,none⟩=some (.string a0_3)) (ds:=[]) #[yF,yF,yF,yF,yF,yF,yF] (by kernel_rfl) rfl rfl ⟨(blk_cell BK467.out 0).trans rfl,(blk_cell BK467.out 1).trans rfl,(blk_cell BK467.out 2).trans rfl,(blk_cell BK467.out 3).trans rfl⟩ (fun hHeld=>?_);generalize w5.drew=w6 at BK467 HB hHeld ⊢;refine pureY 0 (some 3) (yA 1 6) ?_;refine takeY4 1 (some 4) (yA 2 5) hHeld ?_;refine pureY 2 (some 5) (yA 3 4) ?_;refine takeY4 3 (some 6) (yA 4 3) hHeld ?_;refine one_ (i:=4) (N:=some 7) (yA 5 2) rfl rfl (by kernel_rfl) (by decide) (fun K hK=>?_);refine goes_ Tryz.func80 (by kernel_rfl) rfl #[.agg #[.string a0_0,.slice A0_1 l0_1.length c0_1,.bool a0_2,.string a0_3]] (by rfl) rfl rfl zz39 ?_;with_reducible refine (impl_writePath.calls a0_0 _ _ l0_1 a0_2 a0_3 t468 _ ?side1 ?side2 A3.out).mono ?_
  (case side1=>exact (zz21 HR0_1 HB))
  (case side2=>exact HC0_1.out)
  rintro e w7 ⟨rfl,hb⟩;refine ⟨_,rfl,?_⟩;replace BK467:=A_ (bB (zz2 BK467) hb);replace HB:=A_ (bS (zz1 HB GE467) hb);(try clear hb)
  (try clear hb2)
  (try clear hk)
  (try clear hi)
  refine hK.out _ _ ⟨(blk_cell BK467.out 0).trans rfl,(blk_cell BK467.out 1).trans rfl,(blk_cell BK467.out 2).trans rfl,(blk_cell BK467.out 3).trans rfl⟩ (fun hHeld=>?_);clear hK K;refine nZ 7 ?_;refine pureY 5 (some 8) (yA 6 1) ?_;refine pureY 6 (some 2) (yA 7 0) ?_;refine done_ (by kernel_rfl) ?_;try go_wp2
  go_ret
  exact ⟨zz5,(zz1 HB GE467)⟩
 ·exact absurd H (by simp)
def stringslite_Cut.f (a0:ByteArray) (a1:ByteArray):Option (ByteArray×ByteArray×Bool):=(stringslite_Index.f a0 a1).bind fun t404=>(if t404 ≥ 0 then (if 0≤t404 then (if t404≤(a0.size:Int) then (if 0≤(wrap64 (t404+(a1.size:Int))) then (if (wrap64 (t404+(a1.size:Int)))≤(a0.size:Int) then (some (a0.extract 0 (t404:Int).toNat,a0.extract ((wrap64 (t404+(a1.size:Int))):Int).toNat a0.size,true)) else (none)) else (none)) else (none)) else (none)) else (some (a0,(⟨#[]⟩:ByteArray),false)))
theorem stringslite_Cut.calls (a0:ByteArray) (a1:ByteArray) (r1:ByteArray) (r2:ByteArray) (r3:Bool) (w:World) (h:stringslite_Cut.f a0 a1=some (r1,r2,r3)) :
  Calls Tryz.prog 95 #[.string a0,.string a1] w fun e w'=>e=.returned (.tuple #[.string r1,.string r2,.bool r3])∧Below w.heap.size w w':=by
 have HB:=A_ (Below.refl w.heap.size w);unfold stringslite_Cut.f at h
 have H:=h;clear h;replace H:=bindA H;obtain ⟨t404,A3,H⟩:=H;have HF4:=A_ H;clear H;go_enter Tryz.func95,Tryz.ntmps95;go_upto_if 12 with (first|(go_at_call 111;(with_reducible refine (stringslite_Index.calls a0 a1 t404 _ A3.out).mono ?_);rintro e w5 ⟨rfl,hb⟩;replace HB:=A_ (bS (zz0 HB) hb);(try clear hb)))
 repeat (go_quiet (first|(go_at_call 111;(with_reducible refine (stringslite_Index.calls a0 a1 t404 _ A3.out).mono ?_);rintro e w5 ⟨rfl,hb⟩;replace HB:=A_ (bS (zz0 HB) hb);(try clear hb)));go_upto_if 12 with (first|(go_at_call 111;(with_reducible refine (stringslite_Index.calls a0 a1 t404 _ A3.out).mono ?_);rintro e w5 ⟨rfl,hb⟩;replace HB:=A_ (bS (zz0 HB) hb);(try clear hb))))
 obtain ⟨H⟩:=HF4;replace H:=iteEe H;rcases H with ⟨c6b0,H⟩|⟨c6b0,H⟩
 ·(first|rw [c6b0]|(simp only [i64_w,i32_w];rw [c6b0])|skip)
  replace H:=iteN H;obtain ⟨c7,H⟩:=H;have c7b0:=eq_true c7;have c7b1:=dT c7;clear c7;replace H:=iteN H;obtain ⟨c8,H⟩:=H;have c8b0:=eq_true c8;have c8b1:=dT c8;clear c8;obtain ⟨ji9,hji9⟩:∃ j_:Int,(wrap64 (t404+(a1.size:Int)))=j_:=⟨_,rfl⟩;(first|rw [hji9] at H|simp only [hji9] at H)
  have hji9w:(IntKind.i64.wrap (t404+(a1.size:Int)))=ji9:=(i64_w _).trans hji9;replace H:=iteN H;obtain ⟨c10,H⟩:=H;have c10b0:=eq_true c10;have c10b1:=dT c10;clear c10;replace H:=iteN H;obtain ⟨c11,H⟩:=H;have c11b0:=eq_true c11;have c11b1:=dT c11;clear c11;simp only [Option.some.injEq,Prod.mk.injEq] at H
  obtain ⟨rfl,rfl,rfl⟩:=H;go_wp2
  repeat (go_quiet (fail);try go_wp2)
  go_ret3
  exact ⟨(by first|rfl|(simp [errW_none,errW_some] <;> rfl)|(simp only [← hji9];first|rfl|(simp [errW_none,errW_some] <;> rfl))|(simp [*,errW_none,errW_some] <;> rfl)),(zz0 HB)⟩
 ·(first|rw [c6b0]|(simp only [i64_w,i32_w];rw [c6b0])|skip)
  simp only [Option.some.injEq,Prod.mk.injEq] at H
  obtain ⟨rfl,rfl,rfl⟩:=H;go_wp2
  repeat (go_quiet (fail);try go_wp2)
  go_ret3
  exact ⟨zz5,(zz0 HB)⟩
def strings_Cut.f (a0:ByteArray) (a1:ByteArray):Option (ByteArray×ByteArray×Bool):=(stringslite_Cut.f a0 a1).bind fun bt405=>(some (bt405.1,bt405.2.1,bt405.2.2))
theorem strings_Cut.calls (a0:ByteArray) (a1:ByteArray) (r1:ByteArray) (r2:ByteArray) (r3:Bool) (w:World) (h:strings_Cut.f a0 a1=some (r1,r2,r3)) :
  Calls Tryz.prog 78 #[.string a0,.string a1] w fun e w'=>e=.returned (.tuple #[.string r1,.string r2,.bool r3])∧Below w.heap.size w w':=by
 have HB:=A_ (Below.refl w.heap.size w);unfold strings_Cut.f at h
 have H:=h;clear h;replace H:=bindA H;obtain ⟨⟨t405,t406,t407⟩,A3,H⟩:=H;try dsimp only at H
 simp only [Option.some.injEq,Prod.mk.injEq] at H
 obtain ⟨rfl,rfl,rfl⟩:=H;go_enter Tryz.func78,Tryz.ntmps78;go_wp2_with (first|(refine gR 95 (some 9) Tryz.func95 (stringslite_Cut.calls a0 a1 t405 t406 t407 _ A3.out) ?_;rintro w4 hb;replace HB:=A_ (bS (zz0 HB) hb);(try clear hb)))
 go_ret3
 exact ⟨zz5,(zz0 HB)⟩
end Go.Proofs.YtnnciiiackinpaaGreatDoor.P
end
