/- Part 3 of the proof of FnExactTripNext: the plain functions of what it reaches, that Go comes to just their answers, what they answer, and the words that the walks use; conditions: each theorem's own. -/
import Derived.Test.YteepbodnaameiaaGreatDoorZFnExactTripNextb
import Derived.Test.YteepbodnaameiaaGreatDoorZFnExactTripNexta
import Derived.OneCell
import Derived.Lib.ConvBytes
import Derived.Laws.RangeAny
import Derived.Laws.Runes
import Derived.Laws.RangeString
import Derived.Laws.Strings3
import Derived.Lib.IndexAny
import Derived.Lib.IndexBytes
import Derived.Deep.LoopGhost
import Derived.Deep.RegionHeld3
import Derived.LoopTactic

section
namespace Go.Proofs.YteepbodnaameiaaGreatDoor.P
open Go.RowKit Go.Proofs.YteepbodnaameiaaGreatDoorW.PrintWords Go.Proofs.YteepbodnaameiaaGreatDoorW.PrintLast Go.Proofs.YteepbodnaameiaaGreatDoorW.PrintMore
attribute [local go_sem] max2_int min2_int max_two min_two max_three min_three max_four min_four
set_option linter.unusedVariables false
set_option linter.unusedSimpArgs false
set_option maxHeartbeats 8000000
set_option maxRecDepth 100000
def laws_eqTrip.f (k:Nat) (a0_0:ByteArray) (a0_1:Int) (l0_2:List (S56)) (l0_3:List ByteArray) (l0_4:List (S45)) (a1_0:ByteArray) (a1_1:Int) (l1_2:List (S56)) (l1_3:List ByteArray) (l1_4:List (S45)):Option (Bool):=if a0_0.toList=a1_0.toList then (if a0_1=a1_1 then ((laws_eqHouseS.f k l0_2 l1_2).bind fun t619=>(if t619=true then ((laws_eqStringS.f k l0_3 l1_3).bind fun t620=>(if t620=true then ((laws_eqLookS.f k l0_4 l1_4).bind fun t621=>(if t621=true then (some true) else (some false))) else (some false))) else (some false))) else (some false)) else (some false)
theorem laws_eqTrip.calls (k:Nat) (a0_0:ByteArray) (a0_1:Int) (A0_2:Option Addr) (c0_2:Nat) (l0_2:List (S56)) (A0_3:Option Addr) (c0_3:Nat) (l0_3:List ByteArray) (A0_4:Option Addr) (c0_4:Nat) (l0_4:List (S45)) (a1_0:ByteArray) (a1_1:Int) (A1_2:Option Addr) (c1_2:Nat) (l1_2:List (S56)) (A1_3:Option Addr) (c1_3:Nat) (l1_3:List ByteArray) (A1_4:Option Addr) (c1_4:Nat) (l1_4:List (S45)) (r:Bool) (w:World) (hr0_2:Kd.C k56 w A0_2 l0_2.length l0_2) (hc0_2:l0_2.length≤c0_2) (hr0_3:Kd.C Kd.string w A0_3 l0_3.length l0_3) (hc0_3:l0_3.length≤c0_3) (hr0_4:Kd.C k45 w A0_4 l0_4.length l0_4) (hc0_4:l0_4.length≤c0_4) (hr1_2:Kd.C k56 w A1_2 l1_2.length l1_2) (hc1_2:l1_2.length≤c1_2) (hr1_3:Kd.C Kd.string w A1_3 l1_3.length l1_3) (hc1_3:l1_3.length≤c1_3) (hr1_4:Kd.C k45 w A1_4 l1_4.length l1_4) (hc1_4:l1_4.length≤c1_4) (h:laws_eqTrip.f k a0_0 a0_1 l0_2 l0_3 l0_4 a1_0 a1_1 l1_2 l1_3 l1_4=some r) :
  Calls Tryz.prog 10 #[.agg #[.string a0_0,.int .i64 a0_1,.slice A0_2 l0_2.length c0_2,.slice A0_3 l0_3.length c0_3,.slice A0_4 l0_4.length c0_4],.agg #[.string a1_0,.int .i64 a1_1,.slice A1_2 l1_2.length c1_2,.slice A1_3 l1_3.length c1_3,.slice A1_4 l1_4.length c1_4]] w fun e w'=>e=.returned (.bool r)∧Below w.heap.size w w':=by
 have hu32:=Tryz.underlying32;have HR0_2:=A_ hr0_2;have HC0_2:=A_ hc0_2;clear hr0_2 hc0_2;have HR0_3:=A_ hr0_3;have HC0_3:=A_ hc0_3;clear hr0_3 hc0_3;have HR0_4:=A_ hr0_4;have HC0_4:=A_ hc0_4;clear hr0_4 hc0_4;have HR1_2:=A_ hr1_2;have HC1_2:=A_ hc1_2;clear hr1_2 hc1_2;have HR1_3:=A_ hr1_3;have HC1_3:=A_ hc1_3;clear hr1_3 hc1_3;have HR1_4:=A_ hr1_4;have HC1_4:=A_ hc1_4;clear hr1_4 hc1_4;have HB:=A_ (Below.refl w.heap.size w);unfold laws_eqTrip.f at h
 have H:=h;clear h;have HF3:=A_ H;clear H;go_enter Tryz.func10,Tryz.ntmps10;go_upto_if 9 with (first|(refine boxF 2 #[.string a0_0,.int .i64 a0_1,.slice A0_2 l0_2.length c0_2,.slice A0_3 l0_3.length c0_3,.slice A0_4 l0_4.length c0_4] 32 ?_;intro gb617 hg w4 BK617 hb;have GE617:=geB hg (zz0 HB);replace HB:=A_ (bS (zz0 HB) hb);clear hb hg)|(refine boxF 3 #[.string a1_0,.int .i64 a1_1,.slice A1_2 l1_2.length c1_2,.slice A1_3 l1_3.length c1_3,.slice A1_4 l1_4.length c1_4] 32 ?_;intro gb618 hg w5 BK618 hb;have GE618:=geB hg (zz1 HB GE617);replace HB:=A_ (bS (zz1 HB GE617) hb);have NB617_618:=A_ ((by rw [hg];exact Nat.ne_of_lt (blk_lt (zz2 BK617)):gb617≠gb618));have NB618_617:=A_ ((by rw [hg];exact Nat.ne_of_gt (blk_lt (zz2 BK617)):gb618≠gb617));replace BK617:=A_ (bB (zz2 BK617) hb);clear hb hg;have hnb6:=NB617_618.out;have hnc6:=NB618_617.out;obtain ⟨_,_,_,_,_,_,_,_,_,_⟩:=cf5 BK617;obtain ⟨_,_,_,_,_,_,_,_,_,_⟩:=cf5 BK618))
 obtain ⟨H⟩:=HF3;replace H:=iteEq H;rcases H with ⟨c9b0,c9b1,H⟩|⟨c9b0,c9b1,c9,H⟩
 ·(first|rw [c9b0]|(simp only [i64_w,i32_w];rw [c9b0])|skip)
  replace H:=iteEq H;rcases H with ⟨c10b0,c10b1,H⟩|⟨c10b0,c10b1,c10,H⟩
  ·replace H:=bindA H
   obtain ⟨t619,A11,H⟩:=H;have HF12:=A_ H;clear H;have hnb13:=NB617_618.out;have hnc13:=NB618_617.out;obtain ⟨_,_,_,_,_,_,_,_,_,_⟩:=cf5 BK617;obtain ⟨_,_,_,_,_,_,_,_,_,_⟩:=cf5 BK618;go_upto_if 20 with (first|(refine gR 32 (some 19) Tryz.func32 (laws_eqHouseS.calls k _ _ l0_2 _ _ l1_2 t619 _ ?side1 ?side2 ?side3 ?side4 A11.out) ?_;(case side1=>exact (zz21 HR0_2 HB));(case side2=>exact HC0_2.out);(case side3=>exact (zz21 HR1_2 HB));(case side4=>exact HC1_2.out);rintro w16 hb;replace BK617:=A_ (bB (zz2 BK617) hb);replace BK618:=A_ (bB (zz2 BK618) hb);replace HB:=A_ (bS (zz3 HB GE617 GE618) hb);(try clear hb)))
   obtain ⟨H⟩:=HF12;replace H:=iteB H;rcases H with ⟨rfl,H⟩|⟨rfl,H⟩
   ·replace H:=bindA H
    obtain ⟨t620,A18,H⟩:=H;have HF19:=A_ H;clear H;have hnb20:=NB617_618.out;have hnc20:=NB618_617.out;obtain ⟨_,_,_,_,_,_,_,_,_,_⟩:=cf5 BK617;obtain ⟨_,_,_,_,_,_,_,_,_,_⟩:=cf5 BK618;go_upto_if 26 with (first|(refine gR 33 (some 25) Tryz.func33 (laws_eqStringS.calls k _ _ l0_3 _ _ l1_3 t620 _ ?side1 ?side2 ?side3 ?side4 A18.out) ?_;(case side1=>exact (zz21 HR0_3 HB));(case side2=>exact HC0_3.out);(case side3=>exact (zz21 HR1_3 HB));(case side4=>exact HC1_3.out);rintro w' ⟨nd,rfl⟩))
    obtain ⟨H⟩:=HF19;replace H:=iteB H;rcases H with ⟨rfl,H⟩|⟨rfl,H⟩
    ·replace H:=bindA H
     obtain ⟨t621,A24,H⟩:=H;have HF25:=A_ H;clear H;have hnb26:=NB617_618.out;have hnc26:=NB618_617.out;obtain ⟨_,_,_,_,_,_,_,_,_,_⟩:=cf5 BK617;obtain ⟨_,_,_,_,_,_,_,_,_,_⟩:=cf5 BK618;go_upto_if 32 with (first|(refine gR 34 (some 31) Tryz.func34 (laws_eqLookS.calls k _ _ l0_4 _ _ l1_4 t621 _ ?side1 ?side2 ?side3 ?side4 A24.out) ?_;(case side1=>exact (zz21 HR0_4 HB));(case side2=>exact HC0_4.out);(case side3=>exact (zz21 HR1_4 HB));(case side4=>exact HC1_4.out);rintro w29 hb;replace BK617:=A_ (bB (zz2 BK617) hb);replace BK618:=A_ (bB (zz2 BK618) hb);replace HB:=A_ (bS (zz3 HB GE617 GE618) hb);(try clear hb)))
     obtain ⟨H⟩:=HF25;replace H:=iteB H;rcases H with ⟨rfl,H⟩|⟨rfl,H⟩
     ·obtain rfl:=sI H
      go_wp2
      go_ret
      exact ⟨zz5,(zz3 HB GE617 GE618)⟩
     ·obtain rfl:=sI H
      go_wp2
      go_ret
      exact ⟨zz5,(zz3 HB GE617 GE618)⟩
    ·obtain rfl:=sI H
     go_wp2
     go_ret
     exact ⟨zz5,(zz3 HB GE617 GE618)⟩
   ·obtain rfl:=sI H
    go_wp2
    go_ret
    exact ⟨zz5,(zz3 HB GE617 GE618)⟩
  ·obtain rfl:=sI H
   have hnb31:=NB617_618.out;have hnc31:=NB618_617.out;obtain ⟨_,_,_,_,_,_,_,_,_,_⟩:=cf5 BK617;obtain ⟨_,_,_,_,_,_,_,_,_,_⟩:=cf5 BK618;go_wp2
   go_ret
   exact ⟨zz5,(zz3 HB GE617 GE618)⟩
 ·(first|rw [c9b0]|(simp only [i64_w,i32_w];rw [c9b0])|skip)
  obtain rfl:=sI H;go_wp2
  go_ret
  exact ⟨zz5,(zz3 HB GE617 GE618)⟩
def laws_szStringS.l0:Nat→List ByteArray→Int→Int→Option (Int)
 | 0,_,_,_=>none
 | k+1,x0,x1,x5=>if x5 < (x0.length:Int) then (if 0≤x5 then (if (wrap64 (x1 - ((rdOf ByteArray.empty x0 x5).size:Int))) < 0 then (some (-1)) else (laws_szStringS.l0 k x0 (wrap64 (x1 - ((rdOf ByteArray.empty x0 x5).size:Int))) (wrap64 (x5+1)))) else (none)) else (some x1)
def laws_szStringS.f (k:Nat) (l0:List ByteArray) (a1:Int):Option (Int):=if (wrap64 (a1 - (l0.length:Int))) < 0 then (some (-1)) else (laws_szStringS.l0 k l0 (wrap64 (a1 - (l0.length:Int))) 0)
theorem laws_szStringS.calls (k:Nat) (A0:Option Addr) (c0:Nat) (l0:List ByteArray) (a1:Int) (r:Int) (w:World) (hr0:Kd.C Kd.string w A0 l0.length l0) (hc0:l0.length≤c0) (h:laws_szStringS.f k l0 a1=some r) :
  Calls Tryz.prog 16 #[.slice A0 l0.length c0,.int .i64 a1] w fun e w'=>e=.returned (.int .i64 r)∧Drawn0 w w':=by
 have HR0:=A_ hr0;have HC0:=A_ hc0;clear hr0 hc0;unfold laws_szStringS.f at h
 have H:=h;clear h;replace H:=iteEd H;rcases H with ⟨c3b0,H⟩|⟨c3b0,H⟩
 ·obtain rfl:=sI H
  go_enter Tryz.func16,Tryz.ntmps16;go_wp2
  go_ret
  exact ⟨zz7,zz8⟩
 ·have H':=A_ H
  clear H;go_enter Tryz.func16,Tryz.ntmps16;go_wp2
  go_loopg [1,5] k (fun kq v1 v5 w'=>∃ (x1_1:Int) (x5_1:Int),v1=.int .i64 x1_1∧v5=.int .i64 x5_1∧Aside0 (laws_szStringS.l0 kq l0 x1_1 x5_1=some r)∧Aside0 (kq≤k)∧Drawn0 w w')
  case atStart=>exact ⟨(wrap64 (a1 - (l0.length:Int))),(0),zz7,zz7,H',⟨Nat.le_refl _⟩,zz8⟩
  case round=>
   clear H';obtain ⟨x1_1,x5_1,rfl,rfl,HA,HK1,⟨m1,rfl⟩⟩:=hrel;cases gk with
   | zero=>exact absurd HA.out (by simp [laws_szStringS.l0])
   | succ k1=>
    obtain ⟨H⟩:=HA;simp only [laws_szStringS.l0] at H
    replace H:=iteEd H;rcases H with ⟨c4b0,H⟩|⟨c4b0,H⟩
    ·replace H:=iteNd H
     obtain ⟨c5b0,H⟩:=H;replace H:=iteEd H;rcases H with ⟨c6b0,H⟩|⟨c6b0,H⟩
     ·obtain rfl:=sI H
      obtain ⟨⟨ad101,e101,hx101_0⟩,p101,q101⟩:=atB (Kd.at_string HR0.out x5_1);cases e101
      go_wp2
      go_ret
      exact ⟨zz7,zz8⟩
     ·have H':=A_ H
      clear H;obtain ⟨⟨ad101,e101,hx101_0⟩,p101,q101⟩:=atB (Kd.at_string HR0.out x5_1);cases e101
      go_wp2
      go_roundg k1
      case measure=>have:=HK1.out;omega
      case rel=>exact ⟨(wrap64 (x1_1 - ((rdOf ByteArray.empty l0 x5_1).size:Int))),(wrap64 (x5_1+1)),zz7,zz7,H',⟨(zz17 HK1)⟩,zz8⟩
    ·obtain rfl:=sI H
     go_wp2
     go_ret
     exact ⟨zz7,zz8⟩
def laws_szRuleS.l0:Nat→List (S122)→Int→Int→Option (Int)
 | 0,_,_,_=>none
 | k+1,x0,x1,x5=>if x5 < (x0.length:Int) then (if 0≤x5 then ((laws_szRule.f ((rd_T122 x0 x5).f0) ((rd_T122 x0 x5).f1) x1).bind fun t104=>(if t104 < 0 then (some (-1)) else (laws_szRuleS.l0 k x0 t104 (wrap64 (x5+1))))) else (none)) else (some x1)
def laws_szRuleS.f (k:Nat) (l0:List (S122)) (a1:Int):Option (Int):=if (wrap64 (a1 - (l0.length:Int))) < 0 then (some (-1)) else (laws_szRuleS.l0 k l0 (wrap64 (a1 - (l0.length:Int))) 0)
theorem laws_szRuleS.calls (k:Nat) (A0:Option Addr) (c0:Nat) (l0:List (S122)) (a1:Int) (r:Int) (w:World) (hr0:Kd.C k122 w A0 l0.length l0) (hc0:l0.length≤c0) (h:laws_szRuleS.f k l0 a1=some r) :
  Calls Tryz.prog 76 #[.slice A0 l0.length c0,.int .i64 a1] w fun e w'=>e=.returned (.int .i64 r)∧Below w.heap.size w w':=by
 have hu122:=Tryz.underlying122;have HR0:=A_ hr0;have HC0:=A_ hc0;clear hr0 hc0;have HB:=A_ (Below.refl w.heap.size w);unfold laws_szRuleS.f at h
 have H:=h;clear h;replace H:=iteEd H;rcases H with ⟨c3b0,H⟩|⟨c3b0,H⟩
 ·obtain rfl:=sI H
  go_enter Tryz.func76,Tryz.ntmps76;go_wp2
  go_ret
  exact ⟨zz5,(zz0 HB)⟩
 ·have H':=A_ H
  clear H;go_enter Tryz.func76,Tryz.ntmps76;go_wp2
  go_loopg [1,5] k (fun kq v1 v5 w'=>∃ (x1_1:Int) (x5_1:Int),v1=.int .i64 x1_1∧v5=.int .i64 x5_1∧Aside0 (laws_szRuleS.l0 kq l0 x1_1 x5_1=some r)∧Aside0 (kq≤k)∧Aside0 (Below w.heap.size w w'))
  case atStart=>exact ⟨(wrap64 (a1 - (l0.length:Int))),(0),zz7,zz7,H',⟨Nat.le_refl _⟩,⟨(zz0 HB)⟩⟩
  case round=>
   clear H';obtain ⟨x1_1,x5_1,rfl,rfl,HA,HK1,HB⟩:=hrel;cases gk with
   | zero=>exact absurd HA.out (by simp [laws_szRuleS.l0])
   | succ k1=>
    obtain ⟨H⟩:=HA;simp only [laws_szRuleS.l0] at H
    replace H:=iteEd H;rcases H with ⟨c4b0,H⟩|⟨c4b0,H⟩
    ·replace H:=iteNd H
     obtain ⟨c5b0,H⟩:=H;replace H:=bindA H;obtain ⟨t104,A6,H⟩:=H;have HF7:=A_ H;clear H;obtain ⟨⟨ad103,e103,hx103_0,hx103_1⟩,p103,q103⟩:=atB (at_T122 HR0.out x5_1);cases e103
     obtain ⟨hx103_0,hx103_1⟩:=cb2 HB hx103_0 hx103_1;go_upto_if 25 with (first|(refine gR 91 (some 23) Tryz.func91 (laws_szRule.calls ((rd_T122 l0 x5_1).f0) ((rd_T122 l0 x5_1).f1) x1_1 t104 _ A6.out) ?_;rintro w8 hb;replace HB:=A_ (bS (zz0 HB) hb);(try clear hb)))
     obtain ⟨H⟩:=HF7;replace H:=iteEd H;rcases H with ⟨c9b0,H⟩|⟨c9b0,H⟩
     ·(first|rw [c9b0]|(simp only [i64_w,i32_w];rw [c9b0])|skip)
      obtain rfl:=sI H;go_wp2
      go_ret
      exact ⟨zz5,(zz0 HB)⟩
     ·(first|rw [c9b0]|(simp only [i64_w,i32_w];rw [c9b0])|skip)
      have H':=A_ H;clear H;go_wp2
      go_roundg k1
      case measure=>have:=HK1.out;omega
      case rel=>exact ⟨(t104),(wrap64 (x5_1+1)),zz7,zz7,H',⟨(zz17 HK1)⟩,⟨(zz0 HB)⟩⟩
    ·obtain rfl:=sI H
     go_wp2
     go_ret
     exact ⟨zz5,(zz0 HB)⟩
def laws_szGroup.f (k:Nat) (l0_0:List ByteArray) (l0_1:List (S122)) (a0_2:Int) (a1:Int):Option (Int):=(laws_szStringS.f k l0_0 a1).bind fun t106=>(if t106 < 0 then (some (-1)) else ((laws_szRuleS.f k l0_1 t106).bind fun t107=>(if t107 < 0 then (some (-1)) else (some t107))))
theorem laws_szGroup.calls (k:Nat) (A0_0:Option Addr) (c0_0:Nat) (l0_0:List ByteArray) (A0_1:Option Addr) (c0_1:Nat) (l0_1:List (S122)) (a0_2:Int) (a1:Int) (r:Int) (w:World) (hr0_0:Kd.C Kd.string w A0_0 l0_0.length l0_0) (hc0_0:l0_0.length≤c0_0) (hr0_1:Kd.C k122 w A0_1 l0_1.length l0_1) (hc0_1:l0_1.length≤c0_1) (h:laws_szGroup.f k l0_0 l0_1 a0_2 a1=some r) :
  Calls Tryz.prog 60 #[.agg #[.slice A0_0 l0_0.length c0_0,.slice A0_1 l0_1.length c0_1,.int .i64 a0_2],.int .i64 a1] w fun e w'=>e=.returned (.int .i64 r)∧Below w.heap.size w w':=by
 have hu68:=Tryz.underlying68;have HR0_0:=A_ hr0_0;have HC0_0:=A_ hc0_0;clear hr0_0 hc0_0;have HR0_1:=A_ hr0_1;have HC0_1:=A_ hc0_1;clear hr0_1 hc0_1;have HB:=A_ (Below.refl w.heap.size w);unfold laws_szGroup.f at h
 have H:=h;clear h;replace H:=bindA H;obtain ⟨t106,A3,H⟩:=H;have HF4:=A_ H;clear H;go_enter Tryz.func60,Tryz.ntmps60;go_upto_if 10 with (first|(refine boxF 2 #[.slice A0_0 l0_0.length c0_0,.slice A0_1 l0_1.length c0_1,.int .i64 a0_2] 68 ?_;intro gb105 hg w5 BK105 hb;have GE105:=geB hg (zz0 HB);replace HB:=A_ (bS (zz0 HB) hb);clear hb hg;obtain ⟨_,_,_,_,_,_⟩:=cf3 BK105)|(refine gR 16 (some 8) Tryz.func16 (laws_szStringS.calls k _ _ l0_0 a1 t106 _ ?side1 ?side2 A3.out) ?_;(case side1=>exact (zz21 HR0_0 HB));(case side2=>exact HC0_0.out);rintro w' ⟨nd,rfl⟩))
 obtain ⟨H⟩:=HF4;replace H:=iteEd H;rcases H with ⟨c7b0,H⟩|⟨c7b0,H⟩
 ·(first|rw [c7b0]|(simp only [i64_w,i32_w];rw [c7b0])|skip)
  obtain rfl:=sI H;go_wp2
  go_ret
  exact ⟨zz5,(zz1 HB GE105)⟩
 ·(first|rw [c7b0]|(simp only [i64_w,i32_w];rw [c7b0])|skip)
  replace H:=bindA H;obtain ⟨t107,A8,H⟩:=H;have HF9:=A_ H;clear H;obtain ⟨_,_,_,_,_,_⟩:=cf3 BK105;go_upto_if 16 with (first|(refine gR 76 (some 14) Tryz.func76 (laws_szRuleS.calls k _ _ l0_1 t106 t107 _ ?side1 ?side2 A8.out) ?_;(case side1=>exact (zz21 HR0_1 HB));(case side2=>exact HC0_1.out);rintro w11 hb;replace BK105:=A_ (bB (zz2 BK105) hb);replace HB:=A_ (bS (zz1 HB GE105) hb);(try clear hb)))
  obtain ⟨H⟩:=HF9;replace H:=iteEd H;rcases H with ⟨c12b0,H⟩|⟨c12b0,H⟩
  ·(first|rw [c12b0]|(simp only [i64_w,i32_w];rw [c12b0])|skip)
   obtain rfl:=sI H;go_wp2
   go_ret
   exact ⟨zz5,(zz1 HB GE105)⟩
  ·(first|rw [c12b0]|(simp only [i64_w,i32_w];rw [c12b0])|skip)
   obtain rfl:=sI H;go_wp2
   go_ret
   exact ⟨zz5,(zz1 HB GE105)⟩
def laws_szItemS.l0:Nat→List (S112)→Int→Int→Option (Int)
 | 0,_,_,_=>none
 | k+1,x0,x1,x5=>if x5 < (x0.length:Int) then (if 0≤x5 then ((laws_szItem.f ((rd_T112 x0 x5).f0) ((rd_T112 x0 x5).f1) x1).bind fun t110=>(if t110 < 0 then (some (-1)) else (laws_szItemS.l0 k x0 t110 (wrap64 (x5+1))))) else (none)) else (some x1)
def laws_szItemS.f (k:Nat) (l0:List (S112)) (a1:Int):Option (Int):=if (wrap64 (a1 - (l0.length:Int))) < 0 then (some (-1)) else (laws_szItemS.l0 k l0 (wrap64 (a1 - (l0.length:Int))) 0)
theorem laws_szItemS.calls (k:Nat) (A0:Option Addr) (c0:Nat) (l0:List (S112)) (a1:Int) (r:Int) (w:World) (hr0:Kd.C k112 w A0 l0.length l0) (hc0:l0.length≤c0) (h:laws_szItemS.f k l0 a1=some r) :
  Calls Tryz.prog 61 #[.slice A0 l0.length c0,.int .i64 a1] w fun e w'=>e=.returned (.int .i64 r)∧Below w.heap.size w w':=by
 have hu112:=Tryz.underlying112;have HR0:=A_ hr0;have HC0:=A_ hc0;clear hr0 hc0;have HB:=A_ (Below.refl w.heap.size w);unfold laws_szItemS.f at h
 have H:=h;clear h;replace H:=iteEd H;rcases H with ⟨c3b0,H⟩|⟨c3b0,H⟩
 ·obtain rfl:=sI H
  go_enter Tryz.func61,Tryz.ntmps61;go_wp2
  go_ret
  exact ⟨zz5,(zz0 HB)⟩
 ·have H':=A_ H
  clear H;go_enter Tryz.func61,Tryz.ntmps61;go_wp2
  go_loopg [1,5] k (fun kq v1 v5 w'=>∃ (x1_1:Int) (x5_1:Int),v1=.int .i64 x1_1∧v5=.int .i64 x5_1∧Aside0 (laws_szItemS.l0 kq l0 x1_1 x5_1=some r)∧Aside0 (kq≤k)∧Aside0 (Below w.heap.size w w'))
  case atStart=>exact ⟨(wrap64 (a1 - (l0.length:Int))),(0),zz7,zz7,H',⟨Nat.le_refl _⟩,⟨(zz0 HB)⟩⟩
  case round=>
   clear H';obtain ⟨x1_1,x5_1,rfl,rfl,HA,HK1,HB⟩:=hrel;cases gk with
   | zero=>exact absurd HA.out (by simp [laws_szItemS.l0])
   | succ k1=>
    obtain ⟨H⟩:=HA;simp only [laws_szItemS.l0] at H
    replace H:=iteEd H;rcases H with ⟨c4b0,H⟩|⟨c4b0,H⟩
    ·replace H:=iteNd H
     obtain ⟨c5b0,H⟩:=H;replace H:=bindA H;obtain ⟨t110,A6,H⟩:=H;have HF7:=A_ H;clear H;obtain ⟨⟨ad109,e109,hx109_0,hx109_1⟩,p109,q109⟩:=atB (at_T112 HR0.out x5_1);cases e109
     obtain ⟨hx109_0,hx109_1⟩:=cb2 HB hx109_0 hx109_1;go_upto_if 25 with (first|(refine gR 77 (some 23) Tryz.func77 (laws_szItem.calls ((rd_T112 l0 x5_1).f0) ((rd_T112 l0 x5_1).f1) x1_1 t110 _ A6.out) ?_;rintro w8 hb;replace HB:=A_ (bS (zz0 HB) hb);(try clear hb)))
     obtain ⟨H⟩:=HF7;replace H:=iteEd H;rcases H with ⟨c9b0,H⟩|⟨c9b0,H⟩
     ·(first|rw [c9b0]|(simp only [i64_w,i32_w];rw [c9b0])|skip)
      obtain rfl:=sI H;go_wp2
      go_ret
      exact ⟨zz5,(zz0 HB)⟩
     ·(first|rw [c9b0]|(simp only [i64_w,i32_w];rw [c9b0])|skip)
      have H':=A_ H;clear H;go_wp2
      go_roundg k1
      case measure=>have:=HK1.out;omega
      case rel=>exact ⟨(t110),(wrap64 (x5_1+1)),zz7,zz7,H',⟨(zz17 HK1)⟩,⟨(zz0 HB)⟩⟩
    ·obtain rfl:=sI H
     go_wp2
     go_ret
     exact ⟨zz5,(zz0 HB)⟩
def laws_szHouse.f (k:Nat) (a0_0:ByteArray) (a0_1:Int) (a0_2:Bool) (l0_3:List ByteArray) (l0_4:List (S122)) (a0_5:Int) (a0_6:Int) (l0_7:List (S112)) (a1:Int):Option (Int):=if (wrap64 (a1 - (a0_0.size:Int))) < 0 then (some (-1)) else ((laws_szGroup.f k l0_3 l0_4 a0_5 (wrap64 (a1 - (a0_0.size:Int)))).bind fun t112=>(if t112 < 0 then (some (-1)) else ((laws_szItemS.f k l0_7 t112).bind fun t113=>(if t113 < 0 then (some (-1)) else (some t113)))))
theorem laws_szHouse.calls (k:Nat) (a0_0:ByteArray) (a0_1:Int) (a0_2:Bool) (A0_3:Option Addr) (c0_3:Nat) (l0_3:List ByteArray) (A0_4:Option Addr) (c0_4:Nat) (l0_4:List (S122)) (a0_5:Int) (a0_6:Int) (A0_7:Option Addr) (c0_7:Nat) (l0_7:List (S112)) (a1:Int) (r:Int) (w:World) (hr0_3:Kd.C Kd.string w A0_3 l0_3.length l0_3) (hc0_3:l0_3.length≤c0_3) (hr0_4:Kd.C k122 w A0_4 l0_4.length l0_4) (hc0_4:l0_4.length≤c0_4) (hr0_7:Kd.C k112 w A0_7 l0_7.length l0_7) (hc0_7:l0_7.length≤c0_7) (h:laws_szHouse.f k a0_0 a0_1 a0_2 l0_3 l0_4 a0_5 a0_6 l0_7 a1=some r) :
  Calls Tryz.prog 38 #[.agg #[.string a0_0,.int .i64 a0_1,.bool a0_2,.slice A0_3 l0_3.length c0_3,.slice A0_4 l0_4.length c0_4,.int .i64 a0_5,.int .i64 a0_6,.slice A0_7 l0_7.length c0_7],.int .i64 a1] w fun e w'=>e=.returned (.int .i64 r)∧Below w.heap.size w w':=by
 have hu71:=Tryz.underlying71;have hu68:=Tryz.underlying68;have HR0_3:=A_ hr0_3;have HC0_3:=A_ hc0_3;clear hr0_3 hc0_3;have HR0_4:=A_ hr0_4;have HC0_4:=A_ hc0_4;clear hr0_4 hc0_4;have HR0_7:=A_ hr0_7;have HC0_7:=A_ hc0_7;clear hr0_7 hc0_7;have HB:=A_ (Below.refl w.heap.size w);unfold laws_szHouse.f at h
 have H:=h;clear h;have HF3:=A_ H;clear H;go_enter Tryz.func38,Tryz.ntmps38;go_upto_if 11 with (first|(refine boxF 2 #[.string a0_0,.int .i64 a0_1,.bool a0_2,.slice A0_3 l0_3.length c0_3,.slice A0_4 l0_4.length c0_4,.int .i64 a0_5,.int .i64 a0_6,.slice A0_7 l0_7.length c0_7] 71 ?_;intro gb111 hg w4 BK111 hb;have GE111:=geB hg (zz0 HB);replace HB:=A_ (bS (zz0 HB) hb);clear hb hg;have hcz5_0:w4.cell? ⟨gb111,0,none⟩=some (.string a0_0):=(blk_cell BK111.out 0).trans rfl;have hcz5_1:w4.cell? ⟨gb111,1,none⟩=some (.int .i64 a0_1):=(blk_cell BK111.out 1).trans rfl;have hcz5_2:w4.cell? ⟨gb111,2,none⟩=some (.bool a0_2):=(blk_cell BK111.out 2).trans rfl;have hcz5_3:w4.cell? ⟨gb111,3,none⟩=some (.slice A0_3 l0_3.length c0_3):=(blk_cell BK111.out 3).trans rfl;have hcz5_4:w4.cell? ⟨gb111,4,none⟩=some (.slice A0_4 l0_4.length c0_4):=(blk_cell BK111.out 4).trans rfl;have hcz5_5:w4.cell? ⟨gb111,5,none⟩=some (.int .i64 a0_5):=(blk_cell BK111.out 5).trans rfl;have hcz5_6:w4.cell? ⟨gb111,6,none⟩=some (.int .i64 a0_6):=(blk_cell BK111.out 6).trans rfl;have hcz5_7:w4.cell? ⟨gb111,7,none⟩=some (.slice A0_7 l0_7.length c0_7):=(blk_cell BK111.out 7).trans rfl;have hfz5_0:=blk_frozen BK111.out 0;have hfz5_1:=blk_frozen BK111.out 1;have hfz5_2:=blk_frozen BK111.out 2;have hfz5_3:=blk_frozen BK111.out 3;have hfz5_4:=blk_frozen BK111.out 4;have hfz5_5:=blk_frozen BK111.out 5;have hfz5_6:=blk_frozen BK111.out 6;have hfz5_7:=blk_frozen BK111.out 7))
 obtain ⟨H⟩:=HF3;replace H:=iteEd H;rcases H with ⟨c6b0,H⟩|⟨c6b0,H⟩
 ·(first|rw [c6b0]|(simp only [i64_w,i32_w];rw [c6b0])|skip)
  obtain rfl:=sI H;go_wp2
  go_ret
  exact ⟨zz5,(zz1 HB GE111)⟩
 ·(first|rw [c6b0]|(simp only [i64_w,i32_w];rw [c6b0])|skip)
  replace H:=bindA H;obtain ⟨t112,A7,H⟩:=H;have HF8:=A_ H;clear H;have hcz9_0:w4.cell? ⟨gb111,0,none⟩=some (.string a0_0):=(blk_cell BK111.out 0).trans rfl;have hcz9_1:w4.cell? ⟨gb111,1,none⟩=some (.int .i64 a0_1):=(blk_cell BK111.out 1).trans rfl;have hcz9_2:w4.cell? ⟨gb111,2,none⟩=some (.bool a0_2):=(blk_cell BK111.out 2).trans rfl;have hcz9_3:w4.cell? ⟨gb111,3,none⟩=some (.slice A0_3 l0_3.length c0_3):=(blk_cell BK111.out 3).trans rfl;have hcz9_4:w4.cell? ⟨gb111,4,none⟩=some (.slice A0_4 l0_4.length c0_4):=(blk_cell BK111.out 4).trans rfl;have hcz9_5:w4.cell? ⟨gb111,5,none⟩=some (.int .i64 a0_5):=(blk_cell BK111.out 5).trans rfl;have hcz9_6:w4.cell? ⟨gb111,6,none⟩=some (.int .i64 a0_6):=(blk_cell BK111.out 6).trans rfl;have hcz9_7:w4.cell? ⟨gb111,7,none⟩=some (.slice A0_7 l0_7.length c0_7):=(blk_cell BK111.out 7).trans rfl;have hfz9_0:=blk_frozen BK111.out 0;have hfz9_1:=blk_frozen BK111.out 1;have hfz9_2:=blk_frozen BK111.out 2;have hfz9_3:=blk_frozen BK111.out 3;have hfz9_4:=blk_frozen BK111.out 4;have hfz9_5:=blk_frozen BK111.out 5;have hfz9_6:=blk_frozen BK111.out 6;have hfz9_7:=blk_frozen BK111.out 7;go_upto_if 17 with (first|(refine gR 60 (some 15) Tryz.func60 (laws_szGroup.calls k _ _ l0_3 _ _ l0_4 a0_5 (wrap64 (a1 - (a0_0.size:Int))) t112 _ ?side1 ?side2 ?side3 ?side4 A7.out) ?_;(case side1=>exact (zz21 HR0_3 HB));(case side2=>exact HC0_3.out);(case side3=>exact (zz21 HR0_4 HB));(case side4=>exact HC0_4.out);rintro w10 hb;replace BK111:=A_ (bB (zz2 BK111) hb);replace HB:=A_ (bS (zz1 HB GE111) hb);(try clear hb)))
  obtain ⟨H⟩:=HF8;replace H:=iteEd H;rcases H with ⟨c11b0,H⟩|⟨c11b0,H⟩
  ·(first|rw [c11b0]|(simp only [i64_w,i32_w];rw [c11b0])|skip)
   obtain rfl:=sI H;go_wp2
   go_ret
   exact ⟨zz5,(zz1 HB GE111)⟩
  ·(first|rw [c11b0]|(simp only [i64_w,i32_w];rw [c11b0])|skip)
   replace H:=bindA H;obtain ⟨t113,A12,H⟩:=H;have HF13:=A_ H;clear H;have hcz14_0:w10.cell? ⟨gb111,0,none⟩=some (.string a0_0):=(blk_cell BK111.out 0).trans rfl;have hcz14_1:w10.cell? ⟨gb111,1,none⟩=some (.int .i64 a0_1):=(blk_cell BK111.out 1).trans rfl;have hcz14_2:w10.cell? ⟨gb111,2,none⟩=some (.bool a0_2):=(blk_cell BK111.out 2).trans rfl;have hcz14_3:w10.cell? ⟨gb111,3,none⟩=some (.slice A0_3 l0_3.length c0_3):=(blk_cell BK111.out 3).trans rfl;have hcz14_4:w10.cell? ⟨gb111,4,none⟩=some (.slice A0_4 l0_4.length c0_4):=(blk_cell BK111.out 4).trans rfl;have hcz14_5:w10.cell? ⟨gb111,5,none⟩=some (.int .i64 a0_5):=(blk_cell BK111.out 5).trans rfl;have hcz14_6:w10.cell? ⟨gb111,6,none⟩=some (.int .i64 a0_6):=(blk_cell BK111.out 6).trans rfl;have hcz14_7:w10.cell? ⟨gb111,7,none⟩=some (.slice A0_7 l0_7.length c0_7):=(blk_cell BK111.out 7).trans rfl;have hfz14_0:=blk_frozen BK111.out 0;have hfz14_1:=blk_frozen BK111.out 1;have hfz14_2:=blk_frozen BK111.out 2;have hfz14_3:=blk_frozen BK111.out 3;have hfz14_4:=blk_frozen BK111.out 4;have hfz14_5:=blk_frozen BK111.out 5;have hfz14_6:=blk_frozen BK111.out 6;have hfz14_7:=blk_frozen BK111.out 7;go_upto_if 23 with (first|(refine gR 61 (some 21) Tryz.func61 (laws_szItemS.calls k _ _ l0_7 t112 t113 _ ?side1 ?side2 A12.out) ?_;(case side1=>exact (zz21 HR0_7 HB));(case side2=>exact HC0_7.out);rintro w15 hb;replace BK111:=A_ (bB (zz2 BK111) hb);replace HB:=A_ (bS (zz1 HB GE111) hb);(try clear hb)))
   obtain ⟨H⟩:=HF13;replace H:=iteEd H;rcases H with ⟨c16b0,H⟩|⟨c16b0,H⟩
   ·(first|rw [c16b0]|(simp only [i64_w,i32_w];rw [c16b0])|skip)
    obtain rfl:=sI H;go_wp2
    go_ret
    exact ⟨zz5,(zz1 HB GE111)⟩
   ·(first|rw [c16b0]|(simp only [i64_w,i32_w];rw [c16b0])|skip)
    obtain rfl:=sI H;go_wp2
    go_ret
    exact ⟨zz5,(zz1 HB GE111)⟩
def laws_szHouseS.l0:Nat→List (S71)→Int→Int→Option (Int)
 | 0,_,_,_=>none
 | k+1,x0,x1,x5=>if x5 < (x0.length:Int) then (if 0≤x5 then ((laws_szHouse.f k ((rd_T71 x0 x5).f0) ((rd_T71 x0 x5).f1) ((rd_T71 x0 x5).f2) ((rd_T71 x0 x5).f3.f0) ((rd_T71 x0 x5).f3.f1) ((rd_T71 x0 x5).f3.f2) ((rd_T71 x0 x5).f4) ((rd_T71 x0 x5).f5) x1).bind fun t115=>(if t115 < 0 then (some (-1)) else (laws_szHouseS.l0 k x0 t115 (wrap64 (x5+1))))) else (none)) else (some x1)
def laws_szHouseS.f (k:Nat) (l0:List (S71)) (a1:Int):Option (Int):=if (wrap64 (a1 - (l0.length:Int))) < 0 then (some (-1)) else (laws_szHouseS.l0 k l0 (wrap64 (a1 - (l0.length:Int))) 0)
theorem laws_szHouseS.calls (k:Nat) (A0:Option Addr) (c0:Nat) (l0:List (S71)) (a1:Int) (r:Int) (w:World) (hr0:Kd.C k71 w A0 l0.length l0) (hc0:l0.length≤c0) (h:laws_szHouseS.f k l0 a1=some r) :
  Calls Tryz.prog 15 #[.slice A0 l0.length c0,.int .i64 a1] w fun e w'=>e=.returned (.int .i64 r)∧Below w.heap.size w w':=by
 have hu71:=Tryz.underlying71;have HR0:=A_ hr0;have HC0:=A_ hc0;clear hr0 hc0;have HB:=A_ (Below.refl w.heap.size w);unfold laws_szHouseS.f at h
 have H:=h;clear h;replace H:=iteEd H;rcases H with ⟨c3b0,H⟩|⟨c3b0,H⟩
 ·obtain rfl:=sI H
  go_enter Tryz.func15,Tryz.ntmps15;go_wp2
  go_ret
  exact ⟨zz5,(zz0 HB)⟩
 ·have H':=A_ H
  clear H;go_enter Tryz.func15,Tryz.ntmps15;go_wp2
  go_loopg [1,5] k (fun kq v1 v5 w'=>∃ (x1_1:Int) (x5_1:Int),v1=.int .i64 x1_1∧v5=.int .i64 x5_1∧Aside0 (laws_szHouseS.l0 kq l0 x1_1 x5_1=some r)∧Aside0 (kq≤k)∧Aside0 (Below w.heap.size w w'))
  case atStart=>exact ⟨(wrap64 (a1 - (l0.length:Int))),(0),zz7,zz7,H',⟨Nat.le_refl _⟩,⟨(zz0 HB)⟩⟩
  case round=>
   clear H';obtain ⟨x1_1,x5_1,rfl,rfl,HA,HK1,HB⟩:=hrel;cases gk with
   | zero=>exact absurd HA.out (by simp [laws_szHouseS.l0])
   | succ k1=>
    obtain ⟨H⟩:=HA;simp only [laws_szHouseS.l0] at H
    replace H:=iteEd H;rcases H with ⟨c4b0,H⟩|⟨c4b0,H⟩
    ·replace H:=iteNd H
     obtain ⟨c5b0,H⟩:=H;replace H:=bindA H;obtain ⟨t115,A6,H⟩:=H;have HF7:=A_ H;clear H;obtain ⟨⟨ad114,A114_3,c114_3,A114_4,c114_4,A114_7,c114_7,e114,hx114_0,hx114_1,hx114_2,hx114_3,hx114_4,hx114_5,hx114_6,hx114_7,hl114_3,hi114_3,hl114_4,hi114_4,hl114_7,hi114_7⟩,p114,q114⟩:=atB (at_T71 HR0.out x5_1);cases e114
     obtain ⟨hx114_0,hx114_1,hx114_2,hx114_3⟩:=cb4 HB hx114_0 hx114_1 hx114_2 hx114_3;obtain ⟨hx114_4,hx114_5,hx114_6,hx114_7⟩:=cb4 HB hx114_4 hx114_5 hx114_6 hx114_7;have HR114_3:=A_ hi114_3;have HC114_3:=A_ hl114_3;clear hi114_3 hl114_3;have HR114_4:=A_ hi114_4;have HC114_4:=A_ hl114_4;clear hi114_4 hl114_4;have HR114_7:=A_ hi114_7;have HC114_7:=A_ hl114_7;clear hi114_7 hl114_7;go_upto_if 25 with (first|(refine gR 38 (some 23) Tryz.func38 (laws_szHouse.calls k1 ((rd_T71 l0 x5_1).f0) ((rd_T71 l0 x5_1).f1) ((rd_T71 l0 x5_1).f2) _ _ ((rd_T71 l0 x5_1).f3.f0) _ _ ((rd_T71 l0 x5_1).f3.f1) ((rd_T71 l0 x5_1).f3.f2) ((rd_T71 l0 x5_1).f4) _ _ ((rd_T71 l0 x5_1).f5) x1_1 t115 _ ?side1 ?side2 ?side3 ?side4 ?side5 ?side6 A6.out) ?_;(case side1=>exact (zz21 HR114_3 HB));(case side2=>exact HC114_3.out);(case side3=>exact (zz21 HR114_4 HB));(case side4=>exact HC114_4.out);(case side5=>exact (zz21 HR114_7 HB));(case side6=>exact HC114_7.out);rintro w8 hb;replace HB:=A_ (bS (zz0 HB) hb);(try clear hb)))
     obtain ⟨H⟩:=HF7;replace H:=iteEd H;rcases H with ⟨c9b0,H⟩|⟨c9b0,H⟩
     ·(first|rw [c9b0]|(simp only [i64_w,i32_w];rw [c9b0])|skip)
      obtain rfl:=sI H;go_wp2
      go_ret
      exact ⟨zz5,(zz0 HB)⟩
     ·(first|rw [c9b0]|(simp only [i64_w,i32_w];rw [c9b0])|skip)
      have H':=A_ H;clear H;go_wp2
      go_roundg k1
      case measure=>have:=HK1.out;omega
      case rel=>exact ⟨(t115),(wrap64 (x5_1+1)),zz7,zz7,H',⟨(zz17 HK1)⟩,⟨(zz0 HB)⟩⟩
    ·obtain rfl:=sI H
     go_wp2
     go_ret
     exact ⟨zz5,(zz0 HB)⟩
def laws_szLookS.l0:Nat→List (S73)→Int→Int→Option (Int)
 | 0,_,_,_=>none
 | k+1,x0,x1,x5=>if x5 < (x0.length:Int) then (if 0≤x5 then ((laws_szLook.f ((rd_T73 x0 x5).f0) ((rd_T73 x0 x5).f1) ((rd_T73 x0 x5).f2) x1).bind fun t118=>(if t118 < 0 then (some (-1)) else (laws_szLookS.l0 k x0 t118 (wrap64 (x5+1))))) else (none)) else (some x1)
def laws_szLookS.f (k:Nat) (l0:List (S73)) (a1:Int):Option (Int):=if (wrap64 (a1 - (l0.length:Int))) < 0 then (some (-1)) else (laws_szLookS.l0 k l0 (wrap64 (a1 - (l0.length:Int))) 0)
theorem laws_szLookS.calls (k:Nat) (A0:Option Addr) (c0:Nat) (l0:List (S73)) (a1:Int) (r:Int) (w:World) (hr0:Kd.C k73 w A0 l0.length l0) (hc0:l0.length≤c0) (h:laws_szLookS.f k l0 a1=some r) :
  Calls Tryz.prog 17 #[.slice A0 l0.length c0,.int .i64 a1] w fun e w'=>e=.returned (.int .i64 r)∧Below w.heap.size w w':=by
 have hu73:=Tryz.underlying73;have HR0:=A_ hr0;have HC0:=A_ hc0;clear hr0 hc0;have HB:=A_ (Below.refl w.heap.size w);unfold laws_szLookS.f at h
 have H:=h;clear h;replace H:=iteEd H;rcases H with ⟨c3b0,H⟩|⟨c3b0,H⟩
 ·obtain rfl:=sI H
  go_enter Tryz.func17,Tryz.ntmps17;go_wp2
  go_ret
  exact ⟨zz5,(zz0 HB)⟩
 ·have H':=A_ H
  clear H;go_enter Tryz.func17,Tryz.ntmps17;go_wp2
  go_loopg [1,5] k (fun kq v1 v5 w'=>∃ (x1_1:Int) (x5_1:Int),v1=.int .i64 x1_1∧v5=.int .i64 x5_1∧Aside0 (laws_szLookS.l0 kq l0 x1_1 x5_1=some r)∧Aside0 (kq≤k)∧Aside0 (Below w.heap.size w w'))
  case atStart=>exact ⟨(wrap64 (a1 - (l0.length:Int))),(0),zz7,zz7,H',⟨Nat.le_refl _⟩,⟨(zz0 HB)⟩⟩
  case round=>
   clear H';obtain ⟨x1_1,x5_1,rfl,rfl,HA,HK1,HB⟩:=hrel;cases gk with
   | zero=>exact absurd HA.out (by simp [laws_szLookS.l0])
   | succ k1=>
    obtain ⟨H⟩:=HA;simp only [laws_szLookS.l0] at H
    replace H:=iteEd H;rcases H with ⟨c4b0,H⟩|⟨c4b0,H⟩
    ·replace H:=iteNd H
     obtain ⟨c5b0,H⟩:=H;replace H:=bindA H;obtain ⟨t118,A6,H⟩:=H;have HF7:=A_ H;clear H;obtain ⟨⟨ad117,e117,hx117_0,hx117_1,hx117_2⟩,p117,q117⟩:=atB (at_T73 HR0.out x5_1);cases e117
     obtain ⟨hx117_0,hx117_1,hx117_2⟩:=cb3 HB hx117_0 hx117_1 hx117_2;go_upto_if 25 with (first|(refine gR 39 (some 23) Tryz.func39 (laws_szLook.calls ((rd_T73 l0 x5_1).f0) ((rd_T73 l0 x5_1).f1) ((rd_T73 l0 x5_1).f2) x1_1 t118 _ A6.out) ?_;rintro w8 hb;replace HB:=A_ (bS (zz0 HB) hb);(try clear hb)))
     obtain ⟨H⟩:=HF7;replace H:=iteEd H;rcases H with ⟨c9b0,H⟩|⟨c9b0,H⟩
     ·(first|rw [c9b0]|(simp only [i64_w,i32_w];rw [c9b0])|skip)
      obtain rfl:=sI H;go_wp2
      go_ret
      exact ⟨zz5,(zz0 HB)⟩
     ·(first|rw [c9b0]|(simp only [i64_w,i32_w];rw [c9b0])|skip)
      have H':=A_ H;clear H;go_wp2
      go_roundg k1
      case measure=>have:=HK1.out;omega
      case rel=>exact ⟨(t118),(wrap64 (x5_1+1)),zz7,zz7,H',⟨(zz17 HK1)⟩,⟨(zz0 HB)⟩⟩
    ·obtain rfl:=sI H
     go_wp2
     go_ret
     exact ⟨zz5,(zz0 HB)⟩
def laws_szTrip.f (k:Nat) (a0_0:ByteArray) (a0_1:Int) (l0_2:List (S71)) (l0_3:List ByteArray) (l0_4:List (S73)) (a1:Int):Option (Int):=if (wrap64 (a1 - (a0_0.size:Int))) < 0 then (some (-1)) else ((laws_szHouseS.f k l0_2 (wrap64 (a1 - (a0_0.size:Int)))).bind fun t120=>(if t120 < 0 then (some (-1)) else ((laws_szStringS.f k l0_3 t120).bind fun t121=>(if t121 < 0 then (some (-1)) else ((laws_szLookS.f k l0_4 t121).bind fun t122=>(if t122 < 0 then (some (-1)) else (some t122)))))))
theorem laws_szTrip.calls (k:Nat) (a0_0:ByteArray) (a0_1:Int) (A0_2:Option Addr) (c0_2:Nat) (l0_2:List (S71)) (A0_3:Option Addr) (c0_3:Nat) (l0_3:List ByteArray) (A0_4:Option Addr) (c0_4:Nat) (l0_4:List (S73)) (a1:Int) (r:Int) (w:World) (hr0_2:Kd.C k71 w A0_2 l0_2.length l0_2) (hc0_2:l0_2.length≤c0_2) (hr0_3:Kd.C Kd.string w A0_3 l0_3.length l0_3) (hc0_3:l0_3.length≤c0_3) (hr0_4:Kd.C k73 w A0_4 l0_4.length l0_4) (hc0_4:l0_4.length≤c0_4) (h:laws_szTrip.f k a0_0 a0_1 l0_2 l0_3 l0_4 a1=some r) :
  Calls Tryz.prog 6 #[.agg #[.string a0_0,.int .i64 a0_1,.slice A0_2 l0_2.length c0_2,.slice A0_3 l0_3.length c0_3,.slice A0_4 l0_4.length c0_4],.int .i64 a1] w fun e w'=>e=.returned (.int .i64 r)∧Below w.heap.size w w':=by
 have hu26:=Tryz.underlying26;have HR0_2:=A_ hr0_2;have HC0_2:=A_ hc0_2;clear hr0_2 hc0_2;have HR0_3:=A_ hr0_3;have HC0_3:=A_ hc0_3;clear hr0_3 hc0_3;have HR0_4:=A_ hr0_4;have HC0_4:=A_ hc0_4;clear hr0_4 hc0_4;have HB:=A_ (Below.refl w.heap.size w);unfold laws_szTrip.f at h
 have H:=h;clear h;have HF3:=A_ H;clear H;go_enter Tryz.func6,Tryz.ntmps6;go_upto_if 11 with (first|(refine boxF 2 #[.string a0_0,.int .i64 a0_1,.slice A0_2 l0_2.length c0_2,.slice A0_3 l0_3.length c0_3,.slice A0_4 l0_4.length c0_4] 26 ?_;intro gb119 hg w4 BK119 hb;have GE119:=geB hg (zz0 HB);replace HB:=A_ (bS (zz0 HB) hb);clear hb hg;obtain ⟨_,_,_,_,_,_,_,_,_,_⟩:=cf5 BK119))
 obtain ⟨H⟩:=HF3;replace H:=iteEd H;rcases H with ⟨c6b0,H⟩|⟨c6b0,H⟩
 ·(first|rw [c6b0]|(simp only [i64_w,i32_w];rw [c6b0])|skip)
  obtain rfl:=sI H;go_wp2
  go_ret
  exact ⟨zz5,(zz1 HB GE119)⟩
 ·(first|rw [c6b0]|(simp only [i64_w,i32_w];rw [c6b0])|skip)
  replace H:=bindA H;obtain ⟨t120,A7,H⟩:=H;have HF8:=A_ H;clear H;obtain ⟨_,_,_,_,_,_,_,_,_,_⟩:=cf5 BK119;go_upto_if 17 with (first|(refine gR 15 (some 15) Tryz.func15 (laws_szHouseS.calls k _ _ l0_2 (wrap64 (a1 - (a0_0.size:Int))) t120 _ ?side1 ?side2 A7.out) ?_;(case side1=>exact (zz21 HR0_2 HB));(case side2=>exact HC0_2.out);rintro w10 hb;replace BK119:=A_ (bB (zz2 BK119) hb);replace HB:=A_ (bS (zz1 HB GE119) hb);(try clear hb)))
  obtain ⟨H⟩:=HF8;replace H:=iteEd H;rcases H with ⟨c11b0,H⟩|⟨c11b0,H⟩
  ·(first|rw [c11b0]|(simp only [i64_w,i32_w];rw [c11b0])|skip)
   obtain rfl:=sI H;go_wp2
   go_ret
   exact ⟨zz5,(zz1 HB GE119)⟩
  ·(first|rw [c11b0]|(simp only [i64_w,i32_w];rw [c11b0])|skip)
   replace H:=bindA H;obtain ⟨t121,A12,H⟩:=H;have HF13:=A_ H;clear H;obtain ⟨_,_,_,_,_,_,_,_,_,_⟩:=cf5 BK119;go_upto_if 23 with (first|(refine gR 16 (some 21) Tryz.func16 (laws_szStringS.calls k _ _ l0_3 t120 t121 _ ?side1 ?side2 A12.out) ?_;(case side1=>exact (zz21 HR0_3 HB));(case side2=>exact HC0_3.out);rintro w' ⟨nd,rfl⟩))
   obtain ⟨H⟩:=HF13;replace H:=iteEd H;rcases H with ⟨c15b0,H⟩|⟨c15b0,H⟩
   ·(first|rw [c15b0]|(simp only [i64_w,i32_w];rw [c15b0])|skip)
    obtain rfl:=sI H;go_wp2
    go_ret
    exact ⟨zz5,(zz1 HB GE119)⟩
   ·(first|rw [c15b0]|(simp only [i64_w,i32_w];rw [c15b0])|skip)
    replace H:=bindA H;obtain ⟨t122,A16,H⟩:=H;have HF17:=A_ H;clear H;obtain ⟨_,_,_,_,_,_,_,_,_,_⟩:=cf5 BK119;go_upto_if 29 with (first|(refine gR 17 (some 27) Tryz.func17 (laws_szLookS.calls k _ _ l0_4 t121 t122 _ ?side1 ?side2 A16.out) ?_;(case side1=>exact (zz21 HR0_4 HB));(case side2=>exact HC0_4.out);rintro w19 hb;replace BK119:=A_ (bB (zz2 BK119) hb);replace HB:=A_ (bS (zz1 HB GE119) hb);(try clear hb)))
    obtain ⟨H⟩:=HF17;replace H:=iteEd H;rcases H with ⟨c20b0,H⟩|⟨c20b0,H⟩
    ·(first|rw [c20b0]|(simp only [i64_w,i32_w];rw [c20b0])|skip)
     obtain rfl:=sI H;go_wp2
     go_ret
     exact ⟨zz5,(zz1 HB GE119)⟩
    ·(first|rw [c20b0]|(simp only [i64_w,i32_w];rw [c20b0])|skip)
     obtain rfl:=sI H;go_wp2
     go_ret
     exact ⟨zz5,(zz1 HB GE119)⟩
def spec_l2Name.l0:Nat→ByteArray→Int→Option (Bool)
 | 0,_,_=>none
 | k+1,x0,x3=>if x3 < (x0.size:Int) then (if 0≤x3 then (if (bt x0 x3) < 97 then (some false) else (if (bt x0 x3) > 122 then (some false) else (spec_l2Name.l0 k x0 (wrap64 (x3+1))))) else (none)) else ((spec_l6In.f (x0.size:Int) 1 8).bind fun t123=>(some t123))
def spec_l2Name.f (k:Nat) (a0:ByteArray):Option (Bool):=spec_l2Name.l0 k a0 0
theorem spec_l2Name.mono_l:∀ k,(∀ y0 y1,LeO (spec_l2Name.l0 k y0 y1) (spec_l2Name.l0 (k+1) y0 y1))
 | 0=>by intros;intro r h;simp [spec_l2Name.l0] at h
 | k+1=>by
  have ih0:=spec_l2Name.mono_l k;intros;unfold spec_l2Name.l0;repeat' first|(with_reducible first|exact ih0 _ _|exact LeO.refl _|exact LeO.none _|refine LeO.ite ?_ ?_|refine LeO.bind ?_ (fun _=>?_))|exact LeO.none _|refine LeO.ite ?_ ?_|refine LeO.bind ?_ (fun _=>?_)
theorem spec_l2Name.mono:∀ a0 k,LeO (spec_l2Name.f k a0) (spec_l2Name.f (k+1) a0):=by
 intro a0 k;have ih0:=spec_l2Name.mono_l k;unfold spec_l2Name.f
 repeat' first|(with_reducible first|exact ih0 _ _|exact LeO.refl _|exact LeO.none _|refine LeO.ite ?_ ?_|refine LeO.bind ?_ (fun _=>?_))|exact LeO.none _|refine LeO.ite ?_ ?_|refine LeO.bind ?_ (fun _=>?_)
theorem spec_l2Name.calls (k:Nat) (a0:ByteArray) (r:Bool) (w:World) (h:spec_l2Name.f k a0=some r) :
  Calls Tryz.prog 18 #[.string a0] w fun e w'=>e=.returned (.bool r)∧Drawn0 w w':=by
 unfold spec_l2Name.f at h
 have H:=h;clear h;have H':=A_ H;clear H;go_enter Tryz.func18,Tryz.ntmps18;go_wp2
 go_loopg [3] k (fun kq v3 w'=>∃ (x3_1:Int),v3=.int .i64 x3_1∧Aside0 (spec_l2Name.l0 kq a0 x3_1=some r)∧Aside0 (kq≤k)∧Drawn0 w w')
 case atStart=>exact ⟨(0),zz7,H',⟨Nat.le_refl _⟩,zz8⟩
 case round=>
  clear H';obtain ⟨x3_1,rfl,HA,HK1,⟨m1,rfl⟩⟩:=hrel;cases gk with
  | zero=>exact absurd HA.out (by simp [spec_l2Name.l0])
  | succ k1=>
   obtain ⟨H⟩:=HA;simp only [spec_l2Name.l0] at H
   replace H:=iteEd H;rcases H with ⟨c2b0,H⟩|⟨c2b0,H⟩
   ·replace H:=iteNd H
    obtain ⟨c3b0,H⟩:=H;replace H:=iteEd H;rcases H with ⟨c5b0,H⟩|⟨c5b0,H⟩
    ·obtain rfl:=sI H
     have p4:0≤(x3_1:Int):=ofD;have q4:x3_1 < (a0.size:Int):=ofD;have hx4:=bt_at a0 x3_1;replace p4:=eq_true p4;replace q4:=eq_true q4;go_wp2
     go_ret
     exact ⟨zz7,zz8⟩
    ·replace H:=iteEg H
     rcases H with ⟨c7b0,H⟩|⟨c7b0,H⟩
     ·obtain rfl:=sI H
      have p4:0≤(x3_1:Int):=ofD;have q4:x3_1 < (a0.size:Int):=ofD;have hx4:=bt_at a0 x3_1;replace p4:=eq_true p4;replace q4:=eq_true q4;have p6:0≤(x3_1:Int):=ofD;have q6:x3_1 < (a0.size:Int):=ofD;have hx6:=bt_at a0 x3_1;replace p6:=eq_true p6;replace q6:=eq_true q6;go_wp2
      go_ret
      exact ⟨zz7,zz8⟩
     ·have H':=A_ H
      clear H;have p4:0≤(x3_1:Int):=ofD;have q4:x3_1 < (a0.size:Int):=ofD;have hx4:=bt_at a0 x3_1;replace p4:=eq_true p4;replace q4:=eq_true q4;have p6:0≤(x3_1:Int):=ofD;have q6:x3_1 < (a0.size:Int):=ofD;have hx6:=bt_at a0 x3_1;replace p6:=eq_true p6;replace q6:=eq_true q6;go_wp2
      go_roundg k1
      case measure=>have:=HK1.out;omega
      case rel=>exact ⟨(wrap64 (x3_1+1)),zz7,H',⟨(zz17 HK1)⟩,zz8⟩
   ·replace H:=bindA H
    obtain ⟨t123,A8,H⟩:=H;obtain rfl:=sI H;go_wp2_with (first|(refine gR 19 (some 22) Tryz.func19 (spec_l6In.calls (a0.size:Int) 1 8 t123 _ A8.out) ?_;rintro w' ⟨nd,rfl⟩))
    go_ret
    exact ⟨zz7,zz8⟩
def spec_l1Cut.l0:Nat→ByteArray→Int→Int→Option (ByteArray×ByteArray×Bool)
 | 0,_,_,_=>none
 | k+1,x0,x1,x7=>if x7 < (x0.size:Int) then (if 0≤x7 then (if (bt x0 x7)=x1 then (if x7≤(x0.size:Int) then (if 0≤(wrap64 (x7+1)) then (if (wrap64 (x7+1))≤(x0.size:Int) then (some (x0.extract 0 (x7:Int).toNat,x0.extract ((wrap64 (x7+1)):Int).toNat x0.size,true)) else (none)) else (none)) else (none)) else (spec_l1Cut.l0 k x0 x1 (wrap64 (x7+1)))) else (none)) else (some (x0,(⟨#[]⟩:ByteArray),false))
def spec_l1Cut.f (k:Nat) (a0:ByteArray) (a1:Int):Option (ByteArray×ByteArray×Bool):=spec_l1Cut.l0 k a0 a1 0
theorem spec_l1Cut.calls (k:Nat) (a0:ByteArray) (a1:Int) (r1:ByteArray) (r2:ByteArray) (r3:Bool) (w:World) (h:spec_l1Cut.f k a0 a1=some (r1,r2,r3)) :
  Calls Tryz.prog 62 #[.string a0,.int .u8 a1] w fun e w'=>e=.returned (.tuple #[.string r1,.string r2,.bool r3])∧Drawn0 w w':=by
 unfold spec_l1Cut.f at h
 have H:=h;clear h;have H':=A_ H;clear H;go_enter Tryz.func62,Tryz.ntmps62;go_wp2
 repeat (go_quiet (fail);try go_wp2)
 go_loopg [7] k (fun kq v7 w'=>∃ (x7_1:Int),v7=.int .i64 x7_1∧Aside0 (spec_l1Cut.l0 kq a0 a1 x7_1=some (r1,r2,r3))∧Aside0 (kq≤k)∧Drawn0 w w')
 case atStart=>exact ⟨(0),zz7,H',⟨Nat.le_refl _⟩,zz8⟩
 case round=>
  clear H';obtain ⟨x7_1,rfl,HA,HK1,⟨m1,rfl⟩⟩:=hrel;cases gk with
  | zero=>exact absurd HA.out (by simp [spec_l1Cut.l0])
  | succ k1=>
   obtain ⟨H⟩:=HA;simp only [spec_l1Cut.l0] at H
   replace H:=iteEd H;rcases H with ⟨c3b0,H⟩|⟨c3b0,H⟩
   ·replace H:=iteNd H
    obtain ⟨c4b0,H⟩:=H;replace H:=iteEq H;rcases H with ⟨c6b0,c6b1,H⟩|⟨c6b0,c6b1,c6,H⟩
    ·have c7b0:=eq_true (ofD:0≤x7_1)
     replace H:=iteN H;obtain ⟨c8,H⟩:=H;have c8b0:=eq_true c8;have c8b1:=dT c8;clear c8;obtain ⟨ji9,hji9⟩:∃ j_:Int,(wrap64 (x7_1+1))=j_:=⟨_,rfl⟩;(first|rw [hji9] at H|simp only [hji9] at H)
     have hji9w:(IntKind.i64.wrap (x7_1+1))=ji9:=(i64_w _).trans hji9;replace H:=iteN H;obtain ⟨c10,H⟩:=H;have c10b0:=eq_true c10;have c10b1:=dT c10;clear c10;replace H:=iteN H;obtain ⟨c11,H⟩:=H;have c11b0:=eq_true c11;have c11b1:=dT c11;clear c11;simp only [Option.some.injEq,Prod.mk.injEq] at H
     obtain ⟨rfl,rfl,rfl⟩:=H;have p5:0≤(x7_1:Int):=ofD;have q5:x7_1 < (a0.size:Int):=ofD;have hx5:=bt_at a0 x7_1;replace p5:=eq_true p5;replace q5:=eq_true q5;go_wp2
     repeat (go_quiet (fail);try go_wp2)
     go_ret3
     exact ⟨(by first|rfl|(simp only [i64_w,i32_w];done)|(simp only [aid_isEmpty,aid_isEmpty2];done)|(simp;done)|((simp only [← hji9] <;> (first|rfl|simp));done)|(simp [*];done)),zz8⟩
    ·have H':=A_ H
     clear H;have p5:0≤(x7_1:Int):=ofD;have q5:x7_1 < (a0.size:Int):=ofD;have hx5:=bt_at a0 x7_1;replace p5:=eq_true p5;replace q5:=eq_true q5;go_wp2
     repeat (go_quiet (fail);try go_wp2)
     go_roundg k1
     case measure=>have:=HK1.out;omega
     case rel=>exact ⟨(wrap64 (x7_1+1)),zz7,H',⟨(zz17 HK1)⟩,zz8⟩
   ·simp only [Option.some.injEq,Prod.mk.injEq] at H
    obtain ⟨rfl,rfl,rfl⟩:=H;go_wp2
    repeat (go_quiet (fail);try go_wp2)
    go_ret3
    exact ⟨zz7,zz8⟩
mutual
def spec_l1Hex.j0:Nat→Int→Bool→Option (Int)
 | 0,_,_=>none
 | k+1,x0,x3=>if x3=true then (some ((x0 - 48) % 256)) else (if x0 ≥ 97 then (spec_l1Hex.j1 k x0 (decide (x0≤102))) else (spec_l1Hex.j1 k x0 false))
def spec_l1Hex.j1:Nat→Int→Bool→Option (Int)
 | 0,_,_=>none
 | k+1,x0,x13=>if x13=true then (some (((x0 - 97) % 256)+10)) else (if x0 ≥ 65 then (if x0≤70 then (some (((x0 - 65) % 256)+10)) else (some (-1))) else (some (-1)))
end
def spec_l1Hex.f (k:Nat) (a0:Int):Option (Int):=if a0 ≥ 48 then (spec_l1Hex.j0 k a0 (decide (a0≤57))) else (spec_l1Hex.j0 k a0 false)
theorem spec_l1Hex.mono_l:∀ k,(∀ y0 y1,LeO (spec_l1Hex.j0 k y0 y1) (spec_l1Hex.j0 (k+1) y0 y1))∧(∀ y0 y1,LeO (spec_l1Hex.j1 k y0 y1) (spec_l1Hex.j1 (k+1) y0 y1))
 | 0=>by refine ⟨?_,?_⟩ <;> (intros;intro r h;simp [spec_l1Hex.j0,spec_l1Hex.j1] at h)
 | k+1=>by
  obtain ⟨ih0,ih1⟩:=spec_l1Hex.mono_l k;refine ⟨?_,?_⟩ <;> intros <;> (first|unfold spec_l1Hex.j0|unfold spec_l1Hex.j1) <;>
  repeat' first|(with_reducible first|exact ih0 _ _|exact ih1 _ _|exact LeO.refl _|exact LeO.none _|refine LeO.ite ?_ ?_|refine LeO.bind ?_ (fun _=>?_))|exact LeO.none _|refine LeO.ite ?_ ?_|refine LeO.bind ?_ (fun _=>?_)
theorem spec_l1Hex.mono:∀ a0 k,LeO (spec_l1Hex.f k a0) (spec_l1Hex.f (k+1) a0):=by
 intro a0 k;obtain ⟨ih0,ih1⟩:=spec_l1Hex.mono_l k;unfold spec_l1Hex.f
 repeat' first|(with_reducible first|exact ih0 _ _|exact ih1 _ _|exact LeO.refl _|exact LeO.none _|refine LeO.ite ?_ ?_|refine LeO.bind ?_ (fun _=>?_))|exact LeO.none _|refine LeO.ite ?_ ?_|refine LeO.bind ?_ (fun _=>?_)
theorem spec_l1Hex.calls (k:Nat) (a0:Int) (r:Int) (w:World) (h:spec_l1Hex.f k a0=some r) :
  Calls Tryz.prog 105 #[.int .u8 a0] w fun e w'=>e=.returned (.int .i64 r)∧Drawn0 w w':=by
 unfold spec_l1Hex.f at h
 have H:=h;clear h;have HC2:=A_ H;clear H;go_enter Tryz.func105,Tryz.ntmps105;go_upto_region 1 with (fail)
 go_cut [3] (fun v3 wc=>∃ (kq:Nat) (x3_1:Bool),v3=.bool x3_1∧Aside0 (spec_l1Hex.j0 kq a0 x3_1=some r)∧Aside0 (kq≤k)∧Drawn0 w wc)
 case first=>
  obtain ⟨H⟩:=HC2;replace H:=iteEe H;rcases H with ⟨c3b0,H⟩|⟨c3b0,H⟩
  ·(first|rw [c3b0]|(simp only [i64_w,i32_w];rw [c3b0])|skip)
   have H':=A_ H;clear H;go_wp2
   go_meet
   case rel=>exact ⟨_,(decide (a0≤57)),zz7,H',⟨zz51⟩,zz8⟩
  ·(first|rw [c3b0]|(simp only [i64_w,i32_w];rw [c3b0])|skip)
   have H':=A_ H;clear H;go_wp2
   go_meet
   case rel=>exact ⟨_,(false),zz7,H',⟨zz51⟩,zz8⟩
 case rest=>
  clear HC2;obtain ⟨kq,x3_1,rfl,HA,HJ1,⟨mc1,rfl⟩⟩:=hcut;cases kq with
  | zero=>exact absurd HA.out (by simp [spec_l1Hex.j0])
  | succ kj1=>
   obtain ⟨H⟩:=HA;simp only [spec_l1Hex.j0] at H
   replace H:=iteB H;rcases H with ⟨rfl,H⟩|⟨rfl,H⟩
   ·obtain rfl:=sI H
    go_wp2
    go_ret
    exact ⟨zz7,zz8⟩
   ·have HC5:=A_ H
    clear H;go_upto_region 3 with (fail)
    go_cut [13] (fun v13 wc=>∃ (kq:Nat) (x13_4:Bool),v13=.bool x13_4∧Aside0 (spec_l1Hex.j1 kq a0 x13_4=some r)∧Aside0 (kq≤kj1)∧Drawn0 w wc)
    case first=>
     obtain ⟨H⟩:=HC5;replace H:=iteEe H;rcases H with ⟨c6b0,H⟩|⟨c6b0,H⟩
     ·(first|rw [c6b0]|(simp only [i64_w,i32_w];rw [c6b0])|skip)
      have H':=A_ H;clear H;go_wp2
      go_meet
      case rel=>exact ⟨_,(decide (a0≤102)),zz7,H',⟨(zz53 HJ1)⟩,zz8⟩
     ·(first|rw [c6b0]|(simp only [i64_w,i32_w];rw [c6b0])|skip)
      have H':=A_ H;clear H;go_wp2
      go_meet
      case rel=>exact ⟨_,(false),zz7,H',⟨(zz53 HJ1)⟩,zz8⟩
    case rest=>
     clear HC5;obtain ⟨kq,x13_4,rfl,HA,HJ4,⟨mc4,rfl⟩⟩:=hcut;cases kq with
     | zero=>exact absurd HA.out (by simp [spec_l1Hex.j1])
     | succ kj4=>
      obtain ⟨H⟩:=HA;simp only [spec_l1Hex.j1] at H
      replace H:=iteB H;rcases H with ⟨rfl,H⟩|⟨rfl,H⟩
      ·obtain rfl:=sI H
       go_wp2
       go_ret
       exact ⟨zz7,zz8⟩
      ·replace H:=iteE H
       rcases H with ⟨c8,H⟩|⟨c8,H⟩
       ·have c8b0:=geT c8
        clear c8;replace H:=iteEd H;rcases H with ⟨c9b0,H⟩|⟨c9b0,H⟩
        ·obtain rfl:=sI H
         go_wp2
         go_ret
         exact ⟨zz7,zz8⟩
        ·obtain rfl:=sI H
         go_wp2
         go_ret
         exact ⟨zz7,zz8⟩
       ·have c8b0:=geF c8
        clear c8;obtain rfl:=sI H;go_wp2
        go_ret
        exact ⟨zz7,zz8⟩
mutual
def spec_EscNorm.l0:Nat→ByteArray→ByteArray→Int→Option (ByteArray×Bool)
 | 0,_,_,_=>none
 | k+1,x0,x4,x5=>if x5 < (x0.size:Int) then (if 0≤x5 then (if (bt x0 x5)=37 then (if (wrap64 (x5+2)) ≥ (x0.size:Int) then (spec_EscNorm.j1 k x0 x4 x5 true) else (if 0≤(wrap64 (x5+1)) then (if (wrap64 (x5+1)) < (x0.size:Int) then ((spec_l1Hex.f k (bt x0 (wrap64 (x5+1)))).bind fun t130=>(if t130 < 0 then (spec_EscNorm.j1 k x0 x4 x5 true) else (if 0≤(wrap64 (x5+2)) then (if (wrap64 (x5+2)) < (x0.size:Int) then ((spec_l1Hex.f k (bt x0 (wrap64 (x5+2)))).bind fun t131=>(spec_EscNorm.j1 k x0 x4 x5 (decide (t131 < 0)))) else (none)) else (none)))) else (none)) else (none))) else (spec_EscNorm.j2 k x0 x4 x5 (wrap64 (bt x0 x5)))) else (none)) else (some (x4,true))
def spec_EscNorm.j2:Nat→ByteArray→ByteArray→Int→Int→Option (ByteArray×Bool)
 | 0,_,_,_,_=>none
 | k+1,x0,x4,x5,x6=>(spec_l1Plain.f ((x6) % 256)).bind fun t134=>(if t134=true then ((some (([(x6) % 256]:List Int):List Int)).bind fun y135=>(if x4.size+(strOfNums y135).size≤9223372036854775807 then (spec_EscNorm.l0 k x0 (x4++(strOfNums y135)) (wrap64 (x5+1))) else (none))) else ((spec_l1Sign.f x6).bind fun t138=>(if x4.size+t138.size≤9223372036854775807 then (spec_EscNorm.l0 k x0 (x4++t138) (wrap64 (x5+1))) else (none))))
def spec_EscNorm.j1:Nat→ByteArray→ByteArray→Int→Bool→Option (ByteArray×Bool)
 | 0,_,_,_,_=>none
 | k+1,x0,x4,x5,x44=>if x44=true then (some ((⟨#[]⟩:ByteArray),false)) else (if 0≤(wrap64 (x5+1)) then (if (wrap64 (x5+1)) < (x0.size:Int) then ((spec_l1Hex.f k (bt x0 (wrap64 (x5+1)))).bind fun t132=>(if 0≤(wrap64 (x5+2)) then (if (wrap64 (x5+2)) < (x0.size:Int) then ((spec_l1Hex.f k (bt x0 (wrap64 (x5+2)))).bind fun t133=>(spec_EscNorm.j2 k x0 x4 (wrap64 (x5+2)) (wrap64 ((wrap64 (t132 * 16))+t133)))) else (none)) else (none))) else (none)) else (none))
end
def spec_EscNorm.f (k:Nat) (a0:ByteArray):Option (ByteArray×Bool):=if (a0.size:Int) > 60 then (some ((⟨#[]⟩:ByteArray),false)) else (spec_EscNorm.l0 k a0 (⟨#[]⟩:ByteArray) 0)
theorem spec_EscNorm.mono_l:∀ k,(∀ y0 y1 y2,LeO (spec_EscNorm.l0 k y0 y1 y2) (spec_EscNorm.l0 (k+1) y0 y1 y2))∧(∀ y0 y1 y2 y3,LeO (spec_EscNorm.j2 k y0 y1 y2 y3) (spec_EscNorm.j2 (k+1) y0 y1 y2 y3))∧(∀ y0 y1 y2 y3,LeO (spec_EscNorm.j1 k y0 y1 y2 y3) (spec_EscNorm.j1 (k+1) y0 y1 y2 y3))
 | 0=>by refine ⟨?_,?_,?_⟩ <;> (intros;intro r h;simp [spec_EscNorm.l0,spec_EscNorm.j2,spec_EscNorm.j1] at h)
 | k+1=>by
  obtain ⟨ih0,ih1,ih2⟩:=spec_EscNorm.mono_l k;refine ⟨?_,?_,?_⟩ <;> intros <;> (first|unfold spec_EscNorm.l0|unfold spec_EscNorm.j2|unfold spec_EscNorm.j1) <;>
  repeat' first|(with_reducible first|exact ih0 _ _ _|exact ih1 _ _ _ _|exact ih2 _ _ _ _|exact spec_l1Hex.mono _ _|exact LeO.refl _|exact LeO.none _|refine LeO.ite ?_ ?_|refine LeO.bind ?_ (fun _=>?_))|exact LeO.none _|refine LeO.ite ?_ ?_|refine LeO.bind ?_ (fun _=>?_)
theorem spec_EscNorm.mono:∀ a0 k,LeO (spec_EscNorm.f k a0) (spec_EscNorm.f (k+1) a0):=by
 intro a0 k;obtain ⟨ih0,ih1,ih2⟩:=spec_EscNorm.mono_l k;unfold spec_EscNorm.f
 repeat' first|(with_reducible first|exact ih0 _ _ _|exact ih1 _ _ _ _|exact ih2 _ _ _ _|exact spec_l1Hex.mono _ _|exact LeO.refl _|exact LeO.none _|refine LeO.ite ?_ ?_|refine LeO.bind ?_ (fun _=>?_))|exact LeO.none _|refine LeO.ite ?_ ?_|refine LeO.bind ?_ (fun _=>?_)
theorem spec_EscNorm.calls (k:Nat) (a0:ByteArray) (r1:ByteArray) (r2:Bool) (w:World) (h:spec_EscNorm.f k a0=some (r1,r2)) :
  Calls Tryz.prog 93 #[.string a0] w fun e w'=>e=.returned (.tuple #[.string r1,.bool r2])∧Below w.heap.size w w':=by
 have HB:=A_ (Below.refl w.heap.size w);unfold spec_EscNorm.f at h
 have H:=h;clear h;replace H:=iteE H;rcases H with ⟨c2,H⟩|⟨c2,H⟩
 ·have c2b0:=gtT c2
  have c2b1:decide (60 < a0.size)=true:=dT (by omega);clear c2;simp only [Option.some.injEq,Prod.mk.injEq] at H
  obtain ⟨rfl,rfl⟩:=H;go_enter Tryz.func93,Tryz.ntmps93;go_wp2
  repeat (go_quiet (fail);try go_wp2)
  go_ret2
  exact ⟨zz5,(zz0 HB)⟩
 ·have c2b0:=gtF c2
  have c2b1:decide (60 < a0.size)=false:=dF (by omega);clear c2;have H':=A_ H;clear H;go_enter Tryz.func93,Tryz.ntmps93;go_wp2
  repeat (go_quiet (fail);try go_wp2)
  go_loopg [4,5] k (fun kq v4 v5 w'=>∃ (x4_1:ByteArray) (x5_1:Int),v4=.string x4_1∧v5=.int .i64 x5_1∧Aside0 (spec_EscNorm.l0 kq a0 x4_1 x5_1=some (r1,r2))∧Aside0 (kq≤k)∧Aside0 (Below w.heap.size w w'))
  case atStart=>exact ⟨((⟨#[]⟩:ByteArray)),(0),zz7,zz7,H',⟨Nat.le_refl _⟩,⟨(zz0 HB)⟩⟩
  case round=>
   clear H';obtain ⟨x4_1,x5_1,rfl,rfl,HA,HK1,HB⟩:=hrel;cases gk with
   | zero=>exact absurd HA.out (by simp [spec_EscNorm.l0])
   | succ k1=>
    obtain ⟨H⟩:=HA;simp only [spec_EscNorm.l0] at H
    replace H:=iteEd H;rcases H with ⟨c3b0,H⟩|⟨c3b0,H⟩
    ·replace H:=iteNd H
     obtain ⟨c4b0,H⟩:=H;have HC7:=A_ H;clear H;have p5:0≤(x5_1:Int):=ofD;have q5:x5_1 < (a0.size:Int):=ofD;have hx5:=bt_at a0 x5_1;replace p5:=eq_true p5;replace q5:=eq_true q5;have p6:0≤(x5_1:Int):=ofD;have q6:x5_1 < (a0.size:Int):=ofD;have hx6:=bt_at a0 x5_1;replace p6:=eq_true p6;replace q6:=eq_true q6;go_upto_if 23 with (fail)
     repeat (go_quiet (fail);go_upto_if 23 with (fail))
     go_cut [5,6] (fun v5 v6 wc=>∃ (kq:Nat) (x5_6:Int) (x6_6:Int),v5=.int .i64 x5_6∧v6=.int .i64 x6_6∧Aside0 (spec_EscNorm.j2 kq a0 x4_1 x5_6 x6_6=some (r1,r2))∧Aside0 (kq≤k1)∧Aside0 (Below w.heap.size w wc))
     case first=>
      obtain ⟨H⟩:=HC7;replace H:=iteEq H;rcases H with ⟨c8b0,c8b1,H⟩|⟨c8b0,c8b1,c8,H⟩
      ·(first|rw [c8b0]|(simp only [i64_w,i32_w];rw [c8b0])|skip)
       have HC9:=A_ H;clear H;go_upto_region 9 with (fail)
       repeat (go_quiet (fail);go_upto_region 9 with (fail))
       go_cut [44] (fun v44 wc=>∃ (kq:Nat) (x44_8:Bool),v44=.bool x44_8∧Aside0 (spec_EscNorm.j1 kq a0 x4_1 x5_1 x44_8=some (r1,r2))∧Aside0 (kq≤k1)∧Aside0 (Below w.heap.size w wc))
       case first=>
        obtain ⟨H⟩:=HC9;replace H:=iteEe H;rcases H with ⟨c10b0,H⟩|⟨c10b0,H⟩
        ·(first|rw [c10b0]|(simp only [i64_w,i32_w];rw [c10b0])|skip)
         have H':=A_ H;clear H;go_wp2
         repeat (go_quiet (fail);try go_wp2)
         go_meet
         case rel=>exact ⟨_,(true),zz7,H',⟨(zz53 HK1)⟩,⟨(zz0 HB)⟩⟩
        ·(first|rw [c10b0]|(simp only [i64_w,i32_w];rw [c10b0])|skip)
         obtain ⟨ji11,hji11⟩:∃ j_:Int,(wrap64 (x5_1+1))=j_:=⟨_,rfl⟩;(first|rw [hji11] at H|simp only [hji11] at H)
         have hji11w:(IntKind.i64.wrap (x5_1+1))=ji11:=(i64_w _).trans hji11;replace H:=iteNd H;obtain ⟨c12b0,H⟩:=H;replace H:=iteNd H;obtain ⟨c13b0,H⟩:=H;replace H:=bindA H;obtain ⟨t130,A15,H⟩:=H;have HF16:=A_ H;clear H;have p14:0≤((ji11):Int):=ofD;have q14:(ji11) < (a0.size:Int):=ofD;have hx14:=bt_at a0 (ji11);replace p14:=eq_true p14;replace q14:=eq_true q14;go_wp2_with (first|(go_at_call 105;(with_reducible refine (spec_l1Hex.calls k1 (bt a0 (ji11)) t130 _ A15.out).mono ?_);rintro e w' ⟨rfl,⟨nd,rfl⟩⟩;(try first|exact ⟨rfl,_,World.drewN_drewN _ _ _⟩|exact ⟨rfl,_,Eq.trans (World.drewN_drewN _ _ _) (congrArg (World.drewN _) (Nat.add_assoc _ _ _))⟩))|((with_reducible refine atG ?_ ?_ fun K_ hK_=>?_);rfl;exact undecG)|((with_reducible refine atI ?_ fun K_ hK_=>?_);exact undecI))
         repeat (go_quiet (first|(go_at_call 105;(with_reducible refine (spec_l1Hex.calls k1 (bt a0 (ji11)) t130 _ A15.out).mono ?_);rintro e w' ⟨rfl,⟨nd,rfl⟩⟩;(try first|exact ⟨rfl,_,World.drewN_drewN _ _ _⟩|exact ⟨rfl,_,Eq.trans (World.drewN_drewN _ _ _) (congrArg (World.drewN _) (Nat.add_assoc _ _ _))⟩))|((with_reducible refine atG ?_ ?_ fun K_ hK_=>?_);rfl;exact undecG)|((with_reducible refine atI ?_ fun K_ hK_=>?_);exact undecI));go_wp2_with (first|(go_at_call 105;(with_reducible refine (spec_l1Hex.calls k1 (bt a0 (ji11)) t130 _ A15.out).mono ?_);rintro e w' ⟨rfl,⟨nd,rfl⟩⟩;(try first|exact ⟨rfl,_,World.drewN_drewN _ _ _⟩|exact ⟨rfl,_,Eq.trans (World.drewN_drewN _ _ _) (congrArg (World.drewN _) (Nat.add_assoc _ _ _))⟩))|((with_reducible refine atG ?_ ?_ fun K_ hK_=>?_);rfl;exact undecG)|((with_reducible refine atI ?_ fun K_ hK_=>?_);exact undecI)))
         refine unG hK_ ?_;clear hK_ K_;obtain ⟨H⟩:=HF16;replace H:=iteE H;rcases H with ⟨c17,H⟩|⟨c17,H⟩
         ·have c17b0:=dT c17
          (first|refine iteT ?_|refine iteF ?_|skip)
          clear c17;(first|rw [c17b0]|(simp only [i64_w,i32_w];rw [c17b0])|skip)
          have H':=A_ H;clear H;(try ((with_reducible refine upS ?_);go_simp))
          go_wp2
          repeat (go_quiet (fail);try go_wp2)
          go_meet
          case rel=>exact ⟨_,(true),zz7,H',⟨(zz53 HK1)⟩,⟨(zz0 HB)⟩⟩
         ·have c17b0:=dF c17
          (first|refine iteT ?_|refine iteF ?_|skip)
          clear c17;(first|rw [c17b0]|(simp only [i64_w,i32_w];rw [c17b0])|skip)
          obtain ⟨ji18,hji18⟩:∃ j_:Int,(wrap64 (x5_1+2))=j_:=⟨_,rfl⟩;(first|rw [hji18] at H|simp only [hji18] at H)
          (try rw [hji18] at c10b0)
          have hji18w:(IntKind.i64.wrap (x5_1+2))=ji18:=(i64_w _).trans hji18;replace H:=iteNd H;obtain ⟨c19b0,H⟩:=H;replace H:=iteNd H;obtain ⟨c20b0,H⟩:=H;replace H:=bindA H;obtain ⟨t131,A22,H⟩:=H;have H':=A_ H;clear H;have p21:0≤((ji18):Int):=ofD;have q21:(ji18) < (a0.size:Int):=ofD;have hx21:=bt_at a0 (ji18);replace p21:=eq_true p21;replace q21:=eq_true q21;go_wp2_with (first|(go_at_call 105;(with_reducible refine (spec_l1Hex.calls k1 (bt a0 (ji18)) t131 _ A22.out).mono ?_);rintro e w' ⟨rfl,⟨nd,rfl⟩⟩;(try first|exact ⟨rfl,_,World.drewN_drewN _ _ _⟩|exact ⟨rfl,_,Eq.trans (World.drewN_drewN _ _ _) (congrArg (World.drewN _) (Nat.add_assoc _ _ _))⟩)))
          repeat (go_quiet (first|(go_at_call 105;(with_reducible refine (spec_l1Hex.calls k1 (bt a0 (ji18)) t131 _ A22.out).mono ?_);rintro e w' ⟨rfl,⟨nd,rfl⟩⟩;(try first|exact ⟨rfl,_,World.drewN_drewN _ _ _⟩|exact ⟨rfl,_,Eq.trans (World.drewN_drewN _ _ _) (congrArg (World.drewN _) (Nat.add_assoc _ _ _))⟩)));try go_wp2_with (first|(go_at_call 105;(with_reducible refine (spec_l1Hex.calls k1 (bt a0 (ji18)) t131 _ A22.out).mono ?_);rintro e w' ⟨rfl,⟨nd,rfl⟩⟩;(try first|exact ⟨rfl,_,World.drewN_drewN _ _ _⟩|exact ⟨rfl,_,Eq.trans (World.drewN_drewN _ _ _) (congrArg (World.drewN _) (Nat.add_assoc _ _ _))⟩))))
          go_meet
          case rel=>exact ⟨_,(decide (t131 < 0)),zz7,H',⟨(zz53 HK1)⟩,⟨(zz0 HB)⟩⟩
       case rest=>
        clear HC9;obtain ⟨kq,x44_8,rfl,HA,HJ8,HB⟩:=hcut;cases kq with
        | zero=>exact absurd HA.out (by simp [spec_EscNorm.j1])
        | succ kj8=>
         obtain ⟨H⟩:=HA;simp only [spec_EscNorm.j1] at H
         replace H:=iteB H;rcases H with ⟨rfl,H⟩|⟨rfl,H⟩
         ·simp only [Option.some.injEq,Prod.mk.injEq] at H
          obtain ⟨rfl,rfl⟩:=H;go_wp2
          repeat (go_quiet (fail);try go_wp2)
          go_ret2
          exact ⟨zz5,(zz0 HB)⟩
         ·obtain ⟨ji24,hji24⟩:∃ j_:Int,(wrap64 (x5_1+1))=j_:=⟨_,rfl⟩
          (first|rw [hji24] at H|simp only [hji24] at H)
          have hji24w:(IntKind.i64.wrap (x5_1+1))=ji24:=(i64_w _).trans hji24;replace H:=iteNd H;obtain ⟨c25b0,H⟩:=H;replace H:=iteNd H;obtain ⟨c26b0,H⟩:=H;replace H:=bindA H;obtain ⟨t132,A28,H⟩:=H;obtain ⟨ji29,hji29⟩:∃ j_:Int,(wrap64 (x5_1+2))=j_:=⟨_,rfl⟩;(first|rw [hji29] at H|simp only [hji29] at H)
          (try rw [hji29] at A28)
          have hji29w:(IntKind.i64.wrap (x5_1+2))=ji29:=(i64_w _).trans hji29;replace H:=iteNd H;obtain ⟨c30b0,H⟩:=H;replace H:=iteNd H;obtain ⟨c31b0,H⟩:=H;replace H:=bindA H;obtain ⟨t133,A33,H⟩:=H;have H':=A_ H;clear H;have p27:0≤((ji24):Int):=ofD;have q27:(ji24) < (a0.size:Int):=ofD;have hx27:=bt_at a0 (ji24);replace p27:=eq_true p27;replace q27:=eq_true q27;go_wp2_with (first|(go_at_call 105;(with_reducible refine (spec_l1Hex.calls kj8 (bt a0 (ji24)) t132 _ A28.out).mono ?_);rintro e w' ⟨rfl,⟨nd,rfl⟩⟩;(try first|exact ⟨rfl,_,World.drewN_drewN _ _ _⟩|exact ⟨rfl,_,Eq.trans (World.drewN_drewN _ _ _) (congrArg (World.drewN _) (Nat.add_assoc _ _ _))⟩);have p32:0≤((ji29):Int):=ofD;have q32:(ji29) < (a0.size:Int):=ofD;have hx32:=bt_at a0 (ji29);replace p32:=eq_true p32;replace q32:=eq_true q32)|(go_at_call 105;(with_reducible refine (spec_l1Hex.calls kj8 (bt a0 (ji29)) t133 _ A33.out).mono ?_);rintro e w' ⟨rfl,⟨nd,rfl⟩⟩;(try first|exact ⟨rfl,_,World.drewN_drewN _ _ _⟩|exact ⟨rfl,_,Eq.trans (World.drewN_drewN _ _ _) (congrArg (World.drewN _) (Nat.add_assoc _ _ _))⟩)))
          repeat (go_quiet (first|(go_at_call 105;(with_reducible refine (spec_l1Hex.calls kj8 (bt a0 (ji24)) t132 _ A28.out).mono ?_);rintro e w' ⟨rfl,⟨nd,rfl⟩⟩;(try first|exact ⟨rfl,_,World.drewN_drewN _ _ _⟩|exact ⟨rfl,_,Eq.trans (World.drewN_drewN _ _ _) (congrArg (World.drewN _) (Nat.add_assoc _ _ _))⟩);have p32:0≤((ji29):Int):=ofD;have q32:(ji29) < (a0.size:Int):=ofD;have hx32:=bt_at a0 (ji29);replace p32:=eq_true p32;replace q32:=eq_true q32)|(go_at_call 105;(with_reducible refine (spec_l1Hex.calls kj8 (bt a0 (ji29)) t133 _ A33.out).mono ?_);rintro e w' ⟨rfl,⟨nd,rfl⟩⟩;(try first|exact ⟨rfl,_,World.drewN_drewN _ _ _⟩|exact ⟨rfl,_,Eq.trans (World.drewN_drewN _ _ _) (congrArg (World.drewN _) (Nat.add_assoc _ _ _))⟩)));try go_wp2_with (first|(go_at_call 105;(with_reducible refine (spec_l1Hex.calls kj8 (bt a0 (ji24)) t132 _ A28.out).mono ?_);rintro e w' ⟨rfl,⟨nd,rfl⟩⟩;(try first|exact ⟨rfl,_,World.drewN_drewN _ _ _⟩|exact ⟨rfl,_,Eq.trans (World.drewN_drewN _ _ _) (congrArg (World.drewN _) (Nat.add_assoc _ _ _))⟩);have p32:0≤((ji29):Int):=ofD;have q32:(ji29) < (a0.size:Int):=ofD;have hx32:=bt_at a0 (ji29);replace p32:=eq_true p32;replace q32:=eq_true q32)|(go_at_call 105;(with_reducible refine (spec_l1Hex.calls kj8 (bt a0 (ji29)) t133 _ A33.out).mono ?_);rintro e w' ⟨rfl,⟨nd,rfl⟩⟩;(try first|exact ⟨rfl,_,World.drewN_drewN _ _ _⟩|exact ⟨rfl,_,Eq.trans (World.drewN_drewN _ _ _) (congrArg (World.drewN _) (Nat.add_assoc _ _ _))⟩))))
          go_meet
          case rel=>exact ⟨_,(ji29),(wrap64 ((wrap64 (t132 * 16))+t133)),(by first|rfl|(simp only [i64_w,i32_w];done)|(simp only [aid_isEmpty,aid_isEmpty2];done)|(simp;done)|((simp only [← hji29] <;> (first|rfl|simp));done)|(simp [*];done)),zz7,H',⟨(by have:=HK1.out;have:=HJ8.out;first|omega|exact Nat.le_refl _)⟩,⟨(zz0 HB)⟩⟩
      ·(first|rw [c8b0]|(simp only [i64_w,i32_w];rw [c8b0])|skip)
       have H':=A_ H;clear H;go_wp2
       repeat (go_quiet (fail);try go_wp2)
       go_meet
       case rel=>exact ⟨_,(x5_1),(wrap64 (bt a0 x5_1)),zz7,zz7,H',⟨(zz53 HK1)⟩,⟨(zz0 HB)⟩⟩
     case rest=>
      clear HC7;obtain ⟨kq,x5_6,x6_6,rfl,rfl,HA,HJ6,HB⟩:=hcut;cases kq with
      | zero=>exact absurd HA.out (by simp [spec_EscNorm.j2])
      | succ kj6=>
       obtain ⟨H⟩:=HA;simp only [spec_EscNorm.j2] at H
       replace H:=bindA H;obtain ⟨t134,A34,H⟩:=H;have HF35:=A_ H;clear H;go_upto_if 61 with (first|(go_at_call 66;(with_reducible refine (spec_l1Plain.calls ((x6_6) % 256) t134 _ A34.out).mono ?_);rintro e w' ⟨rfl,⟨nd,rfl⟩⟩;(try first|exact ⟨rfl,_,World.drewN_drewN _ _ _⟩|exact ⟨rfl,_,Eq.trans (World.drewN_drewN _ _ _) (congrArg (World.drewN _) (Nat.add_assoc _ _ _))⟩)))
       repeat (go_quiet (first|(go_at_call 66;(with_reducible refine (spec_l1Plain.calls ((x6_6) % 256) t134 _ A34.out).mono ?_);rintro e w' ⟨rfl,⟨nd,rfl⟩⟩;(try first|exact ⟨rfl,_,World.drewN_drewN _ _ _⟩|exact ⟨rfl,_,Eq.trans (World.drewN_drewN _ _ _) (congrArg (World.drewN _) (Nat.add_assoc _ _ _))⟩)));go_upto_if 61 with (first|(go_at_call 66;(with_reducible refine (spec_l1Plain.calls ((x6_6) % 256) t134 _ A34.out).mono ?_);rintro e w' ⟨rfl,⟨nd,rfl⟩⟩;(try first|exact ⟨rfl,_,World.drewN_drewN _ _ _⟩|exact ⟨rfl,_,Eq.trans (World.drewN_drewN _ _ _) (congrArg (World.drewN _) (Nat.add_assoc _ _ _))⟩))))
       obtain ⟨H⟩:=HF35;replace H:=iteB H;rcases H with ⟨rfl,H⟩|⟨rfl,H⟩
       ·obtain ⟨y135,Ny135,H⟩:=bindY H
        replace H:=iteN H;obtain ⟨c37,H⟩:=H;have c37b0:=eq_true c37;have c37b1:=dT c37;try have c37b2:(9223372036854775807 < x4_1.size+(strOfNums y135).size)=False:=eq_false (Nat.not_lt.2 c37)
        have H':=A_ H;clear H;go_wp2_with (first|((with_reducible refine gD (N:=65) rfl ?_);refine Kd.R_lit (Kd.int .u8) _ 5 ?hg (N:=65) ?hd (xs:=([(x6_6) % 256]:List Int)) (inner:=[.int .u8 ((x6_6) % 256)]) (ok:=fun _=>True) (okp:=fun _=>True) ?hr ?hp (fun _ hk=>hk) trivial (Below.refl _ _) (Nat.le_refl _) (by simp) ?_;(case hd=>rfl);(case hg=>rfl);(case hr=>exact zz14);(case hp=>exact (Reps.one (show Kd.M (Kd.int .u8) _ _ _ ((x6_6) % 256) [.int .u8 ((x6_6) % 256)] from rfl) (Reps.none _ _)));intro v136 w38 ho39 hb hg_ hnew_;clear hg_ hnew_;(first|rw [← Ny135.out] at ho39|(simp only [Int.reduceToNat] at ho39;rw [← Ny135.out] at ho39));have HO137:=A_ (Kd.R_lower ho39 (below_size (zz0 HB)));replace HB:=A_ (bS (zz0 HB) hb);clear hb ho39;have hcv40:=own_string (P:=Tryz.prog) Tryz.underlying126 Tryz.underlying5 Tryz.underlying9 (Kd.own_of_R HO137.out)))
        repeat (go_quiet (first|((with_reducible refine gD (N:=65) rfl ?_);refine Kd.R_lit (Kd.int .u8) _ 5 ?hg (N:=65) ?hd (xs:=([(x6_6) % 256]:List Int)) (inner:=[.int .u8 ((x6_6) % 256)]) (ok:=fun _=>True) (okp:=fun _=>True) ?hr ?hp (fun _ hk=>hk) trivial (Below.refl _ _) (Nat.le_refl _) (by simp) ?_;(case hd=>rfl);(case hg=>rfl);(case hr=>exact zz14);(case hp=>exact (Reps.one (show Kd.M (Kd.int .u8) _ _ _ ((x6_6) % 256) [.int .u8 ((x6_6) % 256)] from rfl) (Reps.none _ _)));intro v136 w38 ho39 hb hg_ hnew_;clear hg_ hnew_;(first|rw [← Ny135.out] at ho39|(simp only [Int.reduceToNat] at ho39;rw [← Ny135.out] at ho39));have HO137:=A_ (Kd.R_lower ho39 (below_size (zz0 HB)));replace HB:=A_ (bS (zz0 HB) hb);clear hb ho39;have hcv40:=own_string (P:=Tryz.prog) Tryz.underlying126 Tryz.underlying5 Tryz.underlying9 (Kd.own_of_R HO137.out)));try go_wp2_with (first|((with_reducible refine gD (N:=65) rfl ?_);refine Kd.R_lit (Kd.int .u8) _ 5 ?hg (N:=65) ?hd (xs:=([(x6_6) % 256]:List Int)) (inner:=[.int .u8 ((x6_6) % 256)]) (ok:=fun _=>True) (okp:=fun _=>True) ?hr ?hp (fun _ hk=>hk) trivial (Below.refl _ _) (Nat.le_refl _) (by simp) ?_;(case hd=>rfl);(case hg=>rfl);(case hr=>exact zz14);(case hp=>exact (Reps.one (show Kd.M (Kd.int .u8) _ _ _ ((x6_6) % 256) [.int .u8 ((x6_6) % 256)] from rfl) (Reps.none _ _)));intro v136 w38 ho39 hb hg_ hnew_;clear hg_ hnew_;(first|rw [← Ny135.out] at ho39|(simp only [Int.reduceToNat] at ho39;rw [← Ny135.out] at ho39));have HO137:=A_ (Kd.R_lower ho39 (below_size (zz0 HB)));replace HB:=A_ (bS (zz0 HB) hb);clear hb ho39;have hcv40:=own_string (P:=Tryz.prog) Tryz.underlying126 Tryz.underlying5 Tryz.underlying9 (Kd.own_of_R HO137.out))))
        go_roundg kj6
        case measure=>have:=HK1.out;have:=HJ6.out;omega
        case rel=>exact ⟨(x4_1++(strOfNums y135)),(wrap64 (x5_6+1)),zz7,zz7,H',⟨(zz60 HK1 HJ6)⟩,⟨(zz0 HB)⟩⟩
       ·replace H:=bindA H
        obtain ⟨t138,A41,H⟩:=H;replace H:=iteN H;obtain ⟨c42,H⟩:=H;have c42b0:=eq_true c42;have c42b1:=dT c42;try have c42b2:(9223372036854775807 < x4_1.size+t138.size)=False:=eq_false (Nat.not_lt.2 c42)
        have H':=A_ H;clear H;go_wp2_with (first|(go_at_call 106;(with_reducible refine (spec_l1Sign.calls x6_6 t138 _ A41.out).mono ?_);rintro e w' ⟨rfl,⟨nd,rfl⟩⟩;(try first|exact ⟨rfl,_,World.drewN_drewN _ _ _⟩|exact ⟨rfl,_,Eq.trans (World.drewN_drewN _ _ _) (congrArg (World.drewN _) (Nat.add_assoc _ _ _))⟩)))
        repeat (go_quiet (first|(go_at_call 106;(with_reducible refine (spec_l1Sign.calls x6_6 t138 _ A41.out).mono ?_);rintro e w' ⟨rfl,⟨nd,rfl⟩⟩;(try first|exact ⟨rfl,_,World.drewN_drewN _ _ _⟩|exact ⟨rfl,_,Eq.trans (World.drewN_drewN _ _ _) (congrArg (World.drewN _) (Nat.add_assoc _ _ _))⟩)));try go_wp2_with (first|(go_at_call 106;(with_reducible refine (spec_l1Sign.calls x6_6 t138 _ A41.out).mono ?_);rintro e w' ⟨rfl,⟨nd,rfl⟩⟩;(try first|exact ⟨rfl,_,World.drewN_drewN _ _ _⟩|exact ⟨rfl,_,Eq.trans (World.drewN_drewN _ _ _) (congrArg (World.drewN _) (Nat.add_assoc _ _ _))⟩))))
        go_roundg kj6
        case measure=>have:=HK1.out;have:=HJ6.out;omega
        case rel=>exact ⟨(x4_1++t138),(wrap64 (x5_6+1)),zz7,zz7,H',⟨(zz60 HK1 HJ6)⟩,⟨(zz0 HB)⟩⟩
    ·simp only [Option.some.injEq,Prod.mk.injEq] at H
     obtain ⟨rfl,rfl⟩:=H;go_wp2
     repeat (go_quiet (fail);try go_wp2)
     go_ret2
     exact ⟨zz5,(zz0 HB)⟩
def spec_l1House.l0:Nat→ByteArray→Int→Option (Bool)
 | 0,_,_=>none
 | k+1,x0,x3=>if x3 < (x0.size:Int) then (if 0≤x3 then (if (bt x0 x3) < 97 then (some false) else (if (bt x0 x3) > 122 then (some false) else (spec_l1House.l0 k x0 (wrap64 (x3+1))))) else (none)) else ((spec_l6In.f (x0.size:Int) 1 5).bind fun t124=>(some t124))
def spec_l1House.f (k:Nat) (a0:ByteArray):Option (Bool):=spec_l1House.l0 k a0 0
theorem spec_l1House.mono_l:∀ k,(∀ y0 y1,LeO (spec_l1House.l0 k y0 y1) (spec_l1House.l0 (k+1) y0 y1))
 | 0=>by intros;intro r h;simp [spec_l1House.l0] at h
 | k+1=>by
  have ih0:=spec_l1House.mono_l k;intros;unfold spec_l1House.l0;repeat' first|(with_reducible first|exact ih0 _ _|exact LeO.refl _|exact LeO.none _|refine LeO.ite ?_ ?_|refine LeO.bind ?_ (fun _=>?_))|exact LeO.none _|refine LeO.ite ?_ ?_|refine LeO.bind ?_ (fun _=>?_)
theorem spec_l1House.mono:∀ a0 k,LeO (spec_l1House.f k a0) (spec_l1House.f (k+1) a0):=by
 intro a0 k;have ih0:=spec_l1House.mono_l k;unfold spec_l1House.f
 repeat' first|(with_reducible first|exact ih0 _ _|exact LeO.refl _|exact LeO.none _|refine LeO.ite ?_ ?_|refine LeO.bind ?_ (fun _=>?_))|exact LeO.none _|refine LeO.ite ?_ ?_|refine LeO.bind ?_ (fun _=>?_)
theorem spec_l1House.calls (k:Nat) (a0:ByteArray) (r:Bool) (w:World) (h:spec_l1House.f k a0=some r) :
  Calls Tryz.prog 42 #[.string a0] w fun e w'=>e=.returned (.bool r)∧Drawn0 w w':=by
 unfold spec_l1House.f at h
 have H:=h;clear h;have H':=A_ H;clear H;go_enter Tryz.func42,Tryz.ntmps42;go_wp2
 go_loopg [3] k (fun kq v3 w'=>∃ (x3_1:Int),v3=.int .i64 x3_1∧Aside0 (spec_l1House.l0 kq a0 x3_1=some r)∧Aside0 (kq≤k)∧Drawn0 w w')
 case atStart=>exact ⟨(0),zz7,H',⟨Nat.le_refl _⟩,zz8⟩
 case round=>
  clear H';obtain ⟨x3_1,rfl,HA,HK1,⟨m1,rfl⟩⟩:=hrel;cases gk with
  | zero=>exact absurd HA.out (by simp [spec_l1House.l0])
  | succ k1=>
   obtain ⟨H⟩:=HA;simp only [spec_l1House.l0] at H
   replace H:=iteEd H;rcases H with ⟨c2b0,H⟩|⟨c2b0,H⟩
   ·replace H:=iteNd H
    obtain ⟨c3b0,H⟩:=H;replace H:=iteEd H;rcases H with ⟨c5b0,H⟩|⟨c5b0,H⟩
    ·obtain rfl:=sI H
     have p4:0≤(x3_1:Int):=ofD;have q4:x3_1 < (a0.size:Int):=ofD;have hx4:=bt_at a0 x3_1;replace p4:=eq_true p4;replace q4:=eq_true q4;go_wp2
     go_ret
     exact ⟨zz7,zz8⟩
    ·replace H:=iteEg H
     rcases H with ⟨c7b0,H⟩|⟨c7b0,H⟩
     ·obtain rfl:=sI H
      have p4:0≤(x3_1:Int):=ofD;have q4:x3_1 < (a0.size:Int):=ofD;have hx4:=bt_at a0 x3_1;replace p4:=eq_true p4;replace q4:=eq_true q4;have p6:0≤(x3_1:Int):=ofD;have q6:x3_1 < (a0.size:Int):=ofD;have hx6:=bt_at a0 x3_1;replace p6:=eq_true p6;replace q6:=eq_true q6;go_wp2
      go_ret
      exact ⟨zz7,zz8⟩
     ·have H':=A_ H
      clear H;have p4:0≤(x3_1:Int):=ofD;have q4:x3_1 < (a0.size:Int):=ofD;have hx4:=bt_at a0 x3_1;replace p4:=eq_true p4;replace q4:=eq_true q4;have p6:0≤(x3_1:Int):=ofD;have q6:x3_1 < (a0.size:Int):=ofD;have hx6:=bt_at a0 x3_1;replace p6:=eq_true p6;replace q6:=eq_true q6;go_wp2
      go_roundg k1
      case measure=>have:=HK1.out;omega
      case rel=>exact ⟨(wrap64 (x3_1+1)),zz7,H',⟨(zz17 HK1)⟩,zz8⟩
   ·replace H:=bindA H
    obtain ⟨t124,A8,H⟩:=H;obtain rfl:=sI H;go_wp2_with (first|(refine gR 19 (some 22) Tryz.func19 (spec_l6In.calls (a0.size:Int) 1 5 t124 _ A8.out) ?_;rintro w' ⟨nd,rfl⟩))
    go_ret
    exact ⟨zz7,zz8⟩
def spec_l1Path.l0:Nat→ByteArray→Int→ByteArray→List ByteArray→Bool→ByteArray→Option (ByteArray)
 | 0,_,_,_,_,_,_=>none
 | k+1,x3,x4,x126000,x126001,x126002,x126003=>if x4 < (x126001.length:Int) then (if x4 > 0 then (if x3.size+1≤9223372036854775807 then (if 0≤x4 then (if x3.size+1+(rdOf ByteArray.empty x126001 x4).size≤9223372036854775807 then (spec_l1Path.l0 k ((x3++(⟨#[47]⟩:ByteArray))++(rdOf ByteArray.empty x126001 x4)) (wrap64 (x4+1)) x126000 x126001 x126002 x126003) else (none)) else (none)) else (none)) else (if 0≤x4 then (if x3.size+(rdOf ByteArray.empty x126001 x4).size≤9223372036854775807 then (spec_l1Path.l0 k (x3++(rdOf ByteArray.empty x126001 x4)) (wrap64 (x4+1)) x126000 x126001 x126002 x126003) else (none)) else (none))) else (if x126002=true then (if x3.size+1≤9223372036854775807 then (if x3.size+1+x126003.size≤9223372036854775807 then (some ((x3++(⟨#[63]⟩:ByteArray))++x126003)) else (none)) else (none)) else (some x3))
def spec_l1Path.f (k:Nat) (a0_0:ByteArray) (l0_1:List ByteArray) (a0_2:Bool) (a0_3:ByteArray):Option (ByteArray):=spec_l1Path.l0 k (⟨#[47]⟩:ByteArray) 0 a0_0 l0_1 a0_2 a0_3
theorem spec_l1Path.mono_l:∀ k,(∀ y0 y1 y2 y3 y4 y5,LeO (spec_l1Path.l0 k y0 y1 y2 y3 y4 y5) (spec_l1Path.l0 (k+1) y0 y1 y2 y3 y4 y5))
 | 0=>by intros;intro r h;simp [spec_l1Path.l0] at h
 | k+1=>by
  have ih0:=spec_l1Path.mono_l k;intros;unfold spec_l1Path.l0;repeat' first|(with_reducible first|exact ih0 _ _ _ _ _ _|exact LeO.refl _|exact LeO.none _|refine LeO.ite ?_ ?_|refine LeO.bind ?_ (fun _=>?_))|exact LeO.none _|refine LeO.ite ?_ ?_|refine LeO.bind ?_ (fun _=>?_)
theorem spec_l1Path.mono:∀ a0 a1 a2 a3 k,LeO (spec_l1Path.f k a0 a1 a2 a3) (spec_l1Path.f (k+1) a0 a1 a2 a3):=by
 intro a0 a1 a2 a3 k;have ih0:=spec_l1Path.mono_l k;unfold spec_l1Path.f
 repeat' first|(with_reducible first|exact ih0 _ _ _ _ _ _|exact LeO.refl _|exact LeO.none _|refine LeO.ite ?_ ?_|refine LeO.bind ?_ (fun _=>?_))|exact LeO.none _|refine LeO.ite ?_ ?_|refine LeO.bind ?_ (fun _=>?_)
theorem spec_l1Path.calls (k:Nat) (a0_0:ByteArray) (A0_1:Option Addr) (c0_1:Nat) (l0_1:List ByteArray) (a0_2:Bool) (a0_3:ByteArray) (r:ByteArray) (w:World) (hr0_1:Kd.C Kd.string w A0_1 l0_1.length l0_1) (hc0_1:l0_1.length≤c0_1) (h:spec_l1Path.f k a0_0 l0_1 a0_2 a0_3=some r) :
  Calls Tryz.prog 81 #[.agg #[.string a0_0,.slice A0_1 l0_1.length c0_1,.bool a0_2,.string a0_3]] w fun e w'=>e=.returned (.string r)∧Below w.heap.size w w':=by
 have hu75:=Tryz.underlying75;have HR0_1:=A_ hr0_1;have HC0_1:=A_ hc0_1;clear hr0_1 hc0_1;have HB:=A_ (Below.refl w.heap.size w);unfold spec_l1Path.f at h
 have H:=h;clear h;have H':=A_ H;clear H;go_enter Tryz.func81,Tryz.ntmps81;go_wp2_with (first|(refine boxF 1 #[.string a0_0,.slice A0_1 l0_1.length c0_1,.bool a0_2,.string a0_3] 75 ?_;intro gb125 hg w2 BK125 hb;have GE125:=geB hg (zz0 HB);replace HB:=A_ (bS (zz0 HB) hb);clear hb hg))
 go_loopg [3,4] k (fun kq v3 v4 w'=>∃ (x3_1:ByteArray) (x4_1:Int),v3=.string x3_1∧v4=.int .i64 x4_1∧Aside0 (spec_l1Path.l0 kq x3_1 x4_1 a0_0 l0_1 a0_2 a0_3=some r)∧Aside0 (kq≤k)∧Aside0 (w'.heap[gb125]?=some (.cells #[.string a0_0,(.slice A0_1 l0_1.length c0_1),.bool a0_2,.string a0_3] 75 (0,0)))∧Aside0 (Below w.heap.size w w'))
 case atStart=>exact ⟨((⟨#[47]⟩:ByteArray)),(0),zz7,zz7,H',⟨Nat.le_refl _⟩,⟨(zz2 BK125)⟩,⟨(zz1 HB GE125)⟩⟩
 case round=>
  clear H';obtain ⟨x3_1,x4_1,rfl,rfl,HA,HK1,BK125,HB⟩:=hrel;cases gk with
  | zero=>exact absurd HA.out (by simp [spec_l1Path.l0])
  | succ k1=>
   obtain ⟨H⟩:=HA;simp only [spec_l1Path.l0] at H
   replace H:=iteEd H;rcases H with ⟨c3b0,H⟩|⟨c3b0,H⟩
   ·replace H:=iteEg H
    rcases H with ⟨c4b0,H⟩|⟨c4b0,H⟩
    ·replace H:=iteN H
     obtain ⟨c5,H⟩:=H;have c5b0:=eq_true c5;have c5b1:=dT c5;try have c5b2:(9223372036854775807 < x3_1.size+1)=False:=eq_false (Nat.not_lt.2 c5)
     replace H:=iteNd H;obtain ⟨c6b0,H⟩:=H;replace H:=iteN H;obtain ⟨c7,H⟩:=H;have c7b0:=eq_true c7;have c7b1:=dT c7;try have c7b2:(9223372036854775807 < x3_1.size+1+(rdOf ByteArray.empty l0_1 x4_1).size)=False:=eq_false (Nat.not_lt.2 c7)
     have H':=A_ H;clear H;obtain ⟨_,_,_,_,_,_,_,_⟩:=cf4 BK125;obtain ⟨⟨ad126,e126,hx126_0⟩,p126,q126⟩:=atB (Kd.at_string HR0_1.out x4_1);cases e126
     replace hx126_0:=cbl HB hx126_0;go_wp2
     go_roundg k1
     case measure=>have:=HK1.out;omega
     case rel=>exact ⟨((x3_1++(⟨#[47]⟩:ByteArray))++(rdOf ByteArray.empty l0_1 x4_1)),(wrap64 (x4_1+1)),zz7,zz7,H',⟨(zz17 HK1)⟩,⟨(zz2 BK125)⟩,⟨(zz1 HB GE125)⟩⟩
    ·replace H:=iteNd H
     obtain ⟨c9b0,H⟩:=H;replace H:=iteN H;obtain ⟨c10,H⟩:=H;have c10b0:=eq_true c10;have c10b1:=dT c10;try have c10b2:(9223372036854775807 < x3_1.size+(rdOf ByteArray.empty l0_1 x4_1).size)=False:=eq_false (Nat.not_lt.2 c10)
     have H':=A_ H;clear H;obtain ⟨_,_,_,_,_,_,_,_⟩:=cf4 BK125;obtain ⟨⟨ad127,e127,hx127_0⟩,p127,q127⟩:=atB (Kd.at_string HR0_1.out x4_1);cases e127
     replace hx127_0:=cbl HB hx127_0;go_wp2
     go_roundg k1
     case measure=>have:=HK1.out;omega
     case rel=>exact ⟨(x3_1++(rdOf ByteArray.empty l0_1 x4_1)),(wrap64 (x4_1+1)),zz7,zz7,H',⟨(zz17 HK1)⟩,⟨(zz2 BK125)⟩,⟨(zz1 HB GE125)⟩⟩
   ·replace H:=iteB H
    rcases H with ⟨rfl,H⟩|⟨rfl,H⟩
    ·replace H:=iteN H
     obtain ⟨c13,H⟩:=H;have c13b0:=eq_true c13;have c13b1:=dT c13;try have c13b2:(9223372036854775807 < x3_1.size+1)=False:=eq_false (Nat.not_lt.2 c13)
     replace H:=iteN H;obtain ⟨c14,H⟩:=H;have c14b0:=eq_true c14;have c14b1:=dT c14;try have c14b2:(9223372036854775807 < x3_1.size+1+a0_3.size)=False:=eq_false (Nat.not_lt.2 c14)
     obtain rfl:=sI H;obtain ⟨_,_,_,_,_,_,_,_⟩:=cf4 BK125;go_wp2
     go_ret
     exact ⟨zz5,(zz1 HB GE125)⟩
    ·obtain rfl:=sI H
     obtain ⟨_,_,_,_,_,_,_,_⟩:=cf4 BK125;go_wp2
     go_ret
     exact ⟨zz5,(zz1 HB GE125)⟩
def spec_l1Split.l0:Nat→Int→List ByteArray→ByteArray→Bool→Option (List ByteArray)
 | 0,_,_,_,_=>none
 | k+1,x1,x5,x6,x7=>if x7=true then ((spec_l1Cut.f k x6 x1).bind fun bt153=>(if x5.length < 8796093022208 then (spec_l1Split.l0 k x1 (x5++[bt153.1]) bt153.2.1 bt153.2.2) else (none))) else (some x5)
def spec_l1Split.f (k:Nat) (a0:ByteArray) (a1:Int):Option (List ByteArray):=spec_l1Split.l0 k a1 (([]:List ByteArray)) a0 true
theorem spec_l1Split.calls (k:Nat) (a0:ByteArray) (a1:Int) (r:List ByteArray) (w:World) (h:spec_l1Split.f k a0 a1=some r) :
  Calls Tryz.prog 92 #[.string a0,.int .u8 a1] w fun e w'=>∃ v0_:Value,e=.returned (v0_)∧Kd.R Kd.string 9 w' w.heap.size (fun _=>True) v0_ r∧Below w.heap.size w w':=by
 have HB:=A_ (Below.refl w.heap.size w);unfold spec_l1Split.f at h
 have H:=h;clear h;obtain ⟨y150,Ny150⟩:=toY (([]:List ByteArray));(first|with_reducible replace H:=bindZ Ny150 H|rw [← Ny150.out] at H|skip)
 have H':=A_ H;clear H;go_enter Tryz.func92,Tryz.ntmps92;go_wp2_with (first|((with_reducible refine gD (N:=9) rfl ?_);refine Kd.R_lit Kd.string _ 9 ?hg (N:=9) ?hd (xs:=([]:List ByteArray)) (inner:=[]) (ok:=fun _=>True) (okp:=fun _=>True) ?hr ?hp (fun _ hk=>hk) trivial (Below.refl _ _) (Nat.le_refl _) (by simp) ?_;(case hd=>rfl);(case hg=>rfl);(case hr=>exact zz14);(case hp=>exact (Reps.none _ _));intro v151 w3 ho4 hb hg_ hnew_;clear hg_ hnew_;(first|rw [← Ny150.out] at ho4|(simp only [Int.reduceToNat] at ho4;rw [← Ny150.out] at ho4));have HO152:=A_ (Kd.R_lower ho4 (below_size (zz0 HB)));replace HB:=A_ (bS (zz0 HB) hb);clear hb ho4))
 go_loopg [5,6,7] k (fun kq v5 v6 v7 w'=>∃ (x5_1:List ByteArray) (x6_1:ByteArray) (x7_1:Bool),v6=.string x6_1∧v7=.bool x7_1∧Aside0 (spec_l1Split.l0 kq a1 x5_1 x6_1 x7_1=some r)∧Aside0 (kq≤k)∧Aside0 (Kd.R Kd.string 9 w' w.heap.size (fun _=>True) v5 x5_1)∧Aside0 (Below w.heap.size w w'))
 case atStart=>exact ⟨(y150),(a0),(true),zz7,zz7,H',⟨Nat.le_refl _⟩,⟨(zz12 HO152)⟩,⟨(zz0 HB)⟩⟩
 case round=>
  clear H';obtain ⟨x5_1,x6_1,x7_1,rfl,rfl,HA,HK1,HO_5,HB⟩:=hrel;cases gk with
  | zero=>exact absurd HA.out (by simp [spec_l1Split.l0])
  | succ k1=>
   obtain ⟨H⟩:=HA;simp only [spec_l1Split.l0] at H
   replace H:=iteB H;rcases H with ⟨rfl,H⟩|⟨rfl,H⟩
   ·replace H:=bindA H
    obtain ⟨⟨t153,t154,t155⟩,A6,H⟩:=H;try dsimp only at H
    replace H:=iteN H;obtain ⟨c7,H⟩:=H;have LMc7:=A_ c7;clear c7;obtain ⟨y156,Ny156⟩:=toY (x5_1++[t153]);(first|with_reducible replace H:=bindZ Ny156 H|rw [← Ny156.out] at H|skip)
    have H':=A_ H;clear H;go_wp2_with (first|(refine gR 62 (some 15) Tryz.func62 (spec_l1Cut.calls k1 x6_1 a1 t153 t154 t155 _ A6.out) ?_;rintro w' ⟨nd,rfl⟩)|((with_reducible refine gate_builtin (b:=.append) (xs:=#[.tmp 19,.tmp 21]) rfl ?_);at_builtin;refine Kd.R_append Kd.string (w0:=w) w.heap.size rfl (.tmp 19) (.tmp 21) 23 9 (.string ⟨#[]⟩) 16 rfl Tryz.underlying23 info9 rfl (by decide) (by omega) u5 x5_1 t153 [.string t153] (fun _=>True) (fun _=>False) rfl rfl ?aP (fun _ hk=>hk.elim) ?aF ?aO ?aB ?aS ?aL ?_;(case aP=>exact rfl);(case aB=>exact (zz0 HB));(case aF=>exact (fun _ _=>trivial));(case aO=>exact (zz12 HO_5));(case aS=>exact (below_size (zz0 HB)));(case aL=>exact (zz17 LMc7));intro v157 w8 ho hb hg hat;rw [← Ny156.out] at ho;replace HB:=A_ (hb);have HO158:=A_ (ho);clear HO_5;clear ho hb hg hat))
    go_roundg k1
    case measure=>have:=HK1.out;omega
    case rel=>exact ⟨(y156),(t154),(t155),zz7,zz7,H',⟨(zz17 HK1)⟩,⟨(zz12 HO158)⟩,⟨(zz0 HB)⟩⟩
   ·obtain rfl:=sI H
    go_wp2
    go_ret
    exact ⟨_,zz5,(zz12 HO_5),(zz0 HB)⟩
mutual
def spec_PathClean.l0:Nat→List ByteArray→List ByteArray→Int→Option (List ByteArray)
 | 0,_,_,_=>none
 | k+1,x0,x3,x4=>if x4 < (x0.length:Int) then (if 0≤x4 then (if (rdOf ByteArray.empty x0 x4).toList=([]:List UInt8) then (spec_PathClean.j1 k x0 x3 x4 true) else (spec_PathClean.j1 k x0 x3 x4 ((rdOf ByteArray.empty x0 x4).toList == ([46]:List UInt8)))) else (none)) else (some x3)
def spec_PathClean.j1:Nat→List ByteArray→List ByteArray→Int→Bool→Option (List ByteArray)
 | 0,_,_,_,_=>none
 | k+1,x0,x3,x4,x19=>if x19=true then (spec_PathClean.l0 k x0 x3 (wrap64 (x4+1))) else (if 0≤x4 then (if x4 < (x0.length:Int) then (if (rdOf ByteArray.empty x0 x4).toList=([46,46]:List UInt8) then (if 0≤(mx (wrap64 ((x3.length:Int) - 1)) 0) then (if (mx (wrap64 ((x3.length:Int) - 1)) 0)≤(x3.length:Int) then (spec_PathClean.l0 k x0 (x3.take ((mx (wrap64 ((x3.length:Int) - 1)) 0):Int).toNat) (wrap64 (x4+1))) else (none)) else (none)) else (if x3.length < 8796093022208 then (spec_PathClean.l0 k x0 (x3++[rdOf ByteArray.empty x0 x4]) (wrap64 (x4+1))) else (none))) else (none)) else (none))
end
def spec_PathClean.f (k:Nat) (l0:List ByteArray):Option (List ByteArray):=spec_PathClean.l0 k l0 (([]:List ByteArray)) 0
theorem spec_PathClean.calls (k:Nat) (A0:Option Addr) (c0:Nat) (l0:List ByteArray) (r:List ByteArray) (w:World) (hr0:Kd.C Kd.string w A0 l0.length l0) (hc0:l0.length≤c0) (h:spec_PathClean.f k l0=some r) :
  Calls Tryz.prog 94 #[.slice A0 l0.length c0] w fun e w'=>∃ v0_:Value,e=.returned (v0_)∧Kd.R Kd.string 9 w' w.heap.size (fun _=>True) v0_ r∧Below w.heap.size w w':=by
 have HR0:=A_ hr0;have HC0:=A_ hc0;clear hr0 hc0;have HB:=A_ (Below.refl w.heap.size w);unfold spec_PathClean.f at h
 have H:=h;clear h;obtain ⟨y159,Ny159⟩:=toY (([]:List ByteArray));(first|with_reducible replace H:=bindZ Ny159 H|rw [← Ny159.out] at H|skip)
 have H':=A_ H;clear H;go_enter Tryz.func94,Tryz.ntmps94;go_wp2_with (first|((with_reducible refine gD (N:=5) rfl ?_);refine Kd.R_lit Kd.string _ 9 ?hg (N:=5) ?hd (xs:=([]:List ByteArray)) (inner:=[]) (ok:=fun _=>True) (okp:=fun _=>True) ?hr ?hp (fun _ hk=>hk) trivial (Below.refl _ _) (Nat.le_refl _) (by simp) ?_;(case hd=>rfl);(case hg=>rfl);(case hr=>exact zz14);(case hp=>exact (Reps.none _ _));intro v160 w2 ho3 hb hg_ hnew_;clear hg_ hnew_;(first|rw [← Ny159.out] at ho3|(simp only [Int.reduceToNat] at ho3;rw [← Ny159.out] at ho3));have HO161:=A_ (Kd.R_lower ho3 (below_size (zz0 HB)));replace HB:=A_ (bS (zz0 HB) hb);clear hb ho3))
 go_loopg [3,4] k (fun kq v3 v4 w'=>∃ (x3_1:List ByteArray) (x4_1:Int),v4=.int .i64 x4_1∧Aside0 (spec_PathClean.l0 kq l0 x3_1 x4_1=some r)∧Aside0 (kq≤k)∧Aside0 (Kd.R Kd.string 9 w' w.heap.size (fun _=>True) v3 x3_1)∧Aside0 (Below w.heap.size w w'))
 case atStart=>exact ⟨(y159),(0),zz7,H',⟨Nat.le_refl _⟩,⟨(zz12 HO161)⟩,⟨(zz0 HB)⟩⟩
 case round=>
  clear H';obtain ⟨x3_1,x4_1,rfl,HA,HK1,HO_3,HB⟩:=hrel;cases gk with
  | zero=>exact absurd HA.out (by simp [spec_PathClean.l0])
  | succ k1=>
   obtain ⟨H⟩:=HA;simp only [spec_PathClean.l0] at H
   replace H:=iteEd H;rcases H with ⟨c4b0,H⟩|⟨c4b0,H⟩
   ·have HC5:=A_ H
    clear H;go_upto_region 6 with (fail)
    go_cut [19] (fun v19 wc=>∃ (kq:Nat) (x19_4:Bool),v19=.bool x19_4∧Aside0 (spec_PathClean.j1 kq l0 x3_1 x4_1 x19_4=some r)∧Aside0 (kq≤k1)∧Aside0 (Kd.R Kd.string 9 wc w.heap.size (fun _=>True) u3 x3_1)∧Aside0 (Below w.heap.size w wc))
    case first=>
     obtain ⟨H⟩:=HC5;replace H:=iteNd H;obtain ⟨c6b0,H⟩:=H;(first|rw [c6b0]|(simp only [i64_w,i32_w];rw [c6b0])|skip)
     replace H:=iteEq H;rcases H with ⟨c7b0,c7b1,H⟩|⟨c7b0,c7b1,c7,H⟩
     ·have H':=A_ H
      clear H;obtain ⟨⟨ad162,e162,hx162_0⟩,p162,q162⟩:=atB (Kd.at_string HR0.out x4_1);cases e162
      replace hx162_0:=cbl HB hx162_0;go_wp2
      go_meet
      case rel=>exact ⟨_,(true),zz7,H',⟨(zz53 HK1)⟩,⟨(zz12 HO_3)⟩,⟨(zz0 HB)⟩⟩
     ·have H':=A_ H
      clear H;obtain ⟨⟨ad162,e162,hx162_0⟩,p162,q162⟩:=atB (Kd.at_string HR0.out x4_1);cases e162
      replace hx162_0:=cbl HB hx162_0;obtain ⟨⟨ad163,e163,hx163_0⟩,p163,q163⟩:=atB (Kd.at_string HR0.out x4_1);obtain rfl:ad162=ad163:=(by injection e163);replace hx163_0:=cbl HB hx163_0;go_wp2
      go_meet
      case rel=>exact ⟨_,(((rdOf ByteArray.empty l0 x4_1).toList == ([46]:List UInt8))),zz7,H',⟨(zz53 HK1)⟩,⟨(zz12 HO_3)⟩,⟨(zz0 HB)⟩⟩
    case rest=>
     clear HC5;obtain ⟨kq,x19_4,rfl,HA,HJ4,HO_3,HB⟩:=hcut;cases kq with
     | zero=>exact absurd HA.out (by simp [spec_PathClean.j1])
     | succ kj4=>
      obtain ⟨H⟩:=HA;simp only [spec_PathClean.j1] at H
      replace H:=iteB H;rcases H with ⟨rfl,H⟩|⟨rfl,H⟩
      ·have H':=A_ H
       clear H;go_wp2
       go_roundg kj4
       case measure=>have:=HK1.out;have:=HJ4.out;omega
       case rel=>exact ⟨(x3_1),(wrap64 (x4_1+1)),zz7,H',⟨(zz60 HK1 HJ4)⟩,⟨(zz12 HO_3)⟩,⟨(zz0 HB)⟩⟩
      ·replace H:=iteN H
       obtain ⟨c9,H⟩:=H;have c9b0:=dT c9;clear c9;replace H:=iteNd H;obtain ⟨c10b0,H⟩:=H;replace H:=iteEq H;rcases H with ⟨c11b0,c11b1,H⟩|⟨c11b0,c11b1,c11,H⟩
       ·obtain ⟨ji12,hji12⟩:∃ j_:Int,(mx (wrap64 ((x3_1.length:Int) - 1)) 0)=j_:=⟨_,rfl⟩
        (first|rw [hji12] at H|simp only [hji12] at H)
        have hji12_:(if (wrap64 ((x3_1.length:Int) - 1)) < 0 then 0 else (wrap64 ((x3_1.length:Int) - 1)))=ji12:=hji12;replace H:=iteN H;obtain ⟨c13,H⟩:=H;have c13b0:=eq_true c13;have c13b1:=dT c13;clear c13;replace H:=iteN H;obtain ⟨c14,H⟩:=H;have c14b0:=eq_true c14;have c14b1:=dT c14;clear c14;obtain ⟨y165,Ny165⟩:=toY (x3_1.take ((ji12):Int).toNat);(first|with_reducible replace H:=bindZ Ny165 H|rw [← Ny165.out] at H|skip)
        have H':=A_ H;clear H;obtain ⟨⟨ad164,e164,hx164_0⟩,p164,q164⟩:=atB (Kd.at_string HR0.out x4_1);cases e164
        replace hx164_0:=cbl HB hx164_0;obtain ⟨Ao15,co15,eo15⟩:=Kd.R_slice HO_3.out;subst eo15;have q16:((ji12):Int)≤((x3_1.length:Int):Int):=ofD;obtain ⟨i016,hi016,_,hsz16,_⟩:=info_parts info9;have hcut16:=cut_to (P:=Tryz.prog) 23 9 .i64 Tryz.underlying23 hi016 Ao15 x3_1.length co15 (ji12) ofD q16 (Kd.R_reads' HO_3.out).2.1;have hr16:=Kd.R_take (m:=((ji12):Int).toNat) HO_3.out (by omega);have hy16:y165.length=((ji12):Int).toNat:=(by rw [Ny165.out,List.length_take];omega);rw [← Ny165.out] at hr16;rw [← hy16] at hr16 hcut16;clear hy16 hi016 hsz16 HO_3;have HO167:=A_ hr16;clear hr16;replace q16:=eq_true q16;go_wp2
        go_roundg kj4
        case measure=>have:=HK1.out;have:=HJ4.out;omega
        case rel=>exact ⟨(y165),(wrap64 (x4_1+1)),zz7,H',⟨(zz60 HK1 HJ4)⟩,⟨(zz12 HO167)⟩,⟨(zz0 HB)⟩⟩
       ·replace H:=iteN H
        obtain ⟨c17,H⟩:=H;have LMc17:=A_ c17;clear c17;obtain ⟨y169,Ny169⟩:=toY (x3_1++[rdOf ByteArray.empty l0 x4_1]);(first|with_reducible replace H:=bindZ Ny169 H|rw [← Ny169.out] at H|skip)
        have H':=A_ H;clear H;obtain ⟨⟨ad164,e164,hx164_0⟩,p164,q164⟩:=atB (Kd.at_string HR0.out x4_1);cases e164
        replace hx164_0:=cbl HB hx164_0;obtain ⟨⟨ad168,e168,hx168_0⟩,p168,q168⟩:=atB (Kd.at_string HR0.out x4_1);obtain rfl:ad164=ad168:=(by injection e168);replace hx168_0:=cbl HB hx168_0;go_wp2_with (first|((with_reducible refine gate_builtin (b:=.append) (xs:=#[.tmp 12,.tmp 17]) rfl ?_);at_builtin;refine Kd.R_append Kd.string (w0:=w) w.heap.size rfl (.tmp 12) (.tmp 17) 23 9 (.string ⟨#[]⟩) 16 rfl Tryz.underlying23 info9 rfl (by decide) (by omega) u3 x3_1 (rdOf ByteArray.empty l0 x4_1) [.string (rdOf ByteArray.empty l0 x4_1)] (fun _=>True) (fun _=>False) rfl rfl ?aP (fun _ hk=>hk.elim) ?aF ?aO ?aB ?aS ?aL ?_;(case aP=>exact rfl);(case aB=>exact (zz0 HB));(case aF=>exact (fun _ _=>trivial));(case aO=>exact (zz12 HO_3));(case aS=>exact (below_size (zz0 HB)));(case aL=>exact (zz17 LMc17));intro v170 w18 ho hb hg hat;rw [← Ny169.out] at ho;replace HB:=A_ (hb);have HO171:=A_ (ho);clear HO_3;clear ho hb hg hat))
        go_roundg kj4
        case measure=>have:=HK1.out;have:=HJ4.out;omega
        case rel=>exact ⟨(y169),(wrap64 (x4_1+1)),zz7,H',⟨(zz60 HK1 HJ4)⟩,⟨(zz12 HO171)⟩,⟨(zz0 HB)⟩⟩
   ·obtain rfl:=sI H
    go_wp2
    go_ret
    exact ⟨_,zz5,(zz12 HO_3),(zz0 HB)⟩
def spec_l12House.l0:Nat→ByteArray→Int→ByteArray→Int→List (S56)→List ByteArray→List (S45)→Option (Int)
 | 0,_,_,_,_,_,_,_=>none
 | k+1,x1,x5,x248000,x248001,x248002,x248003,x248004=>if x5 < (x248002.length:Int) then (if 0≤x5 then (if ((rd_T56 x248002 x5).f0).toList=x1.toList then (some x5) else (spec_l12House.l0 k x1 (wrap64 (x5+1)) x248000 x248001 x248002 x248003 x248004)) else (none)) else (some (-1))
def spec_l12House.f (k:Nat) (a0_0:ByteArray) (a0_1:Int) (l0_2:List (S56)) (l0_3:List ByteArray) (l0_4:List (S45)) (a1:ByteArray):Option (Int):=spec_l12House.l0 k a1 0 a0_0 a0_1 l0_2 l0_3 l0_4
theorem spec_l12House.calls (k:Nat) (a0_0:ByteArray) (a0_1:Int) (A0_2:Option Addr) (c0_2:Nat) (l0_2:List (S56)) (A0_3:Option Addr) (c0_3:Nat) (l0_3:List ByteArray) (A0_4:Option Addr) (c0_4:Nat) (l0_4:List (S45)) (a1:ByteArray) (r:Int) (w:World) (hr0_2:Kd.C k56 w A0_2 l0_2.length l0_2) (hc0_2:l0_2.length≤c0_2) (hr0_3:Kd.C Kd.string w A0_3 l0_3.length l0_3) (hc0_3:l0_3.length≤c0_3) (hr0_4:Kd.C k45 w A0_4 l0_4.length l0_4) (hc0_4:l0_4.length≤c0_4) (h:spec_l12House.f k a0_0 a0_1 l0_2 l0_3 l0_4 a1=some r) :
  Calls Tryz.prog 43 #[.agg #[.string a0_0,.int .i64 a0_1,.slice A0_2 l0_2.length c0_2,.slice A0_3 l0_3.length c0_3,.slice A0_4 l0_4.length c0_4],.string a1] w fun e w'=>e=.returned (.int .i64 r)∧Below w.heap.size w w':=by
 have hu32:=Tryz.underlying32;have HR0_2:=A_ hr0_2;have HC0_2:=A_ hc0_2;clear hr0_2 hc0_2;have HR0_3:=A_ hr0_3;have HC0_3:=A_ hc0_3;clear hr0_3 hc0_3;have HR0_4:=A_ hr0_4;have HC0_4:=A_ hc0_4;clear hr0_4 hc0_4;have HB:=A_ (Below.refl w.heap.size w);unfold spec_l12House.f at h
 have H:=h;clear h;have H':=A_ H;clear H;go_enter Tryz.func43,Tryz.ntmps43;go_wp2_with (first|(refine boxF 2 #[.string a0_0,.int .i64 a0_1,.slice A0_2 l0_2.length c0_2,.slice A0_3 l0_3.length c0_3,.slice A0_4 l0_4.length c0_4] 32 ?_;intro gb247 hg w3 BK247 hb;have GE247:=geB hg (zz0 HB);replace HB:=A_ (bS (zz0 HB) hb);clear hb hg))
 go_loopg [5] k (fun kq v5 w'=>∃ (x5_1:Int),v5=.int .i64 x5_1∧Aside0 (spec_l12House.l0 kq a1 x5_1 a0_0 a0_1 l0_2 l0_3 l0_4=some r)∧Aside0 (kq≤k)∧Aside0 (w'.heap[gb247]?=some (.cells #[.string a0_0,.int .i64 a0_1,(.slice A0_2 l0_2.length c0_2),(.slice A0_3 l0_3.length c0_3),(.slice A0_4 l0_4.length c0_4)] 32 (0,0)))∧Aside0 (Below w.heap.size w w'))
 case atStart=>exact ⟨(0),zz7,H',⟨Nat.le_refl _⟩,⟨(zz2 BK247)⟩,⟨(zz1 HB GE247)⟩⟩
 case round=>
  clear H';obtain ⟨x5_1,rfl,HA,HK1,BK247,HB⟩:=hrel;cases gk with
  | zero=>exact absurd HA.out (by simp [spec_l12House.l0])
  | succ k1=>
   obtain ⟨H⟩:=HA;simp only [spec_l12House.l0] at H
   replace H:=iteEd H;rcases H with ⟨c4b0,H⟩|⟨c4b0,H⟩
   ·replace H:=iteNd H
    obtain ⟨c5b0,H⟩:=H;replace H:=iteEq H;rcases H with ⟨c6b0,c6b1,H⟩|⟨c6b0,c6b1,c6,H⟩
    ·obtain rfl:=sI H
     obtain ⟨_,_,_,_,_,_,_,_,_,_⟩:=cf5 BK247;obtain ⟨⟨ad248,A248_3,c248_3,A248_4,c248_4,A248_7,c248_7,e248,hx248_0,hx248_1,hx248_2,hx248_3,hx248_4,hx248_5,hx248_6,hx248_7,hl248_3,hi248_3,hl248_4,hi248_4,hl248_7,hi248_7⟩,p248,q248⟩:=atB (at_T56 HR0_2.out x5_1);cases e248
     obtain ⟨hx248_0,hx248_1,hx248_2,hx248_3⟩:=cb4 HB hx248_0 hx248_1 hx248_2 hx248_3;obtain ⟨hx248_4,hx248_5,hx248_6,hx248_7⟩:=cb4 HB hx248_4 hx248_5 hx248_6 hx248_7;have HR248_3:=A_ hi248_3;have HC248_3:=A_ hl248_3;clear hi248_3 hl248_3;have HR248_4:=A_ hi248_4;have HC248_4:=A_ hl248_4;clear hi248_4 hl248_4;have HR248_7:=A_ hi248_7;have HC248_7:=A_ hl248_7;clear hi248_7 hl248_7;go_wp2
     go_ret
     exact ⟨zz5,(zz1 HB GE247)⟩
    ·have H':=A_ H
     clear H;obtain ⟨_,_,_,_,_,_,_,_,_,_⟩:=cf5 BK247;obtain ⟨⟨ad248,A248_3,c248_3,A248_4,c248_4,A248_7,c248_7,e248,hx248_0,hx248_1,hx248_2,hx248_3,hx248_4,hx248_5,hx248_6,hx248_7,hl248_3,hi248_3,hl248_4,hi248_4,hl248_7,hi248_7⟩,p248,q248⟩:=atB (at_T56 HR0_2.out x5_1);cases e248
     obtain ⟨hx248_0,hx248_1,hx248_2,hx248_3⟩:=cb4 HB hx248_0 hx248_1 hx248_2 hx248_3;obtain ⟨hx248_4,hx248_5,hx248_6,hx248_7⟩:=cb4 HB hx248_4 hx248_5 hx248_6 hx248_7;have HR248_3:=A_ hi248_3;have HC248_3:=A_ hl248_3;clear hi248_3 hl248_3;have HR248_4:=A_ hi248_4;have HC248_4:=A_ hl248_4;clear hi248_4 hl248_4;have HR248_7:=A_ hi248_7;have HC248_7:=A_ hl248_7;clear hi248_7 hl248_7;go_wp2
     go_roundg k1
     case measure=>have:=HK1.out;omega
     case rel=>exact ⟨(wrap64 (x5_1+1)),zz7,H',⟨(zz17 HK1)⟩,⟨(zz2 BK247)⟩,⟨(zz1 HB GE247)⟩⟩
   ·obtain rfl:=sI H
    obtain ⟨_,_,_,_,_,_,_,_,_,_⟩:=cf5 BK247;go_wp2
    go_ret
    exact ⟨zz5,(zz1 HB GE247)⟩
mutual
def spec_RuleOk.j0:Nat→ByteArray→Bool→Option (Bool)
 | 0,_,_=>none
 | k+1,x0,x16=>if x16=true then (some false) else (spec_RuleOk.l0 k x0 0)
def spec_RuleOk.l0:Nat→ByteArray→Int→Option (Bool)
 | 0,_,_=>none
 | k+1,x0,x3=>if x3 < (x0.size:Int) then (if 0≤x3 then ((spec_l1Plain.f (bt x0 x3)).bind fun t249=>(if t249=true then (spec_RuleOk.l0 k x0 (wrap64 (x3+1))) else (if (bt x0 x3)=47 then (spec_RuleOk.l0 k x0 (wrap64 (x3+1))) else (if (bt x0 x3)=42 then (spec_RuleOk.l0 k x0 (wrap64 (x3+1))) else (if (bt x0 x3)=63 then (spec_RuleOk.l0 k x0 (wrap64 (x3+1))) else (if (bt x0 x3)=37 then (spec_RuleOk.l0 k x0 (wrap64 (x3+1))) else (if (bt x0 x3) ≥ 65 then (if ((bt x0 x3)≤70) then (spec_RuleOk.l0 k x0 (wrap64 (x3+1))) else (if (bt x0 x3)=36 then (if (x3=(wrap64 ((x0.size:Int) - 1))) then (spec_RuleOk.l0 k x0 (wrap64 (x3+1))) else (some false)) else (some false))) else (if (bt x0 x3)=36 then (if (x3=(wrap64 ((x0.size:Int) - 1))) then (spec_RuleOk.l0 k x0 (wrap64 (x3+1))) else (some false)) else (some false))))))))) else (none)) else (some true)
end
def spec_RuleOk.f (k:Nat) (a0:ByteArray):Option (Bool):=if (a0.size:Int) > 16 then (spec_RuleOk.j0 k a0 true) else (if a0.toList=([]:List UInt8) then (spec_RuleOk.j0 k a0 true) else (if 0 < (a0.size:Int) then (spec_RuleOk.j0 k a0 ((bt a0 0) != 47)) else (none)))
theorem spec_RuleOk.calls (k:Nat) (a0:ByteArray) (r:Bool) (w:World) (h:spec_RuleOk.f k a0=some r) :
  Calls Tryz.prog 44 #[.string a0] w fun e w'=>e=.returned (.bool r)∧Drawn0 w w':=by
 unfold spec_RuleOk.f at h
 have H:=h;clear h;have HC2:=A_ H;clear H;go_enter Tryz.func44,Tryz.ntmps44;go_upto_region 1 with (fail)
 go_cut [16] (fun v16 wc=>∃ (kq:Nat) (x16_1:Bool),v16=.bool x16_1∧Aside0 (spec_RuleOk.j0 kq a0 x16_1=some r)∧Aside0 (kq≤k)∧Drawn0 w wc)
 case first=>
  obtain ⟨H⟩:=HC2;replace H:=iteE H;rcases H with ⟨c3,H⟩|⟨c3,H⟩
  ·have c3b0:=gtT c3
   have c3b1:decide (16 < a0.size)=true:=dT (by omega);clear c3;(first|rw [c3b0]|(simp only [i64_w,i32_w];rw [c3b0])|skip)
   have H':=A_ H;clear H;go_wp2
   go_meet
   case rel=>exact ⟨_,(true),zz7,H',⟨zz51⟩,zz8⟩
  ·have c3b0:=gtF c3
   have c3b1:decide (16 < a0.size)=false:=dF (by omega);clear c3;(first|rw [c3b0]|(simp only [i64_w,i32_w];rw [c3b0])|skip)
   replace H:=iteEq H;rcases H with ⟨c4b0,c4b1,H⟩|⟨c4b0,c4b1,c4,H⟩
   ·have H':=A_ H
    clear H;go_wp2
    go_meet
    case rel=>exact ⟨_,(true),zz7,H',⟨zz51⟩,zz8⟩
   ·replace H:=iteN H
    obtain ⟨c5,H⟩:=H;have c5b0:=dT c5;have c5b1:decide (0 < a0.size)=true:=dT (by omega);clear c5;have H':=A_ H;clear H;have p6:0≤(0:Int):=(by omega);have q6:0 < a0.size:=(by have:(0:Int) < (a0.size:Int):=ofD;omega);have hx6:∀ h:0 < a0.size,((a0[0]'h).toNat:Int)=bt a0 0:=bt_at a0 0;clear p6;have qi6:(0 < (a0.size:Int))=True:=eq_true ofD;replace q6:=eq_true q6;go_wp2
    go_meet
    case rel=>exact ⟨_,(((bt a0 0) != 47)),zz7,H',⟨zz51⟩,zz8⟩
 case rest=>
  clear HC2;obtain ⟨kq,x16_1,rfl,HA,HJ1,⟨mc1,rfl⟩⟩:=hcut;cases kq with
  | zero=>exact absurd HA.out (by simp [spec_RuleOk.j0])
  | succ kj1=>
   obtain ⟨H⟩:=HA;simp only [spec_RuleOk.j0] at H
   replace H:=iteB H;rcases H with ⟨rfl,H⟩|⟨rfl,H⟩
   ·obtain rfl:=sI H
    go_wp2
    go_ret
    exact ⟨zz7,zz8⟩
   ·have H':=A_ H
    clear H;go_wp2
    go_loopg [3] kj1 (fun kq v3 w'=>∃ (x3_2:Int),v3=.int .i64 x3_2∧Aside0 (spec_RuleOk.l0 kq a0 x3_2=some r)∧Aside0 (kq≤kj1)∧Drawn0 w w')
    case atStart=>exact ⟨(0),zz7,H',⟨Nat.le_refl _⟩,zz8⟩
    case round=>
     clear H';obtain ⟨x3_2,rfl,HA,HK2,⟨m2,rfl⟩⟩:=hrel;cases gk with
     | zero=>exact absurd HA.out (by simp [spec_RuleOk.l0])
     | succ k2=>
      obtain ⟨H⟩:=HA;simp only [spec_RuleOk.l0] at H
      replace H:=iteEd H;rcases H with ⟨c8b0,H⟩|⟨c8b0,H⟩
      ·replace H:=iteNd H
       obtain ⟨c9b0,H⟩:=H;replace H:=bindA H;obtain ⟨t249,A11,H⟩:=H;have HF12:=A_ H;clear H;have p10:0≤(x3_2:Int):=ofD;have q10:x3_2 < (a0.size:Int):=ofD;have hx10:=bt_at a0 x3_2;replace p10:=eq_true p10;replace q10:=eq_true q10;go_wp2_with (first|(refine gR 66 (some 27) Tryz.func66 (spec_l1Plain.calls (bt a0 x3_2) t249 _ A11.out) ?_;rintro w' ⟨nd,rfl⟩)|((with_reducible refine atG ?_ ?_ fun K_ hK_=>?_);rfl;exact undecG)|((with_reducible refine atI ?_ fun K_ hK_=>?_);exact undecI))
       refine unG hK_ ?_;clear hK_ K_;obtain ⟨H⟩:=HF12;replace H:=iteB H;rcases H with ⟨rfl,H⟩|⟨rfl,H⟩
       ·(first|refine iteT ?_|refine iteF ?_|skip)
        have H':=A_ H;clear H;(try ((with_reducible refine upS ?_);go_simp))
        go_wp2
        go_roundg k2
        case measure=>have:=HJ1.out;have:=HK2.out;omega
        case rel=>exact ⟨(wrap64 (x3_2+1)),zz7,H',⟨(zz60 HJ1 HK2)⟩,zz8⟩
       ·(first|refine iteT ?_|refine iteF ?_|skip)
        replace H:=iteEq H;rcases H with ⟨c14b0,c14b1,H⟩|⟨c14b0,c14b1,c14,H⟩
        ·have H':=A_ H
         clear H;go_wp2
         go_roundg k2
         case measure=>have:=HJ1.out;have:=HK2.out;omega
         case rel=>exact ⟨(wrap64 (x3_2+1)),zz7,H',⟨(zz60 HJ1 HK2)⟩,zz8⟩
        ·replace H:=iteEq H
         rcases H with ⟨c15b0,c15b1,H⟩|⟨c15b0,c15b1,c15,H⟩
         ·have H':=A_ H
          clear H;go_wp2
          go_roundg k2
          case measure=>have:=HJ1.out;have:=HK2.out;omega
          case rel=>exact ⟨(wrap64 (x3_2+1)),zz7,H',⟨(zz60 HJ1 HK2)⟩,zz8⟩
         ·replace H:=iteEq H
          rcases H with ⟨c16b0,c16b1,H⟩|⟨c16b0,c16b1,c16,H⟩
          ·have H':=A_ H
           clear H;go_wp2
           go_roundg k2
           case measure=>have:=HJ1.out;have:=HK2.out;omega
           case rel=>exact ⟨(wrap64 (x3_2+1)),zz7,H',⟨(zz60 HJ1 HK2)⟩,zz8⟩
          ·replace H:=iteEq H
           rcases H with ⟨c17b0,c17b1,H⟩|⟨c17b0,c17b1,c17,H⟩
           ·have H':=A_ H
            clear H;go_wp2
            go_roundg k2
            case measure=>have:=HJ1.out;have:=HK2.out;omega
            case rel=>exact ⟨(wrap64 (x3_2+1)),zz7,H',⟨(zz60 HJ1 HK2)⟩,zz8⟩
           ·replace H:=iteEe H
            rcases H with ⟨c18b0,H⟩|⟨c18b0,H⟩
            ·replace H:=iteE H
             rcases H with ⟨c19,H⟩|⟨c19,H⟩
             ·have c19b0:decide ((bt a0 x3_2)≤70)=true:=dT c19
              clear c19;have H':=A_ H;clear H;go_wp2
              go_roundg k2
              case measure=>have:=HJ1.out;have:=HK2.out;omega
              case rel=>exact ⟨(wrap64 (x3_2+1)),zz7,H',⟨(zz60 HJ1 HK2)⟩,zz8⟩
             ·have c19b0:decide ((bt a0 x3_2)≤70)=false:=dF c19
              clear c19;replace H:=iteEq H;rcases H with ⟨c20b0,c20b1,H⟩|⟨c20b0,c20b1,c20,H⟩
              ·replace H:=iteEq H
               rcases H with ⟨c21b0,c21b1,H⟩|⟨c21b0,c21b1,c21,H⟩
               ·have H':=A_ H
                clear H;go_wp2
                go_roundg k2
                case measure=>have:=HJ1.out;have:=HK2.out;omega
                case rel=>exact ⟨(wrap64 (x3_2+1)),zz7,H',⟨(zz60 HJ1 HK2)⟩,zz8⟩
               ·obtain rfl:=sI H
                go_wp2
                go_ret
                exact ⟨zz7,zz8⟩
              ·obtain rfl:=sI H
               go_wp2
               go_ret
               exact ⟨zz7,zz8⟩
            ·replace H:=iteEq H
             rcases H with ⟨c22b0,c22b1,H⟩|⟨c22b0,c22b1,c22,H⟩
             ·replace H:=iteEq H
              rcases H with ⟨c23b0,c23b1,H⟩|⟨c23b0,c23b1,c23,H⟩
              ·have H':=A_ H
               clear H;go_wp2
               go_roundg k2
               case measure=>have:=HJ1.out;have:=HK2.out;omega
               case rel=>exact ⟨(wrap64 (x3_2+1)),zz7,H',⟨(zz60 HJ1 HK2)⟩,zz8⟩
              ·obtain rfl:=sI H
               go_wp2
               go_ret
               exact ⟨zz7,zz8⟩
             ·obtain rfl:=sI H
              go_wp2
              go_ret
              exact ⟨zz7,zz8⟩
      ·obtain rfl:=sI H
       go_wp2
       go_ret
       exact ⟨zz7,zz8⟩
def spec_l12Next.l0:Nat→Int→Int→ByteArray→Int→List (S56)→List ByteArray→List (S45)→Option (Int)
 | 0,_,_,_,_,_,_,_=>none
 | k+1,x3,x4,x662000,x662001,x662002,x662003,x662004=>if x4 < (x662002.length:Int) then (if 0≤x4 then (if (((rd_T56 x662002 x4).f5).length:Int) > 0 then (if x3 < 0 then (spec_l12Next.l0 k x4 (wrap64 (x4+1)) x662000 x662001 x662002 x662003 x662004) else (if 0≤x3 then (if x3 < (x662002.length:Int) then (if (mx ((rd_T56 x662002 x4).f1) x662001) < (mx ((rd_T56 x662002 x3).f1) x662001) then (spec_l12Next.l0 k x4 (wrap64 (x4+1)) x662000 x662001 x662002 x662003 x662004) else (spec_l12Next.l0 k x3 (wrap64 (x4+1)) x662000 x662001 x662002 x662003 x662004)) else (none)) else (none))) else (spec_l12Next.l0 k x3 (wrap64 (x4+1)) x662000 x662001 x662002 x662003 x662004)) else (none)) else (some x3)
def spec_l12Next.f (k:Nat) (a0_0:ByteArray) (a0_1:Int) (l0_2:List (S56)) (l0_3:List ByteArray) (l0_4:List (S45)):Option (Int):=spec_l12Next.l0 k (-1) 0 a0_0 a0_1 l0_2 l0_3 l0_4
theorem spec_l12Next.calls (k:Nat) (a0_0:ByteArray) (a0_1:Int) (A0_2:Option Addr) (c0_2:Nat) (l0_2:List (S56)) (A0_3:Option Addr) (c0_3:Nat) (l0_3:List ByteArray) (A0_4:Option Addr) (c0_4:Nat) (l0_4:List (S45)) (r:Int) (w:World) (hr0_2:Kd.C k56 w A0_2 l0_2.length l0_2) (hc0_2:l0_2.length≤c0_2) (hr0_3:Kd.C Kd.string w A0_3 l0_3.length l0_3) (hc0_3:l0_3.length≤c0_3) (hr0_4:Kd.C k45 w A0_4 l0_4.length l0_4) (hc0_4:l0_4.length≤c0_4) (h:spec_l12Next.f k a0_0 a0_1 l0_2 l0_3 l0_4=some r) :
  Calls Tryz.prog 35 #[.agg #[.string a0_0,.int .i64 a0_1,.slice A0_2 l0_2.length c0_2,.slice A0_3 l0_3.length c0_3,.slice A0_4 l0_4.length c0_4]] w fun e w'=>e=.returned (.int .i64 r)∧Below w.heap.size w w':=by
 have hu32:=Tryz.underlying32;have HR0_2:=A_ hr0_2;have HC0_2:=A_ hc0_2;clear hr0_2 hc0_2;have HR0_3:=A_ hr0_3;have HC0_3:=A_ hc0_3;clear hr0_3 hc0_3;have HR0_4:=A_ hr0_4;have HC0_4:=A_ hc0_4;clear hr0_4 hc0_4;have HB:=A_ (Below.refl w.heap.size w);unfold spec_l12Next.f at h
 have H:=h;clear h;have H':=A_ H;clear H;go_enter Tryz.func35,Tryz.ntmps35;go_wp2_with (first|((with_reducible refine gD (N:=1) rfl ?_);(try (refine gate_guard (by rfl) ?_;dsimp only));refine boxE 1 #[.string a0_0,.int .i64 a0_1,.slice A0_2 l0_2.length c0_2,.slice A0_3 l0_3.length c0_3,.slice A0_4 l0_4.length c0_4] 32 ?_;intro gb661 hg w2 hbox hb;have BK661:=A_ (hbox);have GE661:=geB hg (zz0 HB);replace HB:=A_ (bS (zz0 HB) hb);clear hb hbox hg))
 repeat (go_quiet (first|((with_reducible refine gD (N:=1) rfl ?_);(try (refine gate_guard (by rfl) ?_;dsimp only));refine boxE 1 #[.string a0_0,.int .i64 a0_1,.slice A0_2 l0_2.length c0_2,.slice A0_3 l0_3.length c0_3,.slice A0_4 l0_4.length c0_4] 32 ?_;intro gb661 hg w2 hbox hb;have BK661:=A_ (hbox);have GE661:=geB hg (zz0 HB);replace HB:=A_ (bS (zz0 HB) hb);clear hb hbox hg));try go_wp2_with (first|((with_reducible refine gD (N:=1) rfl ?_);(try (refine gate_guard (by rfl) ?_;dsimp only));refine boxE 1 #[.string a0_0,.int .i64 a0_1,.slice A0_2 l0_2.length c0_2,.slice A0_3 l0_3.length c0_3,.slice A0_4 l0_4.length c0_4] 32 ?_;intro gb661 hg w2 hbox hb;have BK661:=A_ (hbox);have GE661:=geB hg (zz0 HB);replace HB:=A_ (bS (zz0 HB) hb);clear hb hbox hg)))
 go_loopg [3,4] k (fun kq v3 v4 w'=>∃ (x3_1:Int) (x4_1:Int),v3=.int .i64 x3_1∧v4=.int .i64 x4_1∧Aside0 (spec_l12Next.l0 kq x3_1 x4_1 a0_0 a0_1 l0_2 l0_3 l0_4=some r)∧Aside0 (kq≤k)∧Aside0 (w'.heap[gb661]?=some (.cells #[.string a0_0,.int .i64 a0_1,(.slice A0_2 l0_2.length c0_2),(.slice A0_3 l0_3.length c0_3),(.slice A0_4 l0_4.length c0_4)] 32 (0,0)))∧Aside0 (Below w.heap.size w w'))
 case atStart=>exact ⟨((-1)),(0),zz7,zz7,H',⟨Nat.le_refl _⟩,⟨(zz2 BK661)⟩,⟨(zz1 HB GE661)⟩⟩
 case round=>
  clear H';obtain ⟨x3_1,x4_1,rfl,rfl,HA,HK1,BK661,HB⟩:=hrel;cases gk with
  | zero=>exact absurd HA.out (by simp [spec_l12Next.l0])
  | succ k1=>
   obtain ⟨H⟩:=HA;simp only [spec_l12Next.l0] at H
   replace H:=iteEd H;rcases H with ⟨c3b0,H⟩|⟨c3b0,H⟩
   ·replace H:=iteNd H
    obtain ⟨c4b0,H⟩:=H;replace H:=iteE H;rcases H with ⟨c5,H⟩|⟨c5,H⟩
    ·have c5b0:=gtT c5
     have c5b1:decide (0 < ((rd_T56 l0_2 x4_1).f5).length)=true:=dT (by omega);clear c5;replace H:=iteEd H;rcases H with ⟨c6b0,H⟩|⟨c6b0,H⟩
     ·have H':=A_ H
      clear H;obtain ⟨_,_,_,_,_,_,_,_,_,_⟩:=cf5 BK661;obtain ⟨⟨ad662,A662_3,c662_3,A662_4,c662_4,A662_7,c662_7,e662,hx662_0,hx662_1,hx662_2,hx662_3,hx662_4,hx662_5,hx662_6,hx662_7,hl662_3,hi662_3,hl662_4,hi662_4,hl662_7,hi662_7⟩,p662,q662⟩:=atB (at_T56 HR0_2.out x4_1);cases e662
      obtain ⟨hx662_0,hx662_1,hx662_2,hx662_3⟩:=cb4 HB hx662_0 hx662_1 hx662_2 hx662_3;obtain ⟨hx662_4,hx662_5,hx662_6,hx662_7⟩:=cb4 HB hx662_4 hx662_5 hx662_6 hx662_7;have HR662_3:=A_ hi662_3;have HC662_3:=A_ hl662_3;clear hi662_3 hl662_3;have HR662_4:=A_ hi662_4;have HC662_4:=A_ hl662_4;clear hi662_4 hl662_4;have HR662_7:=A_ hi662_7;have HC662_7:=A_ hl662_7;clear hi662_7 hl662_7;go_wp2
      repeat (go_quiet (fail);try go_wp2)
      go_roundg k1
      case measure=>have:=HK1.out;omega
      case rel=>exact ⟨(x4_1),(wrap64 (x4_1+1)),zz7,zz7,H',⟨(zz17 HK1)⟩,⟨(zz2 BK661)⟩,⟨(zz1 HB GE661)⟩⟩
     ·obtain ⟨ji8,hji8⟩:∃ j_:Int,(mx ((rd_T56 l0_2 x4_1).f1) a0_1)=j_:=⟨_,rfl⟩
      (first|rw [hji8] at H|simp only [hji8] at H)
      have hji8_:(if ((rd_T56 l0_2 x4_1).f1) < a0_1 then a0_1 else ((rd_T56 l0_2 x4_1).f1))=ji8:=hji8;replace H:=iteNd H;obtain ⟨c9b0,H⟩:=H;replace H:=iteNd H;obtain ⟨c10b0,H⟩:=H;obtain ⟨ji11,hji11⟩:∃ j_:Int,(mx ((rd_T56 l0_2 x3_1).f1) a0_1)=j_:=⟨_,rfl⟩;(first|rw [hji11] at H|simp only [hji11] at H)
      have hji11_:(if ((rd_T56 l0_2 x3_1).f1) < a0_1 then a0_1 else ((rd_T56 l0_2 x3_1).f1))=ji11:=hji11;replace H:=iteEd H;rcases H with ⟨c12b0,H⟩|⟨c12b0,H⟩
      ·have H':=A_ H
       clear H;obtain ⟨_,_,_,_,_,_,_,_,_,_⟩:=cf5 BK661;obtain ⟨⟨ad662,A662_3,c662_3,A662_4,c662_4,A662_7,c662_7,e662,hx662_0,hx662_1,hx662_2,hx662_3,hx662_4,hx662_5,hx662_6,hx662_7,hl662_3,hi662_3,hl662_4,hi662_4,hl662_7,hi662_7⟩,p662,q662⟩:=atB (at_T56 HR0_2.out x4_1);cases e662
       obtain ⟨hx662_0,hx662_1,hx662_2,hx662_3⟩:=cb4 HB hx662_0 hx662_1 hx662_2 hx662_3;obtain ⟨hx662_4,hx662_5,hx662_6,hx662_7⟩:=cb4 HB hx662_4 hx662_5 hx662_6 hx662_7;have HR662_3:=A_ hi662_3;have HC662_3:=A_ hl662_3;clear hi662_3 hl662_3;have HR662_4:=A_ hi662_4;have HC662_4:=A_ hl662_4;clear hi662_4 hl662_4;have HR662_7:=A_ hi662_7;have HC662_7:=A_ hl662_7;clear hi662_7 hl662_7;obtain ⟨⟨ad663,A663_3,c663_3,A663_4,c663_4,A663_7,c663_7,e663,hx663_0,hx663_1,hx663_2,hx663_3,hx663_4,hx663_5,hx663_6,hx663_7,hl663_3,hi663_3,hl663_4,hi663_4,hl663_7,hi663_7⟩,p663,q663⟩:=atB (at_T56 HR0_2.out x4_1);obtain rfl:ad662=ad663:=(by injection e663);obtain ⟨hx663_0,hx663_1,hx663_2,hx663_3⟩:=cb4 HB hx663_0 hx663_1 hx663_2 hx663_3;obtain ⟨hx663_4,hx663_5,hx663_6,hx663_7⟩:=cb4 HB hx663_4 hx663_5 hx663_6 hx663_7;have HR663_3:=A_ hi663_3;have HC663_3:=A_ hl663_3;clear hi663_3 hl663_3;have HR663_4:=A_ hi663_4;have HC663_4:=A_ hl663_4;clear hi663_4 hl663_4;have HR663_7:=A_ hi663_7;have HC663_7:=A_ hl663_7;clear hi663_7 hl663_7;have ea_:=sI (hx662_3.symm.trans hx663_3);injection ea_ with ea_ en_ ec_
       subst ea_;subst ec_;clear en_;have ea_:=sI (hx662_4.symm.trans hx663_4);injection ea_ with ea_ en_ ec_
       subst ea_;subst ec_;clear en_;have ea_:=sI (hx662_7.symm.trans hx663_7);injection ea_ with ea_ en_ ec_
       subst ea_;subst ec_;clear en_;obtain ⟨⟨ad664,A664_3,c664_3,A664_4,c664_4,A664_7,c664_7,e664,hx664_0,hx664_1,hx664_2,hx664_3,hx664_4,hx664_5,hx664_6,hx664_7,hl664_3,hi664_3,hl664_4,hi664_4,hl664_7,hi664_7⟩,p664,q664⟩:=atB (at_T56 HR0_2.out x3_1);obtain rfl:ad662=ad664:=(by injection e664);obtain ⟨hx664_0,hx664_1,hx664_2,hx664_3⟩:=cb4 HB hx664_0 hx664_1 hx664_2 hx664_3;obtain ⟨hx664_4,hx664_5,hx664_6,hx664_7⟩:=cb4 HB hx664_4 hx664_5 hx664_6 hx664_7;have HR664_3:=A_ hi664_3;have HC664_3:=A_ hl664_3;clear hi664_3 hl664_3;have HR664_4:=A_ hi664_4;have HC664_4:=A_ hl664_4;clear hi664_4 hl664_4;have HR664_7:=A_ hi664_7;have HC664_7:=A_ hl664_7;clear hi664_7 hl664_7;go_wp2
       repeat (go_quiet (fail);try go_wp2)
       go_roundg k1
       case measure=>have:=HK1.out;omega
       case rel=>exact ⟨(x4_1),(wrap64 (x4_1+1)),zz7,zz7,H',⟨(zz17 HK1)⟩,⟨(zz2 BK661)⟩,⟨(zz1 HB GE661)⟩⟩
      ·have H':=A_ H
       clear H;obtain ⟨_,_,_,_,_,_,_,_,_,_⟩:=cf5 BK661;obtain ⟨⟨ad662,A662_3,c662_3,A662_4,c662_4,A662_7,c662_7,e662,hx662_0,hx662_1,hx662_2,hx662_3,hx662_4,hx662_5,hx662_6,hx662_7,hl662_3,hi662_3,hl662_4,hi662_4,hl662_7,hi662_7⟩,p662,q662⟩:=atB (at_T56 HR0_2.out x4_1);cases e662
       obtain ⟨hx662_0,hx662_1,hx662_2,hx662_3⟩:=cb4 HB hx662_0 hx662_1 hx662_2 hx662_3;obtain ⟨hx662_4,hx662_5,hx662_6,hx662_7⟩:=cb4 HB hx662_4 hx662_5 hx662_6 hx662_7;have HR662_3:=A_ hi662_3;have HC662_3:=A_ hl662_3;clear hi662_3 hl662_3;have HR662_4:=A_ hi662_4;have HC662_4:=A_ hl662_4;clear hi662_4 hl662_4;have HR662_7:=A_ hi662_7;have HC662_7:=A_ hl662_7;clear hi662_7 hl662_7;obtain ⟨⟨ad663,A663_3,c663_3,A663_4,c663_4,A663_7,c663_7,e663,hx663_0,hx663_1,hx663_2,hx663_3,hx663_4,hx663_5,hx663_6,hx663_7,hl663_3,hi663_3,hl663_4,hi663_4,hl663_7,hi663_7⟩,p663,q663⟩:=atB (at_T56 HR0_2.out x4_1);obtain rfl:ad662=ad663:=(by injection e663);obtain ⟨hx663_0,hx663_1,hx663_2,hx663_3⟩:=cb4 HB hx663_0 hx663_1 hx663_2 hx663_3;obtain ⟨hx663_4,hx663_5,hx663_6,hx663_7⟩:=cb4 HB hx663_4 hx663_5 hx663_6 hx663_7;have HR663_3:=A_ hi663_3;have HC663_3:=A_ hl663_3;clear hi663_3 hl663_3;have HR663_4:=A_ hi663_4;have HC663_4:=A_ hl663_4;clear hi663_4 hl663_4;have HR663_7:=A_ hi663_7;have HC663_7:=A_ hl663_7;clear hi663_7 hl663_7;have ea_:=sI (hx662_3.symm.trans hx663_3);injection ea_ with ea_ en_ ec_
       subst ea_;subst ec_;clear en_;have ea_:=sI (hx662_4.symm.trans hx663_4);injection ea_ with ea_ en_ ec_
       subst ea_;subst ec_;clear en_;have ea_:=sI (hx662_7.symm.trans hx663_7);injection ea_ with ea_ en_ ec_
       subst ea_;subst ec_;clear en_;obtain ⟨⟨ad664,A664_3,c664_3,A664_4,c664_4,A664_7,c664_7,e664,hx664_0,hx664_1,hx664_2,hx664_3,hx664_4,hx664_5,hx664_6,hx664_7,hl664_3,hi664_3,hl664_4,hi664_4,hl664_7,hi664_7⟩,p664,q664⟩:=atB (at_T56 HR0_2.out x3_1);obtain rfl:ad662=ad664:=(by injection e664);obtain ⟨hx664_0,hx664_1,hx664_2,hx664_3⟩:=cb4 HB hx664_0 hx664_1 hx664_2 hx664_3;obtain ⟨hx664_4,hx664_5,hx664_6,hx664_7⟩:=cb4 HB hx664_4 hx664_5 hx664_6 hx664_7;have HR664_3:=A_ hi664_3;have HC664_3:=A_ hl664_3;clear hi664_3 hl664_3;have HR664_4:=A_ hi664_4;have HC664_4:=A_ hl664_4;clear hi664_4 hl664_4;have HR664_7:=A_ hi664_7;have HC664_7:=A_ hl664_7;clear hi664_7 hl664_7;go_wp2
       repeat (go_quiet (fail);try go_wp2)
       go_roundg k1
       case measure=>have:=HK1.out;omega
       case rel=>exact ⟨(x3_1),(wrap64 (x4_1+1)),zz7,zz7,H',⟨(zz17 HK1)⟩,⟨(zz2 BK661)⟩,⟨(zz1 HB GE661)⟩⟩
    ·have c5b0:=gtF c5
     have c5b1:decide (0 < ((rd_T56 l0_2 x4_1).f5).length)=false:=dF (by omega);clear c5;have H':=A_ H;clear H;obtain ⟨_,_,_,_,_,_,_,_,_,_⟩:=cf5 BK661;obtain ⟨⟨ad662,A662_3,c662_3,A662_4,c662_4,A662_7,c662_7,e662,hx662_0,hx662_1,hx662_2,hx662_3,hx662_4,hx662_5,hx662_6,hx662_7,hl662_3,hi662_3,hl662_4,hi662_4,hl662_7,hi662_7⟩,p662,q662⟩:=atB (at_T56 HR0_2.out x4_1);cases e662
     obtain ⟨hx662_0,hx662_1,hx662_2,hx662_3⟩:=cb4 HB hx662_0 hx662_1 hx662_2 hx662_3;obtain ⟨hx662_4,hx662_5,hx662_6,hx662_7⟩:=cb4 HB hx662_4 hx662_5 hx662_6 hx662_7;have HR662_3:=A_ hi662_3;have HC662_3:=A_ hl662_3;clear hi662_3 hl662_3;have HR662_4:=A_ hi662_4;have HC662_4:=A_ hl662_4;clear hi662_4 hl662_4;have HR662_7:=A_ hi662_7;have HC662_7:=A_ hl662_7;clear hi662_7 hl662_7;go_wp2
     repeat (go_quiet (fail);try go_wp2)
     go_roundg k1
     case measure=>have:=HK1.out;omega
     case rel=>exact ⟨(x3_1),(wrap64 (x4_1+1)),zz7,zz7,H',⟨(zz17 HK1)⟩,⟨(zz2 BK661)⟩,⟨(zz1 HB GE661)⟩⟩
   ·obtain rfl:=sI H
    obtain ⟨_,_,_,_,_,_,_,_,_,_⟩:=cf5 BK661;go_wp2
    repeat (go_quiet (fail);try go_wp2)
    go_ret
    exact ⟨zz5,(zz1 HB GE661)⟩
def impl_allSmallLetters.l0:Nat→ByteArray→Int→Option (Bool)
 | 0,_,_=>none
 | k+1,x0,x3=>if x3 < (x0.size:Int) then (if 0≤x3 then (if (bt x0 x3) < 97 then (some false) else (if (bt x0 x3) > 122 then (some false) else (impl_allSmallLetters.l0 k x0 (wrap64 (x3+1))))) else (none)) else (some true)
def impl_allSmallLetters.f (k:Nat) (a0:ByteArray):Option (Bool):=impl_allSmallLetters.l0 k a0 0
theorem impl_allSmallLetters.mono_l:∀ k,(∀ y0 y1,LeO (impl_allSmallLetters.l0 k y0 y1) (impl_allSmallLetters.l0 (k+1) y0 y1))
 | 0=>by intros;intro r h;simp [impl_allSmallLetters.l0] at h
 | k+1=>by
  have ih0:=impl_allSmallLetters.mono_l k;intros;unfold impl_allSmallLetters.l0;repeat' first|(with_reducible first|exact ih0 _ _|exact LeO.refl _|exact LeO.none _|refine LeO.ite ?_ ?_|refine LeO.bind ?_ (fun _=>?_))|exact LeO.none _|refine LeO.ite ?_ ?_|refine LeO.bind ?_ (fun _=>?_)
theorem impl_allSmallLetters.mono:∀ a0 k,LeO (impl_allSmallLetters.f k a0) (impl_allSmallLetters.f (k+1) a0):=by
 intro a0 k;have ih0:=impl_allSmallLetters.mono_l k;unfold impl_allSmallLetters.f
 repeat' first|(with_reducible first|exact ih0 _ _|exact LeO.refl _|exact LeO.none _|refine LeO.ite ?_ ?_|refine LeO.bind ?_ (fun _=>?_))|exact LeO.none _|refine LeO.ite ?_ ?_|refine LeO.bind ?_ (fun _=>?_)
theorem impl_allSmallLetters.calls (k:Nat) (a0:ByteArray) (r:Bool) (w:World) (h:impl_allSmallLetters.f k a0=some r) :
  Calls Tryz.prog 48 #[.string a0] w fun e w'=>e=.returned (.bool r)∧Drawn0 w w':=by
 unfold impl_allSmallLetters.f at h
 have H:=h;clear h;have H':=A_ H;clear H;go_enter Tryz.func48,Tryz.ntmps48;go_wp2
 go_loopg [3] k (fun kq v3 w'=>∃ (x3_1:Int),v3=.int .i64 x3_1∧Aside0 (impl_allSmallLetters.l0 kq a0 x3_1=some r)∧Aside0 (kq≤k)∧Drawn0 w w')
 case atStart=>exact ⟨(0),zz7,H',⟨Nat.le_refl _⟩,zz8⟩
 case round=>
  clear H';obtain ⟨x3_1,rfl,HA,HK1,⟨m1,rfl⟩⟩:=hrel;cases gk with
  | zero=>exact absurd HA.out (by simp [impl_allSmallLetters.l0])
  | succ k1=>
   obtain ⟨H⟩:=HA;simp only [impl_allSmallLetters.l0] at H
   replace H:=iteEd H;rcases H with ⟨c2b0,H⟩|⟨c2b0,H⟩
   ·replace H:=iteNd H
    obtain ⟨c3b0,H⟩:=H;replace H:=iteEd H;rcases H with ⟨c5b0,H⟩|⟨c5b0,H⟩
    ·obtain rfl:=sI H
     have p4:0≤(x3_1:Int):=ofD;have q4:x3_1 < (a0.size:Int):=ofD;have hx4:=bt_at a0 x3_1;replace p4:=eq_true p4;replace q4:=eq_true q4;go_wp2
     go_ret
     exact ⟨zz7,zz8⟩
    ·replace H:=iteEg H
     rcases H with ⟨c7b0,H⟩|⟨c7b0,H⟩
     ·obtain rfl:=sI H
      have p4:0≤(x3_1:Int):=ofD;have q4:x3_1 < (a0.size:Int):=ofD;have hx4:=bt_at a0 x3_1;replace p4:=eq_true p4;replace q4:=eq_true q4;have p6:0≤(x3_1:Int):=ofD;have q6:x3_1 < (a0.size:Int):=ofD;have hx6:=bt_at a0 x3_1;replace p6:=eq_true p6;replace q6:=eq_true q6;go_wp2
      go_ret
      exact ⟨zz7,zz8⟩
     ·have H':=A_ H
      clear H;have p4:0≤(x3_1:Int):=ofD;have q4:x3_1 < (a0.size:Int):=ofD;have hx4:=bt_at a0 x3_1;replace p4:=eq_true p4;replace q4:=eq_true q4;have p6:0≤(x3_1:Int):=ofD;have q6:x3_1 < (a0.size:Int):=ofD;have hx6:=bt_at a0 x3_1;replace p6:=eq_true p6;replace q6:=eq_true q6;go_wp2
      go_roundg k1
      case measure=>have:=HK1.out;omega
      case rel=>exact ⟨(wrap64 (x3_1+1)),zz7,H',⟨(zz17 HK1)⟩,zz8⟩
   ·obtain rfl:=sI H
    go_wp2
    go_ret
    exact ⟨zz7,zz8⟩
mutual
def impl_PathClean.l0:Nat→List ByteArray→List ByteArray→Int→Int→Option (List ByteArray)
 | 0,_,_,_,_=>none
 | k+1,x3,x6,x7,x8=>if x8 < x7 then (if 0≤x8 then (if x8 < (x6.length:Int) then (if (rdOf ByteArray.empty x6 x8).toList=([]:List UInt8) then (impl_PathClean.j1 k x3 (rdOf ByteArray.empty x6 x8) x6 x7 x8 (rdOf ByteArray.empty x6 x8) ((rdOf ByteArray.empty x6 x8).toList == ([]:List UInt8))) else (impl_PathClean.j1 k x3 (rdOf ByteArray.empty x6 x8) x6 x7 x8 (rdOf ByteArray.empty x6 x8) ((rdOf ByteArray.empty x6 x8).toList == ([46]:List UInt8)))) else (none)) else (none)) else (some x3)
def impl_PathClean.j1:Nat→List ByteArray→ByteArray→List ByteArray→Int→Int→ByteArray→Bool→Option (List ByteArray)
 | 0,_,_,_,_,_,_,_=>none
 | k+1,x3,x5,x6,x7,x8,x12,x13=>if x13=true then (impl_PathClean.l0 k x3 x6 x7 (wrap64 (x8+1))) else (if x12.toList=([46,46]:List UInt8) then (if (x3.length:Int) > 0 then (if 0≤(wrap64 ((x3.length:Int) - 1)) then (if (wrap64 ((x3.length:Int) - 1))≤(x3.length:Int) then (impl_PathClean.l0 k (x3.take ((wrap64 ((x3.length:Int) - 1)):Int).toNat) x6 x7 (wrap64 (x8+1))) else (none)) else (none)) else (impl_PathClean.l0 k x3 x6 x7 (wrap64 (x8+1)))) else (if x3.length < 8796093022208 then (impl_PathClean.l0 k (x3++[x5]) x6 x7 (wrap64 (x8+1))) else (none)))
end
def impl_PathClean.f (k:Nat) (l0:List ByteArray):Option (List ByteArray):=impl_PathClean.l0 k ([]:List ByteArray) l0 (l0.length:Int) 0
theorem impl_PathClean.calls (k:Nat) (A0:Option Addr) (c0:Nat) (l0:List ByteArray) (r:List ByteArray) (w:World) (hr0:Kd.C Kd.string w A0 l0.length l0) (hc0:l0.length≤c0) (h:impl_PathClean.f k l0=some r) :
  Calls Tryz.prog 117 #[.slice A0 l0.length c0] w fun e w'=>∃ v0_:Value,e=.returned (v0_)∧Kd.R Kd.string 9 w' w.heap.size (fun _=>True) v0_ r∧Below w.heap.size w w':=by
 have HR0:=A_ hr0;have HC0:=A_ hc0;clear hr0 hc0;have HB:=A_ (Below.refl w.heap.size w);unfold impl_PathClean.f at h
 have H:=h;clear h;have H':=A_ H;clear H;go_enter Tryz.func117,Tryz.ntmps117;go_wp2
 go_step3
 go_wp2
 go_step3
 go_wp2
 go_loopg [3,8] k (fun kq v3 v8 w'=>∃ (x3_1:List ByteArray) (x8_1:Int),v8=.int .i64 x8_1∧Aside0 (impl_PathClean.l0 kq x3_1 l0 (l0.length:Int) x8_1=some r)∧Aside0 (kq≤k)∧Aside0 (Kd.R Kd.string 9 w' w.heap.size (fun _=>True) v3 x3_1)∧Aside0 (Below w.heap.size w w'))
 case atStart=>exact ⟨(([]:List ByteArray)),(0),zz7,H',⟨Nat.le_refl _⟩,⟨zz72⟩,⟨(zz0 HB)⟩⟩
 case round=>
  clear H';obtain ⟨x3_1,x8_1,rfl,HA,HK1,HO_3,HB⟩:=hrel;cases gk with
  | zero=>exact absurd HA.out (by simp [impl_PathClean.l0])
  | succ k1=>
   obtain ⟨H⟩:=HA;simp only [impl_PathClean.l0] at H
   replace H:=iteEd H;rcases H with ⟨c2b0,H⟩|⟨c2b0,H⟩
   ·replace H:=iteNd H
    obtain ⟨c3b0,H⟩:=H;replace H:=iteNd H;obtain ⟨c4b0,H⟩:=H;have HC5:=A_ H;clear H;obtain ⟨⟨ad440,e440,hx440_0⟩,p440,q440⟩:=atB (Kd.at_string HR0.out x8_1);cases e440
    replace hx440_0:=cbl HB hx440_0;go_upto_if 13 with (fail)
    go_cut [13] (fun v13 wc=>∃ (kq:Nat) (x13_4:Bool),v13=.bool x13_4∧Aside0 (impl_PathClean.j1 kq x3_1 (rdOf ByteArray.empty l0 x8_1) l0 (l0.length:Int) x8_1 (rdOf ByteArray.empty l0 x8_1) x13_4=some r)∧Aside0 (kq≤k1)∧Aside0 (Kd.R Kd.string 9 wc w.heap.size (fun _=>True) u3 x3_1)∧Aside0 (Below w.heap.size w wc))
    case first=>
     obtain ⟨H⟩:=HC5;replace H:=iteE H;rcases H with ⟨c6,H⟩|⟨c6,H⟩
     ·have c6b0:((rdOf ByteArray.empty l0 x8_1).toList == ([]:List UInt8))=true:=beq_iff_eq.mpr c6
      have c6i0:(rdOf ByteArray.empty l0 x8_1).toList.isEmpty=true:=(aid_isEmpty2 _).symm.trans c6b0;have c6b1:((rdOf ByteArray.empty l0 x8_1).toList != ([]:List UInt8))=false:=bne_eq_false_iff_eq.mpr c6;clear c6;(first|rw [c6b0]|(simp only [i64_w,i32_w];rw [c6b0])|skip)
      have H':=A_ H;clear H;go_wp2
      all_goals (first|(exfalso;have h_:(rdOf ByteArray.empty l0 x8_1).toList.isEmpty=false:=(by assumption);rw [c6i0] at h_;cases h_;done)|skip)
      go_meet
      case rel=>exact ⟨_,(((rdOf ByteArray.empty l0 x8_1).toList == ([]:List UInt8))),zz7,H',⟨(zz53 HK1)⟩,⟨(zz12 HO_3)⟩,⟨(zz0 HB)⟩⟩
     ·have c6b0:((rdOf ByteArray.empty l0 x8_1).toList == ([]:List UInt8))=false:=beq_eq_false_iff_ne.mpr c6
      have c6i0:(rdOf ByteArray.empty l0 x8_1).toList.isEmpty=false:=(aid_isEmpty2 _).symm.trans c6b0;have c6b1:((rdOf ByteArray.empty l0 x8_1).toList != ([]:List UInt8))=true:=bne_iff_ne.mpr c6;(first|rw [c6b0]|(simp only [i64_w,i32_w];rw [c6b0])|skip)
      have H':=A_ H;clear H;go_wp2
      all_goals (first|(exfalso;have h_:(rdOf ByteArray.empty l0 x8_1).toList.isEmpty=true:=(by assumption);rw [c6i0] at h_;cases h_;done)|skip)
      go_meet
      case rel=>exact ⟨_,(((rdOf ByteArray.empty l0 x8_1).toList == ([46]:List UInt8))),zz7,H',⟨(zz53 HK1)⟩,⟨(zz12 HO_3)⟩,⟨(zz0 HB)⟩⟩
    case rest=>
     clear HC5;obtain ⟨kq,x13_4,rfl,HA,HJ4,HO_3,HB⟩:=hcut;cases kq with
     | zero=>exact absurd HA.out (by simp [impl_PathClean.j1])
     | succ kj4=>
      obtain ⟨H⟩:=HA;simp only [impl_PathClean.j1] at H
      replace H:=iteB H;rcases H with ⟨rfl,H⟩|⟨rfl,H⟩
      ·have H':=A_ H
       clear H;go_wp2
       go_roundg kj4
       case measure=>have:=HK1.out;have:=HJ4.out;omega
       case rel=>exact ⟨(x3_1),(wrap64 (x8_1+1)),zz7,H',⟨(zz60 HK1 HJ4)⟩,⟨(zz12 HO_3)⟩,⟨(zz0 HB)⟩⟩
      ·replace H:=iteE H
       rcases H with ⟨c8,H⟩|⟨c8,H⟩
       ·obtain ⟨c8b0,c8b1⟩:=eqT c8
        clear c8;replace H:=iteE H;rcases H with ⟨c9,H⟩|⟨c9,H⟩
        ·have c9b0:=gtT c9
         have c9b1:decide (0 < x3_1.length)=true:=dT (by omega);clear c9;obtain ⟨ji10,hji10⟩:∃ j_:Int,(wrap64 ((x3_1.length:Int) - 1))=j_:=⟨_,rfl⟩;(first|rw [hji10] at H|simp only [hji10] at H)
         have hji10w:(IntKind.i64.wrap ((x3_1.length:Int) - 1))=ji10:=(i64_w _).trans hji10;replace H:=iteN H;obtain ⟨c11,H⟩:=H;have c11b0:=eq_true c11;have c11b1:=dT c11;clear c11;replace H:=iteN H;obtain ⟨c12,H⟩:=H;have c12b0:=eq_true c12;have c12b1:=dT c12;clear c12;obtain ⟨y441,Ny441⟩:=toY (x3_1.take ((ji10):Int).toNat);(first|with_reducible replace H:=bindZ Ny441 H|rw [← Ny441.out] at H|skip)
         have H':=A_ H;clear H;obtain ⟨Ao13,co13,eo13⟩:=Kd.R_slice HO_3.out;subst eo13;have q14:((ji10):Int)≤((x3_1.length:Int):Int):=ofD;obtain ⟨i014,hi014,_,hsz14,_⟩:=info_parts info9;have hcut14:=cut_to (P:=Tryz.prog) 23 9 .i64 Tryz.underlying23 hi014 Ao13 x3_1.length co13 (ji10) ofD q14 (Kd.R_reads' HO_3.out).2.1;have hr14:=Kd.R_take (m:=((ji10):Int).toNat) HO_3.out (by omega);have hy14:y441.length=((ji10):Int).toNat:=(by rw [Ny441.out,List.length_take];omega);rw [← Ny441.out] at hr14;rw [← hy14] at hr14 hcut14;clear hy14 hi014 hsz14 HO_3;have HO443:=A_ hr14;clear hr14;replace q14:=eq_true q14;go_wp2
         go_roundg kj4
         case measure=>have:=HK1.out;have:=HJ4.out;omega
         case rel=>exact ⟨(y441),(wrap64 (x8_1+1)),zz7,H',⟨(zz60 HK1 HJ4)⟩,⟨(zz12 HO443)⟩,⟨(zz0 HB)⟩⟩
        ·have c9b0:=gtF c9
         have c9b1:decide (0 < x3_1.length)=false:=dF (by omega);clear c9;have H':=A_ H;clear H;obtain ⟨Ao15,co15,eo15⟩:=Kd.R_slice HO_3.out;subst eo15;go_wp2
         go_roundg kj4
         case measure=>have:=HK1.out;have:=HJ4.out;omega
         case rel=>exact ⟨(x3_1),(wrap64 (x8_1+1)),zz7,H',⟨(zz60 HK1 HJ4)⟩,⟨(zz12 HO_3)⟩,⟨(zz0 HB)⟩⟩
       ·obtain ⟨c8b0,c8b1⟩:=eqF c8
        replace H:=iteN H;obtain ⟨c16,H⟩:=H;have LMc16:=A_ c16;clear c16;obtain ⟨y444,Ny444⟩:=toY (x3_1++[(rdOf ByteArray.empty l0 x8_1)]);(first|with_reducible replace H:=bindZ Ny444 H|rw [← Ny444.out] at H|skip)
        have H':=A_ H;clear H;go_wp2_with (first|((with_reducible refine gate_builtin (b:=.append) (xs:=#[.tmp 26,.tmp 28]) rfl ?_);at_builtin;refine Kd.R_append Kd.string (w0:=w) w.heap.size rfl (.tmp 26) (.tmp 28) 23 9 (.string ⟨#[]⟩) 16 rfl Tryz.underlying23 info9 rfl (by decide) (by omega) u3 x3_1 (rdOf ByteArray.empty l0 x8_1) [.string (rdOf ByteArray.empty l0 x8_1)] (fun _=>True) (fun _=>False) rfl rfl ?aP (fun _ hk=>hk.elim) ?aF ?aO ?aB ?aS ?aL ?_;(case aP=>exact rfl);(case aB=>exact (zz0 HB));(case aF=>exact (fun _ _=>trivial));(case aO=>exact (zz12 HO_3));(case aS=>exact (below_size (zz0 HB)));(case aL=>exact (zz17 LMc16));intro v445 w17 ho hb hg hat;rw [← Ny444.out] at ho;replace HB:=A_ (hb);have HO446:=A_ (ho);clear HO_3;clear ho hb hg hat))
        go_roundg kj4
        case measure=>have:=HK1.out;have:=HJ4.out;omega
        case rel=>exact ⟨(y444),(wrap64 (x8_1+1)),zz7,H',⟨(zz60 HK1 HJ4)⟩,⟨(zz12 HO446)⟩,⟨(zz0 HB)⟩⟩
   ·obtain rfl:=sI H
    go_wp2
    go_ret
    exact ⟨_,zz5,(zz12 HO_3),(zz0 HB)⟩
mutual
def impl_RuleOk.j0:Nat→ByteArray→Bool→Option (Bool)
 | 0,_,_=>none
 | k+1,x0,x17=>if x17=true then (some false) else ((strings_TrimSuffix.f x0 (⟨#[36]⟩:ByteArray)).bind fun t544=>(impl_RuleOk.l0 k t544 0))
def impl_RuleOk.l0:Nat→ByteArray→Int→Option (Bool)
 | 0,_,_=>none
 | k+1,x3,x4=>if x4 < (x3.size:Int) then (if 0≤x4 then ((impl_isPatternByte.f (bt x3 x4)).bind fun t545=>(if t545=true then (impl_RuleOk.l0 k x3 (wrap64 (x4+1))) else (some false))) else (none)) else (some true)
end
def impl_RuleOk.f (k:Nat) (a0:ByteArray):Option (Bool):=if (a0.size:Int) < 1 then (impl_RuleOk.j0 k a0 true) else (if (a0.size:Int) > 16 then (impl_RuleOk.j0 k a0 true) else (if 0 < (a0.size:Int) then (impl_RuleOk.j0 k a0 ((bt a0 0) != 47)) else (none)))
theorem impl_RuleOk.calls (k:Nat) (a0:ByteArray) (r:Bool) (w:World) (h:impl_RuleOk.f k a0=some r) :
  Calls Tryz.prog 69 #[.string a0] w fun e w'=>e=.returned (.bool r)∧Drawn0 w w':=by
 unfold impl_RuleOk.f at h
 have H:=h;clear h;have HC2:=A_ H;clear H;go_enter Tryz.func69,Tryz.ntmps69;go_upto_region 1 with (fail)
 go_cut [17] (fun v17 wc=>∃ (kq:Nat) (x17_1:Bool),v17=.bool x17_1∧Aside0 (impl_RuleOk.j0 kq a0 x17_1=some r)∧Aside0 (kq≤k)∧Drawn0 w wc)
 case first=>
  obtain ⟨H⟩:=HC2;replace H:=iteE H;rcases H with ⟨c3,H⟩|⟨c3,H⟩
  ·have c3b0:=dT c3
   have c3b1:decide (a0.size < 1)=true:=dT (by omega);clear c3;(first|rw [c3b0]|(simp only [i64_w,i32_w];rw [c3b0])|skip)
   have H':=A_ H;clear H;go_wp2
   go_meet
   case rel=>exact ⟨_,(true),zz7,H',⟨zz51⟩,zz8⟩
  ·have c3b0:=dF c3
   have c3b1:decide (a0.size < 1)=false:=dF (by omega);clear c3;(first|rw [c3b0]|(simp only [i64_w,i32_w];rw [c3b0])|skip)
   replace H:=iteE H;rcases H with ⟨c4,H⟩|⟨c4,H⟩
   ·have c4b0:=gtT c4
    have c4b1:decide (16 < a0.size)=true:=dT (by omega);clear c4;have H':=A_ H;clear H;go_wp2
    go_meet
    case rel=>exact ⟨_,(true),zz7,H',⟨zz51⟩,zz8⟩
   ·have c4b0:=gtF c4
    have c4b1:decide (16 < a0.size)=false:=dF (by omega);clear c4;replace H:=iteN H;obtain ⟨c5,H⟩:=H;have c5b0:=dT c5;have c5b1:decide (0 < a0.size)=true:=dT (by omega);clear c5;have H':=A_ H;clear H;have p6:0≤(0:Int):=(by omega);have q6:0 < a0.size:=(by have:(0:Int) < (a0.size:Int):=ofD;omega);have hx6:∀ h:0 < a0.size,((a0[0]'h).toNat:Int)=bt a0 0:=bt_at a0 0;clear p6;have qi6:(0 < (a0.size:Int))=True:=eq_true ofD;replace q6:=eq_true q6;go_wp2
    go_meet
    case rel=>exact ⟨_,(((bt a0 0) != 47)),zz7,H',⟨zz51⟩,zz8⟩
 case rest=>
  clear HC2;obtain ⟨kq,x17_1,rfl,HA,HJ1,⟨mc1,rfl⟩⟩:=hcut;cases kq with
  | zero=>exact absurd HA.out (by simp [impl_RuleOk.j0])
  | succ kj1=>
   obtain ⟨H⟩:=HA;simp only [impl_RuleOk.j0] at H
   replace H:=iteB H;rcases H with ⟨rfl,H⟩|⟨rfl,H⟩
   ·obtain rfl:=sI H
    go_wp2
    go_ret
    exact ⟨zz7,zz8⟩
   ·replace H:=bindA H
    obtain ⟨t544,A8,H⟩:=H;have H':=A_ H;clear H;go_wp2_with (first|(refine gR 84 (some 19) Tryz.func84 (strings_TrimSuffix.calls a0 (⟨#[36]⟩:ByteArray) t544 _ A8.out) ?_;rintro w' ⟨nd,rfl⟩))
    go_loopg [4] kj1 (fun kq v4 w'=>∃ (x4_2:Int),v4=.int .i64 x4_2∧Aside0 (impl_RuleOk.l0 kq t544 x4_2=some r)∧Aside0 (kq≤kj1)∧Drawn0 w w')
    case atStart=>exact ⟨(0),zz7,H',⟨Nat.le_refl _⟩,zz8⟩
    case round=>
     clear H';obtain ⟨x4_2,rfl,HA,HK2,⟨m2,rfl⟩⟩:=hrel;cases gk with
     | zero=>exact absurd HA.out (by simp [impl_RuleOk.l0])
     | succ k2=>
      obtain ⟨H⟩:=HA;simp only [impl_RuleOk.l0] at H
      replace H:=iteEd H;rcases H with ⟨c9b0,H⟩|⟨c9b0,H⟩
      ·replace H:=iteNd H
       obtain ⟨c10b0,H⟩:=H;replace H:=bindA H;obtain ⟨t545,A12,H⟩:=H;have HF13:=A_ H;clear H;have p11:0≤(x4_2:Int):=ofD;have q11:x4_2 < (t544.size:Int):=ofD;have hx11:=bt_at t544 x4_2;replace p11:=eq_true p11;replace q11:=eq_true q11;go_upto_if 30 with (first|(refine gR 85 (some 29) Tryz.func85 (impl_isPatternByte.calls (bt t544 x4_2) t545 _ A12.out) ?_;rintro w' ⟨nd,rfl⟩))
       obtain ⟨H⟩:=HF13;replace H:=iteB H;rcases H with ⟨rfl,H⟩|⟨rfl,H⟩
       ·have H':=A_ H
        clear H;go_wp2
        go_roundg k2
        case measure=>have:=HJ1.out;have:=HK2.out;omega
        case rel=>exact ⟨(wrap64 (x4_2+1)),zz7,H',⟨(zz60 HJ1 HK2)⟩,zz8⟩
       ·obtain rfl:=sI H
        go_wp2
        go_ret
        exact ⟨zz7,zz8⟩
      ·obtain rfl:=sI H
       go_wp2
       go_ret
       exact ⟨zz7,zz8⟩
def impl_rulesOk.l0:Nat→List (S81)→Int→Int→Option (Bool)
 | 0,_,_,_=>none
 | k+1,x5,x6,x7=>if x7 < x6 then (if 0≤x7 then (if x7 < (x5.length:Int) then ((impl_RuleOk.f k ((rd_T81 x5 x7).f1)).bind fun t548=>(if t548=true then (impl_rulesOk.l0 k x5 x6 (wrap64 (x7+1))) else (some false))) else (none)) else (none)) else (some true)
def impl_rulesOk.f (k:Nat) (l0:List (S81)):Option (Bool):=impl_rulesOk.l0 k l0 (l0.length:Int) 0
theorem impl_rulesOk.calls (k:Nat) (A0:Option Addr) (c0:Nat) (l0:List (S81)) (r:Bool) (w:World) (hr0:Kd.C k81 w A0 l0.length l0) (hc0:l0.length≤c0) (h:impl_rulesOk.f k l0=some r) :
  Calls Tryz.prog 51 #[.slice A0 l0.length c0] w fun e w'=>e=.returned (.bool r)∧Below w.heap.size w w':=by
 have hu81:=Tryz.underlying81;have HR0:=A_ hr0;have HC0:=A_ hc0;clear hr0 hc0;have HB:=A_ (Below.refl w.heap.size w);unfold impl_rulesOk.f at h
 have H:=h;clear h;have H':=A_ H;clear H;go_enter Tryz.func51,Tryz.ntmps51;go_wp2
 go_loopg [7] k (fun kq v7 w'=>∃ (x7_1:Int),v7=.int .i64 x7_1∧Aside0 (impl_rulesOk.l0 kq l0 (l0.length:Int) x7_1=some r)∧Aside0 (kq≤k)∧Aside0 (Below w.heap.size w w'))
 case atStart=>exact ⟨(0),zz7,H',⟨Nat.le_refl _⟩,⟨(zz0 HB)⟩⟩
 case round=>
  clear H';obtain ⟨x7_1,rfl,HA,HK1,HB⟩:=hrel;cases gk with
  | zero=>exact absurd HA.out (by simp [impl_rulesOk.l0])
  | succ k1=>
   obtain ⟨H⟩:=HA;simp only [impl_rulesOk.l0] at H
   replace H:=iteEd H;rcases H with ⟨c2b0,H⟩|⟨c2b0,H⟩
   ·replace H:=iteNd H
    obtain ⟨c3b0,H⟩:=H;replace H:=iteNd H;obtain ⟨c4b0,H⟩:=H;replace H:=bindA H;obtain ⟨t548,A5,H⟩:=H;have HF6:=A_ H;clear H;obtain ⟨⟨ad546,e546,hx546_0,hx546_1⟩,p546,q546⟩:=atB (at_T81 HR0.out x7_1);cases e546
    obtain ⟨hx546_0,hx546_1⟩:=cb2 HB hx546_0 hx546_1;go_upto_if 14 with (first|(refine boxF 4 #[.bool false,.string (⟨#[]⟩:ByteArray)] 81 ?_;intro gb547 hg w7 BK547 hb;have GE547:=geB hg (zz0 HB);replace HB:=A_ (bS (zz0 HB) hb);clear hb hg;obtain ⟨_,_,_,_⟩:=cf2 BK547)|((with_reducible refine gate_store (t:=81) (p:=4) rfl ?_);refine store_event (t:=81) (p:=4) (v:=?vo_w9) (w1:=((w7.setCell ⟨gb547,0,none⟩ (.bool ((rd_T81 l0 x7_1).f0))).setCell ⟨gb547,1,none⟩ (.string ((rd_T81 l0 x7_1).f1)))) ?hg ?ho ?hn ?hr ?_;(case ho=>rfl);(case hg=>rfl);(case hn=>rfl);(case hr=>exact zz14);intro w9 hw;have n0_:Aside0 (w9.heap[gb547]?=some (.cells #[.bool ((rd_T81 l0 x7_1).f0),.string ((rd_T81 l0 x7_1).f1)] 81 (0,0))):=⟨(by rw [hw];exact (zz30 BK547))⟩;have n1_:Aside0 (Below w.heap.size w w9):=⟨(by rw [hw];exact (zz1 HB GE547))⟩;clear hw;clear BK547;clear HB;have BK547:=n0_;have HB:=n1_;clear n0_ n1_;obtain ⟨_,_,_,_⟩:=cf2 BK547)|(refine gR 69 (some 13) Tryz.func69 (impl_RuleOk.calls k1 ((rd_T81 l0 x7_1).f1) t548 _ A5.out) ?_;rintro w' ⟨nd,rfl⟩))
    obtain ⟨H⟩:=HF6;replace H:=iteB H;rcases H with ⟨rfl,H⟩|⟨rfl,H⟩
    ·have H':=A_ H
     clear H;go_wp2
     go_roundg k1
     case measure=>have:=HK1.out;omega
     case rel=>exact ⟨(wrap64 (x7_1+1)),zz7,H',⟨(zz17 HK1)⟩,⟨(zz1 HB GE547)⟩⟩
    ·obtain rfl:=sI H
     go_wp2
     go_ret
     exact ⟨zz5,(zz1 HB GE547)⟩
   ·obtain rfl:=sI H
    go_wp2
    go_ret
    exact ⟨zz5,(zz0 HB)⟩
def slices_Index_string_string.l0:Nat→List ByteArray→ByteArray→Int→Int→Option (Int)
 | 0,_,_,_,_=>none
 | k+1,x0,x1,x7,x8=>if x8 < x7 then (if 0≤x8 then (if x8 < (x0.length:Int) then (if x1.toList=(rdOf ByteArray.empty x0 x8).toList then (some x8) else (slices_Index_string_string.l0 k x0 x1 x7 (wrap64 (x8+1)))) else (none)) else (none)) else (some (-1))
def slices_Index_string_string.f (k:Nat) (l0:List ByteArray) (a1:ByteArray):Option (Int):=slices_Index_string_string.l0 k l0 a1 (l0.length:Int) 0
theorem slices_Index_string_string.calls (k:Nat) (A0:Option Addr) (c0:Nat) (l0:List ByteArray) (a1:ByteArray) (r:Int) (w:World) (hr0:Kd.C Kd.string w A0 l0.length l0) (hc0:l0.length≤c0) (h:slices_Index_string_string.f k l0 a1=some r) :
  Calls Tryz.prog 72 #[.slice A0 l0.length c0,.string a1] w fun e w'=>e=.returned (.int .i64 r)∧Drawn0 w w':=by
 have HR0:=A_ hr0;have HC0:=A_ hc0;clear hr0 hc0;unfold slices_Index_string_string.f at h
 have H:=h;clear h;have H':=A_ H;clear H;go_enter Tryz.func72,Tryz.ntmps72;go_wp2
 go_loopg [8] k (fun kq v8 w'=>∃ (x8_1:Int),v8=.int .i64 x8_1∧Aside0 (slices_Index_string_string.l0 kq l0 a1 (l0.length:Int) x8_1=some r)∧Aside0 (kq≤k)∧Drawn0 w w')
 case atStart=>exact ⟨(0),zz7,H',⟨Nat.le_refl _⟩,zz8⟩
 case round=>
  clear H';obtain ⟨x8_1,rfl,HA,HK1,⟨m1,rfl⟩⟩:=hrel;cases gk with
  | zero=>exact absurd HA.out (by simp [slices_Index_string_string.l0])
  | succ k1=>
   obtain ⟨H⟩:=HA;simp only [slices_Index_string_string.l0] at H
   replace H:=iteEd H;rcases H with ⟨c3b0,H⟩|⟨c3b0,H⟩
   ·replace H:=iteNd H
    obtain ⟨c4b0,H⟩:=H;replace H:=iteNd H;obtain ⟨c5b0,H⟩:=H;replace H:=iteEq H;rcases H with ⟨c6b0,c6b1,H⟩|⟨c6b0,c6b1,c6,H⟩
    ·obtain rfl:=sI H
     obtain ⟨⟨ad557,e557,hx557_0⟩,p557,q557⟩:=atB (Kd.at_string HR0.out x8_1);cases e557
     go_wp2
     go_ret
     exact ⟨zz7,zz8⟩
    ·have H':=A_ H
     clear H;obtain ⟨⟨ad557,e557,hx557_0⟩,p557,q557⟩:=atB (Kd.at_string HR0.out x8_1);cases e557
     go_wp2
     go_roundg k1
     case measure=>have:=HK1.out;omega
     case rel=>exact ⟨(wrap64 (x8_1+1)),zz7,H',⟨(zz17 HK1)⟩,zz8⟩
   ·obtain rfl:=sI H
    go_wp2
    go_ret
    exact ⟨zz7,zz8⟩
def spec_l1Text.f (k:Nat) (a0_0:ByteArray) (l0_1:List ByteArray) (a0_2:Bool) (a0_3:ByteArray):Option (ByteArray):=if 2+a0_0.size≤9223372036854775807 then ((spec_l1Path.f k a0_0 l0_1 a0_2 a0_3).bind fun t129=>(if 2+a0_0.size+t129.size≤9223372036854775807 then (some (((⟨#[47,47]⟩:ByteArray)++a0_0)++t129)) else (none))) else (none)
theorem spec_l1Text.mono:∀ a0 a1 a2 a3 k,LeO (spec_l1Text.f k a0 a1 a2 a3) (spec_l1Text.f (k+1) a0 a1 a2 a3):=by
 intro a0 a1 a2 a3 k;unfold spec_l1Text.f
 repeat' first|(with_reducible first|exact spec_l1Path.mono _ _ _ _ _|exact LeO.refl _|exact LeO.none _|refine LeO.ite ?_ ?_|refine LeO.bind ?_ (fun _=>?_))|exact LeO.none _|refine LeO.ite ?_ ?_|refine LeO.bind ?_ (fun _=>?_)
theorem spec_l1Text.calls (k:Nat) (a0_0:ByteArray) (A0_1:Option Addr) (c0_1:Nat) (l0_1:List ByteArray) (a0_2:Bool) (a0_3:ByteArray) (r:ByteArray) (w:World) (hr0_1:Kd.C Kd.string w A0_1 l0_1.length l0_1) (hc0_1:l0_1.length≤c0_1) (h:spec_l1Text.f k a0_0 l0_1 a0_2 a0_3=some r) :
  Calls Tryz.prog 65 #[.agg #[.string a0_0,.slice A0_1 l0_1.length c0_1,.bool a0_2,.string a0_3]] w fun e w'=>e=.returned (.string r)∧Below w.heap.size w w':=by
 have hu75:=Tryz.underlying75;have HR0_1:=A_ hr0_1;have HC0_1:=A_ hc0_1;clear hr0_1 hc0_1;have HB:=A_ (Below.refl w.heap.size w);unfold spec_l1Text.f at h
 have H:=h;clear h;replace H:=iteE H;rcases H with ⟨c2,H⟩|⟨c2,H⟩
 ·have c2b0:=eq_true c2
  have c2b1:=dT c2;try have c2b2:(9223372036854775807 < 2+a0_0.size)=False:=eq_false (Nat.not_lt.2 c2)
  replace H:=bindA H;obtain ⟨t129,A3,H⟩:=H;replace H:=iteN H;obtain ⟨c4,H⟩:=H;have c4b0:=eq_true c4;have c4b1:=dT c4;try have c4b2:(9223372036854775807 < 2+a0_0.size+t129.size)=False:=eq_false (Nat.not_lt.2 c4)
  obtain rfl:=sI H;go_enter Tryz.func65,Tryz.ntmps65;try go_wp2_with (first|(refine boxF 1 #[.string a0_0,.slice A0_1 l0_1.length c0_1,.bool a0_2,.string a0_3] 75 ?_;intro gb128 hg w5 BK128 hb;have GE128:=geB hg (zz0 HB);replace HB:=A_ (bS (zz0 HB) hb);clear hb hg))
  replace BK128:=A_ (blk_drew BK128.out);replace HB:=A_ (below_drew1 HB.out);refine start_ (n:=7) (S:=fun w'=>w'.cell? ⟨gb128,0,none⟩=some (.string a0_0)∧w'.cell? ⟨gb128,1,none⟩=some (.slice A0_1 l0_1.length c0_1)∧w'.cell? ⟨gb128,2,none⟩=some (.bool a0_2)∧w'.cell? ⟨gb128,3,none⟩=some (.string a0_3)) (ds:=[]) #[yF,yF,yF,yF,yF,yF,yF] (by kernel_rfl) rfl rfl ⟨(blk_cell BK128.out 0).trans rfl,(blk_cell BK128.out 1).trans rfl,(blk_cell BK128.out 2).trans rfl,(blk_cell BK128.out 3).trans rfl⟩ (fun hHeld=>?_);generalize w5.drew=w6 at BK128 HB hHeld ⊢;refine pureY 0 (some 3) (yA 1 6) ?_;refine takeY4 1 (some 4) (yA 2 5) hHeld ?_;refine pureY 2 (some 5) (yA 3 4) ?_;refine takeY4 3 (some 6) (yA 4 3) hHeld ?_;refine one_ (i:=4) (N:=some 7) (yA 5 2) rfl rfl (by kernel_rfl) (by decide) (fun K hK=>?_);refine goes_ Tryz.func81 (by kernel_rfl) rfl #[.agg #[.string a0_0,.slice A0_1 l0_1.length c0_1,.bool a0_2,.string a0_3]] (by rfl) rfl rfl zz39 ?_;with_reducible refine (spec_l1Path.calls k a0_0 _ _ l0_1 a0_2 a0_3 t129 _ ?side1 ?side2 A3.out).mono ?_
  (case side1=>exact (zz21 HR0_1 HB))
  (case side2=>exact HC0_1.out)
  rintro e w7 ⟨rfl,hb⟩;refine ⟨_,rfl,?_⟩;replace BK128:=A_ (bB (zz2 BK128) hb);replace HB:=A_ (bS (zz1 HB GE128) hb);(try clear hb)
  (try clear hb2)
  (try clear hk)
  (try clear hi)
  refine hK.out _ _ ⟨(blk_cell BK128.out 0).trans rfl,(blk_cell BK128.out 1).trans rfl,(blk_cell BK128.out 2).trans rfl,(blk_cell BK128.out 3).trans rfl⟩ (fun hHeld=>?_);clear hK K;refine nZ 7 ?_;refine pureY 5 (some 8) (yA 6 1) ?_;refine pureY 6 (some 2) (yA 7 0) ?_;refine done_ (by kernel_rfl) ?_;try go_wp2
  go_ret
  exact ⟨zz5,(zz1 HB GE128)⟩
 ·exact absurd H (by simp)
def spec_l1Norm.f (k:Nat) (a0:ByteArray):Option (Bool):=(spec_EscNorm.f k a0).bind fun bt139=>(if bt139.2=true then (some (bt139.1.toList == a0.toList)) else (some false))
theorem spec_l1Norm.mono:∀ a0 k,LeO (spec_l1Norm.f k a0) (spec_l1Norm.f (k+1) a0):=by
 intro a0 k;unfold spec_l1Norm.f
 repeat' first|(with_reducible first|exact spec_EscNorm.mono _ _|exact LeO.refl _|exact LeO.none _|refine LeO.ite ?_ ?_|refine LeO.bind ?_ (fun _=>?_))|exact LeO.none _|refine LeO.ite ?_ ?_|refine LeO.bind ?_ (fun _=>?_)
theorem spec_l1Norm.calls (k:Nat) (a0:ByteArray) (r:Bool) (w:World) (h:spec_l1Norm.f k a0=some r) :
  Calls Tryz.prog 80 #[.string a0] w fun e w'=>e=.returned (.bool r)∧Below w.heap.size w w':=by
 have HB:=A_ (Below.refl w.heap.size w);unfold spec_l1Norm.f at h
 have H:=h;clear h;replace H:=bindA H;obtain ⟨⟨t139,t140⟩,A2,H⟩:=H;try dsimp only at H
 have HF3:=A_ H;clear H;go_enter Tryz.func80,Tryz.ntmps80;go_wp2_with (first|(refine gR 93 (some 7) Tryz.func93 (spec_EscNorm.calls k a0 t139 t140 _ A2.out) ?_;rintro w4 hb;replace HB:=A_ (bS (zz0 HB) hb);(try clear hb))|((with_reducible refine atG ?_ ?_ fun K_ hK_=>?_);rfl;exact undecG)|((with_reducible refine atI ?_ fun K_ hK_=>?_);exact undecI))
 refine unG hK_ ?_;clear hK_ K_;obtain ⟨H⟩:=HF3;replace H:=iteB H;rcases H with ⟨rfl,H⟩|⟨rfl,H⟩
 ·(first|refine iteT ?_|refine iteF ?_|skip)
  obtain rfl:=sI H;(try ((with_reducible refine upS ?_);go_simp))
  go_wp2
  go_ret
  exact ⟨zz5,(zz0 HB)⟩
 ·(first|refine iteT ?_|refine iteF ?_|skip)
  obtain rfl:=sI H;(try ((with_reducible refine upS ?_);go_simp))
  go_wp2
  go_ret
  exact ⟨zz5,(zz0 HB)⟩
def impl_isName.f (k:Nat) (a0:ByteArray):Option (Bool):=if (a0.size:Int) ≥ 1 then (if (a0.size:Int)≤8 then ((impl_allSmallLetters.f k a0).bind fun t385=>(some t385)) else (some false)) else (some false)
theorem impl_isName.calls (k:Nat) (a0:ByteArray) (r:Bool) (w:World) (h:impl_isName.f k a0=some r) :
  Calls Tryz.prog 25 #[.string a0] w fun e w'=>e=.returned (.bool r)∧Drawn0 w w':=by
 unfold impl_isName.f at h
 have H:=h;clear h;replace H:=iteE H;rcases H with ⟨c2,H⟩|⟨c2,H⟩
 ·have c2b0:=geT c2
  have c2b1:decide (1≤a0.size)=true:=dT (by omega);clear c2;replace H:=iteE H;rcases H with ⟨c3,H⟩|⟨c3,H⟩
  ·have c3b0:=dT c3
   have c3b1:decide (a0.size≤8)=true:=dT (by omega);clear c3;replace H:=bindA H;obtain ⟨t385,A4,H⟩:=H;obtain rfl:=sI H;go_enter Tryz.func25,Tryz.ntmps25;go_wp2_with (first|(go_at_call 48;(with_reducible refine (impl_allSmallLetters.calls k a0 t385 _ A4.out).mono ?_);rintro e w' ⟨rfl,⟨nd,rfl⟩⟩))
   go_ret
   exact ⟨zz7,zz8⟩
  ·have c3b0:=dF c3
   have c3b1:decide (a0.size≤8)=false:=dF (by omega);clear c3;obtain rfl:=sI H;go_enter Tryz.func25,Tryz.ntmps25;go_wp2
   go_ret
   exact ⟨zz7,zz8⟩
 ·have c2b0:=geF c2
  have c2b1:decide (1≤a0.size)=false:=dF (by omega);clear c2;obtain rfl:=sI H;go_enter Tryz.func25,Tryz.ntmps25;go_wp2
  go_ret
  exact ⟨zz7,zz8⟩
def impl_isHouse.f (k:Nat) (a0:ByteArray):Option (Bool):=if (a0.size:Int) ≥ 1 then (if (a0.size:Int)≤5 then ((impl_allSmallLetters.f k a0).bind fun t447=>(some t447)) else (some false)) else (some false)
theorem impl_isHouse.calls (k:Nat) (a0:ByteArray) (r:Bool) (w:World) (h:impl_isHouse.f k a0=some r) :
  Calls Tryz.prog 50 #[.string a0] w fun e w'=>e=.returned (.bool r)∧Drawn0 w w':=by
 unfold impl_isHouse.f at h
 have H:=h;clear h;replace H:=iteE H;rcases H with ⟨c2,H⟩|⟨c2,H⟩
 ·have c2b0:=geT c2
  have c2b1:decide (1≤a0.size)=true:=dT (by omega);clear c2;replace H:=iteE H;rcases H with ⟨c3,H⟩|⟨c3,H⟩
  ·have c3b0:=dT c3
   have c3b1:decide (a0.size≤5)=true:=dT (by omega);clear c3;replace H:=bindA H;obtain ⟨t447,A4,H⟩:=H;obtain rfl:=sI H;go_enter Tryz.func50,Tryz.ntmps50;go_wp2_with (first|(go_at_call 48;(with_reducible refine (impl_allSmallLetters.calls k a0 t447 _ A4.out).mono ?_);rintro e w' ⟨rfl,⟨nd,rfl⟩⟩))
   go_ret
   exact ⟨zz7,zz8⟩
  ·have c3b0:=dF c3
   have c3b1:decide (a0.size≤5)=false:=dF (by omega);clear c3;obtain rfl:=sI H;go_enter Tryz.func50,Tryz.ntmps50;go_wp2
   go_ret
   exact ⟨zz7,zz8⟩
 ·have c2b0:=geF c2
  have c2b1:decide (1≤a0.size)=false:=dF (by omega);clear c2;obtain rfl:=sI H;go_enter Tryz.func50,Tryz.ntmps50;go_wp2
  go_ret
  exact ⟨zz7,zz8⟩
def slices_Contains_string_string.f (k:Nat) (l0:List ByteArray) (a1:ByteArray):Option (Bool):=(slices_Index_string_string.f k l0 a1).bind fun t558=>(some (decide (t558 ≥ 0)))
theorem slices_Contains_string_string.calls (k:Nat) (A0:Option Addr) (c0:Nat) (l0:List ByteArray) (a1:ByteArray) (r:Bool) (w:World) (hr0:Kd.C Kd.string w A0 l0.length l0) (hc0:l0.length≤c0) (h:slices_Contains_string_string.f k l0 a1=some r) :
  Calls Tryz.prog 53 #[.slice A0 l0.length c0,.string a1] w fun e w'=>e=.returned (.bool r)∧Drawn0 w w':=by
 have HR0:=A_ hr0;have HC0:=A_ hc0;clear hr0 hc0;unfold slices_Contains_string_string.f at h
 have H:=h;clear h;replace H:=bindA H;obtain ⟨t558,A3,H⟩:=H;obtain rfl:=sI H;go_enter Tryz.func53,Tryz.ntmps53;go_wp2_with (first|(refine gR 72 (some 7) Tryz.func72 (slices_Index_string_string.calls k _ _ l0 a1 t558 _ ?side1 ?side2 A3.out) ?_;(case side1=>exact (by repeat (first|exact HR0.out|(with_reducible refine Kd.C_alloc ?_ _)|(with_reducible refine Kd.C_drewN ?_ _)|(with_reducible refine Kd.C_drew ?_))));(case side2=>exact HC0.out);rintro w' ⟨nd,rfl⟩))
 go_ret
 exact ⟨zz7,zz8⟩
mutual
def spec_AddrOk.j0:Nat→Bool→ByteArray→List ByteArray→Bool→ByteArray→Option (Bool)
 | 0,_,_,_,_,_=>none
 | k+1,x29,x142000,x142001,x142002,x142003=>if x29=true then (some false) else (spec_AddrOk.l0 k 0 x142000 x142001 x142002 x142003)
def spec_AddrOk.l0:Nat→Int→ByteArray→List ByteArray→Bool→ByteArray→Option (Bool)
 | 0,_,_,_,_,_=>none
 | k+1,x3,x142000,x142001,x142002,x142003=>if x3 < (x142001.length:Int) then (if 0≤x3 then ((spec_l1Norm.f k (rdOf ByteArray.empty x142001 x3)).bind fun t145=>(if t145=true then (if (rdOf ByteArray.empty x142001 x3).toList=([]:List UInt8) then (some false) else (if (rdOf ByteArray.empty x142001 x3).toList=([46]:List UInt8) then (some false) else (if (rdOf ByteArray.empty x142001 x3).toList=([46,46]:List UInt8) then (some false) else (spec_AddrOk.l0 k (wrap64 (x3+1)) x142000 x142001 x142002 x142003)))) else (some false))) else (none)) else ((spec_l1Text.f k x142000 x142001 x142002 x142003).bind fun t149=>(some (decide ((t149.size:Int)≤60))))
end
def spec_AddrOk.f (k:Nat) (a0_0:ByteArray) (l0_1:List ByteArray) (a0_2:Bool) (a0_3:ByteArray):Option (Bool):=(spec_l1House.f k a0_0).bind fun t142=>(if t142=true then (if (l0_1.length:Int) > 5 then (spec_AddrOk.j0 k true a0_0 l0_1 a0_2 a0_3) else ((spec_l1Norm.f k a0_3).bind fun t143=>(if t143=true then (if a0_2=true then (spec_AddrOk.j0 k false a0_0 l0_1 a0_2 a0_3) else (spec_AddrOk.j0 k (a0_3.toList != ([]:List UInt8)) a0_0 l0_1 a0_2 a0_3)) else (spec_AddrOk.j0 k true a0_0 l0_1 a0_2 a0_3)))) else (spec_AddrOk.j0 k true a0_0 l0_1 a0_2 a0_3))
theorem spec_AddrOk.mono_l:∀ k,(∀ y0 y1 y2 y3 y4,LeO (spec_AddrOk.j0 k y0 y1 y2 y3 y4) (spec_AddrOk.j0 (k+1) y0 y1 y2 y3 y4))∧(∀ y0 y1 y2 y3 y4,LeO (spec_AddrOk.l0 k y0 y1 y2 y3 y4) (spec_AddrOk.l0 (k+1) y0 y1 y2 y3 y4))
 | 0=>by refine ⟨?_,?_⟩ <;> (intros;intro r h;simp [spec_AddrOk.j0,spec_AddrOk.l0] at h)
 | k+1=>by
  obtain ⟨ih0,ih1⟩:=spec_AddrOk.mono_l k;refine ⟨?_,?_⟩ <;> intros <;> (first|unfold spec_AddrOk.j0|unfold spec_AddrOk.l0) <;>
  repeat' first|(with_reducible first|exact ih0 _ _ _ _ _|exact ih1 _ _ _ _ _|exact spec_l1House.mono _ _|exact spec_l1Norm.mono _ _|exact spec_l1Text.mono _ _ _ _ _|exact LeO.refl _|exact LeO.none _|refine LeO.ite ?_ ?_|refine LeO.bind ?_ (fun _=>?_))|exact LeO.none _|refine LeO.ite ?_ ?_|refine LeO.bind ?_ (fun _=>?_)
theorem spec_AddrOk.calls (k:Nat) (a0_0:ByteArray) (A0_1:Option Addr) (c0_1:Nat) (l0_1:List ByteArray) (a0_2:Bool) (a0_3:ByteArray) (r:Bool) (w:World) (hr0_1:Kd.C Kd.string w A0_1 l0_1.length l0_1) (hc0_1:l0_1.length≤c0_1) (h:spec_AddrOk.f k a0_0 l0_1 a0_2 a0_3=some r) :
  Calls Tryz.prog 64 #[.agg #[.string a0_0,.slice A0_1 l0_1.length c0_1,.bool a0_2,.string a0_3]] w fun e w'=>e=.returned (.bool r)∧Below w.heap.size w w':=by
 have hu75:=Tryz.underlying75;have HR0_1:=A_ hr0_1;have HC0_1:=A_ hc0_1;clear hr0_1 hc0_1;have HB:=A_ (Below.refl w.heap.size w);unfold spec_AddrOk.f at h
 have H:=h;clear h;have HC2:=A_ H;clear H;go_enter Tryz.func64,Tryz.ntmps64;go_upto_region 1 with (first|((with_reducible refine gD (N:=1) rfl ?_);(try (refine gate_guard (by rfl) ?_;dsimp only));refine boxE 1 #[.string a0_0,.slice A0_1 l0_1.length c0_1,.bool a0_2,.string a0_3] 75 ?_;intro gb141 hg w3 hbox hb;have BK141:=A_ (hbox);have GE141:=geB hg (zz0 HB);replace HB:=A_ (bS (zz0 HB) hb);clear hb hbox hg))
 (try simp only [Act.put,List.setIfInBounds_toArray,List.set_cons_zero,List.set_cons_succ])
 go_cut [29] (fun v29 wc=>∃ (kq:Nat) (x29_1:Bool),v29=.bool x29_1∧Aside0 (spec_AddrOk.j0 kq x29_1 a0_0 l0_1 a0_2 a0_3=some r)∧Aside0 (kq≤k)∧Aside0 (wc.heap[gb141]?=some (.cells #[.string a0_0,(.slice A0_1 l0_1.length c0_1),.bool a0_2,.string a0_3] 75 (0,0)))∧Aside0 (Below w.heap.size w wc))
 case first=>
  obtain ⟨H⟩:=HC2;replace H:=bindA H;obtain ⟨t142,A4,H⟩:=H;have HF5:=A_ H;clear H;obtain ⟨_,_,_,_,_,_,_,_⟩:=cf4 BK141;go_wp2_with (first|(refine gR 42 (some 6) Tryz.func42 (spec_l1House.calls k a0_0 t142 _ A4.out) ?_;rintro w' ⟨nd,rfl⟩)|((with_reducible refine atG ?_ ?_ fun K_ hK_=>?_);rfl;exact undecG)|((with_reducible refine atI ?_ fun K_ hK_=>?_);exact undecI))
  refine unG hK_ ?_;clear hK_ K_;obtain ⟨H⟩:=HF5;replace H:=iteB H;rcases H with ⟨rfl,H⟩|⟨rfl,H⟩
  ·(first|refine iteT ?_|refine iteF ?_|skip)
   replace H:=iteE H;rcases H with ⟨c8,H⟩|⟨c8,H⟩
   ·have c8b0:=gtT c8
    have c8b1:decide (5 < l0_1.length)=true:=dT (by omega);clear c8;have H':=A_ H;clear H;obtain ⟨_,_,_,_,_,_,_,_⟩:=cf4 BK141;go_wp2
    go_meet
    case rel=>exact ⟨_,(true),zz7,H',⟨zz51⟩,⟨(zz2 BK141)⟩,⟨(zz1 HB GE141)⟩⟩
   ·have c8b0:=gtF c8
    have c8b1:decide (5 < l0_1.length)=false:=dF (by omega);clear c8;replace H:=bindA H;obtain ⟨t143,A10,H⟩:=H;have HF11:=A_ H;clear H;obtain ⟨_,_,_,_,_,_,_,_⟩:=cf4 BK141;go_wp2_with (first|(go_at_call 80;(with_reducible refine (spec_l1Norm.calls k a0_3 t143 _ A10.out).mono ?_);rintro e w13 ⟨rfl,hb⟩;replace BK141:=A_ (bB (zz2 BK141) hb);replace HB:=A_ (bS (zz1 HB GE141) hb);(try clear hb))|((with_reducible refine atG ?_ ?_ fun K_ hK_=>?_);rfl;exact undecG)|((with_reducible refine atI ?_ fun K_ hK_=>?_);exact undecI))
    refine unG hK_ ?_;clear hK_ K_;obtain ⟨H⟩:=HF11;replace H:=iteB H;rcases H with ⟨rfl,H⟩|⟨rfl,H⟩
    ·(first|refine iteT ?_|refine iteF ?_|skip)
     replace H:=iteB H;rcases H with ⟨rfl,H⟩|⟨rfl,H⟩
     ·have H':=A_ H
      clear H;obtain ⟨_,_,_,_,_,_,_,_⟩:=cf4 BK141;go_wp2
      go_meet
      case rel=>exact ⟨_,(false),zz7,H',⟨zz51⟩,⟨(zz2 BK141)⟩,⟨(zz1 HB GE141)⟩⟩
     ·have H':=A_ H
      clear H;obtain ⟨_,_,_,_,_,_,_,_⟩:=cf4 BK141;go_wp2
      go_meet
      case rel=>exact ⟨_,((a0_3.toList != ([]:List UInt8))),zz7,H',⟨zz51⟩,⟨(zz2 BK141)⟩,⟨(zz1 HB GE141)⟩⟩
    ·(first|refine iteT ?_|refine iteF ?_|skip)
     have H':=A_ H;clear H;(try ((with_reducible refine upS ?_);go_simp))
     go_wp2
     go_meet
     case rel=>exact ⟨_,(true),zz7,H',⟨zz51⟩,⟨(zz2 BK141)⟩,⟨(zz1 HB GE141)⟩⟩
  ·(first|refine iteT ?_|refine iteF ?_|skip)
   have H':=A_ H;clear H;(try ((with_reducible refine upS ?_);go_simp))
   go_wp2
   go_meet
   case rel=>exact ⟨_,(true),zz7,H',⟨zz51⟩,⟨(zz2 BK141)⟩,⟨(zz1 HB GE141)⟩⟩
 case rest=>
  clear HC2;obtain ⟨kq,x29_1,rfl,HA,HJ1,BK141,HB⟩:=hcut;cases kq with
  | zero=>exact absurd HA.out (by simp [spec_AddrOk.j0])
  | succ kj1=>
   obtain ⟨H⟩:=HA;simp only [spec_AddrOk.j0] at H
   replace H:=iteB H;rcases H with ⟨rfl,H⟩|⟨rfl,H⟩
   ·obtain rfl:=sI H
    go_wp2
    go_ret
    exact ⟨zz5,(zz1 HB GE141)⟩
   ·have H':=A_ H
    clear H;go_wp2
    go_loopg [3] kj1 (fun kq v3 w'=>∃ (x3_2:Int),v3=.int .i64 x3_2∧Aside0 (spec_AddrOk.l0 kq x3_2 a0_0 l0_1 a0_2 a0_3=some r)∧Aside0 (kq≤kj1)∧Aside0 (w'.heap[gb141]?=some (.cells #[.string a0_0,(.slice A0_1 l0_1.length c0_1),.bool a0_2,.string a0_3] 75 (0,0)))∧Aside0 (Below w.heap.size w w'))
    case atStart=>exact ⟨(0),zz7,H',⟨Nat.le_refl _⟩,⟨(zz2 BK141)⟩,⟨(zz1 HB GE141)⟩⟩
    case round=>
     clear H';obtain ⟨x3_2,rfl,HA,HK2,BK141,HB⟩:=hrel;cases gk with
     | zero=>exact absurd HA.out (by simp [spec_AddrOk.l0])
     | succ k2=>
      obtain ⟨H⟩:=HA;simp only [spec_AddrOk.l0] at H
      replace H:=iteEd H;rcases H with ⟨c19b0,H⟩|⟨c19b0,H⟩
      ·replace H:=iteNd H
       obtain ⟨c20b0,H⟩:=H;replace H:=bindA H;obtain ⟨t145,A21,H⟩:=H;have HF22:=A_ H;clear H;obtain ⟨_,_,_,_,_,_,_,_⟩:=cf4 BK141;obtain ⟨⟨ad144,e144,hx144_0⟩,p144,q144⟩:=atB (Kd.at_string HR0_1.out x3_2);cases e144
       replace hx144_0:=cbl HB hx144_0;go_wp2_with (first|(refine gR 80 (some 42) Tryz.func80 (spec_l1Norm.calls k2 (rdOf ByteArray.empty l0_1 x3_2) t145 _ A21.out) ?_;rintro w24 hb;replace BK141:=A_ (bB (zz2 BK141) hb);replace HB:=A_ (bS (zz1 HB GE141) hb);(try clear hb))|((with_reducible refine atG ?_ ?_ fun K_ hK_=>?_);rfl;exact undecG)|((with_reducible refine atI ?_ fun K_ hK_=>?_);exact undecI))
       refine unG hK_ ?_;clear hK_ K_;obtain ⟨H⟩:=HF22;replace H:=iteB H;rcases H with ⟨rfl,H⟩|⟨rfl,H⟩
       ·(first|refine iteT ?_|refine iteF ?_|skip)
        replace H:=iteEq H;rcases H with ⟨c26b0,c26b1,H⟩|⟨c26b0,c26b1,c26,H⟩
        ·obtain rfl:=sI H
         obtain ⟨_,_,_,_,_,_,_,_⟩:=cf4 BK141;obtain ⟨⟨ad146,e146,hx146_0⟩,p146,q146⟩:=atB (Kd.at_string HR0_1.out x3_2);obtain rfl:ad144=ad146:=(by injection e146);replace hx146_0:=cbl HB hx146_0;go_wp2
         go_ret
         exact ⟨zz5,(zz1 HB GE141)⟩
        ·replace H:=iteEq H
         rcases H with ⟨c28b0,c28b1,H⟩|⟨c28b0,c28b1,c28,H⟩
         ·obtain rfl:=sI H
          obtain ⟨_,_,_,_,_,_,_,_⟩:=cf4 BK141;obtain ⟨⟨ad146,e146,hx146_0⟩,p146,q146⟩:=atB (Kd.at_string HR0_1.out x3_2);obtain rfl:ad144=ad146:=(by injection e146);replace hx146_0:=cbl HB hx146_0;obtain ⟨⟨ad147,e147,hx147_0⟩,p147,q147⟩:=atB (Kd.at_string HR0_1.out x3_2);obtain rfl:ad144=ad147:=(by injection e147);replace hx147_0:=cbl HB hx147_0;go_wp2
          go_ret
          exact ⟨zz5,(zz1 HB GE141)⟩
         ·replace H:=iteEq H
          rcases H with ⟨c30b0,c30b1,H⟩|⟨c30b0,c30b1,c30,H⟩
          ·obtain rfl:=sI H
           obtain ⟨_,_,_,_,_,_,_,_⟩:=cf4 BK141;obtain ⟨⟨ad146,e146,hx146_0⟩,p146,q146⟩:=atB (Kd.at_string HR0_1.out x3_2);obtain rfl:ad144=ad146:=(by injection e146);replace hx146_0:=cbl HB hx146_0;obtain ⟨⟨ad147,e147,hx147_0⟩,p147,q147⟩:=atB (Kd.at_string HR0_1.out x3_2);obtain rfl:ad144=ad147:=(by injection e147);replace hx147_0:=cbl HB hx147_0;obtain ⟨⟨ad148,e148,hx148_0⟩,p148,q148⟩:=atB (Kd.at_string HR0_1.out x3_2);obtain rfl:ad144=ad148:=(by injection e148);replace hx148_0:=cbl HB hx148_0;go_wp2
           go_ret
           exact ⟨zz5,(zz1 HB GE141)⟩
          ·have H':=A_ H
           clear H;obtain ⟨_,_,_,_,_,_,_,_⟩:=cf4 BK141;obtain ⟨⟨ad146,e146,hx146_0⟩,p146,q146⟩:=atB (Kd.at_string HR0_1.out x3_2);obtain rfl:ad144=ad146:=(by injection e146);replace hx146_0:=cbl HB hx146_0;obtain ⟨⟨ad147,e147,hx147_0⟩,p147,q147⟩:=atB (Kd.at_string HR0_1.out x3_2);obtain rfl:ad144=ad147:=(by injection e147);replace hx147_0:=cbl HB hx147_0;obtain ⟨⟨ad148,e148,hx148_0⟩,p148,q148⟩:=atB (Kd.at_string HR0_1.out x3_2);obtain rfl:ad144=ad148:=(by injection e148);replace hx148_0:=cbl HB hx148_0;go_wp2
           go_roundg k2
           case measure=>have:=HJ1.out;have:=HK2.out;omega
           case rel=>exact ⟨(wrap64 (x3_2+1)),zz7,H',⟨(zz60 HJ1 HK2)⟩,⟨(zz2 BK141)⟩,⟨(zz1 HB GE141)⟩⟩
       ·(first|refine iteT ?_|refine iteF ?_|skip)
        obtain rfl:=sI H;(try ((with_reducible refine upS ?_);go_simp))
        go_wp2
        go_ret
        exact ⟨zz5,(zz1 HB GE141)⟩
      ·replace H:=bindA H
       obtain ⟨t149,A33,H⟩:=H;obtain rfl:=sI H;obtain ⟨_,_,_,_,_,_,_,_⟩:=cf4 BK141;go_wp2_with (first|(refine gR 65 (some 69) Tryz.func65 (spec_l1Text.calls k2 a0_0 _ _ l0_1 a0_2 a0_3 t149 _ ?side1 ?side2 A33.out) ?_;(case side1=>exact (zz21 HR0_1 HB));(case side2=>exact HC0_1.out);rintro w35 hb;replace BK141:=A_ (bB (zz2 BK141) hb);replace HB:=A_ (bS (zz1 HB GE141) hb);(try clear hb)))
       go_ret
       exact ⟨zz5,(zz1 HB GE141)⟩
def spec_l1Way.l0:Nat→ByteArray→Bool→List ByteArray→List ByteArray→Int→ByteArray→List ByteArray→Bool→ByteArray→Option (ByteArray×List ByteArray×Bool×ByteArray×Bool)
 | 0,_,_,_,_,_,_,_,_,_=>none
 | k+1,x6,x7,x8,x9,x10,x173000,x173001,x173002,x173003=>if x10 < (x9.length:Int) then (if 0≤x10 then ((spec_EscNorm.f k (rdOf ByteArray.empty x9 x10)).bind fun bt187=>(if bt187.2=true then (if x8.length < 8796093022208 then (spec_l1Way.l0 k x6 x7 (x8++[bt187.1]) x9 (wrap64 (x10+1)) x173000 x173001 x173002 x173003) else (none)) else (some ((⟨#[]⟩:ByteArray),([]:List ByteArray),false,(⟨#[]⟩:ByteArray),false)))) else (none)) else ((spec_EscNorm.f k x6).bind fun bt192=>((spec_PathClean.f k x8).bind fun t194=>(if bt192.2=true then ((spec_AddrOk.f k x173000 t194 x7 bt192.1).bind fun t198=>(if t198=true then (some (x173000,t194,x7,bt192.1,true)) else (some ((⟨#[]⟩:ByteArray),([]:List ByteArray),false,(⟨#[]⟩:ByteArray),false)))) else (some ((⟨#[]⟩:ByteArray),([]:List ByteArray),false,(⟨#[]⟩:ByteArray),false)))))
def spec_l1Way.f (k:Nat) (a0_0:ByteArray) (l0_1:List ByteArray) (a0_2:Bool) (a0_3:ByteArray) (a1:ByteArray):Option (ByteArray×List ByteArray×Bool×ByteArray×Bool):=(spec_l1Cut.f k a1 63).bind fun bt174=>((some (([]:List ByteArray):List ByteArray)).bind fun y177=>(if y177.length+l0_1.length < 8796093022208 then ((spec_l1Split.f k bt174.1 47).bind fun t183=>(spec_l1Way.l0 k bt174.2.1 bt174.2.2 (y177++l0_1) t183 0 a0_0 l0_1 a0_2 a0_3)) else (none)))
def spec_l1Way.T12:Bool×List (List Nat×List Nat):=(true,[([],[]),([0],[0]),([],[]),([2],[2]),([],[]),([],[]),([1,3,4,5],[1,3,4,5]),([],[]),([7,6,3,0,1,2,3,4,5,6,7],[6,7])])
def spec_l1Way.B12:List Nat:=[0,1,0,4,0,0,63,0,255]
theorem spec_l1Way.tab12:rtab .any (opsOf Tryz.f78 12)=spec_l1Way.T12:=by kernel_rfl
theorem spec_l1Way.bits12:waitsOk spec_l1Way.T12.2 spec_l1Way.B12=true:=by kernel_rfl
theorem spec_l1Way.calls (k:Nat) (a0_0:ByteArray) (A0_1:Option Addr) (c0_1:Nat) (l0_1:List ByteArray) (a0_2:Bool) (a0_3:ByteArray) (a1:ByteArray) (r1:ByteArray) (r2:List ByteArray) (r3:Bool) (r4:ByteArray) (r5:Bool) (w:World) (hr0_1:Kd.C Kd.string w A0_1 l0_1.length l0_1) (hc0_1:l0_1.length≤c0_1) (h:spec_l1Way.f k a0_0 l0_1 a0_2 a0_3 a1=some (r1,r2,r3,r4,r5)) :
  Calls Tryz.prog 78 #[.agg #[.string a0_0,.slice A0_1 l0_1.length c0_1,.bool a0_2,.string a0_3],.string a1] w fun e w'=>∃ v1_:Value,e=.returned (.tuple #[.agg #[.string r1,v1_,.bool r3,.string r4],.bool r5])∧Kd.R Kd.string 9 w' w.heap.size (fun _=>True) v1_ r2∧Below w.heap.size w w':=by
 have hu75:=Tryz.underlying75;have HR0_1:=A_ hr0_1;have HC0_1:=A_ hc0_1;clear hr0_1 hc0_1;have HB:=A_ (Below.refl w.heap.size w);unfold spec_l1Way.f at h
 have H:=h;clear h;replace H:=bindA H;obtain ⟨⟨t174,t175,t176⟩,A3,H⟩:=H;try dsimp only at H
 obtain ⟨y177,Ny177,H⟩:=bindY H;replace H:=iteE H;rcases H with ⟨c4,H⟩|⟨c4,H⟩
 ·have LMc4:=A_ c4
  clear c4;obtain ⟨y180,Ny180⟩:=toY (y177++l0_1);(first|with_reducible replace H:=bindZ Ny180 H|rw [← Ny180.out] at H|skip)
  replace H:=bindA H;obtain ⟨t183,A5,H⟩:=H;have H':=A_ H;clear H;go_enter Tryz.func78,Tryz.ntmps78;go_wp2_with (first|(refine boxF 2 #[.string a0_0,.slice A0_1 l0_1.length c0_1,.bool a0_2,.string a0_3] 75 ?_;intro gb172 hg w6 BK172 hb;have GE172:=geB hg (zz0 HB);replace HB:=A_ (bS (zz0 HB) hb);clear hb hg)|(refine boxF 4 #[.string (⟨#[]⟩:ByteArray),.slice none 0 0,.bool false,.string (⟨#[]⟩:ByteArray)] 75 ?_;intro gb173 hg w7 BK173 hb;have GE173:=geB hg (zz1 HB GE172);replace HB:=A_ (bS (zz1 HB GE172) hb);have NB172_173:=A_ ((by rw [hg];exact Nat.ne_of_lt (blk_lt (zz2 BK172)):gb172≠gb173));have NB173_172:=A_ ((by rw [hg];exact Nat.ne_of_gt (blk_lt (zz2 BK172)):gb173≠gb172));replace BK172:=A_ (bB (zz2 BK172) hb);clear hb hg)|(refine gR 62 (some 18) Tryz.func62 (spec_l1Cut.calls k a1 63 t174 t175 t176 _ A3.out) ?_;rintro w' ⟨nd,rfl⟩)|((with_reducible refine gD (N:=22) rfl ?_);refine Kd.R_lit Kd.string _ 9 ?hg (N:=22) ?hd (xs:=([]:List ByteArray)) (inner:=[]) (ok:=fun _=>True) (okp:=fun _=>True) ?hr ?hp (fun _ hk=>hk) trivial (Below.refl _ _) (Nat.le_refl _) (by simp) ?_;(case hd=>rfl);(case hg=>rfl);(case hr=>exact zz14);(case hp=>exact (Reps.none _ _));intro v178 w8 ho9 hb hg_ hnew_;clear hg_ hnew_;(first|rw [← Ny177.out] at ho9|(simp only [Int.reduceToNat] at ho9;rw [← Ny177.out] at ho9));have HO179:=A_ (Kd.R_lower ho9 (below_size (zz3 HB GE172 GE173)));replace BK172:=A_ (bB (zz2 BK172) hb);replace BK173:=A_ (bB (zz2 BK173) hb);replace HB:=A_ (bS (zz3 HB GE172 GE173) hb);clear hb ho9;have hnb10:=NB172_173.out;have hnc10:=NB173_172.out;obtain ⟨_,_,_,_,_,_,_,_⟩:=cf4 BK172)|((with_reducible refine gate_builtin (b:=.append) (xs:=#[.tmp 22,.tmp 24]) rfl ?_);at_builtin;refine Kd.R_append_rows Kd.string (w0:=w) w.heap.size rfl (.tmp 22) (.tmp 24) 23 9 (.string ⟨#[]⟩) 16 rfl Tryz.underlying23 info9 rfl (by decide) (by omega) v178 y177 l0_1 _ _ _ (fun _=>True) (fun _=>False) rfl rfl ?aO ?aR (fun _ _ h=>h) (fun _ h=>h.elim) ?aF ?aB ?aS ?aL ?_;(case aR=>exact (zz21 HR0_1 HB));(case aB=>exact (zz3 HB GE172 GE173));(case aF=>exact (fun _ _=>trivial));(case aO=>exact (zz12 HO179));(case aS=>exact (below_size (zz3 HB GE172 GE173)));(case aL=>exact (zz17 LMc4));intro v181 w12 ho hb hg hat;rw [← Ny180.out] at ho;replace BK172:=A_ (blk_grown (zz2 BK172) hg (Kd.R_ne HO179.out BK172.out (by decide)));replace BK173:=A_ (blk_grown (zz2 BK173) hg (Kd.R_ne HO179.out BK173.out (by decide)));replace HB:=A_ (hb);have HO182:=A_ (ho);clear HO179;clear ho hb hg hat)|(refine gV 92 (some 27) Tryz.func92 (spec_l1Split.calls k t174 47 t183 _ A5.out) ?_;rintro v184 w13 ⟨ho0,hb⟩;have HO185:=A_ (Kd.R_lower (Kd.R_new' ho0 (Kd.R_lt (zz12 HO182))) (below_size (zz3 HB GE172 GE173)));replace HO182:=A_ (Kd.R_elder' (zz12 HO182) (Kd.R_base ho0) hb);replace BK172:=A_ (bB (zz2 BK172) hb);replace BK173:=A_ (bB (zz2 BK173) hb);replace HB:=A_ (bS (zz3 HB GE172 GE173) hb);(try clear hb ho0)))
  go_loopg [8,10] k (fun kq v8 v10 w'=>∃ (x8_1:List ByteArray) (x10_1:Int) (x174000_1:ByteArray) (x174002_1:Bool) (x174003_1:ByteArray),v10=.int .i64 x10_1∧Aside0 (spec_l1Way.l0 kq t175 t176 x8_1 t183 x10_1 a0_0 l0_1 a0_2 a0_3=some (r1,r2,r3,r4,r5))∧Aside0 (kq≤k)∧Aside0 (Kd.R Kd.string 9 w' w.heap.size (fun k_=>some k_≠(v184:Value).ownBlock) v8 x8_1)∧Aside0 (Kd.R Kd.string 9 w' w.heap.size (fun k_=>some k_≠(v8:Value).ownBlock) v184 t183)∧Aside0 (w'.heap[gb172]?=some (.cells #[.string a0_0,(.slice A0_1 l0_1.length c0_1),.bool a0_2,.string a0_3] 75 (0,0)))∧Aside0 (w'.heap[gb173]?=some (.cells #[.string x174000_1,(.slice none 0 0),.bool x174002_1,.string x174003_1] 75 (0,0)))∧Aside0 (Below w.heap.size w w'))
  case atStart=>exact ⟨(y180),(0),((⟨#[]⟩:ByteArray)),(false),((⟨#[]⟩:ByteArray)),zz7,H',⟨Nat.le_refl _⟩,⟨(zz84 HO182)⟩,⟨(zz84 HO185)⟩,⟨(zz2 BK172)⟩,⟨(zz2 BK173)⟩,⟨(zz3 HB GE172 GE173)⟩⟩
  case round=>
   clear H';obtain ⟨x8_1,x10_1,x174000_1,x174002_1,x174003_1,rfl,HA,HK1,HO_8,HO_9,BK172,BK173,HB⟩:=hrel;cases gk with
   | zero=>exact absurd HA.out (by simp [spec_l1Way.l0])
   | succ k1=>
    obtain ⟨H⟩:=HA;simp only [spec_l1Way.l0] at H
    replace H:=iteEd H;rcases H with ⟨c14b0,H⟩|⟨c14b0,H⟩
    ·replace H:=iteNd H
     obtain ⟨c15b0,H⟩:=H;replace H:=bindA H;obtain ⟨⟨t187,t188⟩,A16,H⟩:=H;try dsimp only at H
     have HF17:=A_ H;clear H;obtain ⟨Ao18,co18,eo18⟩:=Kd.R_slice HO_9.out;subst eo18;obtain ⟨⟨ad186,e186,hx186_0⟩,p186,q186⟩:=atB (Kd.at_string (Kd.R_reads' HO_9.out).2.2 x10_1);cases e186
     go_upto_if 43 with (first|(refine gR 93 (some 39) Tryz.func93 (spec_EscNorm.calls k1 (rdOf ByteArray.empty t183 x10_1) t187 t188 _ A16.out) ?_;rintro w19 hb;replace HO_8:=A_ (rB (zz12 HO_8) hb);replace HO_9:=A_ (rB (zz12 HO_9) hb);replace BK172:=A_ (bB (zz2 BK172) hb);replace BK173:=A_ (bB (zz2 BK173) hb);replace HB:=A_ (bS (zz3 HB GE172 GE173) hb);(try clear hb)))
     obtain ⟨H⟩:=HF17;replace H:=iteB H;rcases H with ⟨rfl,H⟩|⟨rfl,H⟩
     ·replace H:=iteN H
      obtain ⟨c21,H⟩:=H;have LMc21:=A_ c21;clear c21;obtain ⟨y189,Ny189⟩:=toY (x8_1++[t187]);(first|with_reducible replace H:=bindZ Ny189 H|rw [← Ny189.out] at H|skip)
      have H':=A_ H;clear H;go_wp2_with (first|((with_reducible refine gate_builtin (b:=.append) (xs:=#[.tmp 45,.tmp 47]) rfl ?_);at_builtin;refine Kd.R_append Kd.string (w0:=w) w.heap.size rfl (.tmp 45) (.tmp 47) 23 9 (.string ⟨#[]⟩) 16 rfl Tryz.underlying23 info9 rfl (by decide) (by omega) u8 x8_1 t187 [.string t187] (fun k_=>some k_≠(.slice (some ad186) t183.length co18:Value).ownBlock) (fun _=>False) rfl rfl ?aP (fun _ hk=>hk.elim) ?aF ?aO ?aB ?aS ?aL ?_;(case aP=>exact rfl);(case aB=>exact (zz3 HB GE172 GE173));(case aF=>exact (fun k_ hk=>Kd.fresh' (Kd.R_lt (zz12 HO_9)) k_ hk));(case aO=>exact (zz12 HO_8));(case aS=>exact (below_size (zz3 HB GE172 GE173)));(case aL=>exact (zz17 LMc21));intro v190 w22 ho hb hg hat;rw [← Ny189.out] at ho;replace HO_9:=A_ (Kd.R_after (ok:=(fun _=>True)) (zz86 HO_9) hg hat);replace BK172:=A_ (blk_grown (zz2 BK172) hg (Kd.R_ne HO_8.out BK172.out (by decide)));replace BK173:=A_ (blk_grown (zz2 BK173) hg (Kd.R_ne HO_8.out BK173.out (by decide)));replace HB:=A_ (hb);have HO191:=A_ (ho);clear HO_8;clear ho hb hg hat))
      go_roundg k1
      case measure=>have:=HK1.out;omega
      case rel=>exact ⟨(y189),(wrap64 (x10_1+1)),(x174000_1),(x174002_1),(x174003_1),zz7,H',⟨(zz17 HK1)⟩,⟨(zz12 HO191)⟩,⟨(zz84 HO_9)⟩,⟨(zz2 BK172)⟩,⟨(zz2 BK173)⟩,⟨(zz3 HB GE172 GE173)⟩⟩
     ·simp only [Option.some.injEq,Prod.mk.injEq] at H
      obtain ⟨rfl,rfl,rfl,rfl,rfl⟩:=H;have hnb23:=NB173_172.out;have hnc23:=NB172_173.out;obtain ⟨_,_,_,_,_,_,_,_⟩:=cf4 BK173;go_wp2
      refine pR (results_ct rfl _ _ gb173 75 #[.string (⟨#[]⟩:ByteArray),.slice none 0 0,.bool false,.string (⟨#[]⟩:ByteArray)] (0,0) _ rfl (zz87 BK173) Tryz.underlying75 rfl (by kernel_rfl)) rfl ?_;exact ⟨_,zz5,zz72,(zz3 HB GE172 GE173)⟩
    ·replace H:=bindA H
     obtain ⟨⟨t192,t193⟩,A25,H⟩:=H;try dsimp only at H
     replace H:=bindA H;obtain ⟨t194,A26,H⟩:=H;have HF27:=A_ H;clear H;obtain ⟨Ao28,co28,eo28⟩:=Kd.R_slice HO_9.out;subst eo28;try go_wp2_with (first|(refine gR 93 (some 51) Tryz.func93 (spec_EscNorm.calls k1 t175 t192 t193 _ A25.out) ?_;rintro w29 hb;replace HO_8:=A_ (rB (zz12 HO_8) hb);replace HO_9:=A_ (rB (zz12 HO_9) hb);replace BK172:=A_ (bB (zz2 BK172) hb);replace BK173:=A_ (bB (zz2 BK173) hb);replace HB:=A_ (bS (zz3 HB GE172 GE173) hb);(try clear hb);obtain ⟨Ao30,co30,eo30⟩:=Kd.R_slice HO_8.out;subst eo30))
     replace HO_8:=A_ (Kd.R_drew HO_8.out);replace HO_9:=A_ (Kd.R_drew HO_9.out);replace BK172:=A_ (blk_drew BK172.out);replace BK173:=A_ (blk_drew BK173.out);replace HB:=A_ (below_drew1 HB.out);refine start_ (n:=9) (S:=fun w'=>w'.cell? ⟨gb172,0,none⟩=some (.string a0_0)∧w'.cell? ⟨gb172,1,none⟩=some (.slice A0_1 l0_1.length c0_1)∧w'.cell? ⟨gb172,2,none⟩=some (.bool a0_2)∧w'.cell? ⟨gb172,3,none⟩=some (.string a0_3)) (ds:=[]) #[yF,yF,yF,yF,yF,yF,yF,yF,yF] (by kernel_rfl) rfl rfl ⟨(blk_cell BK172.out 0).trans rfl,(blk_cell BK172.out 1).trans rfl,(blk_cell BK172.out 2).trans rfl,(blk_cell BK172.out 3).trans rfl⟩ (fun hHeld=>?_);refine with_tabW spec_l1Way.tab12 spec_l1Way.bits12 (fun HT_ HW_=>?_);generalize w29.drew=w31 at HO_8 HO_9 BK172 BK173 HB hHeld ⊢;refine pureZ 0 (some 54) (yA 1 8) ?_;refine pureZ 2 (some 56) #[yT,yF,yT,yF,yF,yF,yF,yF,yF] ?_;refine pureZ 4 (some 58) #[yT,yF,yT,yF,yT,yF,yF,yF,yF] ?_;refine pureZ 5 (some 59) #[yT,yF,yT,yF,yT,yT,yF,yF,yF] ?_;refine takeZ4 1 (some 55) #[yT,yT,yT,yF,yT,yT,yF,yF,yF] hHeld ?_;refine join_ (σ:=Value×Nat) 1 (yA 8 1) (fun s_=>[(57,s_.1),(15,.pointer (some ⟨s_.2,0,none⟩)),(60,.agg #[.string a0_0,s_.1,.bool t176,.string t192])]) (fun s_ w'=>(w'.cell? ⟨gb172,0,none⟩=some (.string a0_0)∧w'.cell? ⟨gb172,1,none⟩=some (.slice A0_1 l0_1.length c0_1)∧w'.cell? ⟨gb172,2,none⟩=some (.bool a0_2)∧w'.cell? ⟨gb172,3,none⟩=some (.string a0_3))∧(Kd.R Kd.string 9 w' w.heap.size (fun k_=>some k_≠(.slice Ao30 x8_1.length co30:Value).ownBlock∧some k_≠(.slice Ao28 t183.length co28:Value).ownBlock) s_.1 t194)∧(Kd.R Kd.string 9 w' w.heap.size (fun k_=>some k_≠(s_.1:Value).ownBlock∧some k_≠(.slice Ao28 t183.length co28:Value).ownBlock) (.slice Ao30 x8_1.length co30) x8_1)∧(Kd.R Kd.string 9 w' w.heap.size (fun k_=>some k_≠(s_.1:Value).ownBlock∧some k_≠(.slice Ao30 x8_1.length co30:Value).ownBlock) (.slice Ao28 t183.length co28) t183)∧(w'.heap[gb172]?=some (.cells #[.string a0_0,.slice A0_1 l0_1.length c0_1,.bool a0_2,.string a0_3] 75 (0,0)))∧(w'.heap[gb173]?=some (.cells #[.string x174000_1,.slice none 0 0,.bool x174002_1,.string x174003_1] 75 (0,0)))∧(w'.heap[s_.2]?=some (.cells #[.string (⟨#[]⟩:ByteArray),.slice none 0 0,.bool false,.string (⟨#[]⟩:ByteArray)] 75 (0,0)))∧(w.heap.size≤s_.2)∧(w.heap.size≤s_.2)∧(gb172≠s_.2)∧(s_.2≠gb172)∧(gb173≠s_.2)∧(s_.2≠gb173)∧(Below w.heap.size w w')) ?_ ?_;rotate_left
     ·intro hCont
      refine twoZ 3 7 (some 57) (some 15) (yA 6 3) #[yT,yT,yT,yF,yT,yT,yF,yT,yF] (fun K hK=>?_) (fun K hK=>?_)
      ·skip
       refine goes_ Tryz.func94 (by kernel_rfl) rfl #[.slice Ao30 x8_1.length co30] (by rfl) rfl rfl zz39 ?_;with_reducible refine (spec_PathClean.calls k1 _ _ x8_1 t194 _ ?side1 ?side2 A26.out).mono ?_
       (case side1=>exact (zz88 HO_8))
       (case side2=>exact (Kd.R_reads' HO_8.out).2.1)
       rintro e w32 ⟨v195,rfl,ho0,hb⟩;refine ⟨_,rfl,?_⟩;have HO196:=A_ (Kd.R_lower (Kd.R_new' (Kd.R_new' ho0 (Kd.R_lt (zz12 HO_8))) (Kd.R_lt (zz12 HO_9))) (below_size (zz3 HB GE172 GE173)));replace HO_8:=A_ (Kd.R_elder' (zz12 HO_8) (Kd.R_base ho0) hb);replace HO_9:=A_ (Kd.R_elder' (zz12 HO_9) (Kd.R_base ho0) hb);replace BK172:=A_ (bB (zz2 BK172) hb);replace BK173:=A_ (bB (zz2 BK173) hb);replace HB:=A_ (bS (zz3 HB GE172 GE173) hb);(try clear hb)
       (try clear hb2)
       (try clear hk)
       (try clear hi)
       (try clear ho0)
       obtain ⟨Ao33,co33,eo33⟩:=Kd.R_slice HO196.out;(first|subst eo33|(injection eo33 with f1_ f2_ f3_;have f4_:=f1_.symm;have f5_:=f3_.symm;clear f1_ f2_ f3_;subst f4_;subst f5_))
       refine hK.out _ _ ⟨(blk_cell BK172.out 0).trans rfl,(blk_cell BK172.out 1).trans rfl,(blk_cell BK172.out 2).trans rfl,(blk_cell BK172.out 3).trans rfl⟩ (fun hHeld=>?_);clear hK K;refine nZ 57 ?_;refine pureZ 6 (some 60) (yA 7 2) ?_;refine oneZ 7 (some 15) (yA 8 1) (fun K hK=>?_);refine box_step ?hg (N:=15) ?hd (cs:=#[.string (⟨#[]⟩:ByteArray),.slice none 0 0,.bool false,.string (⟨#[]⟩:ByteArray)]) (t:=75) ?hr ?_;(case hd=>rfl);(case hg=>rfl);(case hr=>exact zz14);intro gb197 hg w34 hbox hb;replace HO_8:=A_ (rB (zz12 HO_8) hb);replace HO_9:=A_ (rB (zz12 HO_9) hb);replace HO196:=A_ (rB (zz12 HO196) hb);have BK197:=A_ (hbox);have GW197:=A_ ((by rw [hg];exact (below_size (zz3 HB GE172 GE173)):w.heap.size≤gb197));have GE197:=A_ ((by rw [hg];exact (below_size (zz3 HB GE172 GE173)):w.heap.size≤gb197));replace HB:=A_ (bS (zz3 HB GE172 GE173) hb);have NB172_197:=A_ ((by rw [hg];exact Nat.ne_of_lt (blk_lt (zz2 BK172)):gb172≠gb197));have NB197_172:=A_ ((by rw [hg];exact Nat.ne_of_gt (blk_lt (zz2 BK172)):gb197≠gb172));replace BK172:=A_ (bB (zz2 BK172) hb);have NB173_197:=A_ ((by rw [hg];exact Nat.ne_of_lt (blk_lt (zz2 BK173)):gb173≠gb197));have NB197_173:=A_ ((by rw [hg];exact Nat.ne_of_gt (blk_lt (zz2 BK173)):gb197≠gb173));replace BK173:=A_ (bB (zz2 BK173) hb);clear hb hbox hg;refine hK.out _ _ ⟨(blk_cell BK172.out 0).trans rfl,(blk_cell BK172.out 1).trans rfl,(blk_cell BK172.out 2).trans rfl,(blk_cell BK172.out 3).trans rfl⟩ (fun hHeld=>?_);clear hK K;refine nZ 15 ?_;exact norm_ viaP (hCont (.slice Ao33 t194.length co33,gb197) _ ⟨hHeld,(zz89 HO196),(zz90 HO_8),(zz90 HO_9),(zz2 BK172),(zz2 BK173),(zz2 BK197),GW197.out,GE197.out,NB172_197.out,NB197_172.out,NB173_197.out,NB197_173.out,(zz6 HB GE172 GE173 GE197)⟩)
      ·skip
       refine box_step ?hg (N:=15) ?hd (cs:=#[.string (⟨#[]⟩:ByteArray),.slice none 0 0,.bool false,.string (⟨#[]⟩:ByteArray)]) (t:=75) ?hr ?_;(case hd=>rfl);(case hg=>rfl);(case hr=>exact zz14);intro gb197 hg w32 hbox hb;replace HO_8:=A_ (rB (zz12 HO_8) hb);replace HO_9:=A_ (rB (zz12 HO_9) hb);have BK197:=A_ (hbox);have GW197:=A_ ((by rw [hg];exact (below_size (zz3 HB GE172 GE173)):w.heap.size≤gb197));have GE197:=A_ ((by rw [hg];exact (below_size (zz3 HB GE172 GE173)):w.heap.size≤gb197));replace HB:=A_ (bS (zz3 HB GE172 GE173) hb);have NB172_197:=A_ ((by rw [hg];exact Nat.ne_of_lt (blk_lt (zz2 BK172)):gb172≠gb197));have NB197_172:=A_ ((by rw [hg];exact Nat.ne_of_gt (blk_lt (zz2 BK172)):gb197≠gb172));replace BK172:=A_ (bB (zz2 BK172) hb);have NB173_197:=A_ ((by rw [hg];exact Nat.ne_of_lt (blk_lt (zz2 BK173)):gb173≠gb197));have NB197_173:=A_ ((by rw [hg];exact Nat.ne_of_gt (blk_lt (zz2 BK173)):gb197≠gb173));replace BK173:=A_ (bB (zz2 BK173) hb);clear hb hbox hg;refine hK.out _ _ ⟨(blk_cell BK172.out 0).trans rfl,(blk_cell BK172.out 1).trans rfl,(blk_cell BK172.out 2).trans rfl,(blk_cell BK172.out 3).trans rfl⟩ (fun hHeld=>?_);clear hK K;refine nZ 15 ?_;refine oneZ 3 (some 57) #[yT,yT,yT,yT,yT,yT,yF,yT,yF] (fun K hK=>?_);refine goes_ Tryz.func94 (by kernel_rfl) rfl #[.slice Ao30 x8_1.length co30] (by rfl) rfl rfl zz39 ?_;with_reducible refine (spec_PathClean.calls k1 _ _ x8_1 t194 _ ?side1 ?side2 A26.out).mono ?_
       (case side1=>exact (zz88 HO_8))
       (case side2=>exact (Kd.R_reads' HO_8.out).2.1)
       rintro e w33 ⟨v195,rfl,ho0,hb⟩;refine ⟨_,rfl,?_⟩;have HO196:=A_ (Kd.R_lower (Kd.R_new' (Kd.R_new' ho0 (Kd.R_lt (zz12 HO_8))) (Kd.R_lt (zz12 HO_9))) (below_size (zz6 HB GE172 GE173 GE197)));replace HO_8:=A_ (Kd.R_elder' (zz12 HO_8) (Kd.R_base ho0) hb);replace HO_9:=A_ (Kd.R_elder' (zz12 HO_9) (Kd.R_base ho0) hb);replace BK172:=A_ (bB (zz2 BK172) hb);replace BK173:=A_ (bB (zz2 BK173) hb);replace BK197:=A_ (bB (zz2 BK197) hb);replace HB:=A_ (bS (zz6 HB GE172 GE173 GE197) hb);(try clear hb)
       (try clear hb2)
       (try clear hk)
       (try clear hi)
       (try clear ho0)
       obtain ⟨Ao34,co34,eo34⟩:=Kd.R_slice HO196.out;(first|subst eo34|(injection eo34 with f1_ f2_ f3_;have f4_:=f1_.symm;have f5_:=f3_.symm;clear f1_ f2_ f3_;subst f4_;subst f5_))
       refine hK.out _ _ ⟨(blk_cell BK172.out 0).trans rfl,(blk_cell BK172.out 1).trans rfl,(blk_cell BK172.out 2).trans rfl,(blk_cell BK172.out 3).trans rfl⟩ (fun hHeld=>?_);clear hK K;refine nZ 57 ?_;refine pureZ 6 (some 60) (yA 8 1) ?_;exact norm_ viaP (hCont (.slice Ao34 t194.length co34,gb197) _ ⟨hHeld,(zz89 HO196),(zz90 HO_8),(zz90 HO_9),(zz2 BK172),(zz2 BK173),(zz2 BK197),GW197.out,GE197.out,NB172_197.out,NB197_172.out,NB173_197.out,NB197_173.out,(zz6 HB GE172 GE173 GE197)⟩)
     rintro ⟨v195,gb197⟩ w35 ⟨hS_,h0_,h1_,h2_,h3_,h4_,h5_,h6_,h7_,h8_,h9_,h10_,h11_,h12_⟩;have n0_:=A_ h0_;have n1_:=A_ h1_;have n2_:=A_ h2_;have n3_:=A_ h3_;have n4_:=A_ h4_;have n5_:=A_ h5_;have n6_:=A_ h6_;have n7_:=A_ h7_;have n8_:=A_ h8_;have n9_:=A_ h9_;have n10_:=A_ h10_;have n11_:=A_ h11_;have n12_:=A_ h12_;(try dsimp only at n0_ n1_ n2_ n3_ n4_ n5_ n6_ n7_ n8_ n9_ n10_ n11_ n12_)
     clear HO_8;clear HO_9;clear BK172;clear BK173;clear HB;clear h0_ h1_ h2_ h3_ h4_ h5_ h6_ h7_ h8_ h9_ h10_ h11_ h12_;have HO196:=n0_;have HO_8:=n1_;have HO_9:=n2_;have BK172:=n3_;have BK173:=n4_;have BK197:=n5_;have GW197:=n6_;have GE197:=n7_;have NB172_197:=n8_;have NB197_172:=n9_;have NB173_197:=n10_;have NB197_173:=n11_;have HB:=n12_;clear n0_ n1_ n2_ n3_ n4_ n5_ n6_ n7_ n8_ n9_ n10_ n11_ n12_;have hHeld:w35.cell? ⟨gb172,0,none⟩=some (.string a0_0)∧w35.cell? ⟨gb172,1,none⟩=some (.slice A0_1 l0_1.length c0_1)∧w35.cell? ⟨gb172,2,none⟩=some (.bool a0_2)∧w35.cell? ⟨gb172,3,none⟩=some (.string a0_3):=hS_;obtain ⟨Ao36,co36,eo36⟩:=Kd.R_slice HO196.out;(first|subst eo36|(injection eo36 with f1_ f2_ f3_;have f4_:=f1_.symm;have f5_:=f3_.symm;clear f1_ f2_ f3_;subst f4_;subst f5_))
     refine norm_ (a':=?_) ?_ ?_;rotate_left
     ·simp only [putAll,Act.put,List.setIfInBounds_toArray,List.set_cons_zero,List.set_cons_succ]
      rfl
     refine oneZ 8 (none) (yA 9 0) (fun K hK=>?_);have hs37:w35.cell? ⟨gb197,0,none⟩=some (.string (⟨#[]⟩:ByteArray)):=(blk_cell BK197.out 0).trans rfl;have hfs37:=blk_frozen BK197.out 0;have hns37_0:=NB172_197.out;have hns37_1:=NB173_197.out;have hms37_0:=NB197_172.out;have hms37_1:=NB197_173.out;have hs38:w35.cell? ⟨gb197,1,none⟩=some (.slice none 0 0):=(blk_cell BK197.out 1).trans rfl;have hfs38:=blk_frozen BK197.out 1;have hns38_0:=NB172_197.out;have hns38_1:=NB173_197.out;have hms38_0:=NB197_172.out;have hms38_1:=NB197_173.out;have hs39:w35.cell? ⟨gb197,2,none⟩=some (.bool false):=(blk_cell BK197.out 2).trans rfl;have hfs39:=blk_frozen BK197.out 2;have hns39_0:=NB172_197.out;have hns39_1:=NB173_197.out;have hms39_0:=NB197_172.out;have hms39_1:=NB197_173.out;have hs40:w35.cell? ⟨gb197,3,none⟩=some (.string (⟨#[]⟩:ByteArray)):=(blk_cell BK197.out 3).trans rfl;have hfs40:=blk_frozen BK197.out 3;have hns40_0:=NB172_197.out;have hns40_1:=NB173_197.out;have hms40_0:=NB197_172.out;have hms40_1:=NB197_173.out;refine skip_ (w1:=?_) (by rfl) rfl ?_ ?_;rotate_left
     ·go_simp
      rfl
     refine hK.out _ _ ⟨((cell_far (p:=⟨gb197,_,none⟩) NB172_197.out _).trans (((cell_far (p:=⟨gb197,_,none⟩) NB172_197.out _).trans (((cell_far (p:=⟨gb197,_,none⟩) NB172_197.out _).trans (((cell_far (p:=⟨gb197,_,none⟩) NB172_197.out _).trans (hHeld.1)))))))),((cell_far (p:=⟨gb197,_,none⟩) NB172_197.out _).trans (((cell_far (p:=⟨gb197,_,none⟩) NB172_197.out _).trans (((cell_far (p:=⟨gb197,_,none⟩) NB172_197.out _).trans (((cell_far (p:=⟨gb197,_,none⟩) NB172_197.out _).trans (hHeld.2.1)))))))),((cell_far (p:=⟨gb197,_,none⟩) NB172_197.out _).trans (((cell_far (p:=⟨gb197,_,none⟩) NB172_197.out _).trans (((cell_far (p:=⟨gb197,_,none⟩) NB172_197.out _).trans (((cell_far (p:=⟨gb197,_,none⟩) NB172_197.out _).trans (hHeld.2.2.1)))))))),((cell_far (p:=⟨gb197,_,none⟩) NB172_197.out _).trans (((cell_far (p:=⟨gb197,_,none⟩) NB172_197.out _).trans (((cell_far (p:=⟨gb197,_,none⟩) NB172_197.out _).trans (((cell_far (p:=⟨gb197,_,none⟩) NB172_197.out _).trans (hHeld.2.2.2))))))))⟩ (fun hHeld=>?_);clear hK K;refine done_ (done_of HT_.out (by kernel_rfl)) ?_;have n0_:Aside0 (Kd.R Kd.string 9 ((((w35.setCell ⟨gb197,0,none⟩ (.string a0_0)).setCell ⟨gb197,1,none⟩ (.slice Ao36 t194.length co36)).setCell ⟨gb197,2,none⟩ (.bool t176)).setCell ⟨gb197,3,none⟩ (.string t192)) w.heap.size (fun k_=>some k_≠(.slice Ao28 t183.length co28:Value).ownBlock∧some k_≠(.slice Ao36 t194.length co36:Value).ownBlock) (.slice Ao30 x8_1.length co30) x8_1):=⟨(zz24 (rt HO_8 BK197))⟩;have n1_:Aside0 (Kd.R Kd.string 9 ((((w35.setCell ⟨gb197,0,none⟩ (.string a0_0)).setCell ⟨gb197,1,none⟩ (.slice Ao36 t194.length co36)).setCell ⟨gb197,2,none⟩ (.bool t176)).setCell ⟨gb197,3,none⟩ (.string t192)) w.heap.size (fun k_=>some k_≠(.slice Ao30 x8_1.length co30:Value).ownBlock∧some k_≠(.slice Ao36 t194.length co36:Value).ownBlock) (.slice Ao28 t183.length co28) t183):=⟨(zz24 (rt HO_9 BK197))⟩;have n2_:Aside0 (Kd.R Kd.string 9 ((((w35.setCell ⟨gb197,0,none⟩ (.string a0_0)).setCell ⟨gb197,1,none⟩ (.slice Ao36 t194.length co36)).setCell ⟨gb197,2,none⟩ (.bool t176)).setCell ⟨gb197,3,none⟩ (.string t192)) w.heap.size (fun k_=>some k_≠(.slice Ao30 x8_1.length co30:Value).ownBlock∧some k_≠(.slice Ao28 t183.length co28:Value).ownBlock) (.slice Ao36 t194.length co36) t194):=⟨(zz24 (rt HO196 BK197))⟩;have n3_:Aside0 (((((w35.setCell ⟨gb197,0,none⟩ (.string a0_0)).setCell ⟨gb197,1,none⟩ (.slice Ao36 t194.length co36)).setCell ⟨gb197,2,none⟩ (.bool t176)).setCell ⟨gb197,3,none⟩ (.string t192)).heap[gb172]?=some (.cells #[.string a0_0,.slice A0_1 l0_1.length c0_1,.bool a0_2,.string a0_3] 75 (0,0))):=⟨(zz4 BK172 NB172_197)⟩;have n4_:Aside0 (((((w35.setCell ⟨gb197,0,none⟩ (.string a0_0)).setCell ⟨gb197,1,none⟩ (.slice Ao36 t194.length co36)).setCell ⟨gb197,2,none⟩ (.bool t176)).setCell ⟨gb197,3,none⟩ (.string t192)).heap[gb173]?=some (.cells #[.string x174000_1,.slice none 0 0,.bool x174002_1,.string x174003_1] 75 (0,0))):=⟨(zz4 BK173 NB173_197)⟩;have n5_:Aside0 (((((w35.setCell ⟨gb197,0,none⟩ (.string a0_0)).setCell ⟨gb197,1,none⟩ (.slice Ao36 t194.length co36)).setCell ⟨gb197,2,none⟩ (.bool t176)).setCell ⟨gb197,3,none⟩ (.string t192)).heap[gb197]?=some (.cells #[.string a0_0,.slice Ao36 t194.length co36,.bool t176,.string t192] 75 (0,0))):=⟨(zz87 BK197)⟩;have n6_:Aside0 (Below w.heap.size w ((((w35.setCell ⟨gb197,0,none⟩ (.string a0_0)).setCell ⟨gb197,1,none⟩ (.slice Ao36 t194.length co36)).setCell ⟨gb197,2,none⟩ (.bool t176)).setCell ⟨gb197,3,none⟩ (.string t192))):=⟨(zz6 HB GE172 GE173 GE197)⟩;(try clear HO_8)
     (try clear HO_9)
     (try clear HO196)
     (try clear BK172)
     (try clear BK173)
     (try clear BK197)
     (try clear HB)
     generalize ((((w35.setCell ⟨gb197,0,none⟩ (.string a0_0)).setCell ⟨gb197,1,none⟩ (.slice Ao36 t194.length co36)).setCell ⟨gb197,2,none⟩ (.bool t176)).setCell ⟨gb197,3,none⟩ (.string t192))=w41 at n0_ n1_ n2_ n3_ n4_ n5_ n6_ ⊢;have HO_8:=n0_;have HO_9:=n1_;have HO196:=n2_;have BK172:=n3_;have BK173:=n4_;have BK197:=n5_;have HB:=n6_;clear n0_ n1_ n2_ n3_ n4_ n5_ n6_;go_wp2_with (first|((with_reducible refine atG ?_ ?_ fun K_ hK_=>?_);rfl;exact undecG)|((with_reducible refine atI ?_ fun K_ hK_=>?_);exact undecI))
     refine unG hK_ ?_;clear hK_ K_;obtain ⟨H⟩:=HF27;replace H:=iteB H;rcases H with ⟨rfl,H⟩|⟨rfl,H⟩
     ·(first|refine iteT ?_|refine iteF ?_|skip)
      replace H:=bindA H;obtain ⟨t198,A43,H⟩:=H;have HF44:=A_ H;clear H;have hnb45:=NB197_172.out;have hnc45:=NB172_197.out;have hnb46:=NB197_173.out;have hnc46:=NB173_197.out;obtain ⟨_,_,_,_,_,_,_,_⟩:=cf4 BK197;(try ((with_reducible refine upS ?_);go_simp))
      go_upto_if 67 with (first|(go_at_call 64;(with_reducible refine (spec_AddrOk.calls k1 a0_0 _ _ t194 t176 t192 t198 _ ?side1 ?side2 A43.out).mono ?_);(case side1=>exact (zz88 HO196));(case side2=>exact (Kd.R_reads' HO196.out).2.1);rintro e w48 ⟨rfl,hb⟩;replace HO_8:=A_ (rB (zz12 HO_8) hb);replace HO_9:=A_ (rB (zz12 HO_9) hb);replace HO196:=A_ (rB (zz12 HO196) hb);replace BK172:=A_ (bB (zz2 BK172) hb);replace BK173:=A_ (bB (zz2 BK173) hb);replace BK197:=A_ (bB (zz2 BK197) hb);replace HB:=A_ (bS (zz6 HB GE172 GE173 GE197) hb);(try clear hb)))
      obtain ⟨H⟩:=HF44;replace H:=iteB H;rcases H with ⟨rfl,H⟩|⟨rfl,H⟩
      ·simp only [Option.some.injEq,Prod.mk.injEq] at H
       obtain ⟨rfl,rfl,rfl,rfl,rfl⟩:=H;have hnb50:=NB197_172.out;have hnc50:=NB172_197.out;have hnb51:=NB197_173.out;have hnc51:=NB173_197.out;obtain ⟨_,_,_,_,_,_,_,_⟩:=cf4 BK197;have hnb53:=NB173_172.out;have hnc53:=NB172_173.out;obtain ⟨_,_,_,_,_,_,_,_⟩:=cf4 BK173;go_wp2
       refine pR (results_ct rfl _ _ gb173 75 #[.string a0_0,.slice Ao36 t194.length co36,.bool t176,.string t192] (0,0) _ rfl (zz87 BK173) Tryz.underlying75 rfl (by kernel_rfl)) rfl ?_;exact ⟨_,zz5,(zz24 (rt HO196 BK173)),(zz6 HB GE172 GE173 GE197)⟩
      ·simp only [Option.some.injEq,Prod.mk.injEq] at H
       obtain ⟨rfl,rfl,rfl,rfl,rfl⟩:=H;have hnb55:=NB173_172.out;have hnc55:=NB172_173.out;have hnb56:=NB173_197.out;have hnc56:=NB197_173.out;obtain ⟨_,_,_,_,_,_,_,_⟩:=cf4 BK173;go_wp2
       refine pR (results_ct rfl _ _ gb173 75 #[.string (⟨#[]⟩:ByteArray),.slice none 0 0,.bool false,.string (⟨#[]⟩:ByteArray)] (0,0) _ rfl (zz87 BK173) Tryz.underlying75 rfl (by kernel_rfl)) rfl ?_;exact ⟨_,zz5,zz72,(zz6 HB GE172 GE173 GE197)⟩
     ·(first|refine iteT ?_|refine iteF ?_|skip)
      simp only [Option.some.injEq,Prod.mk.injEq] at H
      obtain ⟨rfl,rfl,rfl,rfl,rfl⟩:=H;have hnb58:=NB173_172.out;have hnc58:=NB172_173.out;have hnb59:=NB173_197.out;have hnc59:=NB197_173.out;obtain ⟨_,_,_,_,_,_,_,_⟩:=cf4 BK173;(try ((with_reducible refine upS ?_);go_simp))
      go_wp2
      refine pR (results_ct rfl _ _ gb173 75 #[.string (⟨#[]⟩:ByteArray),.slice none 0 0,.bool false,.string (⟨#[]⟩:ByteArray)] (0,0) _ rfl (zz87 BK173) Tryz.underlying75 rfl (by kernel_rfl)) rfl ?_;exact ⟨_,zz5,zz72,(zz6 HB GE172 GE173 GE197)⟩
 ·exact absurd H (by simp)
def spec_AddrText.f (k:Nat) (a0_0:ByteArray) (l0_1:List ByteArray) (a0_2:Bool) (a0_3:ByteArray):Option (ByteArray):=(spec_AddrOk.f k a0_0 l0_1 a0_2 a0_3).bind fun t236=>(if t236=true then ((spec_l1Text.f k a0_0 l0_1 a0_2 a0_3).bind fun t237=>(some t237)) else (some (⟨#[]⟩:ByteArray)))
theorem spec_AddrText.calls (k:Nat) (a0_0:ByteArray) (A0_1:Option Addr) (c0_1:Nat) (l0_1:List ByteArray) (a0_2:Bool) (a0_3:ByteArray) (r:ByteArray) (w:World) (hr0_1:Kd.C Kd.string w A0_1 l0_1.length l0_1) (hc0_1:l0_1.length≤c0_1) (h:spec_AddrText.f k a0_0 l0_1 a0_2 a0_3=some r) :
  Calls Tryz.prog 41 #[.agg #[.string a0_0,.slice A0_1 l0_1.length c0_1,.bool a0_2,.string a0_3]] w fun e w'=>e=.returned (.string r)∧Below w.heap.size w w':=by
 have hu75:=Tryz.underlying75;have HR0_1:=A_ hr0_1;have HC0_1:=A_ hc0_1;clear hr0_1 hc0_1;have HB:=A_ (Below.refl w.heap.size w);unfold spec_AddrText.f at h
 have H:=h;clear h;replace H:=bindA H;obtain ⟨t236,A2,H⟩:=H;have HF3:=A_ H;clear H;go_enter Tryz.func41,Tryz.ntmps41;go_upto_if 5 with (first|(refine boxF 1 #[.string a0_0,.slice A0_1 l0_1.length c0_1,.bool a0_2,.string a0_3] 75 ?_;intro gb235 hg w4 BK235 hb;have GE235:=geB hg (zz0 HB);replace HB:=A_ (bS (zz0 HB) hb);clear hb hg;obtain ⟨_,_,_,_,_,_,_,_⟩:=cf4 BK235)|(refine gR 64 (some 4) Tryz.func64 (spec_AddrOk.calls k a0_0 _ _ l0_1 a0_2 a0_3 t236 _ ?side1 ?side2 A2.out) ?_;(case side1=>exact (zz21 HR0_1 HB));(case side2=>exact HC0_1.out);rintro w6 hb;replace BK235:=A_ (bB (zz2 BK235) hb);replace HB:=A_ (bS (zz1 HB GE235) hb);(try clear hb)))
 obtain ⟨H⟩:=HF3;replace H:=iteB H;rcases H with ⟨rfl,H⟩|⟨rfl,H⟩
 ·replace H:=bindA H
  obtain ⟨t237,A8,H⟩:=H;obtain rfl:=sI H;obtain ⟨_,_,_,_,_,_,_,_⟩:=cf4 BK235;go_wp2_with (first|(refine gR 65 (some 7) Tryz.func65 (spec_l1Text.calls k a0_0 _ _ l0_1 a0_2 a0_3 t237 _ ?side1 ?side2 A8.out) ?_;(case side1=>exact (zz21 HR0_1 HB));(case side2=>exact HC0_1.out);rintro w10 hb;replace BK235:=A_ (bB (zz2 BK235) hb);replace HB:=A_ (bS (zz1 HB GE235) hb);(try clear hb)))
  go_ret
  exact ⟨zz5,(zz1 HB GE235)⟩
 ·obtain rfl:=sI H
  go_wp2
  go_ret
  exact ⟨zz5,(zz1 HB GE235)⟩
mutual
def impl_houseOk.j0:Nat→ByteArray→Bool→ByteArray→Int→Bool→List ByteArray→List (S81)→Int→Int→List (S87)→Option (Bool)
 | 0,_,_,_,_,_,_,_,_,_,_=>none
 | k+1,x1,x21,x550000,x550001,x550002,x550003,x550004,x550005,x550006,x550007=>if x21=true then (some false) else (if (x550003.length:Int)=1 then (if 0 < (x550003.length:Int) then (impl_houseOk.j1 k ((rdOf ByteArray.empty x550003 0).toList != x1.toList) x550000 x550001 x550002 x550003 x550004 x550005 x550006 x550007 x550003 x550004 x550005) else (none)) else (impl_houseOk.j1 k true x550000 x550001 x550002 x550003 x550004 x550005 x550006 x550007 x550003 x550004 x550005))
def impl_houseOk.j1:Nat→Bool→ByteArray→Int→Bool→List ByteArray→List (S81)→Int→Int→List (S87)→List ByteArray→List (S81)→Int→Option (Bool)
 | 0,_,_,_,_,_,_,_,_,_,_,_,_=>none
 | k+1,x35,x550000,x550001,x550002,x550003,x550004,x550005,x550006,x550007,x554000,x554001,x554002=>if x35=true then (some false) else (if x550002=true then (if (x554001.length:Int)≤40 then ((impl_rulesOk.f k x554001).bind fun t555=>(if t555=true then ((impl_between.f 0 x554002 20).bind fun t556=>(some t556)) else (some false))) else (some false)) else (if (x554001.length:Int)=0 then (some (x554002 == 0)) else (some false)))
end
def impl_houseOk.f (k:Nat) (a0_0:ByteArray) (a0_1:Int) (a0_2:Bool) (l0_3:List ByteArray) (l0_4:List (S81)) (a0_5:Int) (a0_6:Int) (l0_7:List (S87)) (a1:ByteArray):Option (Bool):=(impl_isHouse.f k a0_0).bind fun t550=>(if t550=true then ((impl_between.f 0 a0_1 5100).bind fun t551=>(if t551=true then ((impl_between.f 0 a0_6 2).bind fun t552=>(impl_houseOk.j0 k a1 (!t552) a0_0 a0_1 a0_2 l0_3 l0_4 a0_5 a0_6 l0_7)) else (impl_houseOk.j0 k a1 true a0_0 a0_1 a0_2 l0_3 l0_4 a0_5 a0_6 l0_7))) else (impl_houseOk.j0 k a1 true a0_0 a0_1 a0_2 l0_3 l0_4 a0_5 a0_6 l0_7))
theorem impl_houseOk.calls (k:Nat) (a0_0:ByteArray) (a0_1:Int) (a0_2:Bool) (A0_3:Option Addr) (c0_3:Nat) (l0_3:List ByteArray) (A0_4:Option Addr) (c0_4:Nat) (l0_4:List (S81)) (a0_5:Int) (a0_6:Int) (A0_7:Option Addr) (c0_7:Nat) (l0_7:List (S87)) (a1:ByteArray) (r:Bool) (w:World) (hr0_3:Kd.C Kd.string w A0_3 l0_3.length l0_3) (hc0_3:l0_3.length≤c0_3) (hr0_4:Kd.C k81 w A0_4 l0_4.length l0_4) (hc0_4:l0_4.length≤c0_4) (hr0_7:Kd.C k87 w A0_7 l0_7.length l0_7) (hc0_7:l0_7.length≤c0_7) (h:impl_houseOk.f k a0_0 a0_1 a0_2 l0_3 l0_4 a0_5 a0_6 l0_7 a1=some r) :
  Calls Tryz.prog 29 #[.agg #[.string a0_0,.int .i64 a0_1,.bool a0_2,.slice A0_3 l0_3.length c0_3,.slice A0_4 l0_4.length c0_4,.int .i64 a0_5,.int .i64 a0_6,.slice A0_7 l0_7.length c0_7],.string a1] w fun e w'=>e=.returned (.bool r)∧Below w.heap.size w w':=by
 have hu56:=Tryz.underlying56;have hu53:=Tryz.underlying53;have HR0_3:=A_ hr0_3;have HC0_3:=A_ hc0_3;clear hr0_3 hc0_3;have HR0_4:=A_ hr0_4;have HC0_4:=A_ hc0_4;clear hr0_4 hc0_4;have HR0_7:=A_ hr0_7;have HC0_7:=A_ hc0_7;clear hr0_7 hc0_7;have HB:=A_ (Below.refl w.heap.size w);unfold impl_houseOk.f at h
 have H:=h;clear h;have HC3:=A_ H;clear H;go_enter Tryz.func29,Tryz.ntmps29;go_upto_region 1 with (first|(refine boxF 2 #[.string a0_0,.int .i64 a0_1,.bool a0_2,.slice A0_3 l0_3.length c0_3,.slice A0_4 l0_4.length c0_4,.int .i64 a0_5,.int .i64 a0_6,.slice A0_7 l0_7.length c0_7] 56 ?_;intro gb549 hg w4 BK549 hb;have GE549:=geB hg (zz0 HB);replace HB:=A_ (bS (zz0 HB) hb);clear hb hg))
 (try simp only [Act.put,List.setIfInBounds_toArray,List.set_cons_zero,List.set_cons_succ])
 go_cut [21] (fun v21 wc=>∃ (kq:Nat) (x21_2:Bool),v21=.bool x21_2∧Aside0 (impl_houseOk.j0 kq a1 x21_2 a0_0 a0_1 a0_2 l0_3 l0_4 a0_5 a0_6 l0_7=some r)∧Aside0 (kq≤k)∧Aside0 (wc.heap[gb549]?=some (.cells #[.string a0_0,.int .i64 a0_1,.bool a0_2,(.slice A0_3 l0_3.length c0_3),(.slice A0_4 l0_4.length c0_4),.int .i64 a0_5,.int .i64 a0_6,(.slice A0_7 l0_7.length c0_7)] 56 (0,0)))∧Aside0 (Below w.heap.size w wc))
 case first=>
  obtain ⟨H⟩:=HC3;replace H:=bindA H;obtain ⟨t550,A5,H⟩:=H;have HF6:=A_ H;clear H;have hcz7_0:w4.cell? ⟨gb549,0,none⟩=some (.string a0_0):=(blk_cell BK549.out 0).trans rfl;have hcz7_1:w4.cell? ⟨gb549,1,none⟩=some (.int .i64 a0_1):=(blk_cell BK549.out 1).trans rfl;have hcz7_2:w4.cell? ⟨gb549,2,none⟩=some (.bool a0_2):=(blk_cell BK549.out 2).trans rfl;have hcz7_3:w4.cell? ⟨gb549,3,none⟩=some (.slice A0_3 l0_3.length c0_3):=(blk_cell BK549.out 3).trans rfl;have hcz7_4:w4.cell? ⟨gb549,4,none⟩=some (.slice A0_4 l0_4.length c0_4):=(blk_cell BK549.out 4).trans rfl;have hcz7_5:w4.cell? ⟨gb549,5,none⟩=some (.int .i64 a0_5):=(blk_cell BK549.out 5).trans rfl;have hcz7_6:w4.cell? ⟨gb549,6,none⟩=some (.int .i64 a0_6):=(blk_cell BK549.out 6).trans rfl;have hcz7_7:w4.cell? ⟨gb549,7,none⟩=some (.slice A0_7 l0_7.length c0_7):=(blk_cell BK549.out 7).trans rfl;have hfz7_0:=blk_frozen BK549.out 0;have hfz7_1:=blk_frozen BK549.out 1;have hfz7_2:=blk_frozen BK549.out 2;have hfz7_3:=blk_frozen BK549.out 3;have hfz7_4:=blk_frozen BK549.out 4;have hfz7_5:=blk_frozen BK549.out 5;have hfz7_6:=blk_frozen BK549.out 6;have hfz7_7:=blk_frozen BK549.out 7;go_wp2_with (first|(refine gR 50 (some 8) Tryz.func50 (impl_isHouse.calls k a0_0 t550 _ A5.out) ?_;rintro w' ⟨nd,rfl⟩)|((with_reducible refine atG ?_ ?_ fun K_ hK_=>?_);rfl;exact undecG)|((with_reducible refine atI ?_ fun K_ hK_=>?_);exact undecI))
  refine unG hK_ ?_;clear hK_ K_;obtain ⟨H⟩:=HF6;replace H:=iteB H;rcases H with ⟨rfl,H⟩|⟨rfl,H⟩
  ·(first|refine iteT ?_|refine iteF ?_|skip)
   replace H:=bindA H;obtain ⟨t551,A9,H⟩:=H;have HF10:=A_ H;clear H;have hcz11_0:w4.cell? ⟨gb549,0,none⟩=some (.string a0_0):=(blk_cell BK549.out 0).trans rfl;have hcz11_1:w4.cell? ⟨gb549,1,none⟩=some (.int .i64 a0_1):=(blk_cell BK549.out 1).trans rfl;have hcz11_2:w4.cell? ⟨gb549,2,none⟩=some (.bool a0_2):=(blk_cell BK549.out 2).trans rfl;have hcz11_3:w4.cell? ⟨gb549,3,none⟩=some (.slice A0_3 l0_3.length c0_3):=(blk_cell BK549.out 3).trans rfl;have hcz11_4:w4.cell? ⟨gb549,4,none⟩=some (.slice A0_4 l0_4.length c0_4):=(blk_cell BK549.out 4).trans rfl;have hcz11_5:w4.cell? ⟨gb549,5,none⟩=some (.int .i64 a0_5):=(blk_cell BK549.out 5).trans rfl;have hcz11_6:w4.cell? ⟨gb549,6,none⟩=some (.int .i64 a0_6):=(blk_cell BK549.out 6).trans rfl;have hcz11_7:w4.cell? ⟨gb549,7,none⟩=some (.slice A0_7 l0_7.length c0_7):=(blk_cell BK549.out 7).trans rfl;have hfz11_0:=blk_frozen BK549.out 0;have hfz11_1:=blk_frozen BK549.out 1;have hfz11_2:=blk_frozen BK549.out 2;have hfz11_3:=blk_frozen BK549.out 3;have hfz11_4:=blk_frozen BK549.out 4;have hfz11_5:=blk_frozen BK549.out 5;have hfz11_6:=blk_frozen BK549.out 6;have hfz11_7:=blk_frozen BK549.out 7;(try ((with_reducible refine upS ?_);go_simp))
   go_wp2_with (first|(go_at_call 26;(with_reducible refine (impl_between.calls 0 a0_1 5100 t551 _ A9.out).mono ?_);rintro e w' ⟨rfl,⟨nd,rfl⟩⟩)|((with_reducible refine atG ?_ ?_ fun K_ hK_=>?_);rfl;exact undecG)|((with_reducible refine atI ?_ fun K_ hK_=>?_);exact undecI))
   refine unG hK_ ?_;clear hK_ K_;obtain ⟨H⟩:=HF10;replace H:=iteB H;rcases H with ⟨rfl,H⟩|⟨rfl,H⟩
   ·(first|refine iteT ?_|refine iteF ?_|skip)
    replace H:=bindA H;obtain ⟨t552,A13,H⟩:=H;have H':=A_ H;clear H;have hcz14_0:w4.cell? ⟨gb549,0,none⟩=some (.string a0_0):=(blk_cell BK549.out 0).trans rfl;have hcz14_1:w4.cell? ⟨gb549,1,none⟩=some (.int .i64 a0_1):=(blk_cell BK549.out 1).trans rfl;have hcz14_2:w4.cell? ⟨gb549,2,none⟩=some (.bool a0_2):=(blk_cell BK549.out 2).trans rfl;have hcz14_3:w4.cell? ⟨gb549,3,none⟩=some (.slice A0_3 l0_3.length c0_3):=(blk_cell BK549.out 3).trans rfl;have hcz14_4:w4.cell? ⟨gb549,4,none⟩=some (.slice A0_4 l0_4.length c0_4):=(blk_cell BK549.out 4).trans rfl;have hcz14_5:w4.cell? ⟨gb549,5,none⟩=some (.int .i64 a0_5):=(blk_cell BK549.out 5).trans rfl;have hcz14_6:w4.cell? ⟨gb549,6,none⟩=some (.int .i64 a0_6):=(blk_cell BK549.out 6).trans rfl;have hcz14_7:w4.cell? ⟨gb549,7,none⟩=some (.slice A0_7 l0_7.length c0_7):=(blk_cell BK549.out 7).trans rfl;have hfz14_0:=blk_frozen BK549.out 0;have hfz14_1:=blk_frozen BK549.out 1;have hfz14_2:=blk_frozen BK549.out 2;have hfz14_3:=blk_frozen BK549.out 3;have hfz14_4:=blk_frozen BK549.out 4;have hfz14_5:=blk_frozen BK549.out 5;have hfz14_6:=blk_frozen BK549.out 6;have hfz14_7:=blk_frozen BK549.out 7;(try ((with_reducible refine upS ?_);go_simp))
    go_wp2_with (first|(go_at_call 26;(with_reducible refine (impl_between.calls 0 a0_6 2 t552 _ A13.out).mono ?_);rintro e w' ⟨rfl,⟨nd,rfl⟩⟩))
    go_meet
    case rel=>exact ⟨_,(!t552),zz7,H',⟨zz51⟩,⟨(zz2 BK549)⟩,⟨(zz1 HB GE549)⟩⟩
   ·(first|refine iteT ?_|refine iteF ?_|skip)
    have H':=A_ H;clear H;(try ((with_reducible refine upS ?_);go_simp))
    go_wp2
    go_meet
    case rel=>exact ⟨_,(true),zz7,H',⟨zz51⟩,⟨(zz2 BK549)⟩,⟨(zz1 HB GE549)⟩⟩
  ·(first|refine iteT ?_|refine iteF ?_|skip)
   have H':=A_ H;clear H;(try ((with_reducible refine upS ?_);go_simp))
   go_wp2
   go_meet
   case rel=>exact ⟨_,(true),zz7,H',⟨zz51⟩,⟨(zz2 BK549)⟩,⟨(zz1 HB GE549)⟩⟩
 case rest=>
  clear HC3;obtain ⟨kq,x21_2,rfl,HA,HJ2,BK549,HB⟩:=hcut;cases kq with
  | zero=>exact absurd HA.out (by simp [impl_houseOk.j0])
  | succ kj2=>
   obtain ⟨H⟩:=HA;simp only [impl_houseOk.j0] at H
   replace H:=iteB H;rcases H with ⟨rfl,H⟩|⟨rfl,H⟩
   ·obtain rfl:=sI H
    go_wp2
    go_ret
    exact ⟨zz5,(zz1 HB GE549)⟩
   ·have HC16:=A_ H
    clear H;have hcz17_0:wc.cell? ⟨gb549,0,none⟩=some (.string a0_0):=(blk_cell BK549.out 0).trans rfl;have hcz17_1:wc.cell? ⟨gb549,1,none⟩=some (.int .i64 a0_1):=(blk_cell BK549.out 1).trans rfl;have hcz17_2:wc.cell? ⟨gb549,2,none⟩=some (.bool a0_2):=(blk_cell BK549.out 2).trans rfl;have hcz17_3:wc.cell? ⟨gb549,3,none⟩=some (.slice A0_3 l0_3.length c0_3):=(blk_cell BK549.out 3).trans rfl;have hcz17_4:wc.cell? ⟨gb549,4,none⟩=some (.slice A0_4 l0_4.length c0_4):=(blk_cell BK549.out 4).trans rfl;have hcz17_5:wc.cell? ⟨gb549,5,none⟩=some (.int .i64 a0_5):=(blk_cell BK549.out 5).trans rfl;have hcz17_6:wc.cell? ⟨gb549,6,none⟩=some (.int .i64 a0_6):=(blk_cell BK549.out 6).trans rfl;have hcz17_7:wc.cell? ⟨gb549,7,none⟩=some (.slice A0_7 l0_7.length c0_7):=(blk_cell BK549.out 7).trans rfl;have hfz17_0:=blk_frozen BK549.out 0;have hfz17_1:=blk_frozen BK549.out 1;have hfz17_2:=blk_frozen BK549.out 2;have hfz17_3:=blk_frozen BK549.out 3;have hfz17_4:=blk_frozen BK549.out 4;have hfz17_5:=blk_frozen BK549.out 5;have hfz17_6:=blk_frozen BK549.out 6;have hfz17_7:=blk_frozen BK549.out 7;go_upto_region 4 with (first|(refine boxF 5 #[.slice none 0 0,.slice none 0 0,.int .i64 0] 53 ?_;intro gb553 hg w18 BK553 hb;have GE553:=geB hg (zz1 HB GE549);have GW553:=GE553;replace HB:=A_ (bS (zz1 HB GE549) hb);have NB549_553:=A_ ((by rw [hg];exact Nat.ne_of_lt (blk_lt (zz2 BK549)):gb549≠gb553));have NB553_549:=A_ ((by rw [hg];exact Nat.ne_of_gt (blk_lt (zz2 BK549)):gb553≠gb549));replace BK549:=A_ (bB (zz2 BK549) hb);clear hb hg;have hnb19:=NB553_549.out;have hnc19:=NB549_553.out;obtain ⟨_,_,_,_,_,_⟩:=cf3 BK553))
    (try simp only [Act.put,List.setIfInBounds_toArray,List.set_cons_zero,List.set_cons_succ])
    go_cut [35] (fun v35 wc=>∃ (kq:Nat) (x35_15:Bool),v35=.bool x35_15∧Aside0 (impl_houseOk.j1 kq x35_15 a0_0 a0_1 a0_2 l0_3 l0_4 a0_5 a0_6 l0_7 l0_3 l0_4 a0_5=some r)∧Aside0 (kq≤kj2)∧Aside0 (wc.heap[gb549]?=some (.cells #[.string a0_0,.int .i64 a0_1,.bool a0_2,(.slice A0_3 l0_3.length c0_3),(.slice A0_4 l0_4.length c0_4),.int .i64 a0_5,.int .i64 a0_6,(.slice A0_7 l0_7.length c0_7)] 56 (0,0)))∧Aside0 (wc.heap[gb553]?=some (.cells #[(.slice A0_3 l0_3.length c0_3),(.slice A0_4 l0_4.length c0_4),.int .i64 a0_5] 53 (0,0)))∧Aside0 (Below w.heap.size w wc))
    case first=>
     obtain ⟨H⟩:=HC16;replace H:=iteEq H;rcases H with ⟨c21b0,c21b1,H⟩|⟨c21b0,c21b1,c21,H⟩
     ·(first|rw [c21b0]|(simp only [i64_w,i32_w];rw [c21b0])|skip)
      replace H:=iteN H;obtain ⟨c22,H⟩:=H;have c22b0:=dT c22;have c22b1:decide (0 < l0_3.length)=true:=dT (by omega);clear c22;have H':=A_ H;clear H;have hnb23:=NB553_549.out;have hnc23:=NB549_553.out;obtain ⟨_,_,_,_,_,_⟩:=cf3 BK553;have p554:0≤(0:Int):=(by omega);have q554:0 < (l0_3.length:Int):=ofD;obtain ⟨ad554,e554,hx554_0⟩:=Kd.at_string HR0_3.out 0 p554 q554;cases e554
      have qi554:(0 < l0_3.length)=True:=eq_true (by omega);(try rw [show ((0:Int)).toNat=0 from rfl] at hx554_0)
      (try rw [Addr.add_zero'] at hx554_0)
      have hn554_0:ad554.block≠gb553:=Nat.ne_of_lt (Nat.lt_of_lt_of_le zz92 GW553.out);have hn554_1:ad554.block≠gb553:=Nat.ne_of_lt (Nat.lt_of_lt_of_le zz92 GW553.out);have hn554_2:ad554.block≠gb553:=Nat.ne_of_lt (Nat.lt_of_lt_of_le zz92 GW553.out);replace hx554_0:=cbl HB hx554_0;replace hx554_0:=(cell_far (p:=⟨gb553,0,none⟩) (by first|(rw [add_block];exact hn554_0)|(show (Addr.add _ _).block≠_;rw [add_block];exact hn554_0)|exact hn554_0) (.slice (some ad554) l0_3.length c0_3)).trans hx554_0;replace hx554_0:=(cell_far (p:=⟨gb553,1,none⟩) (by first|(rw [add_block];exact hn554_1)|(show (Addr.add _ _).block≠_;rw [add_block];exact hn554_1)|exact hn554_1) (.slice A0_4 l0_4.length c0_4)).trans hx554_0;replace hx554_0:=(cell_far (p:=⟨gb553,2,none⟩) (by first|(rw [add_block];exact hn554_2)|(show (Addr.add _ _).block≠_;rw [add_block];exact hn554_2)|exact hn554_2) (.int .i64 a0_5)).trans hx554_0;clear hn554_0;clear hn554_1;clear hn554_2;replace p554:=eq_true p554;replace q554:=eq_true q554;go_wp2
      go_meet
      case rel=>exact ⟨_,(((rdOf ByteArray.empty l0_3 0).toList != a1.toList)),zz7,H',⟨(zz53 HJ2)⟩,⟨(zz4 BK549 NB549_553)⟩,⟨(zz26 BK553)⟩,⟨(zz3 HB GE549 GE553)⟩⟩
     ·(first|rw [c21b0]|(simp only [i64_w,i32_w];rw [c21b0])|skip)
      have H':=A_ H;clear H;have hnb25:=NB553_549.out;have hnc25:=NB549_553.out;obtain ⟨_,_,_,_,_,_⟩:=cf3 BK553;go_wp2
      go_meet
      case rel=>exact ⟨_,(true),zz7,H',⟨(zz53 HJ2)⟩,⟨(zz4 BK549 NB549_553)⟩,⟨(zz26 BK553)⟩,⟨(zz3 HB GE549 GE553)⟩⟩
    case rest=>
     clear HC16;obtain ⟨kq,x35_15,rfl,HA,HJ15,BK549,BK553,HB⟩:=hcut;cases kq with
     | zero=>exact absurd HA.out (by simp [impl_houseOk.j1])
     | succ kj15=>
      obtain ⟨H⟩:=HA;simp only [impl_houseOk.j1] at H
      replace H:=iteB H;rcases H with ⟨rfl,H⟩|⟨rfl,H⟩
      ·obtain rfl:=sI H
       go_wp2
       go_ret
       exact ⟨zz5,(zz3 HB GE549 GE553)⟩
      ·replace H:=iteB H
       rcases H with ⟨rfl,H⟩|⟨rfl,H⟩
       ·replace H:=iteE H
        rcases H with ⟨c29,H⟩|⟨c29,H⟩
        ·have c29b0:=dT c29
         have c29b1:decide (l0_4.length≤40)=true:=dT (by omega);clear c29;replace H:=bindA H;obtain ⟨t555,A30,H⟩:=H;have HF31:=A_ H;clear H;have hnb32:=NB549_553.out;have hnc32:=NB553_549.out;have hcz33_0:wc.cell? ⟨gb549,0,none⟩=some (.string a0_0):=(blk_cell BK549.out 0).trans rfl;have hcz33_1:wc.cell? ⟨gb549,1,none⟩=some (.int .i64 a0_1):=(blk_cell BK549.out 1).trans rfl;have hcz33_2:wc.cell? ⟨gb549,2,none⟩=some (.bool true):=(blk_cell BK549.out 2).trans rfl;have hcz33_3:wc.cell? ⟨gb549,3,none⟩=some (.slice A0_3 l0_3.length c0_3):=(blk_cell BK549.out 3).trans rfl;have hcz33_4:wc.cell? ⟨gb549,4,none⟩=some (.slice A0_4 l0_4.length c0_4):=(blk_cell BK549.out 4).trans rfl;have hcz33_5:wc.cell? ⟨gb549,5,none⟩=some (.int .i64 a0_5):=(blk_cell BK549.out 5).trans rfl;have hcz33_6:wc.cell? ⟨gb549,6,none⟩=some (.int .i64 a0_6):=(blk_cell BK549.out 6).trans rfl;have hcz33_7:wc.cell? ⟨gb549,7,none⟩=some (.slice A0_7 l0_7.length c0_7):=(blk_cell BK549.out 7).trans rfl;have hfz33_0:=blk_frozen BK549.out 0;have hfz33_1:=blk_frozen BK549.out 1;have hfz33_2:=blk_frozen BK549.out 2;have hfz33_3:=blk_frozen BK549.out 3;have hfz33_4:=blk_frozen BK549.out 4;have hfz33_5:=blk_frozen BK549.out 5;have hfz33_6:=blk_frozen BK549.out 6;have hfz33_7:=blk_frozen BK549.out 7;obtain ⟨_,_,_,_,_,_⟩:=cf3 BK553;go_wp2_with (first|(go_at_call 51;(with_reducible refine (impl_rulesOk.calls kj15 _ _ l0_4 t555 _ ?side1 ?side2 A30.out).mono ?_);(case side1=>exact (zz21 HR0_4 HB));(case side2=>exact HC0_4.out);rintro e w35 ⟨rfl,hb⟩;replace BK549:=A_ (bB (zz2 BK549) hb);replace BK553:=A_ (bB (zz2 BK553) hb);replace HB:=A_ (bS (zz3 HB GE549 GE553) hb);(try clear hb))|((with_reducible refine atG ?_ ?_ fun K_ hK_=>?_);rfl;exact undecG)|((with_reducible refine atI ?_ fun K_ hK_=>?_);exact undecI))
         refine unG hK_ ?_;clear hK_ K_;obtain ⟨H⟩:=HF31;replace H:=iteB H;rcases H with ⟨rfl,H⟩|⟨rfl,H⟩
         ·(first|refine iteT ?_|refine iteF ?_|skip)
          replace H:=bindA H;obtain ⟨t556,A37,H⟩:=H;obtain rfl:=sI H;have hnb38:=NB553_549.out;have hnc38:=NB549_553.out;obtain ⟨_,_,_,_,_,_⟩:=cf3 BK553;(try ((with_reducible refine upS ?_);go_simp))
          go_wp2_with (first|(go_at_call 26;(with_reducible refine (impl_between.calls 0 a0_5 20 t556 _ A37.out).mono ?_);rintro e w' ⟨rfl,⟨nd,rfl⟩⟩))
          go_ret
          exact ⟨zz5,(zz3 HB GE549 GE553)⟩
         ·(first|refine iteT ?_|refine iteF ?_|skip)
          obtain rfl:=sI H;(try ((with_reducible refine upS ?_);go_simp))
          go_wp2
          go_ret
          exact ⟨zz5,(zz3 HB GE549 GE553)⟩
        ·have c29b0:=dF c29
         have c29b1:decide (l0_4.length≤40)=false:=dF (by omega);clear c29;obtain rfl:=sI H;have hnb40:=NB549_553.out;have hnc40:=NB553_549.out;have hcz41_0:wc.cell? ⟨gb549,0,none⟩=some (.string a0_0):=(blk_cell BK549.out 0).trans rfl;have hcz41_1:wc.cell? ⟨gb549,1,none⟩=some (.int .i64 a0_1):=(blk_cell BK549.out 1).trans rfl;have hcz41_2:wc.cell? ⟨gb549,2,none⟩=some (.bool true):=(blk_cell BK549.out 2).trans rfl;have hcz41_3:wc.cell? ⟨gb549,3,none⟩=some (.slice A0_3 l0_3.length c0_3):=(blk_cell BK549.out 3).trans rfl;have hcz41_4:wc.cell? ⟨gb549,4,none⟩=some (.slice A0_4 l0_4.length c0_4):=(blk_cell BK549.out 4).trans rfl;have hcz41_5:wc.cell? ⟨gb549,5,none⟩=some (.int .i64 a0_5):=(blk_cell BK549.out 5).trans rfl;have hcz41_6:wc.cell? ⟨gb549,6,none⟩=some (.int .i64 a0_6):=(blk_cell BK549.out 6).trans rfl;have hcz41_7:wc.cell? ⟨gb549,7,none⟩=some (.slice A0_7 l0_7.length c0_7):=(blk_cell BK549.out 7).trans rfl;have hfz41_0:=blk_frozen BK549.out 0;have hfz41_1:=blk_frozen BK549.out 1;have hfz41_2:=blk_frozen BK549.out 2;have hfz41_3:=blk_frozen BK549.out 3;have hfz41_4:=blk_frozen BK549.out 4;have hfz41_5:=blk_frozen BK549.out 5;have hfz41_6:=blk_frozen BK549.out 6;have hfz41_7:=blk_frozen BK549.out 7;obtain ⟨_,_,_,_,_,_⟩:=cf3 BK553;go_wp2
         go_ret
         exact ⟨zz5,(zz3 HB GE549 GE553)⟩
       ·replace H:=iteE H
        rcases H with ⟨c43,H⟩|⟨c43,H⟩
        ·obtain ⟨c43b0,c43b1⟩:=eqT c43
         clear c43;obtain rfl:=sI H;have hnb44:=NB549_553.out;have hnc44:=NB553_549.out;have hcz45_0:wc.cell? ⟨gb549,0,none⟩=some (.string a0_0):=(blk_cell BK549.out 0).trans rfl;have hcz45_1:wc.cell? ⟨gb549,1,none⟩=some (.int .i64 a0_1):=(blk_cell BK549.out 1).trans rfl;have hcz45_2:wc.cell? ⟨gb549,2,none⟩=some (.bool false):=(blk_cell BK549.out 2).trans rfl;have hcz45_3:wc.cell? ⟨gb549,3,none⟩=some (.slice A0_3 l0_3.length c0_3):=(blk_cell BK549.out 3).trans rfl;have hcz45_4:wc.cell? ⟨gb549,4,none⟩=some (.slice A0_4 l0_4.length c0_4):=(blk_cell BK549.out 4).trans rfl;have hcz45_5:wc.cell? ⟨gb549,5,none⟩=some (.int .i64 a0_5):=(blk_cell BK549.out 5).trans rfl;have hcz45_6:wc.cell? ⟨gb549,6,none⟩=some (.int .i64 a0_6):=(blk_cell BK549.out 6).trans rfl;have hcz45_7:wc.cell? ⟨gb549,7,none⟩=some (.slice A0_7 l0_7.length c0_7):=(blk_cell BK549.out 7).trans rfl;have hfz45_0:=blk_frozen BK549.out 0;have hfz45_1:=blk_frozen BK549.out 1;have hfz45_2:=blk_frozen BK549.out 2;have hfz45_3:=blk_frozen BK549.out 3;have hfz45_4:=blk_frozen BK549.out 4;have hfz45_5:=blk_frozen BK549.out 5;have hfz45_6:=blk_frozen BK549.out 6;have hfz45_7:=blk_frozen BK549.out 7;obtain ⟨_,_,_,_,_,_⟩:=cf3 BK553;go_wp2
         go_ret
         exact ⟨zz5,(zz3 HB GE549 GE553)⟩
        ·obtain ⟨c43b0,c43b1⟩:=eqF c43
         have c43b2:¬ (l0_4=[]):=fun h_=>c43 (by rw [h_];rfl)
         obtain rfl:=sI H;have hnb47:=NB549_553.out;have hnc47:=NB553_549.out;have hcz48_0:wc.cell? ⟨gb549,0,none⟩=some (.string a0_0):=(blk_cell BK549.out 0).trans rfl;have hcz48_1:wc.cell? ⟨gb549,1,none⟩=some (.int .i64 a0_1):=(blk_cell BK549.out 1).trans rfl;have hcz48_2:wc.cell? ⟨gb549,2,none⟩=some (.bool false):=(blk_cell BK549.out 2).trans rfl;have hcz48_3:wc.cell? ⟨gb549,3,none⟩=some (.slice A0_3 l0_3.length c0_3):=(blk_cell BK549.out 3).trans rfl;have hcz48_4:wc.cell? ⟨gb549,4,none⟩=some (.slice A0_4 l0_4.length c0_4):=(blk_cell BK549.out 4).trans rfl;have hcz48_5:wc.cell? ⟨gb549,5,none⟩=some (.int .i64 a0_5):=(blk_cell BK549.out 5).trans rfl;have hcz48_6:wc.cell? ⟨gb549,6,none⟩=some (.int .i64 a0_6):=(blk_cell BK549.out 6).trans rfl;have hcz48_7:wc.cell? ⟨gb549,7,none⟩=some (.slice A0_7 l0_7.length c0_7):=(blk_cell BK549.out 7).trans rfl;have hfz48_0:=blk_frozen BK549.out 0;have hfz48_1:=blk_frozen BK549.out 1;have hfz48_2:=blk_frozen BK549.out 2;have hfz48_3:=blk_frozen BK549.out 3;have hfz48_4:=blk_frozen BK549.out 4;have hfz48_5:=blk_frozen BK549.out 5;have hfz48_6:=blk_frozen BK549.out 6;have hfz48_7:=blk_frozen BK549.out 7;obtain ⟨_,_,_,_,_,_⟩:=cf3 BK553;go_wp2
         go_ret
         exact ⟨zz5,(zz3 HB GE549 GE553)⟩
end Go.Proofs.YteepbodnaameiaaGreatDoor.P
end
section
namespace Go.Proofs.YteepbodnaameiaaGreatDoor.P
open Go.RowKit Go.Proofs.YteepbodnaameiaaGreatDoorW.PrintWords Go.Proofs.YteepbodnaameiaaGreatDoorW.PrintLast Go.Proofs.YteepbodnaameiaaGreatDoorW.PrintMore
set_option linter.unusedVariables false
section
variable {P:Program} {ops:Array Oper} {Q:Exit→Act→World→Prop}
end
theorem size_set (w:World) (p:Addr) (u:Value):(w.setCell p u).heap.size=w.heap.size:=by simp
end Go.Proofs.YteepbodnaameiaaGreatDoor.P
end
section
namespace Go.Proofs.YteepbodnaameiaaGreatDoor.P
open Go.RowKit Go.Proofs.YteepbodnaameiaaGreatDoorW.PrintWords Go.Proofs.YteepbodnaameiaaGreatDoorW.PrintLast Go.Proofs.YteepbodnaameiaaGreatDoorW.PrintMore
set_option linter.unusedVariables false
def strings_explode.f (a0:ByteArray) (a1:Int):Option (List ByteArray):=none
theorem strings_explode.calls (a0:ByteArray) (a1:Int) (r:List ByteArray) (w:World) (h:strings_explode.f a0 a1=some r) :
  Calls Tryz.prog 137 #[.string a0,.int .i64 a1] w fun e w'=>∃ v0_:Value,e=.returned (v0_)∧Kd.R Kd.string 9 w' w.heap.size (fun _=>True) v0_ r∧Below w.heap.size w w':=by
 cases h
end Go.Proofs.YteepbodnaameiaaGreatDoor.P
end
section
namespace Go.Proofs.YteepbodnaameiaaGreatDoor.P
open Go.RowKit Go.Proofs.YteepbodnaameiaaGreatDoorW.PrintWords Go.Proofs.YteepbodnaameiaaGreatDoorW.PrintLast Go.Proofs.YteepbodnaameiaaGreatDoorW.PrintMore Go.Proofs.YteepbodnaameiaaGreatDoor.B Go.Proofs.YteepbodnaameiaaGreatDoor.Ad
set_option linter.unusedVariables false
set_option linter.unusedSimpArgs false
def SmRow (b:Nat) (s:ByteArray) (i:Nat) (w:World):Prop:=
 b < w.heap.size∧∀ j,j < s.size→w.cell? ⟨b,j,none⟩=some (.int .u8 ((if j < i then sm ((L s).getD j 0) else (L s).getD j 0).toNat:Nat))∧w.frozen? ⟨b,j,none⟩=false
theorem sm_start (w:World) (e:TypeId) (s:ByteArray):SmRow w.heap.size s 0 (Lib.bytesWorld w e s):=by
 refine ⟨by rw [Lib.bytesWorld_size];omega,fun j hj=>⟨?_,?_⟩⟩
 ·rw [Lib.bytesWorld_cell w e s j hj];simp [L]
 ·have hk:s.size≤(Lib.bytesCells w e s).size:=by rw [Lib.bytesCells];simp
  simp only [World.frozen?,Lib.bytesWorld_at_new]
  simp
  omega
theorem sm_below (w:World) (e:TypeId) (s:ByteArray):Below w.heap.size w (Lib.bytesWorld w e s):=by
 refine ⟨rfl,rfl,rfl,by rw [Lib.bytesWorld_size];omega,fun j hj=>Lib.bytesWorld_at_old w e s j hj⟩
theorem sm_set {b:Nat} {s:ByteArray} {i:Nat} {w:World} (h:SmRow b s i w) (hi:i < s.size):SmRow b s (i+1) (w.setCell ⟨b,i,none⟩ (.int .u8 ((sm ((L s).getD i 0)).toNat:Nat))):=by
 refine ⟨by rw [size_set];exact h.1,fun j hj=>⟨?_,by rw [World.frozen?_setCell];exact (h.2 j hj).2⟩⟩
 rcases Nat.lt_trichotomy j i with h1|h1|h1
 ·rw [World.cell?_setCell_other _ _ _ _ (by intro e;injection e with _ e;omega),(h.2 j hj).1,if_pos h1,if_pos (by omega)]
 ·subst h1;rw [World.cell?_setCell_same _ _ _ (h.2 j hj).1,if_pos (by omega)]
 ·rw [World.cell?_setCell_other _ _ _ _ (by intro e;injection e with _ e;omega),(h.2 j hj).1,if_neg (by omega),if_neg (by omega)]
theorem sm_skip {b:Nat} {s:ByteArray} {i:Nat} {w:World} (h:SmRow b s i w) (hi:i < s.size) (he:sm ((L s).getD i 0)=(L s).getD i 0):SmRow b s (i+1) w:=by
 refine ⟨h.1,fun j hj=>⟨?_,(h.2 j hj).2⟩⟩
 rw [(h.2 j hj).1]
 rcases Nat.lt_trichotomy j i with h1|h1|h1
 ·rw [if_pos h1,if_pos (by omega)]
 ·subst h1;rw [if_neg (by omega),if_pos (by omega),he]
 ·rw [if_neg (by omega),if_neg (by omega)]
end Go.Proofs.YteepbodnaameiaaGreatDoor.P
end
section
namespace Go.Proofs.YteepbodnaameiaaGreatDoor.P
open Go.RowKit Go.Proofs.YteepbodnaameiaaGreatDoorW.PrintWords Go.Proofs.YteepbodnaameiaaGreatDoorW.PrintLast Go.Proofs.YteepbodnaameiaaGreatDoorW.PrintMore Go.Proofs.YteepbodnaameiaaGreatDoor.B Go.Proofs.YteepbodnaameiaaGreatDoor.Ad
set_option linter.unusedVariables false
set_option linter.unusedSimpArgs false
set_option maxHeartbeats 8000000
set_option maxRecDepth 100000
def stringslite_Index.f (a0:ByteArray) (a1:ByteArray):Option (Int):=match L a1 with
 | [c]=>some (Lib.indexByte (L a0) c)
 | _=>none
theorem one_of_L {a:ByteArray} {c:UInt8} (h:L a=[c]):a=⟨#[c]⟩:=L_inj (by rw [h])
theorem stringslite_Index.calls (a0:ByteArray) (a1:ByteArray) (r:Int) (w:World) (h:stringslite_Index.f a0 a1=some r) :
  Calls Tryz.prog 108 #[.string a0,.string a1] w fun e w'=>e=.returned (.int .i64 r)∧Below w.heap.size w w':=by
 unfold stringslite_Index.f at h
 split at h
 ·rename_i c hc
  obtain rfl:=sI h;obtain rfl:=one_of_L hc;exact (Tryz.stringslite_Index_one a0 c w).mono fun e w' ⟨he,hw⟩=>⟨he,hw ▸ Below.refl _ _⟩
 ·cases h
def strings_Count.f (a0:ByteArray) (a1:ByteArray):Option (Int):=match L a1 with
 | [c]=>some (Lib.countByte (L a0) c)
 | _=>none
theorem strings_Count.calls (a0:ByteArray) (a1:ByteArray) (r:Int) (w:World) (h:strings_Count.f a0 a1=some r) :
  Calls Tryz.prog 138 #[.string a0,.string a1] w fun e w'=>e=.returned (.int .i64 r)∧Below w.heap.size w w':=by
 unfold strings_Count.f at h
 split at h
 ·rename_i c hc
  obtain rfl:=sI h;obtain rfl:=one_of_L hc;exact (Tryz.strings_Count_one a0 c w).mono fun e w' ⟨he,hw⟩=>⟨he,hw ▸ Below.refl _ _⟩
 ·cases h
def sq:ByteArray:=⟨#[47,63]⟩
theorem sq_at:sq.size=2∧(∀ h:0 < sq.size,(sq[0]'h).toNat=47)∧(∀ h:1 < sq.size,(sq[1]'h).toNat=63):=by decide +kernel
theorem valid_same (r:Int):Utf8.valid r=Lib.validRune r:=by
 unfold Utf8.valid Lib.validRune
 rw [Bool.eq_iff_iff];simp only [Bool.or_eq_true,Bool.and_eq_true,decide_eq_true_eq]
 omega
theorem decode_skip (s:ByteArray) (pos:Nat) (h:pos < s.size) (ha:128≤(s[pos]'h).toNat) :
  pos+(Utf8.decode s pos).2≤s.size∧∀ j,pos≤j→j < pos+(Utf8.decode s pos).2→∀ hj:j < s.size,128≤(s[j]'hj).toNat:=by
 have hn:¬ (s[pos]'h).toNat < 128:=by omega
 have one:pos+1≤s.size∧∀ j,pos≤j→j < pos+1→∀ hj:j < s.size,128≤(s[j]'hj).toNat:=by
  refine ⟨h,fun j h1 h2 hj=>?_⟩;obtain rfl:j=pos:=by omega
  exact ha
 have cont:∀ k,(decide (pos+k < s.size) && ((s.get! (pos+k)).toNat / 64 == 2))=true→pos+k < s.size∧∀ hj:pos+k < s.size,128≤(s[pos+k]'hj).toNat:=by
  intro k hk;simp only [Bool.and_eq_true,decide_eq_true_eq,beq_iff_eq] at hk
  refine ⟨hk.1,fun hj=>?_⟩;have e:=get_at s (pos+k) hj;rw [Nat.add_zero] at e;rw [e] at hk;omega
 simp only [Utf8.decode,get_at s pos h,hn,if_false]
 split
 ·rename_i h1
  simp only [Bool.and_eq_true] at h1
  obtain ⟨l1,b1⟩:=cont 1 (by simpa using h1.2);split
  ·refine ⟨(by show pos+2≤_;omega),fun j h2 h3 hj=>?_⟩
   have h3':j < pos+2:=h3;rcases (by omega:j=pos∨j=pos+1) with e|e
   ·subst e;exact ha
   ·subst e;exact b1 hj
  ·exact one
 ·split
  ·rename_i _ h1
   simp only [Bool.and_eq_true] at h1
   obtain ⟨l1,b1⟩:=cont 1 (by simpa using h1.1.2);obtain ⟨l2,b2⟩:=cont 2 (by simpa using h1.2);split
   ·refine ⟨(by show pos+3≤_;omega),fun j h2 h3 hj=>?_⟩
    have h3':j < pos+3:=h3;rcases (by omega:j=pos∨j=pos+1∨j=pos+2) with e|e|e
    ·subst e;exact ha
    ·subst e;exact b1 hj
    ·subst e;exact b2 hj
   ·exact one
  ·split
   ·rename_i _ _ h1
    simp only [Bool.and_eq_true] at h1
    obtain ⟨l1,b1⟩:=cont 1 (by simpa using h1.1.1.2);obtain ⟨l2,b2⟩:=cont 2 (by simpa using h1.1.2);obtain ⟨l3,b3⟩:=cont 3 (by simpa using h1.2);split
    ·refine ⟨(by show pos+4≤_;omega),fun j h2 h3 hj=>?_⟩
     have h3':j < pos+4:=h3;rcases (by omega:j=pos∨j=pos+1∨j=pos+2∨j=pos+3) with e|e|e|e
     ·subst e;exact ha
     ·subst e;exact b1 hj
     ·subst e;exact b2 hj
     ·subst e;exact b3 hj
    ·exact one
   ·exact one
theorem noAny_skip {s:ByteArray} {pos n:Nat} (h:Lib.NoAny (L s) (L sq) pos) (hb:∀ j,pos≤j→j < pos+n→∀ hj:j < s.size,128≤(s[j]'hj).toNat):Lib.NoAny (L s) (L sq) (pos+n):=by
 intro j b hj hx;rcases Nat.lt_or_ge j pos with hlt|hge
 ·exact h j b hlt hx
 ·obtain ⟨hl,he⟩:=List.getElem?_eq_some_iff.1 hx
  have hjs:j < s.size:=by rw [← L_size];exact hl
  have h1:=hb j hge hj hjs;have h2:(s[j]'hjs)=b:=by rw [← he];rfl
  rw [h2] at h1;have:L sq=[47,63]:=rfl;rw [this];simp only [List.contains_cons,List.contains_nil,Bool.or_false,Bool.or_eq_false_iff,beq_eq_false_iff_ne]
  constructor
  ·rintro rfl;exact absurd h1 (by decide)
  ·rintro rfl;exact absurd h1 (by decide)
theorem indexRune_far (r:Int) (w:World) (h0:128≤r) (h1:r≤2147483647) :
  Calls Tryz.prog 110 #[.string sq,.int .i32 r] w fun e w'=>e=.returned (.int .i64 (-1))∧Below w.heap.size w w':=by
 have g0:decide (0≤r)=true:=dT (by omega);have g1:decide (r < 128)=false:=dF (by omega);obtain ⟨hsz,hs0,hs1⟩:=sq_at;by_cases hr:r=65533
 ·subst hr
  have n0:=fun ty=>run_next_ascii (P:=Tryz.prog) w sq 0 ty (by rw [hsz];decide) (by rw [hs0];decide)
  have n1:=fun ty=>run_next_ascii (P:=Tryz.prog) w sq 1 ty (by rw [hsz];decide) (by rw [hs1];decide)
  rw [hs0] at n0;rw [hs1] at n1;have n2:=fun ty=>run_next_end (P:=Tryz.prog) w sq 2 ty (by rw [hsz];decide)
  clear hsz hs0 hs1 h0 h1 g0 g1;go_enter Tryz.func110,Tryz.ntmps110;go_wp2
  go_loopg [5,6] 2 (fun g _ _ wx=>∃ i:Nat,i+g=2∧wx=w.iter sq i)
  case atStart=>exact ⟨0,by omega,rfl⟩
  case round=>
   obtain ⟨i,hig,rfl⟩:=hrel;cases gk with
   | zero=>
    obtain rfl:i=2:=by omega
    go_wp2
    go_ret
    exact ⟨rfl,(Below.refl _ _).alloc (Nat.le_refl _) _⟩
   | succ g=>
    rcases (by omega:i=0∨i=1) with e|e
    ·subst e
     go_wp2
     go_roundg g
     case measure=>omega
     case rel=>exact ⟨1,by omega,rfl⟩
    ·subst e
     go_wp2
     go_roundg g
     case measure=>omega
     case rel=>exact ⟨2,by omega,rfl⟩
 ·have g2:(r == 65533)=false:=by simp [hr]
  cases hv:Lib.validRune r with
  | false=>
   go_enter Tryz.func110,Tryz.ntmps110;go_wp2_with (go_at_call 128;refine (Tryz.utf8_ValidRune _ _).mono ?_;rintro e w' ⟨rfl,hw⟩;rw [hw,hv])
   go_ret
   exact ⟨rfl,Below.refl _ _⟩
  | true=>
   obtain ⟨e1,e2,e3⟩:=encode_facts r (by rw [valid_same];exact hv) h0;go_enter Tryz.func110,Tryz.ntmps110;go_wp2_with (go_at_call 128;refine (Tryz.utf8_ValidRune _ _).mono ?_;rintro e w' ⟨rfl,hw⟩;rw [hw,hv])
   go_step3
   go_wp2
   generalize Utf8.encode r=nd at e1 e2 e3 ⊢;refine wp_loop_rounds 1 ?_;rw [rounds_succ];by_cases hn:nd.size=2
   ·obtain ⟨x,hx⟩:∃ x:UInt8,∀ h:1 < nd.size,nd[1]'h=x:=⟨nd[1]'(by omega),fun _=>rfl⟩
    have hx1:128≤x.toNat:=by
     have:=e3 (by omega);simp only [hn] at this
     rw [← hx (by omega)];exact this
    clear e3;have hne:((63:Int) != (x.toNat:Int))=true:=by simp;omega
    have hnz:((nd.size:Nat):Int) - 1=1:=by omega
    rw [hnz];have HN:=A_ hn;have hlt:(1:Int) < (nd.size:Int):=by omega
    clear hn hnz e1 e2;have hs1':=hs1 (by rw [hsz];decide);have hi1:(1:Int) < (sq.size:Int):=by rw [hsz];decide
    have hs2:(2:Int)≤(sq.size:Int):=by rw [hsz];decide
    go_wp2
    go_step3
    go_wp2
    go_quiet (fail)
    have HB:Aside0 (Below w.heap.size w (w.drewN nq)):=⟨pw_below_drewN (Below.refl _ _) nq⟩;generalize w.drewN nq=w1 at HB ⊢;have hib:Lib.indexByte (sq.extract 2 2).data.toList ((x.toNat:Int)).toNat.toUInt8=-1:=rfl;go_wp2
    go_quiet ((go_at_call 127;exact Calls.quiet_of_same (Tryz.strings_IndexByte _ _ _)))
    go_wp2
    rw [Exit.noGoto_ret];go_wp2
    rw [Exit.noGoto_ret];go_ret
    exact ⟨rfl,pw_below_drewN HB.out _⟩
   ·have hge:decide ((nd.size:Int) - 1 < 2)=false:=dF (by omega)
    go_wp2
    rw [Exit.noGoto_ret];go_ret
    exact ⟨rfl,Below.refl _ _⟩
def strings_IndexAny.f (a0 a1:ByteArray):Option Int:=if L a1=[47,63]∧a0.size < 4294967281 then some (Lib.indexAny (L a0) (L a1)) else none
def iterTo (w:World) (b:Nat) (s:ByteArray) (p:Nat):World:={ w with heap:=w.heap.setIfInBounds b (.stringIter s p) }
theorem iterTo_at {w:World} {b:Nat} {s:ByteArray} {p q:Nat} (h:w.heap[b]?=some (.stringIter s q)):(iterTo w b s p).heap[b]?=some (.stringIter s p):=by
 obtain ⟨hl,_⟩:=Array.getElem?_eq_some_iff.1 h;simp [iterTo,hl]
theorem iterTo_below {w0 w:World} {b:Nat} {s:ByteArray} {p:Nat} (h:Below w0.heap.size w0 w) (hb:w0.heap.size≤b):Below w0.heap.size w0 (iterTo w b s p):=
 ⟨h.os,h.tape,h.output,(by simp [iterTo];exact h.size),fun i hi=>by
  rw [← h.block i hi];simp only [iterTo]
  exact Array.getElem?_setIfInBounds_ne (by omega)⟩
theorem run_next_in {P:Program} (w:World) (b:Nat) (s:ByteArray) (pos:Nat) (hb:w.heap[b]?=some (.stringIter s pos)) (h:pos < s.size) (ty:TypeId) :
  (Instr.next (.pointer (some ⟨b,0,none⟩)) true ty).run P w=.ok (.tuple #[.bool true,.int .i64 pos,.int .i32 (Utf8.decode s pos).1]) (iterTo w b s (pos+(Utf8.decode s pos).2)):=by
 simp only [Instr.next,getObj,setObj,Sem.run_bind,Sem.run,hb,Result.andThen,h,if_true,iterTo]
 simp [goInt]
theorem run_next_out {P:Program} (w:World) (b:Nat) (s:ByteArray) (pos:Nat) (hb:w.heap[b]?=some (.stringIter s pos)) (h:¬ pos < s.size) (ty:TypeId) :
  (Instr.next (.pointer (some ⟨b,0,none⟩)) true ty).run P w=.ok (.tuple #[.bool false]) w:=by
 simp [Instr.next,getObj,Sem.run,hb,h]
theorem indexAny_few (s:ByteArray) (w:World) (h8:s.size≤8) :
  Calls Tryz.prog 100 #[.string s,.string sq] w fun e w'=>e=.returned (.int .i64 (Lib.indexAny (L s) (L sq)))∧Below w.heap.size w w':=by
 have hemp:sq.toList.isEmpty=false:=by decide +kernel
 have hn1:((sq.size:Int) == 1)=false:=by decide +kernel
 have h8z:decide ((8:Int) < (s.size:Int))=false:=dF (by omega);go_enter Tryz.func100,Tryz.ntmps100;go_wp2_with (go_at_call 111;refine (Tryz.strings_shouldUseASCIISet _ _).mono ?_;rintro e w' ⟨rfl,hw⟩;rw [hw,h8z])
 go_loopg [9,10] s.size (fun g _ _ wx=>∃ i:Nat,i+g=s.size∧Aside0 (wx.heap[w.heap.size]?=some (.stringIter s i))∧Aside0 (Lib.NoAny (L s) (L sq) i)∧Aside0 (Below w.heap.size w wx))
 case atStart=>exact ⟨0,by omega,⟨World.iter_heap w s 0⟩,⟨Lib.NoAny.zero _ _⟩,⟨(Below.refl _ _).alloc (Nat.le_refl _) _⟩⟩
 case round=>
  obtain ⟨i,hig,hI,HN,HB⟩:=hrel;cases gk with
  | zero=>
   obtain rfl:i=s.size:=by omega
   have hnx:=run_next_out (P:=Tryz.prog) wr w.heap.size s s.size hI.out (by omega);go_wp2
   go_ret
   exact ⟨(by rw [Lib.indexAny_none (by rw [L_size];exact HN.out)];rfl),HB.out⟩
  | succ g=>
   have hi:i < s.size:=by omega
   have hnx:=run_next_in (P:=Tryz.prog) wr w.heap.size s i hI.out hi;obtain ⟨x,hx⟩:∃ x:UInt8,s[i]'hi=x:=⟨_,rfl⟩;have Hx:Aside0 ((L s)[i]?=some x):=⟨(by rw [← hx];exact Lib.data_getElem? s i hi)⟩;by_cases hlt:x.toNat < 128
   ·have hd:=decode_ascii s i hi (by rw [hx];exact hlt)
    rw [hx] at hd;rw [hd] at hnx;clear hd;have HI2:Aside0 ((iterTo wr w.heap.size s (i+1)).heap[w.heap.size]?=some (.stringIter s (i+1))):=⟨iterTo_at hI.out⟩;have HB2:Aside0 (Below w.heap.size w (iterTo wr w.heap.size s (i+1))):=⟨iterTo_below HB.out (Nat.le_refl _)⟩;simp only at hnx
    have hcon:=Lib.contains_iff_indexByte (L sq) x;have hback:((x.toNat:Int)).toNat.toUInt8=x:=by simp
    obtain ⟨q,hq⟩:∃ q,Lib.indexByte sq.data.toList x=q:=⟨_,rfl⟩;have hcon:(L sq).contains x=decide (0≤q):=by rw [← hq];exact hcon
    clear hx HB hI;generalize iterTo wr w.heap.size s (i+1)=w2 at hnx HI2 HB2;cases hin:(L sq).contains x
    ·rw [hin] at hcon
     have hlt0:¬ ((0:Int)≤q):=of_decide_eq_false hcon.symm;clear hcon;have HS:Aside0 (Lib.NoAny (L s) (L sq) (i+1)):=⟨HN.out.succ Hx.out hin⟩;clear hin;go_wp2_with (go_at_call 110;refine (Tryz.strings_IndexRune_ascii _ _ _ (by omega) (by omega)).mono ?_;rintro e w' ⟨rfl,hw⟩;rw [hw,hback,hq])
     go_roundg g
     case measure=>omega
     case rel=>exact ⟨i+1,by omega,HI2,HS,HB2⟩
    ·rw [hin] at hcon
     have hge:(0:Int)≤q:=of_decide_eq_true hcon.symm;clear hcon;have HE:Aside0 (Lib.indexAny (L s) (L sq)=i):=⟨Lib.indexAny_hit HN.out Hx.out hin⟩;clear hin;go_wp2_with (go_at_call 110;refine (Tryz.strings_IndexRune_ascii _ _ _ (by omega) (by omega)).mono ?_;rintro e w' ⟨rfl,hw⟩;rw [hw,hback,hq])
     go_ret
     exact ⟨(by rw [HE.out];rfl),HB2.out⟩
   ·obtain ⟨hd1,hd2⟩:=decode_high s i hi (by rw [hx];omega)
    have hd3:=decode_le s i;obtain ⟨hk1,hk2⟩:=decode_skip s i hi (by rw [hx];omega);generalize (Utf8.decode s i).2=n at hnx hd2 hk1 hk2;generalize (Utf8.decode s i).1=c at hnx hd1 hd3;have HI2:Aside0 ((iterTo wr w.heap.size s (i+n)).heap[w.heap.size]?=some (.stringIter s (i+n))):=⟨iterTo_at hI.out⟩;have HB2:Aside0 (Below w.heap.size w (iterTo wr w.heap.size s (i+n))):=⟨iterTo_below HB.out (Nat.le_refl _)⟩;have HS:Aside0 (Lib.NoAny (L s) (L sq) (i+n)):=⟨noAny_skip HN.out hk2⟩;have hlo:(128:Int)≤(c:Int):=by omega
    have hhi:(c:Int)≤2147483647:=by omega
    have HK:=A_ hk1;have HD:=A_ hd2;clear hx HB hI HN Hx hk1 hk2 hd1 hd2 hd3 hlt;generalize iterTo wr w.heap.size s (i+n)=w2 at hnx HI2 HB2;go_wp2_with (go_at_call 110;refine (indexRune_far _ _ hlo hhi).mono ?_;rintro e w' ⟨rfl,hb⟩)
    have HC:=A_ hb;clear hb;go_roundg (g+1 - n)
    case measure=>have:=HK.out;have:=HD.out;omega
    case rel=>exact ⟨i+n,(zz17 HK),⟨(HC.out.block _ (by obtain ⟨hl,_⟩:=Array.getElem?_eq_some_iff.1 HI2.out;exact hl)).trans HI2.out⟩,HS,⟨HB2.out.trans (HC.out.mono HB2.out.size)⟩⟩
theorem strings_IndexAny.calls (a0 a1:ByteArray) (r:Int) (w:World) (h:strings_IndexAny.f a0 a1=some r) :
  Calls Tryz.prog 100 #[.string a0,.string a1] w fun e w'=>e=.returned (.int .i64 r)∧Below w.heap.size w w':=by
 unfold strings_IndexAny.f at h
 split at h
 ·rename_i hh
  obtain rfl:=sI h;obtain rfl:a1=sq:=L_inj (by rw [hh.1];rfl);rcases Nat.lt_or_ge 8 a0.size with h8|h8
  ·refine (Tryz.strings_IndexAny_long (fun w=>by kernel_rfl) a0 sq w (by decide +kernel) h8 hh.2 (by decide +kernel) (fun j b hb=>?_)).mono fun e w' ⟨he,hw⟩=>⟨he,hw ▸ ((Below.refl _ _).alloc (Nat.le_refl _) _).alloc (by simp) _⟩
   have hb':([47,63]:List UInt8)[j]?=some b:=hb;match j,hb' with
   | 0,hb'=>injection hb' with hb';subst hb';decide
   | 1,hb'=>injection hb' with hb';subst hb';decide
  ·exact indexAny_few a0 w h8
 ·cases h
end Go.Proofs.YteepbodnaameiaaGreatDoor.P
end
section
namespace Go.Proofs.YteepbodnaameiaaGreatDoor.P
open Go.RowKit Go.Proofs.YteepbodnaameiaaGreatDoorW.PrintWords Go.Proofs.YteepbodnaameiaaGreatDoorW.PrintLast Go.Proofs.YteepbodnaameiaaGreatDoorW.PrintMore
set_option linter.unusedVariables false
set_option linter.unusedSimpArgs false
section
variable {P:Program} {ops:Array Oper} {o:Oper} {a:Act} {Q:Exit→Act→World→Prop} {md:Region.Mode} {S:World→Prop} {ds:List Nat} {W:World}
theorem rgP (i:Nat) (N:Option Tmp) {v:Value} {fuel:Nat} {l:Array Bool} (l':Array Bool) {a':Act}
  (h:wpAnyLast P md ops Q S ds fuel l' a' W) (hi:ops[i]?=some o:=by rfl) (hN:o.dst=N:=by rfl) (hc:anyB md ops l l' i=true:=by kernel_rfl)
  (hQ:∀ c a w,Q (.panic c) (a.put o.dst v) w→Q (.panic c) a w:=by exact fun _ _ _ h=>h)
  (hy:Yields P ops o v a:=by exact Or.inl ⟨by rfl,by intro w';go_simp;with_reducible rfl⟩)
  (ha:a.put N v=a':=by (simp only [Act.put,List.setIfInBounds_toArray,List.set_cons_zero,List.set_cons_succ,i64_w,i32_w];rfl)):wpAnyLast P md ops Q S ds (fuel+1) l a W:=pure_ l' hi hN hc hQ hy ha h
theorem rgT4 (i:Nat) (N:Option Tmp) {v:Value} {fuel:Nat} {l:Array Bool} (l':Array Bool) (hS:S W) {a':Act}
  (h:wpAnyLast P md ops Q S ds fuel l' a' W) (hi:ops[i]?=some o:=by rfl) (hN:o.dst=N:=by rfl) (hc:takeB md ops ds l l' i=true:=by kernel_rfl)
  (hQ:∀ c a w,Q (.panic c) (a.put o.dst v) w→Q (.panic c) a w:=by exact fun _ _ _ h=>h)
  (hy:YieldsIf P ops S o v a:=by exact Or.inl ⟨by rfl,by rintro w' ⟨s0,s1,s2,s3⟩;go_simp;with_reducible rfl⟩)
  (ha:a.put N v=a':=by (simp only [Act.put,List.setIfInBounds_toArray,List.set_cons_zero,List.set_cons_succ,i64_w,i32_w];rfl)):wpAnyLast P md ops Q S ds (fuel+1) l a W:=take_ l' hi hN hc hQ hy hS ha h
end
end Go.Proofs.YteepbodnaameiaaGreatDoor.P
end
section
namespace Go.Proofs.YteepbodnaameiaaGreatDoor.P
open Go.RowKit Go.Proofs.YteepbodnaameiaaGreatDoorW.PrintWords Go.Proofs.YteepbodnaameiaaGreatDoorW.PrintLast Go.Proofs.YteepbodnaameiaaGreatDoorW.PrintMore
set_option linter.unusedVariables false
set_option linter.unusedSimpArgs false
theorem row_at {w:World} {A:Option Addr} {xs:List ByteArray} (h:Kd.C Kd.string w A xs.length xs) (hn:0 < xs.length) :
  ∃ bk o,A=some ⟨bk,o,none⟩∧bk < w.heap.size∧∀ (j:Nat) x,xs[j]?=some x→w.cell? ⟨bk,o+j,none⟩=some (.string x):=by
 obtain ⟨_,_,h3⟩:=h
 obtain ⟨ad,rfl,hc⟩:=h3 hn
 have cells:∀ (j:Nat) x,xs[j]?=some x→w.cell? (ad.add j)=some (.string x):=by
  intro j x hx
  obtain ⟨c,hl,hk,hcell⟩:=hc j x hx
  have hk':c=[Value.string x]:=hk
  subst hk'
  have:=hcell 0 (.string x) rfl
  rw [show j * Kd.string.sz+0=j from by show j * 1+0=j;omega] at this
  exact this
 have h0:=cells 0 xs[0] (List.getElem?_eq_getElem hn)
 obtain ⟨bk,o,sp⟩:=ad
 have h0':w.cell? ⟨bk,o,sp⟩=some (.string xs[0]):=h0
 have hsp:sp=none:=by
  cases sp with
  | none=>rfl
  | some y=>
   unfold World.cell? at h0'
   simp at h0'
   split at h0' <;> simp at h0'
 subst hsp
 refine ⟨bk,o,rfl,?_,fun j x hx=>?_⟩
 ·rcases Nat.lt_or_ge bk w.heap.size with h|h
  ·exact h
  ·unfold World.cell? at h0'
   simp [Array.getElem?_eq_none h] at h0'
 ·have:=cells j x hx
  unfold Addr.add at this
  split at this
  ·rename_i hj;subst hj;exact this
  ·exact this
end Go.Proofs.YteepbodnaameiaaGreatDoor.P
end
section
namespace Go.Proofs.YteepbodnaameiaaGreatDoor.P
open Go.RowKit Go.Proofs.YteepbodnaameiaaGreatDoorW.PrintWords Go.Proofs.YteepbodnaameiaaGreatDoorW.PrintLast Go.Proofs.YteepbodnaameiaaGreatDoorW.PrintMore
set_option linter.unusedVariables false
set_option linter.unusedSimpArgs false
set_option maxHeartbeats 8000000
set_option maxRecDepth 100000
def hexS:ByteArray:=⟨#[48,49,50,51,52,53,54,55,56,57,65,66,67,68,69,70]⟩
def figAt (k:Nat):Nat:=if k < 10 then 48+k else 55+k
def figI (b:Int):Int×Bool:=if 48≤b∧b≤57 then (b - 48,true) else if 65≤b∧b≤70 then (b - 55,true) else (0,false)
def impl_figureValue.f (a0:Int):Option (Int×Bool):=if 0≤a0∧a0 < 256 then some (figI (if 97≤a0∧a0≤102 then a0 - 32 else a0)) else none
theorem hex_at:∀ k:Nat,k < 16→hexS.size=16∧∃ h:k < hexS.size,(hexS[k]'h).toNat=figAt k:=by decide +kernel
theorem fig_hit {k:Nat} {b:Int} (hk:k < 16) (h:(figAt k:Int)=b):figI b=((k:Int),true):=by
 unfold figAt at h;unfold figI
 split at h
 ·rw [if_pos (by omega)];congr 1;omega
 ·rw [if_neg (by omega),if_pos (by omega)];congr 1;omega
theorem fig_miss {b:Int} (h:∀ j:Nat,j < 16→(figAt j:Int)≠b):figI b=(0,false):=by
 unfold figI
 split
 ·rename_i hh
  exact absurd (by unfold figAt;rw [if_pos (by omega)];omega) (h (b - 48).toNat (by omega))
 ·split
  ·rename_i hh
   exact absurd (by unfold figAt;rw [if_neg (by omega)];omega) (h (b - 55).toNat (by omega))
  ·rfl
theorem impl_figureValue.calls (a0:Int) (r0:Int) (r1:Bool) (w:World) (h:impl_figureValue.f a0=some (r0,r1)) :
  Calls Tryz.prog 136 #[.int .u8 a0] w fun e w'=>e=.returned (.tuple #[.int .i64 r0,.bool r1])∧Below w.heap.size w w':=by
 unfold impl_figureValue.f at h
 split at h
 case isFalse=>cases h
 rename_i hh
 have h:=sI h;obtain ⟨b,hb⟩:∃ b,b=(if 97≤a0∧a0≤102 then a0 - 32 else a0):=⟨_,rfl⟩;rw [← hb] at h;by_cases h1:97≤a0
 ·by_cases h2:a0≤102
  ·rw [if_pos ⟨h1,h2⟩] at hb
   go_enter Tryz.func136,Tryz.ntmps136;go_wp2
   go_loopw [4] (fun n w'=>∃ k:Nat,k≤16∧w'=w.iter hexS k∧∀ j:Nat,j < k→(figAt j:Int)≠(a0 - 32)) (fun _ w'=>16 - w'.iterPos w.heap.size)
   case atStart=>exact ⟨0,by omega,rfl,fun j hj=>absurd hj (by omega)⟩
   case round=>
    obtain ⟨k,hk,rfl,hne⟩:=hrel;have hbel:∀ p,Below w.heap.size w (w.iter hexS p):=fun p=>(Below.refl _ _).alloc (Nat.le_refl _) _
    by_cases hlt:k < 16
    ·obtain ⟨hsz,hx,hf⟩:=hex_at k hlt
     have hnx:∀ ty,(Instr.next (.pointer (some ⟨w.heap.size,0,none⟩)) true ty).run Tryz.prog (w.iter hexS k)=.ok (.tuple #[.bool true,.int .i64 k,.int .i32 (figAt k:Nat)]) (w.iter hexS (k+1)):=fun ty=>by
      have hfl:figAt k < 128:=by unfold figAt;split <;> omega
      rw [← hf];exact run_next_ascii w hexS k ty hx (by rw [hf];exact hfl)
     by_cases he:(figAt k:Int)=(a0 - 32)
     ·have hr:=fig_hit hlt he
      rw [← hb,h,Prod.mk.injEq] at hr;obtain ⟨rfl,rfl⟩:=hr;go_wp2
      go_ret2
      exact ⟨rfl,hbel _⟩
     ·go_wp2
      refine ⟨⟨k+1,by omega,rfl,fun j hj=>?_⟩,by simp;omega⟩;by_cases e:j=k
      ·subst e;exact he
      ·exact hne j (by omega)
    ·obtain rfl:k=16:=by omega
     have hr:=fig_miss hne;rw [← hb,h,Prod.mk.injEq] at hr;obtain ⟨rfl,rfl⟩:=hr;have hnx:∀ ty,(Instr.next (.pointer (some ⟨w.heap.size,0,none⟩)) true ty).run Tryz.prog (w.iter hexS 16)=_:=fun ty=>run_next_end w hexS 16 ty (by decide)
     go_wp2
     go_ret2
     exact ⟨rfl,hbel _⟩
  ·rw [if_neg (fun e=>h2 e.2)] at hb
   go_enter Tryz.func136,Tryz.ntmps136;go_wp2
   go_loopw [4] (fun n w'=>∃ k:Nat,k≤16∧w'=w.iter hexS k∧∀ j:Nat,j < k→(figAt j:Int)≠a0) (fun _ w'=>16 - w'.iterPos w.heap.size)
   case atStart=>exact ⟨0,by omega,rfl,fun j hj=>absurd hj (by omega)⟩
   case round=>
    obtain ⟨k,hk,rfl,hne⟩:=hrel;have hbel:∀ p,Below w.heap.size w (w.iter hexS p):=fun p=>(Below.refl _ _).alloc (Nat.le_refl _) _
    by_cases hlt:k < 16
    ·obtain ⟨hsz,hx,hf⟩:=hex_at k hlt
     have hnx:∀ ty,(Instr.next (.pointer (some ⟨w.heap.size,0,none⟩)) true ty).run Tryz.prog (w.iter hexS k)=.ok (.tuple #[.bool true,.int .i64 k,.int .i32 (figAt k:Nat)]) (w.iter hexS (k+1)):=fun ty=>by
      have hfl:figAt k < 128:=by unfold figAt;split <;> omega
      rw [← hf];exact run_next_ascii w hexS k ty hx (by rw [hf];exact hfl)
     by_cases he:(figAt k:Int)=a0
     ·have hr:=fig_hit hlt he
      rw [← hb,h,Prod.mk.injEq] at hr;obtain ⟨rfl,rfl⟩:=hr;go_wp2
      go_ret2
      exact ⟨rfl,hbel _⟩
     ·go_wp2
      refine ⟨⟨k+1,by omega,rfl,fun j hj=>?_⟩,by simp;omega⟩;by_cases e:j=k
      ·subst e;exact he
      ·exact hne j (by omega)
    ·obtain rfl:k=16:=by omega
     have hr:=fig_miss hne;rw [← hb,h,Prod.mk.injEq] at hr;obtain ⟨rfl,rfl⟩:=hr;have hnx:∀ ty,(Instr.next (.pointer (some ⟨w.heap.size,0,none⟩)) true ty).run Tryz.prog (w.iter hexS 16)=_:=fun ty=>run_next_end w hexS 16 ty (by decide)
     go_wp2
     go_ret2
     exact ⟨rfl,hbel _⟩
 ·rw [if_neg (fun e=>h1 e.1)] at hb
  go_enter Tryz.func136,Tryz.ntmps136;go_wp2
  go_loopw [4] (fun n w'=>∃ k:Nat,k≤16∧w'=w.iter hexS k∧∀ j:Nat,j < k→(figAt j:Int)≠a0) (fun _ w'=>16 - w'.iterPos w.heap.size)
  case atStart=>exact ⟨0,by omega,rfl,fun j hj=>absurd hj (by omega)⟩
  case round=>
   obtain ⟨k,hk,rfl,hne⟩:=hrel;have hbel:∀ p,Below w.heap.size w (w.iter hexS p):=fun p=>(Below.refl _ _).alloc (Nat.le_refl _) _
   by_cases hlt:k < 16
   ·obtain ⟨hsz,hx,hf⟩:=hex_at k hlt
    have hnx:∀ ty,(Instr.next (.pointer (some ⟨w.heap.size,0,none⟩)) true ty).run Tryz.prog (w.iter hexS k)=.ok (.tuple #[.bool true,.int .i64 k,.int .i32 (figAt k:Nat)]) (w.iter hexS (k+1)):=fun ty=>by
     have hfl:figAt k < 128:=by unfold figAt;split <;> omega
     rw [← hf];exact run_next_ascii w hexS k ty hx (by rw [hf];exact hfl)
    by_cases he:(figAt k:Int)=a0
    ·have hr:=fig_hit hlt he
     rw [← hb,h,Prod.mk.injEq] at hr;obtain ⟨rfl,rfl⟩:=hr;go_wp2
     go_ret2
     exact ⟨rfl,hbel _⟩
    ·go_wp2
     refine ⟨⟨k+1,by omega,rfl,fun j hj=>?_⟩,by simp;omega⟩;by_cases e:j=k
     ·subst e;exact he
     ·exact hne j (by omega)
   ·obtain rfl:k=16:=by omega
    have hr:=fig_miss hne;rw [← hb,h,Prod.mk.injEq] at hr;obtain ⟨rfl,rfl⟩:=hr;have hnx:∀ ty,(Instr.next (.pointer (some ⟨w.heap.size,0,none⟩)) true ty).run Tryz.prog (w.iter hexS 16)=_:=fun ty=>run_next_end w hexS 16 ty (by decide)
    go_wp2
    go_ret2
    exact ⟨rfl,hbel _⟩
end Go.Proofs.YteepbodnaameiaaGreatDoor.P
end
section
namespace Go.Proofs.YteepbodnaameiaaGreatDoor.P
open Go.RowKit Go.Proofs.YteepbodnaameiaaGreatDoorW.PrintWords Go.Proofs.YteepbodnaameiaaGreatDoorW.PrintLast Go.Proofs.YteepbodnaameiaaGreatDoorW.PrintMore
attribute [local go_sem] max2_int min2_int max_two min_two max_three min_three max_four min_four
set_option linter.unusedVariables false
set_option linter.unusedSimpArgs false
set_option maxHeartbeats 8000000
set_option maxRecDepth 100000
def stringslite_Cut.f (a0:ByteArray) (a1:ByteArray):Option (ByteArray×ByteArray×Bool):=(stringslite_Index.f a0 a1).bind fun t386=>(if t386 ≥ 0 then (if 0≤t386 then (if t386≤(a0.size:Int) then (if 0≤(wrap64 (t386+(a1.size:Int))) then (if (wrap64 (t386+(a1.size:Int)))≤(a0.size:Int) then (some (a0.extract 0 (t386:Int).toNat,a0.extract ((wrap64 (t386+(a1.size:Int))):Int).toNat a0.size,true)) else (none)) else (none)) else (none)) else (none)) else (some (a0,(⟨#[]⟩:ByteArray),false)))
theorem stringslite_Cut.calls (a0:ByteArray) (a1:ByteArray) (r1:ByteArray) (r2:ByteArray) (r3:Bool) (w:World) (h:stringslite_Cut.f a0 a1=some (r1,r2,r3)) :
  Calls Tryz.prog 98 #[.string a0,.string a1] w fun e w'=>e=.returned (.tuple #[.string r1,.string r2,.bool r3])∧Below w.heap.size w w':=by
 have HB:=A_ (Below.refl w.heap.size w);unfold stringslite_Cut.f at h
 have H:=h;clear h;replace H:=bindA H;obtain ⟨t386,A3,H⟩:=H;have HF4:=A_ H;clear H;go_enter Tryz.func98,Tryz.ntmps98;go_upto_if 12 with (first|(go_at_call 108;(with_reducible refine (stringslite_Index.calls a0 a1 t386 _ A3.out).mono ?_);rintro e w5 ⟨rfl,hb⟩;replace HB:=A_ (bS (zz0 HB) hb);(try clear hb)))
 repeat (go_quiet (first|(go_at_call 108;(with_reducible refine (stringslite_Index.calls a0 a1 t386 _ A3.out).mono ?_);rintro e w5 ⟨rfl,hb⟩;replace HB:=A_ (bS (zz0 HB) hb);(try clear hb)));go_upto_if 12 with (first|(go_at_call 108;(with_reducible refine (stringslite_Index.calls a0 a1 t386 _ A3.out).mono ?_);rintro e w5 ⟨rfl,hb⟩;replace HB:=A_ (bS (zz0 HB) hb);(try clear hb))))
 obtain ⟨H⟩:=HF4;replace H:=iteEe H;rcases H with ⟨c6b0,H⟩|⟨c6b0,H⟩
 ·(first|rw [c6b0]|(simp only [i64_w,i32_w];rw [c6b0])|skip)
  replace H:=iteN H;obtain ⟨c7,H⟩:=H;have c7b0:=eq_true c7;have c7b1:=dT c7;clear c7;replace H:=iteN H;obtain ⟨c8,H⟩:=H;have c8b0:=eq_true c8;have c8b1:=dT c8;clear c8;obtain ⟨ji9,hji9⟩:∃ j_:Int,(wrap64 (t386+(a1.size:Int)))=j_:=⟨_,rfl⟩;(first|rw [hji9] at H|simp only [hji9] at H)
  have hji9w:(IntKind.i64.wrap (t386+(a1.size:Int)))=ji9:=(i64_w _).trans hji9;replace H:=iteN H;obtain ⟨c10,H⟩:=H;have c10b0:=eq_true c10;have c10b1:=dT c10;clear c10;replace H:=iteN H;obtain ⟨c11,H⟩:=H;have c11b0:=eq_true c11;have c11b1:=dT c11;clear c11;simp only [Option.some.injEq,Prod.mk.injEq] at H
  obtain ⟨rfl,rfl,rfl⟩:=H;go_wp2
  repeat (go_quiet (fail);try go_wp2)
  go_ret3
  exact ⟨(by first|rfl|(simp [errW_none,errW_some] <;> rfl)|(simp only [← hji9];first|rfl|(simp [errW_none,errW_some] <;> rfl))|(simp [*,errW_none,errW_some] <;> rfl)),(zz0 HB)⟩
 ·(first|rw [c6b0]|(simp only [i64_w,i32_w];rw [c6b0])|skip)
  simp only [Option.some.injEq,Prod.mk.injEq] at H
  obtain ⟨rfl,rfl,rfl⟩:=H;go_wp2
  repeat (go_quiet (fail);try go_wp2)
  go_ret3
  exact ⟨zz5,(zz0 HB)⟩
def strings_Cut.f (a0:ByteArray) (a1:ByteArray):Option (ByteArray×ByteArray×Bool):=(stringslite_Cut.f a0 a1).bind fun bt387=>(some (bt387.1,bt387.2.1,bt387.2.2))
theorem strings_Cut.calls (a0:ByteArray) (a1:ByteArray) (r1:ByteArray) (r2:ByteArray) (r3:Bool) (w:World) (h:strings_Cut.f a0 a1=some (r1,r2,r3)) :
  Calls Tryz.prog 86 #[.string a0,.string a1] w fun e w'=>e=.returned (.tuple #[.string r1,.string r2,.bool r3])∧Below w.heap.size w w':=by
 have HB:=A_ (Below.refl w.heap.size w);unfold strings_Cut.f at h
 have H:=h;clear h;replace H:=bindA H;obtain ⟨⟨t387,t388,t389⟩,A3,H⟩:=H;try dsimp only at H
 simp only [Option.some.injEq,Prod.mk.injEq] at H
 obtain ⟨rfl,rfl,rfl⟩:=H;go_enter Tryz.func86,Tryz.ntmps86;go_wp2_with (first|(refine gR 98 (some 9) Tryz.func98 (stringslite_Cut.calls a0 a1 t387 t388 t389 _ A3.out) ?_;rintro w4 hb;replace HB:=A_ (bS (zz0 HB) hb);(try clear hb)))
 go_ret3
 exact ⟨zz5,(zz0 HB)⟩
def impl_signByte.f (a0:ByteArray) (a1:Int):Option (Int×Bool):=if (wrap64 ((a0.size:Int) - a1)) < 3 then (some (0,false)) else (if 0≤(wrap64 (a1+1)) then (if (wrap64 (a1+1)) < (a0.size:Int) then ((impl_figureValue.f (bt a0 (wrap64 (a1+1)))).bind fun bt393=>(if 0≤(wrap64 (a1+2)) then (if (wrap64 (a1+2)) < (a0.size:Int) then ((impl_figureValue.f (bt a0 (wrap64 (a1+2)))).bind fun bt395=>(if bt393.2=true then (if bt395.2=true then (some ((wrap64 ((wrap64 (bt393.1 * 16))+bt395.1)) % 256,true)) else (some (0,false))) else (some (0,false)))) else (none)) else (none))) else (none)) else (none))
theorem impl_signByte.calls (a0:ByteArray) (a1:Int) (r1:Int) (r2:Bool) (w:World) (h:impl_signByte.f a0 a1=some (r1,r2)) :
  Calls Tryz.prog 129 #[.string a0,.int .i64 a1] w fun e w'=>e=.returned (.tuple #[.int .u8 r1,.bool r2])∧Below w.heap.size w w':=by
 have HB:=A_ (Below.refl w.heap.size w);unfold impl_signByte.f at h
 have H:=h;clear h;replace H:=iteEd H;rcases H with ⟨c3b0,H⟩|⟨c3b0,H⟩
 ·simp only [Option.some.injEq,Prod.mk.injEq] at H
  obtain ⟨rfl,rfl⟩:=H;go_enter Tryz.func129,Tryz.ntmps129;go_wp2
  go_ret2
  exact ⟨zz5,(zz0 HB)⟩
 ·obtain ⟨ji4,hji4⟩:∃ j_:Int,(wrap64 (a1+1))=j_:=⟨_,rfl⟩
  (first|rw [hji4] at H|simp only [hji4] at H)
  have hji4w:(IntKind.i64.wrap (a1+1))=ji4:=(i64_w _).trans hji4;replace H:=iteE H;rcases H with ⟨c5,H⟩|⟨c5,H⟩
  ·have c5b0:=dT c5
   clear c5;replace H:=iteNd H;obtain ⟨c6b0,H⟩:=H;replace H:=bindA H;obtain ⟨⟨t393,t394⟩,A8,H⟩:=H;try dsimp only at H
   obtain ⟨ji9,hji9⟩:∃ j_:Int,(wrap64 (a1+2))=j_:=⟨_,rfl⟩;(first|rw [hji9] at H|simp only [hji9] at H)
   (try rw [hji9] at A8)
   have hji9w:(IntKind.i64.wrap (a1+2))=ji9:=(i64_w _).trans hji9;replace H:=iteNd H;obtain ⟨c10b0,H⟩:=H;replace H:=iteNd H;obtain ⟨c11b0,H⟩:=H;replace H:=bindA H;obtain ⟨⟨t395,t396⟩,A13,H⟩:=H;try dsimp only at H
   have HF14:=A_ H;clear H;have p7:0≤((ji4):Int):=ofD;have q7:(ji4) < (a0.size:Int):=ofD;have hx7:=bt_at a0 (ji4);replace p7:=eq_true p7;replace q7:=eq_true q7;go_enter Tryz.func129,Tryz.ntmps129;go_wp2_with (first|((with_reducible refine gC (f:=136) rfl ?_);refine goesL_ (some 20) rfl rfl Tryz.func136 (by kernel_rfl) rfl #[.int .u8 (bt a0 (ji4))] rfl (by (try simp only [List.map_toArray,List.map_cons,List.map_nil]);first|done|(simp only [hji4];rfl)|rfl|(simp only [List.length_drop,List.length_take];rfl)) ?_;(with_reducible refine mR (impl_figureValue.calls (bt a0 (ji4)) t393 t394 _ A8.out) ?_);rintro w15 hb;replace HB:=A_ (bS (zz0 HB) hb);(try clear hb);have p12:0≤((ji9):Int):=ofD;have q12:(ji9) < (a0.size:Int):=ofD;have hx12:=bt_at a0 (ji9);replace p12:=eq_true p12;replace q12:=eq_true q12)|((with_reducible refine gC (f:=136) rfl ?_);refine goesL_ (some 28) rfl rfl Tryz.func136 (by kernel_rfl) rfl #[.int .u8 (bt a0 (ji9))] rfl (by (try simp only [List.map_toArray,List.map_cons,List.map_nil]);first|done|(simp only [hji9];rfl)|rfl|(simp only [List.length_drop,List.length_take];rfl)) ?_;(with_reducible refine mR (impl_figureValue.calls (bt a0 (ji9)) t395 t396 _ A13.out) ?_);rintro w16 hb;replace HB:=A_ (bS (zz0 HB) hb);(try clear hb))|((with_reducible refine atG ?_ ?_ fun K_ hK_=>?_);rfl;exact undecG)|((with_reducible refine atI ?_ fun K_ hK_=>?_);exact undecI))
   refine unG hK_ ?_;clear hK_ K_;obtain ⟨H⟩:=HF14;replace H:=iteB H;rcases H with ⟨rfl,H⟩|⟨rfl,H⟩
   ·(first|refine iteT ?_|refine iteF ?_|skip)
    replace H:=iteB H;rcases H with ⟨rfl,H⟩|⟨rfl,H⟩
    ·simp only [Option.some.injEq,Prod.mk.injEq] at H
     obtain ⟨rfl,rfl⟩:=H;go_wp2
     go_ret2
     exact ⟨zz120,(zz0 HB)⟩
    ·simp only [Option.some.injEq,Prod.mk.injEq] at H
     obtain ⟨rfl,rfl⟩:=H;go_wp2
     go_ret2
     exact ⟨zz120,(zz0 HB)⟩
   ·(first|refine iteT ?_|refine iteF ?_|skip)
    simp only [Option.some.injEq,Prod.mk.injEq] at H
    obtain ⟨rfl,rfl⟩:=H;(try ((with_reducible refine upS ?_);go_simp))
    go_wp2
    go_ret2
    exact ⟨zz120,(zz0 HB)⟩
  ·exact absurd H (by simp)
def strings_Index.f (a0:ByteArray) (a1:ByteArray):Option (Int):=(stringslite_Index.f a0 a1).bind fun t419=>(some t419)
theorem strings_Index.calls (a0:ByteArray) (a1:ByteArray) (r:Int) (w:World) (h:strings_Index.f a0 a1=some r) :
  Calls Tryz.prog 139 #[.string a0,.string a1] w fun e w'=>e=.returned (.int .i64 r)∧Below w.heap.size w w':=by
 have HB:=A_ (Below.refl w.heap.size w);unfold strings_Index.f at h
 have H:=h;clear h;replace H:=bindA H;obtain ⟨t419,A3,H⟩:=H;obtain rfl:=sI H;go_enter Tryz.func139,Tryz.ntmps139;go_wp2_with (first|(refine gR 108 (some 7) Tryz.func108 (stringslite_Index.calls a0 a1 t419 _ A3.out) ?_;rintro w4 hb;replace HB:=A_ (bS (zz0 HB) hb);(try clear hb)))
 go_ret
 exact ⟨zz5,(zz0 HB)⟩
end Go.Proofs.YteepbodnaameiaaGreatDoor.P
end
section
namespace Go.Proofs.YteepbodnaameiaaGreatDoor.P
open Go.RowKit Go.Proofs.YteepbodnaameiaaGreatDoorW.PrintWords Go.Proofs.YteepbodnaameiaaGreatDoorW.PrintLast Go.Proofs.YteepbodnaameiaaGreatDoorW.PrintMore Go.Proofs.YteepbodnaameiaaGreatDoor.B Go.Proofs.YteepbodnaameiaaGreatDoor.Ad
set_option linter.unusedVariables false
set_option linter.unusedSimpArgs false
set_option maxHeartbeats 8000000
set_option maxRecDepth 100000
def spec_l1Small.f (a0:ByteArray):Option (ByteArray):=if a0.size≤140737488351232 then some (smallB a0) else none
theorem spec_l1Small.calls (a0 r:ByteArray) (w:World) (h:spec_l1Small.f a0=some r) :
  Calls Tryz.prog 79 #[.string a0] w fun e w'=>e=.returned (.string r)∧Below w.heap.size w w':=by
 unfold spec_l1Small.f at h
 by_cases hs:a0.size≤140737488351232
 ·rw [if_pos hs] at h
  obtain rfl:=sI h;clear h;have hcv:=Lib.run_convert_string_bytes (P:=Tryz.prog) w 9 126 5 a0 Tryz.underlying9 Tryz.underlying126 Tryz.underlying5;go_enter Tryz.func79,Tryz.ntmps79;go_wp2_with fail
  clear hcv;go_loopw [4] (fun i wr=>∃ k:Nat,k≤a0.size∧i=.int .i64 k∧Aside0 (SmRow w.heap.size a0 k wr)∧Aside0 (Below w.heap.size w wr))
   (fun i _=>a0.size - (intOf i).toNat)
  case atStart=>
   refine ⟨0,Nat.zero_le _,rfl,⟨sm_start w 5 a0⟩,⟨?_⟩⟩;exact sm_below w 5 a0
  case round=>
   obtain ⟨k,hk,rfl,hI,hB⟩:=hrel;by_cases hlt:k < a0.size
   ·have hc:=(hI.out.2 k hlt).1
    have hf:=(hI.out.2 k hlt).2;rw [if_neg (by omega)] at hc;have hset:=A_ (sm_set hI.out hlt);have hskip:=A_ (sm_skip hI.out hlt);clear hI;generalize (L a0).getD k 0=b at hc hset hskip;have hb:=b.toNat_lt;by_cases h1:65≤b.toNat
    ·by_cases h2:b.toNat≤90
     ·have e1:(sm b).toNat=b.toNat+32:=by
       unfold sm
       rw [if_pos ⟨h1,h2⟩,UInt8.toNat_add];have:(32:UInt8).toNat=32:=rfl;omega
      rw [e1,show ((b.toNat+32:Nat):Int)=(b.toNat:Int)+32 from by omega] at hset;clear hskip e1;go_wp2
      exact ⟨⟨k+1,by omega,by go_num,hset,⟨hB.out.setCell (Nat.le_refl _) _⟩⟩,zz121⟩
     ·have e1:sm b=b:=by unfold sm;rw [if_neg (by omega)]
      have hS:Aside0 (SmRow w.heap.size a0 (k+1) wr):=⟨hskip.out e1⟩;clear e1 hset hskip;go_wp2
      exact ⟨⟨k+1,by omega,by go_num,hS,hB⟩,zz121⟩
    ·have e1:sm b=b:=by unfold sm;rw [if_neg (by omega)]
     have hS:Aside0 (SmRow w.heap.size a0 (k+1) wr):=⟨hskip.out e1⟩;clear e1 hset hskip;go_wp2
     exact ⟨⟨k+1,by omega,by go_num,hS,hB⟩,zz121⟩
   ·have ek:k=a0.size:=by omega
    have hcells:∀ j (hj:j < (L (smallB a0)).length),wr.cell? ((⟨w.heap.size,0,none⟩:Addr).add j)=some (.int .u8 ((L (smallB a0))[j].toNat:Int)):=by
     intro j hj;have hj':j < a0.size:=by rw [L_size,smallB,ofL_size,List.length_map,L_size] at hj;exact hj
     rw [add_plain,(hI.out.2 j hj').1,if_pos (by omega)];simp [smallB,L_of,List.getD_eq_getElem?_getD,List.getElem?_eq_getElem (show j < (L a0).length by rw [L_size];exact hj')]
    have hcv:=run_convert_bytes_back (P:=Tryz.prog) wr 126 9 5 ⟨w.heap.size,0,none⟩ (grownCap w a0.size 0 5) (L (smallB a0)) Tryz.underlying126 Tryz.underlying5 Tryz.underlying9 hcells;have hl:(L (smallB a0)).length=a0.size:=by rw [L_size,smallB,ofL_size,List.length_map,L_size]
    rw [hl,show (⟨(L (smallB a0)).toArray⟩:ByteArray)=smallB a0 from of_L _] at hcv;have Hk:=A_ ek;clear ek hcells hl;go_wp2
    go_ret
    exact ⟨rfl,hB.out⟩
 ·rw [if_neg hs] at h;cases h
def impl_smallLetters.f (a0:ByteArray):Option (ByteArray):=if a0.size≤140737488351232 then some (smallB a0) else none
theorem impl_smallLetters.calls (a0 r:ByteArray) (w:World) (h:impl_smallLetters.f a0=some r) :
  Calls Tryz.prog 102 #[.string a0] w fun e w'=>e=.returned (.string r)∧Below w.heap.size w w':=by
 unfold impl_smallLetters.f at h
 by_cases hs:a0.size≤140737488351232
 ·rw [if_pos hs] at h
  obtain rfl:=sI h;clear h;have hcv:=Lib.run_convert_string_bytes (P:=Tryz.prog) w 9 126 5 a0 Tryz.underlying9 Tryz.underlying126 Tryz.underlying5;go_enter Tryz.func102,Tryz.ntmps102;go_wp2_with fail
  clear hcv;go_loopw [10] (fun i wr=>∃ k:Nat,k≤a0.size∧i=.int .i64 k∧Aside0 (SmRow w.heap.size a0 k wr)∧Aside0 (Below w.heap.size w wr))
   (fun i _=>a0.size - (intOf i).toNat)
  case atStart=>
   refine ⟨0,Nat.zero_le _,rfl,⟨sm_start w 5 a0⟩,⟨?_⟩⟩;exact sm_below w 5 a0
  case round=>
   obtain ⟨k,hk,rfl,hI,hB⟩:=hrel;by_cases hlt:k < a0.size
   ·have hc:=(hI.out.2 k hlt).1
    have hf:=(hI.out.2 k hlt).2;rw [if_neg (by omega)] at hc;have hset:=A_ (sm_set hI.out hlt);have hskip:=A_ (sm_skip hI.out hlt);clear hI;generalize (L a0).getD k 0=b at hc hset hskip;have hb:=b.toNat_lt;by_cases h1:65≤b.toNat
    ·by_cases h2:b.toNat≤90
     ·have e1:(sm b).toNat=b.toNat+32:=by
       unfold sm
       rw [if_pos ⟨h1,h2⟩,UInt8.toNat_add];have:(32:UInt8).toNat=32:=rfl;omega
      rw [e1,show ((b.toNat+32:Nat):Int)=(b.toNat:Int)+32 from by omega] at hset;clear hskip e1;go_wp2
      exact ⟨⟨k+1,by omega,by go_num,hset,⟨hB.out.setCell (Nat.le_refl _) _⟩⟩,zz121⟩
     ·have e1:sm b=b:=by unfold sm;rw [if_neg (by omega)]
      have hS:Aside0 (SmRow w.heap.size a0 (k+1) wr):=⟨hskip.out e1⟩;clear e1 hset hskip;go_wp2
      exact ⟨⟨k+1,by omega,by go_num,hS,hB⟩,zz121⟩
    ·have e1:sm b=b:=by unfold sm;rw [if_neg (by omega)]
     have hS:Aside0 (SmRow w.heap.size a0 (k+1) wr):=⟨hskip.out e1⟩;clear e1 hset hskip;go_wp2
     exact ⟨⟨k+1,by omega,by go_num,hS,hB⟩,zz121⟩
   ·have ek:k=a0.size:=by omega
    have hcells:∀ j (hj:j < (L (smallB a0)).length),wr.cell? ((⟨w.heap.size,0,none⟩:Addr).add j)=some (.int .u8 ((L (smallB a0))[j].toNat:Int)):=by
     intro j hj;have hj':j < a0.size:=by rw [L_size,smallB,ofL_size,List.length_map,L_size] at hj;exact hj
     rw [add_plain,(hI.out.2 j hj').1,if_pos (by omega)];simp [smallB,L_of,List.getD_eq_getElem?_getD,List.getElem?_eq_getElem (show j < (L a0).length by rw [L_size];exact hj')]
    have hcv:=run_convert_bytes_back (P:=Tryz.prog) wr 126 9 5 ⟨w.heap.size,0,none⟩ (grownCap w a0.size 0 5) (L (smallB a0)) Tryz.underlying126 Tryz.underlying5 Tryz.underlying9 hcells;have hl:(L (smallB a0)).length=a0.size:=by rw [L_size,smallB,ofL_size,List.length_map,L_size]
    rw [hl,show (⟨(L (smallB a0)).toArray⟩:ByteArray)=smallB a0 from of_L _] at hcv;have Hk:=A_ ek;clear ek hcells hl;go_wp2
    go_ret
    exact ⟨rfl,hB.out⟩
 ·rw [if_neg hs] at h;cases h
end Go.Proofs.YteepbodnaameiaaGreatDoor.P
end
section
namespace Go.Proofs.YteepbodnaameiaaGreatDoor.P
open Go.RowKit Go.Proofs.YteepbodnaameiaaGreatDoorW.PrintWords Go.Proofs.YteepbodnaameiaaGreatDoorW.PrintLast Go.Proofs.YteepbodnaameiaaGreatDoorW.PrintMore
attribute [local go_sem] max2_int min2_int max_two min_two max_three min_three max_four min_four
set_option linter.unusedVariables false
set_option linter.unusedSimpArgs false
set_option maxHeartbeats 8000000
set_option maxRecDepth 100000
def spec_l1Whole.l0:Nat→ByteArray→ByteArray→ByteArray→Int→Option (ByteArray×List ByteArray×Bool×ByteArray×Bool)
 | 0,_,_,_,_=>none
 | k+1,x0,x4,x5,x6=>if x6 < (x0.size:Int) then (if 0≤x6 then (if (bt x0 x6)=47 then (if x6≤(x0.size:Int) then ((spec_l1Small.f (x0.extract 0 (x6:Int).toNat)).bind fun t200=>((spec_l1Way.f k t200 ([]:List ByteArray) false (⟨#[]⟩:ByteArray) (x0.extract (x6:Int).toNat x0.size)).bind fun bt201=>(some (bt201.1,bt201.2.1,bt201.2.2.1,bt201.2.2.2.1,bt201.2.2.2.2)))) else (none)) else (if (bt x0 x6)=63 then (if x6≤(x0.size:Int) then ((spec_l1Small.f (x0.extract 0 (x6:Int).toNat)).bind fun t208=>((spec_l1Way.f k t208 ([]:List ByteArray) false (⟨#[]⟩:ByteArray) (x0.extract (x6:Int).toNat x0.size)).bind fun bt209=>(some (bt209.1,bt209.2.1,bt209.2.2.1,bt209.2.2.2.1,bt209.2.2.2.2)))) else (none)) else (spec_l1Whole.l0 k x0 x4 x5 (wrap64 (x6+1))))) else (none)) else ((spec_l1Small.f x4).bind fun t216=>((spec_l1Way.f k t216 ([]:List ByteArray) false (⟨#[]⟩:ByteArray) x5).bind fun bt217=>(some (bt217.1,bt217.2.1,bt217.2.2.1,bt217.2.2.2.1,bt217.2.2.2.2))))
def spec_l1Whole.f (k:Nat) (a0:ByteArray):Option (ByteArray×List ByteArray×Bool×ByteArray×Bool):=spec_l1Whole.l0 k a0 a0 (⟨#[]⟩:ByteArray) 0
theorem spec_l1Whole.calls (k:Nat) (a0:ByteArray) (r1:ByteArray) (r2:List ByteArray) (r3:Bool) (r4:ByteArray) (r5:Bool) (w:World) (h:spec_l1Whole.f k a0=some (r1,r2,r3,r4,r5)) :
  Calls Tryz.prog 63 #[.string a0] w fun e w'=>∃ v1_:Value,e=.returned (.tuple #[.agg #[.string r1,v1_,.bool r3,.string r4],.bool r5])∧Kd.R Kd.string 9 w' w.heap.size (fun _=>True) v1_ r2∧Below w.heap.size w w':=by
 have hu75:=Tryz.underlying75;have HB:=A_ (Below.refl w.heap.size w);unfold spec_l1Whole.f at h
 have H:=h;clear h;have H':=A_ H;clear H;go_enter Tryz.func63,Tryz.ntmps63;go_wp2_with (first|(refine boxF 2 #[.string (⟨#[]⟩:ByteArray),.slice none 0 0,.bool false,.string (⟨#[]⟩:ByteArray)] 75 ?_;intro gb199 hg w2 BK199 hb;have GE199:=geB hg (zz0 HB);replace HB:=A_ (bS (zz0 HB) hb);clear hb hg))
 go_loopg [4,5,6] k (fun kq v4 v5 v6 w'=>∃ (x4_1:ByteArray) (x5_1:ByteArray) (x6_1:Int),v4=.string x4_1∧v5=.string x5_1∧v6=.int .i64 x6_1∧Aside0 (spec_l1Whole.l0 kq a0 x4_1 x5_1 x6_1=some (r1,r2,r3,r4,r5))∧Aside0 (kq≤k)∧Aside0 (w'.heap[gb199]?=some (.cells #[.string (⟨#[]⟩:ByteArray),(.slice none 0 0),.bool false,.string (⟨#[]⟩:ByteArray)] 75 (0,0)))∧Aside0 (Below w.heap.size w w'))
 case atStart=>exact ⟨(a0),((⟨#[]⟩:ByteArray)),(0),zz7,zz7,zz7,H',⟨Nat.le_refl _⟩,⟨(zz2 BK199)⟩,⟨(zz1 HB GE199)⟩⟩
 case round=>
  clear H';obtain ⟨x4_1,x5_1,x6_1,rfl,rfl,rfl,HA,HK1,BK199,HB⟩:=hrel;cases gk with
  | zero=>exact absurd HA.out (by simp [spec_l1Whole.l0])
  | succ k1=>
   obtain ⟨H⟩:=HA;simp only [spec_l1Whole.l0] at H
   replace H:=iteEd H;rcases H with ⟨c3b0,H⟩|⟨c3b0,H⟩
   ·replace H:=iteNd H
    obtain ⟨c4b0,H⟩:=H;replace H:=iteEq H;rcases H with ⟨c6b0,c6b1,H⟩|⟨c6b0,c6b1,c6,H⟩
    ·have c7b0:=eq_true (ofD:0≤x6_1)
     replace H:=iteN H;obtain ⟨c8,H⟩:=H;have c8b0:=eq_true c8;have c8b1:=dT c8;clear c8;have c9b0:=eq_true (ofD:0≤x6_1);have c10b0:=eq_true (ofD:x6_1≤(a0.size:Int));replace H:=bindA H;obtain ⟨t200,A11,H⟩:=H;replace H:=bindA H;obtain ⟨⟨t201,t202,t205,t206,t207⟩,A12,H⟩:=H;try dsimp only at H
     simp only [Option.some.injEq,Prod.mk.injEq] at H
     obtain ⟨rfl,rfl,rfl,rfl,rfl⟩:=H;have p5:0≤(x6_1:Int):=ofD;have q5:x6_1 < (a0.size:Int):=ofD;have hx5:=bt_at a0 x6_1;replace p5:=eq_true p5;replace q5:=eq_true q5;go_wp2_with (first|(refine gR 79 (some 31) Tryz.func79 (spec_l1Small.calls (a0.extract 0 (x6_1:Int).toNat) t200 _ A11.out) ?_;rintro w13 hb;replace BK199:=A_ (bB (zz2 BK199) hb);replace HB:=A_ (bS (zz1 HB GE199) hb);(try clear hb))|((with_reducible refine gC (f:=78) rfl ?_);refine gsL (some 34) Tryz.func78 #[.agg #[.string t200,.slice none 0 0,.bool false,.string (⟨#[]⟩:ByteArray)],.string (a0.extract (x6_1:Int).toNat a0.size)] ?_;(refine (spec_l1Way.calls k1 t200 _ _ ([]:List ByteArray) false (⟨#[]⟩:ByteArray) (a0.extract (x6_1:Int).toNat a0.size) t201 t202 t205 t206 t207 _ ?side1 ?side2 A12.out).mono ?_);(case side1=>exact Kd.C_nil _ _);(case side2=>exact Nat.le_refl _);rintro e w14 ⟨v203,rfl,ho0,hb⟩;refine ⟨_,rfl,?_⟩;have HO204:=A_ (Kd.R_lower ho0 (below_size (zz1 HB GE199)));replace BK199:=A_ (bB (zz2 BK199) hb);replace HB:=A_ (bS (zz1 HB GE199) hb);(try clear hb ho0);obtain ⟨_,_,_,_,_,_,_,_⟩:=cf4 BK199;obtain ⟨Ao16,co16,eo16⟩:=Kd.R_slice HO204.out;subst eo16))
     refine pR (results_ct rfl _ _ gb199 75 #[.string t201,.slice Ao16 t202.length co16,.bool t205,.string t206] (0,0) _ rfl (zz87 BK199) Tryz.underlying75 rfl (by kernel_rfl)) rfl ?_;exact ⟨_,zz5,(zz24 (rt HO204 BK199)),(zz1 HB GE199)⟩
    ·replace H:=iteEq H
     rcases H with ⟨c18b0,c18b1,H⟩|⟨c18b0,c18b1,c18,H⟩
     ·have c19b0:=eq_true (ofD:0≤x6_1)
      replace H:=iteN H;obtain ⟨c20,H⟩:=H;have c20b0:=eq_true c20;have c20b1:=dT c20;clear c20;have c21b0:=eq_true (ofD:0≤x6_1);have c22b0:=eq_true (ofD:x6_1≤(a0.size:Int));replace H:=bindA H;obtain ⟨t208,A23,H⟩:=H;replace H:=bindA H;obtain ⟨⟨t209,t210,t213,t214,t215⟩,A24,H⟩:=H;try dsimp only at H
      simp only [Option.some.injEq,Prod.mk.injEq] at H
      obtain ⟨rfl,rfl,rfl,rfl,rfl⟩:=H;have p5:0≤(x6_1:Int):=ofD;have q5:x6_1 < (a0.size:Int):=ofD;have hx5:=bt_at a0 x6_1;replace p5:=eq_true p5;replace q5:=eq_true q5;have p17:0≤(x6_1:Int):=ofD;have q17:x6_1 < (a0.size:Int):=ofD;have hx17:=bt_at a0 x6_1;replace p17:=eq_true p17;replace q17:=eq_true q17;go_wp2_with (first|(refine gR 79 (some 31) Tryz.func79 (spec_l1Small.calls (a0.extract 0 (x6_1:Int).toNat) t208 _ A23.out) ?_;rintro w25 hb;replace BK199:=A_ (bB (zz2 BK199) hb);replace HB:=A_ (bS (zz1 HB GE199) hb);(try clear hb))|((with_reducible refine gC (f:=78) rfl ?_);refine gsL (some 34) Tryz.func78 #[.agg #[.string t208,.slice none 0 0,.bool false,.string (⟨#[]⟩:ByteArray)],.string (a0.extract (x6_1:Int).toNat a0.size)] ?_;(refine (spec_l1Way.calls k1 t208 _ _ ([]:List ByteArray) false (⟨#[]⟩:ByteArray) (a0.extract (x6_1:Int).toNat a0.size) t209 t210 t213 t214 t215 _ ?side1 ?side2 A24.out).mono ?_);(case side1=>exact Kd.C_nil _ _);(case side2=>exact Nat.le_refl _);rintro e w26 ⟨v211,rfl,ho0,hb⟩;refine ⟨_,rfl,?_⟩;have HO212:=A_ (Kd.R_lower ho0 (below_size (zz1 HB GE199)));replace BK199:=A_ (bB (zz2 BK199) hb);replace HB:=A_ (bS (zz1 HB GE199) hb);(try clear hb ho0);obtain ⟨_,_,_,_,_,_,_,_⟩:=cf4 BK199;obtain ⟨Ao28,co28,eo28⟩:=Kd.R_slice HO212.out;subst eo28))
      refine pR (results_ct rfl _ _ gb199 75 #[.string t209,.slice Ao28 t210.length co28,.bool t213,.string t214] (0,0) _ rfl (zz87 BK199) Tryz.underlying75 rfl (by kernel_rfl)) rfl ?_;exact ⟨_,zz5,(zz24 (rt HO212 BK199)),(zz1 HB GE199)⟩
     ·have H':=A_ H
      clear H;have p5:0≤(x6_1:Int):=ofD;have q5:x6_1 < (a0.size:Int):=ofD;have hx5:=bt_at a0 x6_1;replace p5:=eq_true p5;replace q5:=eq_true q5;have p17:0≤(x6_1:Int):=ofD;have q17:x6_1 < (a0.size:Int):=ofD;have hx17:=bt_at a0 x6_1;replace p17:=eq_true p17;replace q17:=eq_true q17;go_wp2
      go_roundg k1
      case measure=>have:=HK1.out;omega
      case rel=>exact ⟨(x4_1),(x5_1),(wrap64 (x6_1+1)),zz7,zz7,zz7,H',⟨(zz17 HK1)⟩,⟨(zz2 BK199)⟩,⟨(zz1 HB GE199)⟩⟩
   ·replace H:=bindA H
    obtain ⟨t216,A29,H⟩:=H;replace H:=bindA H;obtain ⟨⟨t217,t218,t221,t222,t223⟩,A30,H⟩:=H;try dsimp only at H
    simp only [Option.some.injEq,Prod.mk.injEq] at H
    obtain ⟨rfl,rfl,rfl,rfl,rfl⟩:=H;go_wp2_with (first|(refine gR 79 (some 31) Tryz.func79 (spec_l1Small.calls x4_1 t216 _ A29.out) ?_;rintro w31 hb;replace BK199:=A_ (bB (zz2 BK199) hb);replace HB:=A_ (bS (zz1 HB GE199) hb);(try clear hb))|((with_reducible refine gC (f:=78) rfl ?_);refine gsL (some 34) Tryz.func78 #[.agg #[.string t216,.slice none 0 0,.bool false,.string (⟨#[]⟩:ByteArray)],.string x5_1] ?_;(refine (spec_l1Way.calls k1 t216 _ _ ([]:List ByteArray) false (⟨#[]⟩:ByteArray) x5_1 t217 t218 t221 t222 t223 _ ?side1 ?side2 A30.out).mono ?_);(case side1=>exact Kd.C_nil _ _);(case side2=>exact Nat.le_refl _);rintro e w32 ⟨v219,rfl,ho0,hb⟩;refine ⟨_,rfl,?_⟩;have HO220:=A_ (Kd.R_lower ho0 (below_size (zz1 HB GE199)));replace BK199:=A_ (bB (zz2 BK199) hb);replace HB:=A_ (bS (zz1 HB GE199) hb);(try clear hb ho0);obtain ⟨_,_,_,_,_,_,_,_⟩:=cf4 BK199;obtain ⟨Ao34,co34,eo34⟩:=Kd.R_slice HO220.out;subst eo34))
    refine pR (results_ct rfl _ _ gb199 75 #[.string t217,.slice Ao34 t218.length co34,.bool t221,.string t222] (0,0) _ rfl (zz87 BK199) Tryz.underlying75 rfl (by kernel_rfl)) rfl ?_;exact ⟨_,zz5,(zz24 (rt HO220 BK199)),(zz1 HB GE199)⟩
end Go.Proofs.YteepbodnaameiaaGreatDoor.P
end
