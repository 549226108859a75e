/- Part 3 of the proof of FnExactTripNew: the plain functions of what it reaches, that Go comes to just their answers, what they answer, and the words that the walks use; conditions: each theorem's own. -/
import Derived.Test.YtalfefmnlnkcaaaGreatDoorZFnExactTripNewb
import Derived.Test.YtalfefmnlnkcaaaGreatDoorZFnExactTripNewa
import Derived.OneCell
import Derived.Deep.RegionHeld3
import Derived.Laws.RangeAny
import Derived.LoopTactic
import Derived.Lib.SmallJoins
import Derived.Deep.Slices
import Derived.Deep.Strs
import Derived.SliceStrings
import Derived.SizedLaws
import Derived.Laws.BitsLemmas
import Derived.Lib.Strings
import Derived.Lib.ConvBytes
import Derived.Laws.Runes
import Derived.Laws.RangeString
import Derived.Laws.Strings3
import Derived.Lib.IndexAny
import Derived.Lib.IndexBytes
import Derived.Deep.LoopGhost

set_option linter.unusedVariables false
set_option linter.unusedSimpArgs false
section
namespace Go.Proofs.YtalfefmnlnkcaaaGreatDoor.P
open Go.RowKit Go.Proofs.YtalfefmnlnkcaaaGreatDoorW PrintWords PrintLast PrintMore
attribute [local go_sem] max2_int min2_int max_two min_two max_three min_three max_four min_four
set_option maxHeartbeats 8000000
set_option maxRecDepth 100000
def laws_eqLookS.l0:Nat→List (S83)→List (S83)→Int→Option (Bool)
 |0,_,_,_=>none
 |k+1,x0,x1,x5=>if x5<(x0.length:Int)then(if 0≤x5 then(if x5<(x1.length:Int)then((laws_eqLook.f ((rd_T83 x0 x5).f0) ((rd_T83 x0 x5).f1) ((rd_T83 x0 x5).f2) ((rd_T83 x1 x5).f0) ((rd_T83 x1 x5).f1) ((rd_T83 x1 x5).f2)).bind fun t402=>(if t402=true then(laws_eqLookS.l0 k x0 x1 (wrap64 (x5+1)))else(some false)))else(none))else(none))else(some true)
def laws_eqLookS.f (k:Nat)(l0:List (S83))(l1:List (S83)):Option (Bool):=if(l0.length:Int)=(l1.length:Int)then(laws_eqLookS.l0 k l0 l1 0)else(some false)
def laws_eqLookS.T6:Bool×List (List Nat×List Nat):=(true,[([],[]),([],[]),([0,1],[0,1]),([2],[2]),([],[]),([],[]),([4,5],[4,5]),([6],[6]),([3,7],[3,7]),([8],[8])])
def laws_eqLookS.B6:List Nat:=[0,0,3,7,0,0,48,112,255,511]
theorem laws_eqLookS.tab6:rtab .any (opsOf Tryz.f25 6)=laws_eqLookS.T6:=by kernel_rfl
theorem laws_eqLookS.bits6:waitsOk laws_eqLookS.T6.2 laws_eqLookS.B6=true:=by kernel_rfl
theorem laws_eqLookS.calls (k:Nat)(A0:Option Addr)(c0:Nat)(l0:List (S83))(A1:Option Addr)(c1:Nat)(l1:List (S83))(r:Bool)(w:World)(hr0:Kd.C k83 w A0 l0.length l0)(hc0:l0.length≤c0)(hr1:Kd.C k83 w A1 l1.length l1)(hc1:l1.length≤c1)(h:laws_eqLookS.f k l0 l1=some r):
  Calls Tryz.prog 25 #[.slice A0 l0.length c0,.slice A1 l1.length c1] w fun e w'=>e=.returned (.bool r)∧Below w.heap.size w w':=by
 have hu83:=Tryz.underlying83;have HR0:=A_ hr0;have HC0:=A_ hc0;clear hr0 hc0;have HR1:=A_ hr1;have HC1:=A_ hc1;clear hr1 hc1;have HB:=A_ (Below.refl w.heap.size w);unfold laws_eqLookS.f at h;have H:=h;clear h;replace H:=iteE H;rcases H with⟨c3,H⟩|⟨c3,H⟩
 ·obtain⟨c3b0,c3b1⟩:=eqT c3
  have c3b2:(l0.length==l1.length)=true:=by first|simpa using c3|(simp at c3 ⊢;omega)
  clear c3;have H':=A_ H;clear H;go_enter Tryz.func25,Tryz.ntmps25;go_wp2
  go_loopg [5] k (fun kq v5 w'=>∃(x5_1:Int),v5=.int .i64 x5_1∧Aside0 (laws_eqLookS.l0 kq l0 l1 x5_1=some r)∧Aside0 (kq≤k)∧Aside0 (Below w.heap.size w w'))
  case atStart=>exact⟨(0),zz2,H',⟨lL_ _⟩,⟨(zz1 HB)⟩⟩
  case round=>
   clear H';obtain⟨x5_1,rfl,HA,HK1,HB⟩:=hrel;cases gk with
   |zero=>exact absurd HA.out (by simp[laws_eqLookS.l0])
   |succ k1=>
    obtain⟨H⟩:=HA;simp only[laws_eqLookS.l0]at H;replace H:=iteEd H;rcases H with⟨c4b0,H⟩|⟨c4b0,H⟩
    ·replace H:=iteNd H
     obtain⟨c5b0,H⟩:=H;replace H:=iteNd H;obtain⟨c6b0,H⟩:=H;replace H:=bindA H;obtain⟨t402,A7,H⟩:=H;have HF8:=A_ H;clear H;try go_wp2;replace HB:=A_ (below_drew1 HB.out);obtain⟨⟨ad400,e400,hx400_0,hx400_1,hx400_2⟩,p400,q400⟩:=atB (at_T83 HR0.out x5_1);have hw400_2:=hx400_2;have hw400_1:=hx400_1;have hw400_0:=hx400_0;cases e400;obtain⟨hx400_0,hx400_1,hx400_2⟩:=cb3 HB hx400_0 hx400_1 hx400_2;obtain⟨⟨ad401,e401,hx401_0,hx401_1,hx401_2⟩,p401,q401⟩:=atB (at_T83 HR1.out x5_1);have hw401_2:=hx401_2;have hw401_1:=hx401_1;have hw401_0:=hx401_0;cases e401;obtain⟨hx401_0,hx401_1,hx401_2⟩:=cb3 HB hx401_0 hx401_1 hx401_2;refine start_ (n:=10) (S:=fun w'=>w'.cell? (ad400.add ((x5_1).toNat*3))=some (.int .i64 ((rd_T83 l0 x5_1).f0))∧w'.cell? ⟨(ad400.add ((x5_1).toNat*3)).block,(ad400.add ((x5_1).toNat*3)).off+1,none⟩=some (.string ((rd_T83 l0 x5_1).f1))∧w'.cell? ⟨(ad400.add ((x5_1).toNat*3)).block,(ad400.add ((x5_1).toNat*3)).off+2,none⟩=some (.int .i64 ((rd_T83 l0 x5_1).f2))∧w'.cell? (ad401.add ((x5_1).toNat*3))=some (.int .i64 ((rd_T83 l1 x5_1).f0))∧w'.cell? ⟨(ad401.add ((x5_1).toNat*3)).block,(ad401.add ((x5_1).toNat*3)).off+1,none⟩=some (.string ((rd_T83 l1 x5_1).f1))∧w'.cell? ⟨(ad401.add ((x5_1).toNat*3)).block,(ad401.add ((x5_1).toNat*3)).off+2,none⟩=some (.int .i64 ((rd_T83 l1 x5_1).f2))) (ds:=[]) #[yF,yF,yF,yF,yF,yF,yF,yF,yF,yF] (by kernel_rfl) rfl rfl ⟨((HB.out.cell (wb_ w _ hw400_0)).trans hw400_0),((HB.out.cell (wb_ w _ hw400_1)).trans hw400_1),((HB.out.cell (wb_ w _ hw400_2)).trans hw400_2),((HB.out.cell (wb_ w _ hw401_0)).trans hw401_0),((HB.out.cell (wb_ w _ hw401_1)).trans hw401_1),((HB.out.cell (wb_ w _ hw401_2)).trans hw401_2)⟩ (fun hHeld=>?_);refine with_tabW laws_eqLookS.tab6 laws_eqLookS.bits6 (fun HT_ HW_=>?_);generalize wr.drew=w9 at HB hx400_0 hx400_1 hx400_2 hx401_0 hx401_1 hx401_2 hHeld ⊢;refine pureZ 0 (some 17) (yA 1 9) ?_;refine pureZ 1 (some 18) (yA 2 8) ?_;refine pureZ 2 (some 19) (yA 3 7) ?_;refine pureZ 4 (some 21) #[yT,yT,yT,yF,yT,yF,yF,yF,yF,yF] ?_;refine pureZ 5 (some 22) #[yT,yT,yT,yF,yT,yT,yF,yF,yF,yF] ?_;refine pureZ 6 (some 23) #[yT,yT,yT,yF,yT,yT,yT,yF,yF,yF] ?_;refine takeZ6 3 (some 20) (yA 7 3) hHeld ?_;refine takeZ6 7 (some 24) (yA 8 2) hHeld ?_;refine oneZ 8 (some 25) (yA 9 1) (fun K hK=>?_);refine goes_ Tryz.func58 (by kernel_rfl) rfl #[.agg #[.int .i64 ((rd_T83 l0 x5_1).f0),.string ((rd_T83 l0 x5_1).f1),.int .i64 ((rd_T83 l0 x5_1).f2)],.agg #[.int .i64 ((rd_T83 l1 x5_1).f0),.string ((rd_T83 l1 x5_1).f1),.int .i64 ((rd_T83 l1 x5_1).f2)]] (by rfl) rfl rfl zz47 ?_;with_reducible refine(laws_eqLook.calls ((rd_T83 l0 x5_1).f0) ((rd_T83 l0 x5_1).f1) ((rd_T83 l0 x5_1).f2) ((rd_T83 l1 x5_1).f0) ((rd_T83 l1 x5_1).f1) ((rd_T83 l1 x5_1).f2) t402 _ A7.out).mono ?_;rintro e w10 ⟨rfl,hb⟩;refine⟨_,rfl,?_⟩;replace HB:=A_ (bS (zz1 HB) hb);(try clear hb)
     (try clear hb2)
     (try clear hk)
     (try clear hi)
     refine hK.out _ _ ⟨((HB.out.cell (wb_ w _ hw400_0)).trans hw400_0),((HB.out.cell (wb_ w _ hw400_1)).trans hw400_1),((HB.out.cell (wb_ w _ hw400_2)).trans hw400_2),((HB.out.cell (wb_ w _ hw401_0)).trans hw401_0),((HB.out.cell (wb_ w _ hw401_1)).trans hw401_1),((HB.out.cell (wb_ w _ hw401_2)).trans hw401_2)⟩ (fun hHeld=>?_);clear hK K;refine nZ 25 ?_;refine pureZ 9 (some 26) (yA 10 0) ?_;refine done_ (done_of HT_.out (by kernel_rfl)) ?_;go_upto_if 26 with(fail)
     obtain⟨H⟩:=HF8;replace H:=iteB H;rcases H with⟨rfl,H⟩|⟨rfl,H⟩
     ·have H':=A_ H
      clear H;go_wp2
      go_roundg k1
      case measure=>have:=HK1.out;omega
      case rel=>exact⟨(wrap64 (x5_1+1)),zz2,H',⟨(zz5 HK1)⟩,⟨(zz1 HB)⟩⟩
     ·obtain rfl:=sI H
      go_wp2;go_ret;exact⟨zz0,(zz1 HB)⟩
    ·obtain rfl:=sI H
     go_wp2;go_ret;exact⟨zz0,(zz1 HB)⟩
 ·obtain⟨c3b0,c3b1⟩:=eqF c3
  have c3b2:(l0.length==l1.length)=false:=by first|simpa using c3|(simp at c3 ⊢;omega)
  obtain rfl:=sI H;go_enter Tryz.func25,Tryz.ntmps25;go_wp2;go_ret;exact⟨zz0,(zz1 HB)⟩
def laws_eqTrip.f (k:Nat)(a0_0:BA)(a0_1:Int)(l0_2:List (S43))(l0_3:List BA)(l0_4:List (S83))(a1_0:BA)(a1_1:Int)(l1_2:List (S43))(l1_3:List BA)(l1_4:List (S83)):Option (Bool):=if a0_0.toList=a1_0.toList then(if a0_1=a1_1 then((laws_eqHouseS.f k l0_2 l1_2).bind fun t405=>(if t405=true then((laws_eqStringS.f k l0_3 l1_3).bind fun t406=>(if t406=true then((laws_eqLookS.f k l0_4 l1_4).bind fun t407=>(if t407=true then(some true)else(some false)))else(some false)))else(some false)))else(some false))else(some false)
theorem laws_eqTrip.calls (k:Nat)(a0_0:BA)(a0_1:Int)(A0_2:Option Addr)(c0_2:Nat)(l0_2:List (S43))(A0_3:Option Addr)(c0_3:Nat)(l0_3:List BA)(A0_4:Option Addr)(c0_4:Nat)(l0_4:List (S83))(a1_0:BA)(a1_1:Int)(A1_2:Option Addr)(c1_2:Nat)(l1_2:List (S43))(A1_3:Option Addr)(c1_3:Nat)(l1_3:List BA)(A1_4:Option Addr)(c1_4:Nat)(l1_4:List (S83))(r:Bool)(w:World)(hr0_2:Kd.C k43 w A0_2 l0_2.length l0_2)(hc0_2:l0_2.length≤c0_2)(hr0_3:Kd.C Kd.string w A0_3 l0_3.length l0_3)(hc0_3:l0_3.length≤c0_3)(hr0_4:Kd.C k83 w A0_4 l0_4.length l0_4)(hc0_4:l0_4.length≤c0_4)(hr1_2:Kd.C k43 w A1_2 l1_2.length l1_2)(hc1_2:l1_2.length≤c1_2)(hr1_3:Kd.C Kd.string w A1_3 l1_3.length l1_3)(hc1_3:l1_3.length≤c1_3)(hr1_4:Kd.C k83 w A1_4 l1_4.length l1_4)(hc1_4:l1_4.length≤c1_4)(h:laws_eqTrip.f k a0_0 a0_1 l0_2 l0_3 l0_4 a1_0 a1_1 l1_2 l1_3 l1_4=some r):
  Calls Tryz.prog 9 #[.agg #[.string a0_0,.int .i64 a0_1,.slice A0_2 l0_2.length c0_2,.slice A0_3 l0_3.length c0_3,.slice A0_4 l0_4.length c0_4],.agg #[.string a1_0,.int .i64 a1_1,.slice A1_2 l1_2.length c1_2,.slice A1_3 l1_3.length c1_3,.slice A1_4 l1_4.length c1_4]] w fun e w'=>e=.returned (.bool r)∧Below w.heap.size w w':=by
 have hu27:=Tryz.underlying27;have HR0_2:=A_ hr0_2;have HC0_2:=A_ hc0_2;clear hr0_2 hc0_2;have HR0_3:=A_ hr0_3;have HC0_3:=A_ hc0_3;clear hr0_3 hc0_3;have HR0_4:=A_ hr0_4;have HC0_4:=A_ hc0_4;clear hr0_4 hc0_4;have HR1_2:=A_ hr1_2;have HC1_2:=A_ hc1_2;clear hr1_2 hc1_2;have HR1_3:=A_ hr1_3;have HC1_3:=A_ hc1_3;clear hr1_3 hc1_3;have HR1_4:=A_ hr1_4;have HC1_4:=A_ hc1_4;clear hr1_4 hc1_4;have HB:=A_ (Below.refl w.heap.size w);unfold laws_eqTrip.f at h;have H:=h;clear h;have HF3:=A_ H;clear H;go_enter Tryz.func9,Tryz.ntmps9;go_upto_if 9 with(first|(refine boxF 2 #[.string a0_0,.int .i64 a0_1,.slice A0_2 l0_2.length c0_2,.slice A0_3 l0_3.length c0_3,.slice A0_4 l0_4.length c0_4] 27 ?_;intro gb403 hg w4 BK403 hb;have GE403:=geB hg (zz1 HB);replace HB:=A_ (bS (zz1 HB) hb);clear hb hg)|(refine boxF 3 #[.string a1_0,.int .i64 a1_1,.slice A1_2 l1_2.length c1_2,.slice A1_3 l1_3.length c1_3,.slice A1_4 l1_4.length c1_4] 27 ?_;intro gb404 hg w5 BK404 hb;have GE404:=geB hg (zz37 HB GE403);replace HB:=A_ (bS (zz37 HB GE403) hb);have NB403_404:=A_ ((by rw[hg];exact Nat.ne_of_lt (blk_lt (zz36 BK403)):gb403≠gb404));have NB404_403:=A_ ((by rw[hg];exact Nat.ne_of_gt (blk_lt (zz36 BK403)):gb404≠gb403));replace BK403:=A_ (bB (zz36 BK403) hb);clear hb hg;have hnb6:=NB403_404.out;have hnc6:=NB404_403.out;obtain⟨_,_,_,_,_,_,_,_,_,_⟩:=cf5 BK403;obtain⟨_,_,_,_,_,_,_,_,_,_⟩:=cf5 BK404))
 obtain⟨H⟩:=HF3;replace H:=iteEq H;rcases H with⟨c9b0,c9b1,H⟩|⟨c9b0,c9b1,c9,H⟩
 ·(first|rw[c9b0]|(simp only[i64_w,i32_w];rw[c9b0])|skip)
  replace H:=iteEq H;rcases H with⟨c10b0,c10b1,H⟩|⟨c10b0,c10b1,c10,H⟩
  ·replace H:=bindA H
   obtain⟨t405,A11,H⟩:=H;have HF12:=A_ H;clear H;have hnb13:=NB403_404.out;have hnc13:=NB404_403.out;obtain⟨_,_,_,_,_,_,_,_,_,_⟩:=cf5 BK403;obtain⟨_,_,_,_,_,_,_,_,_,_⟩:=cf5 BK404;go_upto_if 20 with(first|(refine gR 24 (some 19) Tryz.func24 (laws_eqHouseS.calls k _ _ l0_2 _ _ l1_2 t405 _ ?side1 ?side2 ?side3 ?side4 A11.out) ?_;(case side1=>exact(zz63 HR0_2 HB));(case side2=>exact HC0_2.out);(case side3=>exact(zz63 HR1_2 HB));(case side4=>exact HC1_2.out);rintro w16 hb;replace BK403:=A_ (bB (zz36 BK403) hb);replace BK404:=A_ (bB (zz36 BK404) hb);replace HB:=A_ (bS (zz52 HB GE403 GE404) hb);(try clear hb)))
   obtain⟨H⟩:=HF12;replace H:=iteB H;rcases H with⟨rfl,H⟩|⟨rfl,H⟩
   ·replace H:=bindA H
    obtain⟨t406,A18,H⟩:=H;have HF19:=A_ H;clear H;have hnb20:=NB403_404.out;have hnc20:=NB404_403.out;obtain⟨_,_,_,_,_,_,_,_,_,_⟩:=cf5 BK403;obtain⟨_,_,_,_,_,_,_,_,_,_⟩:=cf5 BK404;go_upto_if 26 with(first|(refine gR 10 (some 25) Tryz.func10 (laws_eqStringS.calls k _ _ l0_3 _ _ l1_3 t406 _ ?side1 ?side2 ?side3 ?side4 A18.out) ?_;(case side1=>exact(zz63 HR0_3 HB));(case side2=>exact HC0_3.out);(case side3=>exact(zz63 HR1_3 HB));(case side4=>exact HC1_3.out);rintro w' ⟨nd,rfl⟩))
    obtain⟨H⟩:=HF19;replace H:=iteB H;rcases H with⟨rfl,H⟩|⟨rfl,H⟩
    ·replace H:=bindA H
     obtain⟨t407,A24,H⟩:=H;have HF25:=A_ H;clear H;have hnb26:=NB403_404.out;have hnc26:=NB404_403.out;obtain⟨_,_,_,_,_,_,_,_,_,_⟩:=cf5 BK403;obtain⟨_,_,_,_,_,_,_,_,_,_⟩:=cf5 BK404;go_upto_if 32 with(first|(refine gR 25 (some 31) Tryz.func25 (laws_eqLookS.calls k _ _ l0_4 _ _ l1_4 t407 _ ?side1 ?side2 ?side3 ?side4 A24.out) ?_;(case side1=>exact(zz63 HR0_4 HB));(case side2=>exact HC0_4.out);(case side3=>exact(zz63 HR1_4 HB));(case side4=>exact HC1_4.out);rintro w29 hb;replace BK403:=A_ (bB (zz36 BK403) hb);replace BK404:=A_ (bB (zz36 BK404) hb);replace HB:=A_ (bS (zz52 HB GE403 GE404) hb);(try clear hb)))
     obtain⟨H⟩:=HF25;replace H:=iteB H;rcases H with⟨rfl,H⟩|⟨rfl,H⟩
     ·obtain rfl:=sI H
      go_wp2;go_ret;exact⟨zz0,(zz52 HB GE403 GE404)⟩
     ·obtain rfl:=sI H
      go_wp2;go_ret;exact⟨zz0,(zz52 HB GE403 GE404)⟩
    ·obtain rfl:=sI H
     go_wp2;go_ret;exact⟨zz0,(zz52 HB GE403 GE404)⟩
   ·obtain rfl:=sI H
    go_wp2;go_ret;exact⟨zz0,(zz52 HB GE403 GE404)⟩
  ·obtain rfl:=sI H
   have hnb31:=NB403_404.out;have hnc31:=NB404_403.out;obtain⟨_,_,_,_,_,_,_,_,_,_⟩:=cf5 BK403;obtain⟨_,_,_,_,_,_,_,_,_,_⟩:=cf5 BK404;go_wp2;go_ret;exact⟨zz0,(zz52 HB GE403 GE404)⟩
 ·(first|rw[c9b0]|(simp only[i64_w,i32_w];rw[c9b0])|skip)
  obtain rfl:=sI H;go_wp2;go_ret;exact⟨zz0,(zz52 HB GE403 GE404)⟩

def impl_isHouse.f (k:Nat)(a0:BA):Option (Bool):=if(a0.size:Int)≥1 then(if(a0.size:Int)≤5 then((impl_allSmallLetters.f k a0).bind fun t241=>(some t241))else(some false))else(some false)
theorem impl_isHouse.calls (k:Nat)(a0:BA)(r:Bool)(w:World)(h:impl_isHouse.f k a0=some r):
  Calls Tryz.prog 67 #[.string a0] w fun e w'=>e=.returned (.bool r)∧Drawn0 w w':=by
 unfold impl_isHouse.f at h;have H:=h;clear h;replace H:=iteE H;rcases H with⟨c2,H⟩|⟨c2,H⟩
 ·have c2b0:=geT c2
  have c2b1:decide (1≤a0.size)=true:=dT (by omega);clear c2;replace H:=iteE H;rcases H with⟨c3,H⟩|⟨c3,H⟩
  ·have c3b0:=dT c3
   have c3b1:decide (a0.size≤5)=true:=dT (by omega);clear c3;replace H:=bindA H;obtain⟨t241,A4,H⟩:=H;obtain rfl:=sI H;go_enter Tryz.func67,Tryz.ntmps67;go_wp2_with (first|(go_at_call 51;(with_reducible refine(impl_allSmallLetters.calls k a0 t241 _ A4.out).mono ?_);rintro e w' ⟨rfl,⟨nd,rfl⟩⟩));go_ret;exact⟨zz2,zz22⟩
  ·have c3b0:=dF c3
   have c3b1:decide (a0.size≤5)=false:=dF (by omega);clear c3;obtain rfl:=sI H;go_enter Tryz.func67,Tryz.ntmps67;go_wp2;go_ret;exact⟨zz2,zz22⟩
 ·have c2b0:=geF c2
  have c2b1:decide (1≤a0.size)=false:=dF (by omega);clear c2;obtain rfl:=sI H;go_enter Tryz.func67,Tryz.ntmps67;go_wp2;go_ret;exact⟨zz2,zz22⟩
def slices_Contains_string_string.f (k:Nat)(l0:List BA)(a1:BA):Option (Bool):=(slices_Index_string_string.f k l0 a1).bind fun t374=>(some (decide (t374≥0)))
theorem slices_Contains_string_string.calls (k:Nat)(A0:Option Addr)(c0:Nat)(l0:List BA)(a1:BA)(r:Bool)(w:World)(hr0:Kd.C Kd.string w A0 l0.length l0)(hc0:l0.length≤c0)(h:slices_Contains_string_string.f k l0 a1=some r):
  Calls Tryz.prog 53 #[.slice A0 l0.length c0,.string a1] w fun e w'=>e=.returned (.bool r)∧Drawn0 w w':=by
 have HR0:=A_ hr0;have HC0:=A_ hc0;clear hr0 hc0;unfold slices_Contains_string_string.f at h;have H:=h;clear h;replace H:=bindA H;obtain⟨t374,A3,H⟩:=H;obtain rfl:=sI H;go_enter Tryz.func53,Tryz.ntmps53;go_wp2_with (first|(refine gR 75 (some 7) Tryz.func75 (slices_Index_string_string.calls k _ _ l0 a1 t374 _ ?side1 ?side2 A3.out) ?_;(case side1=>exact(by repeat(first|exact HR0.out|(with_reducible refine Kd.C_alloc ?_ _)|(with_reducible refine Kd.C_drewN ?_ _)|(with_reducible refine Kd.C_drew ?_))));(case side2=>exact HC0.out);rintro w' ⟨nd,rfl⟩));go_ret;exact⟨zz2,zz22⟩
def impl_isName.f (k:Nat)(a0:BA):Option (Bool):=if(a0.size:Int)≥1 then(if(a0.size:Int)≤8 then((impl_allSmallLetters.f k a0).bind fun t233=>(some t233))else(some false))else(some false)
theorem impl_isName.calls (k:Nat)(a0:BA)(r:Bool)(w:World)(h:impl_isName.f k a0=some r):
  Calls Tryz.prog 22 #[.string a0] w fun e w'=>e=.returned (.bool r)∧Drawn0 w w':=by
 unfold impl_isName.f at h;have H:=h;clear h;replace H:=iteE H;rcases H with⟨c2,H⟩|⟨c2,H⟩
 ·have c2b0:=geT c2
  have c2b1:decide (1≤a0.size)=true:=dT (by omega);clear c2;replace H:=iteE H;rcases H with⟨c3,H⟩|⟨c3,H⟩
  ·have c3b0:=dT c3
   have c3b1:decide (a0.size≤8)=true:=dT (by omega);clear c3;replace H:=bindA H;obtain⟨t233,A4,H⟩:=H;obtain rfl:=sI H;go_enter Tryz.func22,Tryz.ntmps22;go_wp2_with (first|(go_at_call 51;(with_reducible refine(impl_allSmallLetters.calls k a0 t233 _ A4.out).mono ?_);rintro e w' ⟨rfl,⟨nd,rfl⟩⟩));go_ret;exact⟨zz2,zz22⟩
  ·have c3b0:=dF c3
   have c3b1:decide (a0.size≤8)=false:=dF (by omega);clear c3;obtain rfl:=sI H;go_enter Tryz.func22,Tryz.ntmps22;go_wp2;go_ret;exact⟨zz2,zz22⟩
 ·have c2b0:=geF c2
  have c2b1:decide (1≤a0.size)=false:=dF (by omega);clear c2;obtain rfl:=sI H;go_enter Tryz.func22,Tryz.ntmps22;go_wp2;go_ret;exact⟨zz2,zz22⟩
def spec_l1Text.f (k:Nat)(a0_0:BA)(l0_1:List BA)(a0_2:Bool)(a0_3:BA):Option (BA):=if 2+a0_0.size≤9223372036854775807 then((spec_l1Path.f k a0_0 l0_1 a0_2 a0_3).bind fun t107=>(if 2+a0_0.size+t107.size≤9223372036854775807 then(some (((⟨#[47,47]⟩:BA)++a0_0)++t107))else(none)))else(none)
theorem spec_l1Text.mono:∀a0 a1 a2 a3 k,LeO (spec_l1Text.f k a0 a1 a2 a3) (spec_l1Text.f (k+1) a0 a1 a2 a3):=by
 intro a0 a1 a2 a3 k;unfold spec_l1Text.f
 repeat' first|(with_reducible first|exact spec_l1Path.mono _ _ _ _ _|exact LeO.refl _|exact LeO.none _|refine LeO.ite ?_ ?_|refine LeO.bind ?_ (fun _=>?_))|exact LeO.none _|refine LeO.ite ?_ ?_|refine LeO.bind ?_ (fun _=>?_)
theorem spec_l1Text.calls (k:Nat)(a0_0:BA)(A0_1:Option Addr)(c0_1:Nat)(l0_1:List BA)(a0_2:Bool)(a0_3:BA)(r:BA)(w:World)(hr0_1:Kd.C Kd.string w A0_1 l0_1.length l0_1)(hc0_1:l0_1.length≤c0_1)(h:spec_l1Text.f k a0_0 l0_1 a0_2 a0_3=some r):
  Calls Tryz.prog 72 #[.agg #[.string a0_0,.slice A0_1 l0_1.length c0_1,.bool a0_2,.string a0_3]] w fun e w'=>e=.returned (.string r)∧Below w.heap.size w w':=by
 have hu70:=Tryz.underlying70;have HR0_1:=A_ hr0_1;have HC0_1:=A_ hc0_1;clear hr0_1 hc0_1;have HB:=A_ (Below.refl w.heap.size w);unfold spec_l1Text.f at h;have H:=h;clear h;replace H:=iteE H;rcases H with⟨c2,H⟩|⟨c2,H⟩
 ·have c2b0:=eq_true c2
  have c2b1:=dT c2;try have c2b2:(9223372036854775807<2+a0_0.size)=False:=eq_false (nL_.2 c2);replace H:=bindA H;obtain⟨t107,A3,H⟩:=H;replace H:=iteN H;obtain⟨c4,H⟩:=H;have c4b0:=eq_true c4;have c4b1:=dT c4;try have c4b2:(9223372036854775807<2+a0_0.size+t107.size)=False:=eq_false (nL_.2 c4);obtain rfl:=sI H;go_enter Tryz.func72,Tryz.ntmps72;try go_wp2_with (first|(refine boxF 1 #[.string a0_0,.slice A0_1 l0_1.length c0_1,.bool a0_2,.string a0_3] 70 ?_;intro gb106 hg w5 BK106 hb;have GE106:=geB hg (zz1 HB);replace HB:=A_ (bS (zz1 HB) hb);clear hb hg));replace BK106:=A_ (blk_drew BK106.out);replace HB:=A_ (below_drew1 HB.out);refine start_ (n:=7) (S:=fun w'=>w'.cell? ⟨gb106,0,none⟩=some (.string a0_0)∧w'.cell? ⟨gb106,1,none⟩=some (.slice A0_1 l0_1.length c0_1)∧w'.cell? ⟨gb106,2,none⟩=some (.bool a0_2)∧w'.cell? ⟨gb106,3,none⟩=some (.string a0_3)) (ds:=[]) #[yF,yF,yF,yF,yF,yF,yF] (by kernel_rfl) rfl rfl ⟨(blk_cell BK106.out 0).trans rfl,(blk_cell BK106.out 1).trans rfl,(blk_cell BK106.out 2).trans rfl,(blk_cell BK106.out 3).trans rfl⟩ (fun hHeld=>?_);generalize w5.drew=w6 at BK106 HB hHeld ⊢;refine pureY 0 (some 3) (yA 1 6) ?_;refine takeY4 1 (some 4) (yA 2 5) hHeld ?_;refine pureY 2 (some 5) (yA 3 4) ?_;refine takeY4 3 (some 6) (yA 4 3) hHeld ?_;refine one_ (i:=4) (N:=some 7) (yA 5 2) rfl rfl (by kernel_rfl) (by decide) (fun K hK=>?_);refine goes_ Tryz.func87 (by kernel_rfl) rfl #[.agg #[.string a0_0,.slice A0_1 l0_1.length c0_1,.bool a0_2,.string a0_3]] (by rfl) rfl rfl zz47 ?_;with_reducible refine(spec_l1Path.calls k a0_0 _ _ l0_1 a0_2 a0_3 t107 _ ?side1 ?side2 A3.out).mono ?_
  (case side1=>exact(zz63 HR0_1 HB))
  (case side2=>exact HC0_1.out)
  rintro e w7 ⟨rfl,hb⟩;refine⟨_,rfl,?_⟩;replace BK106:=A_ (bB (zz36 BK106) hb);replace HB:=A_ (bS (zz37 HB GE106) hb);(try clear hb)
  (try clear hb2)
  (try clear hk)
  (try clear hi)
  refine hK.out _ _ ⟨(blk_cell BK106.out 0).trans rfl,(blk_cell BK106.out 1).trans rfl,(blk_cell BK106.out 2).trans rfl,(blk_cell BK106.out 3).trans rfl⟩ (fun hHeld=>?_);clear hK K;refine nZ 7 ?_;refine pureY 5 (some 8) (yA 6 1) ?_;refine pureY 6 (some 2) (yA 7 0) ?_;refine done_ (by kernel_rfl) ?_;try go_wp2;go_ret;exact⟨zz0,(zz37 HB GE106)⟩
 ·exact absurd H (by simp)
def spec_l1Norm.f (k:Nat)(a0:BA):Option (Bool):=(spec_EscNorm.f k a0).bind fun bt118=>(if bt118.2=true then(some (bt118.1.toList==a0.toList))else(some false))
theorem spec_l1Norm.mono:∀a0 k,LeO (spec_l1Norm.f k a0) (spec_l1Norm.f (k+1) a0):=by
 intro a0 k;unfold spec_l1Norm.f
 repeat' first|(with_reducible first|exact spec_EscNorm.mono _ _|exact LeO.refl _|exact LeO.none _|refine LeO.ite ?_ ?_|refine LeO.bind ?_ (fun _=>?_))|exact LeO.none _|refine LeO.ite ?_ ?_|refine LeO.bind ?_ (fun _=>?_)
theorem spec_l1Norm.calls (k:Nat)(a0:BA)(r:Bool)(w:World)(h:spec_l1Norm.f k a0=some r):
  Calls Tryz.prog 86 #[.string a0] w fun e w'=>e=.returned (.bool r)∧Below w.heap.size w w':=by
 have HB:=A_ (Below.refl w.heap.size w);unfold spec_l1Norm.f at h;have H:=h;clear h;replace H:=bindA H;obtain⟨⟨t118,t119⟩,A2,H⟩:=H;try dsimp only at H;have HF3:=A_ H;clear H;go_enter Tryz.func86,Tryz.ntmps86;go_wp2_with (first|(refine gR 100 (some 7) Tryz.func100 (spec_EscNorm.calls k a0 t118 t119 _ A2.out) ?_;rintro w4 hb;replace HB:=A_ (bS (zz1 HB) hb);(try clear hb))|((with_reducible refine atG ?_ ?_ fun K_ hK_=>?_);rfl;exact undecG)|((with_reducible refine atI ?_ fun K_ hK_=>?_);exact undecI));refine unG hK_ ?_;clear hK_ K_;obtain⟨H⟩:=HF3;replace H:=iteB H;rcases H with⟨rfl,H⟩|⟨rfl,H⟩
 ·(first|refine iteT ?_|refine iteF ?_|skip)
  obtain rfl:=sI H;(try((with_reducible refine upS ?_);go_simp));go_wp2;go_ret;exact⟨zz0,(zz1 HB)⟩
 ·(first|refine iteT ?_|refine iteF ?_|skip)
  obtain rfl:=sI H;(try((with_reducible refine upS ?_);go_simp));go_wp2;go_ret;exact⟨zz0,(zz1 HB)⟩
end Go.Proofs.YtalfefmnlnkcaaaGreatDoor.P
end
section
namespace Go.Proofs.YtalfefmnlnkcaaaGreatDoor.P
open Go.RowKit Go.Proofs.YtalfefmnlnkcaaaGreatDoorW PrintWords PrintLast PrintMore
section
variable {P:Program}{ops:Array Oper}{Q:Exit→Act→World→Prop}
theorem callv_ {oi:Oper}{N:Option Tmp}{a:Act}{w:World}{K:Act→World→Prop}{f:FuncId}{fn:Func}{as1:Array Operand}{ts:Array TypeId}{cap:Array Value}(hf:P.funcs[f]?=some fn)(hname:(fn.name == "runtime.NumGoroutine")=false)(hb:fn.body.isSome=true)(args:Array Value)
  (hw:Region.wanted oi (yielded ops a.tmps)=true) (hN:oi.dst=N) (t:Operand) (hop:oi.op=.call { callee:=.value t,args:=as1,argTypes:=ts }) (hv:a.eval t=.func (.func f) #[] cap) (hargs:as1.map a.eval++cap=args)
  (h:Calls P f args w fun e w'=>∃v,e=.returned v∧K (a.put N v) w'):if Region.wanted oi (yielded ops a.tmps)=true then Oper.wp P oi a w K Q else K (a.put N undef) w:=by
 refine call_ f args hw hN ?_ h;have he:=enters_ hf hname hb args w;unfold execOp;simp[hop,resolve,hv,Deferred.ofValue,invoke,hargs,he]
end
theorem size_set (w:World)(p:Addr)(u:Value):(w.setCell p u).heap.size=w.heap.size:=by simp
end Go.Proofs.YtalfefmnlnkcaaaGreatDoor.P
end
section
namespace Go.Proofs.YtalfefmnlnkcaaaGreatDoor.P
open Go.RowKit Go.Proofs.YtalfefmnlnkcaaaGreatDoorW PrintWords PrintLast PrintMore
def strings_explode.f (a0:BA)(a1:Int):Option (List BA):=none
theorem strings_explode.calls (a0:BA)(a1:Int)(r:List BA)(w:World)(h:strings_explode.f a0 a1=some r):
  Calls Tryz.prog 145 #[.string a0,.int .i64 a1] w fun e w'=>∃v0_:Value,e=.returned (v0_)∧Kd.R Kd.string 9 w' w.heap.size (fun _=>True) v0_ r∧Below w.heap.size w w':=by
 cases h
end Go.Proofs.YtalfefmnlnkcaaaGreatDoor.P
end
section
namespace Go.Proofs.YtalfefmnlnkcaaaGreatDoor.P
open Go.RowKit Go.Proofs.YtalfefmnlnkcaaaGreatDoorW PrintWords PrintLast PrintMore
section
variable {P:Program}{ops:Array Oper}{o:Oper}{a:Act}{Q:Exit→Act→World→Prop}{md:Region.Mode}{S:World→Prop}{ds:List Nat}{W:World}
theorem rgP (i:Nat)(N:Option Tmp){v:Value}{fuel:Nat}{l:Array Bool}(l':Array Bool){a':Act}
  (h:wpAnyLast P md ops Q S ds fuel l' a' W) (hi:ops[i]?=some o:=by rfl) (hN:o.dst=N:=by rfl) (hc:anyB md ops l l' i=true:=by kernel_rfl)
  (hQ:∀c a w,Q (.panic c) (a.put o.dst v) w→Q (.panic c) a w:=by exact fun _ _ _ h=>h)
  (hy:Yields P ops o v a:=by exact Or.inl ⟨by rfl,by intro w';go_simp;with_reducible rfl⟩)
  (ha:a.put N v=a':=by(simp only[Act.put,lS_,l0_,lC_,i64_w,i32_w];rfl)):wpAnyLast P md ops Q S ds (fuel+1) l a W:=pure_ l' hi hN hc hQ hy ha h
theorem rgU (i:Nat)(N:Option Tmp){fuel:Nat}{l:Array Bool}(l':Array Bool){a':Act}
  (h:wpAnyLast P md ops Q S ds fuel l' a' W) (hi:ops[i]?=some o:=by rfl) (hN:o.dst=N:=by rfl) (hc:anyB md ops l l' i=true:=by kernel_rfl)
  (hQ:∀c a w,Q (.panic c) (a.put o.dst undef) w→Q (.panic c) a w:=by exact fun _ _ _ h=>h)
  (hy:Yields P ops o undef a:=by exact Or.inr ⟨by rfl,rfl⟩)
  (ha:a.put N undef=a':=by(simp only[Act.put,lS_,l0_,lC_,i64_w,i32_w];rfl)):wpAnyLast P md ops Q S ds (fuel+1) l a W:=pure_ l' hi hN hc hQ hy ha h
theorem rgT (i:Nat)(N:Option Tmp){v:Value}{fuel:Nat}{l:Array Bool}(l':Array Bool)(hS:S W){a':Act}
  (h:wpAnyLast P md ops Q S ds fuel l' a' W) (hi:ops[i]?=some o:=by rfl) (hN:o.dst=N:=by rfl) (hc:takeB md ops ds l l' i=true:=by kernel_rfl)
  (hQ:∀c a w,Q (.panic c) (a.put o.dst v) w→Q (.panic c) a w:=by exact fun _ _ _ h=>h)
  (hy:YieldsIf P ops S o v a:=by exact Or.inl ⟨by rfl,by rintro w' ⟨s0,s1⟩;go_simp;with_reducible rfl⟩)
  (ha:a.put N v=a':=by(simp only[Act.put,lS_,l0_,lC_,i64_w,i32_w];rfl)):wpAnyLast P md ops Q S ds (fuel+1) l a W:=take_ l' hi hN hc hQ hy hS ha h
theorem rgN (N:Tmp){fuel:Nat}{l:Array Bool}{b a':Act}{v:Value}(h:wpAnyLast P md ops Q S ds fuel l a' W)(hb:a=b.put (some N) v:=by rfl)(ha:b.put (some N) v=a':=by(simp only[Act.put,lS_,l0_,lC_,i64_w,i32_w];rfl)):wpAnyLast P md ops Q S ds fuel l a W:=norm_ (hb.trans ha) h
theorem rgO (i:Nat)(N:Tmp)(v:Value)(w1:World){fuel:Nat}{l:Array Bool}(l':Array Bool)(hS:S w1){a':Act}(h:S w1→wpAnyLast P md ops Q S ds fuel l' a' w1)(hi:ops[i]?=some o:=by rfl)(hN:o.dst=some N:=by rfl)(hc:readyB md ops l l' i=true:=by kernel_rfl)(hd:i ∉ ds:=by decide)
  (hw:Region.wanted o (yielded ops a.tmps)=true:=by rfl) (hrun:(execOp a.eval o).run P W=.ok (.value v) w1:=by first|(go_simp;done)|(go_simp;rfl))
  (ha:a.put (some N) v=a':=by(simp only[Act.put,lS_,l0_,lC_,i64_w,i32_w];rfl)):wpAnyLast P md ops Q S ds (fuel+1) l a W:=
 one_ l' hi hN hc hd fun K hK=>value_ hw hN hrun (hK.out _ _ hS (fun hs=>ha ▸ h hs))
theorem rgL (i:Nat)(w1:World){fuel:Nat}{l:Array Bool}(l':Array Bool)(h:wpAnyLast P md ops Q S ds fuel l' a w1)(hi:ops[i]?=some o:=by rfl)(hN:o.dst=none:=by rfl)(hc:readyB md ops l l' i=true:=by kernel_rfl)(hd:i∈ds:=by decide)
  (hw:Region.wanted o (yielded ops a.tmps)=true:=by rfl) (hrun:(execOp a.eval o).run P W=.ok .skip w1:=by first|(go_simp;done)|(go_simp;rfl)):wpAnyLast P md ops Q S ds (fuel+1) l a W:=
 last_ l' hi hN hc hd fun K hK=>skip_ hw hN hrun (hK.out _ _ h)
end
end Go.Proofs.YtalfefmnlnkcaaaGreatDoor.P
end
section
namespace Go.Proofs.YtalfefmnlnkcaaaGreatDoor.P
open Go.RowKit Go.Proofs.YtalfefmnlnkcaaaGreatDoorW PrintWords PrintLast PrintMore
abbrev Hz:=S43
abbrev kHz:=k43
def hzAt (l:List Hz)(i:Nat):Hz:=l.getD i z43
theorem infoS1:(Tryz.prog.info? 9).map (·.size)=some 1:=by kernel_rfl
theorem infoI1:(Tryz.prog.info? 3).map (·.size)=some 1:=by kernel_rfl
theorem infoB1:(Tryz.prog.info? 4).map (·.size)=some 1:=by kernel_rfl
structure Row (w0 w wc:World)(ok:Nat→Prop)(g n cap i:Nat)(P R:List Hz)(q:Hz)(l:List Hz):Prop where
 S:Kd.S kHz 43 wc w0.heap.size ok (.slice (some ⟨g,0,none⟩) n cap) l
 B:Below w0.heap.size w0 wc
 K:Kept w wc ok
 len:l.length=n
 lt:i<n
 pre:l.take i=P
 rest:l.drop (i+1)=R
 at_:hzAt l i=q
def At (w0 w wc:World)(ok:Nat→Prop)(g n cap i:Nat)(P R:List Hz)(q:Hz):Prop:=∃l,Row w0 w wc ok g n cap i P R q l
def hzC (q:Hz)(v3 v4 v7:Value):List Value:=[.string q.f0,.int .i64 q.f1,.bool q.f2,v3,v4,.int .i64 q.f3.f2,.int .i64 q.f4,v7]
section
variable {w0 w W:World}{ok:Nat→Prop}{g n cap i:Nat}{P R:List Hz}{q:Hz}
theorem At.below {w1:World}(h:At w0 w W ok g n cap i P R q)(hb:Below W.heap.size W w1):At w0 w w1 ok g n cap i P R q:=by
 obtain⟨l,hr⟩:=h;exact⟨l,Kd.S_below hr.S hb,hr.B.trans (hb.mono hr.B.size),hr.K.below hb,hr.len,hr.lt,hr.pre,hr.rest,hr.at_⟩
theorem At.lend (h:At w0 w W ok g n cap i P R q):∃l v3 v4 v7 oki,Row w0 w W ok g n cap i P R q l∧Kd.string.R 9 W w0.heap.size oki v3 q.f3.f0∧k98.R 98 W w0.heap.size oki v4 q.f3.f1∧k76.R 76 W w0.heap.size oki v7 q.f5 ∧
  (∀j u,(hzC q v3 v4 v7)[j]?=some u→W.cell? ⟨g,i*8+j,none⟩=some u)∧(∀j,W.frozen? ⟨g,i*8+j,none⟩=false)∧(∀k,oki k→ok k∧k≠g) ∧
  Kd.H kHz 43 W w0.heap.size ok (.slice (some ⟨g,0,none⟩) n cap) l (i:Int) oki (hzC q v3 v4 v7):=by
 obtain⟨l,hr⟩:=h;have hlt:=hr.lt;obtain⟨oki,c,hcl,hM,hcc,hfr,hoki,hH⟩:=Kd.S_elem hr.S z43 (i:Int) (by omega) (by omega);rw[tN_]at hM hcc hfr;rw[show l.getD i z43=q from hr.at_]at hM;obtain⟨v3,v4,v7,rfl,g3,g4,g7⟩:=k43_openM hM;exact⟨l,v3,v4,v7,oki,hr,g3,g4,g7,hcc,hfr,hoki,hH⟩
theorem Row.turned {w1:World}{l:List Hz}{x':Hz}(hr:Row w0 w W ok g n cap i P R q l)(hS:Kd.S kHz 43 w1 w0.heap.size ok (.slice (some ⟨g,0,none⟩) n cap) (l.set i x'))(hB:Below w0.heap.size w0 w1)(hK:Kept w w1 ok):At w0 w w1 ok g n cap i P R x':=
 ⟨l.set i x',hS,hB,hK,by rw[List.length_set];exact hr.len,hr.lt,by rw[List.take_set_of_le (lL_ _)];exact hr.pre,by rw[List.drop_set_of_lt (by omega)];exact hr.rest,by unfold hzAt;rw[gD_,List.getElem?_set_self (by rw[hr.len];exact hr.lt)];rfl⟩
theorem At.put {o:Oper}{a:Act}{ops:Array Oper}{rest:List Oper}{Q:Exit→Act→World→Prop}(h:At w0 w W ok g n cap i P R q)(hN:o.dst=none)(hgd:o.guard=none)(t:TypeId)(p x:Operand)(ho:o.op=.store t p x)(j:Nat)(x':Hz)(u:Value)
  (haddr:a.eval p=.pointer (some ⟨g,i*8+j,none⟩)) (hx:a.eval x=u) (hu:u.cells.toList=[u]) (ht:(Tryz.prog.info? t).map (·.size)=some 1) (hone:u.oneCell'=true) (hj:j+1≤8)
  (hM:∀oki v3 v4 v7,Kd.string.R 9 W w0.heap.size oki v3 q.f3.f0→k98.R 98 W w0.heap.size oki v4 q.f3.f1→k76.R 76 W w0.heap.size oki v7 q.f5→kHz.M W w0.heap.size oki x' ((hzC q v3 v4 v7).take j++[u]++(hzC q v3 v4 v7).drop (j+1)))
  (hK:∀w1,At w0 w w1 ok g n cap i P R x'→wpList Tryz.prog ops Q rest a w1):wpList Tryz.prog ops Q (o::rest) a W:=by
 obtain⟨l,v3,v4,v7,oki,hr,g3,g4,g7,hcc,hfr,hoki,hH⟩:=h.lend;have hlt:=hr.lt;refine Kd.H_store kHz (w0:=w0) w0.heap.size hN hgd t p x ho 43 (i:Int) j l x' u [u] (hzC q v3 v4 v7) ok oki oki haddr (by rw[tN_];rfl) hx hu ht (by intro y hy;rw[List.mem_singleton.1 hy];exact hone) hH (by omega) (by omega) (show j+1≤8 from hj) (hM oki v3 v4 v7 g3 g4 g7) (fun _ hk=>hk) hr.B ?_;intro w1 hS hB hg;rw[tN_]at hS;exact hK w1 (hr.turned hS hB (Kept.of_grown hg hr.K (fun k hk=>.inl (by injection hk with hk;subst hk;exact(Kd.S_R hS).1 _ rfl))))
theorem Row.back {w5:World}{l:List Hz}{oki S:Nat→Prop}{c:List Value}{x':Hz}(hr:Row w0 w W ok g n cap i P R q l)(hH:Kd.H kHz 43 W w0.heap.size ok (.slice (some ⟨g,0,none⟩) n cap) l (i:Int) oki c)(hoki:∀k,oki k→ok k∧k≠g)
  (hk:Kept W w5 S) (hS:∀k,S k→oki k) (hb:Below w0.heap.size w0 w5) (hM:kHz.M w5 w0.heap.size oki x' c):At w0 w w5 ok g n cap i P R x':=by
 have h1:=Kd.H_back (Kd.H_kept hH hk (fun k h1 h2 h3=>h2 (hS k h3))) hM (fun _ hk=>hk);rw[tN_]at h1;exact hr.turned h1 hb (hr.K.then_ hk (fun k h=>.inl (hoki k (hS k h)).1))
end
end Go.Proofs.YtalfefmnlnkcaaaGreatDoor.P
end
section
namespace Go.Proofs.YtalfefmnlnkcaaaGreatDoor.P
open Go.RowKit Go.Proofs.YtalfefmnlnkcaaaGreatDoorW PrintWords PrintLast PrintMore
abbrev Lz:=S83
abbrev kLz:=k83
abbrev okS (ok:Nat→Prop)(v3 v4:Value):Nat→Prop:=fun k=>(ok k∧some k≠v4.ownBlock)∧some k≠v3.ownBlock
structure Tr (w0 w wc:World)(T ty:Nat)(ok:Nat→Prop)(cs:Array Value)(v2 v3 v4:Value)(hs:List Hz)(sn:List BA)(lk:List Lz):Prop where
  S2:Kd.S kHz 43 wc w0.heap.size (okS ok v3 v4) v2 hs
  R3:Kd.string.R 9 wc w0.heap.size ok v3 sn
  R4:kLz.R 83 wc w0.heap.size ok v4 lk
  B:Below w0.heap.size w0 wc
  K:Kept w wc (fun k=>ok k∨k=T)
  le:w0.heap.size≤T
  nT:∀k,ok k→k≠T
  box:wc.heap[T]?=some (.cells cs ty (0,0))
section
variable {w0 w wc wd:World}{T ty:Nat}{ok:Nat→Prop}{cs:Array Value}{v2 v3 v4:Value}{hs:List Hz}{sn:List BA}{lk:List Lz}
theorem Tr.lt (h:Tr w0 w wc T ty ok cs v2 v3 v4 hs sn lk):T<wc.heap.size:=blk_lt h.box
theorem Tr.hle (h:Tr w0 w wc T ty ok cs v2 v3 v4 hs sn lk):w0.heap.size≤wc.heap.size:=nT_ h.le (Nat.le_of_lt h.lt)
theorem Tr.below (h:Tr w0 w wc T ty ok cs v2 v3 v4 hs sn lk)(hb:Below wc.heap.size wc wd):Tr w0 w wd T ty ok cs v2 v3 v4 hs sn lk:=
  ⟨Kd.S_below h.S2 hb,Kd.R_below h.R3 hb,Kd.R_below h.R4 hb,h.B.trans (hb.mono h.hle),h.K.below hb,h.le,h.nT,(hb.block T h.lt).trans h.box⟩
theorem Tr.drew (h:Tr w0 w wc T ty ok cs v2 v3 v4 hs sn lk):Tr w0 w wc.drew T ty ok cs v2 v3 v4 hs sn lk:=h.below (below_drew (Below.refl _ _))
theorem Tr.set (h:Tr w0 w wc T ty ok cs v2 v3 v4 hs sn lk)(j:Nat)(u:Value)(cs':Array Value)(e:cs.setIfInBounds j u=cs'):Tr w0 w (wc.setCell ⟨T,j,none⟩ u) T ty ok cs' v2 v3 v4 hs sn lk:=
  ⟨Kd.S_far (p:=⟨T,j,none⟩) h.S2 (fun k hk=>h.nT k hk.1.1) _,Kd.R_step h.R3 (fun k hk _=>Below.heap_setCell wc ⟨T,j,none⟩ u k (h.nT k hk)),Kd.R_step h.R4 (fun k hk _=>Below.heap_setCell wc ⟨T,j,none⟩ u k (h.nT k hk)),h.B.setCell h.le _,h.K.setCell (.inl (.inr rfl)) _,h.le,h.nT,blk_put h.box j u e⟩
theorem Tr.fresh2 (h:Tr w0 w wc T ty ok cs v2 v3 v4 hs sn lk)(hf:∀k,wc.heap.size≤k→ok k):∀k,wc.heap.size≤k→okS ok v3 v4 k:=fun k hk=>
  ⟨⟨hf k hk,fun e=>by have:=Kd.R_lt h.R4 k e.symm;omega⟩,fun e=>by have:=Kd.R_lt h.R3 k e.symm;omega⟩
theorem Tr.seen {v3':Value}{sn':List BA}(h:Tr w0 w wc T ty ok cs v2 v3 v4 hs sn lk)(hg:wc.grownBy wd v3.ownBlock)(hR:Kd.string.R 9 wd w0.heap.size ok v3' sn')(hB:Below w0.heap.size w0 wd)(hat:v3'.ownBlock=v3.ownBlock∨∃b,v3'.ownBlock=some b∧wc.heap.size≤b):Tr w0 w wd T ty ok cs v2 v3' v4 hs sn' lk:=
  ⟨Kd.S_after h.S2 hg hat,hR,Kd.R_over' (v:=v3) h.R4 (Kd.R_typed h.R3) (by decide) hg,hB,Kept.of_grown hg h.K (fun k hk=>.inl (.inl (h.R3.1 k hk))),h.le,h.nT,blk_grown h.box hg (fun e=>h.nT T (h.R3.1 T e.symm) rfl)⟩
theorem Tr.houses {v2':Value}{hs':List Hz}(h:Tr w0 w wc T ty ok cs v2 v3 v4 hs sn lk)(hk:Kept wc wd (okS ok v3 v4))(hS:Kd.S kHz 43 wd w0.heap.size (okS ok v3 v4) v2' hs')(hB:Below w0.heap.size w0 wd):Tr w0 w wd T ty ok cs v2' v3 v4 hs' sn lk:=
  ⟨hS,Kd.R_mono (Kd.R_kept (Kd.R_tight rfl h.R3) hk (fun k hk2 hk3=>hk3.2 hk2)) (fun k hk2=>h.R3.1 k hk2.symm),Kd.R_mono (Kd.R_kept (Kd.R_tight rfl h.R4) hk (fun k hk2 hk3=>hk3.1.2 hk2)) (fun k hk2=>h.R4.1 k hk2.symm),hB,h.K.then_ hk (fun k hk=>.inl (.inl hk.1.1)),h.le,h.nT,(hk.2 T h.lt (fun e=>h.nT T e.1.1 rfl)).trans h.box⟩
theorem Tr.at_ {g n cap:Nat}(h:Tr w0 w wc T ty ok cs (.slice (some ⟨g,0,none⟩) n cap) v3 v4 hs sn lk)(i:Nat)(hi:i<hs.length)(hn:hs.length=n):At w0 wc wc (okS ok v3 v4) g n cap i (hs.take i) (hs.drop (i+1)) (hzAt hs i):=
  ⟨hs,h.S2,h.B,Kept.refl _ _,hn,by omega,rfl,rfl,rfl⟩
abbrev okN (w wk:World)(ok:Nat→Prop):Nat→Prop:=fun k=>ok k∧¬(w.heap.size≤k∧k<wk.heap.size)
theorem okN_fresh {w wk:World}{ok:Nat→Prop}(hf:∀k,w.heap.size≤k→ok k)(hb:Below w.heap.size w wk):∀k,wk.heap.size≤k→okN w wk ok k:=fun k hk=>⟨hf k (nT_ hb.size hk),fun e=>by omega⟩
theorem Tr.start {wk:World}(h:Tr w0 w w T ty ok cs v2 v3 v4 hs sn lk)(hb:Below w.heap.size w wk):Tr w0 wk wk T ty (okN w wk ok) cs v2 v3 v4 hs sn lk:=
  ⟨Kd.S_below (Kd.S_mono (Kd.S_bound h.S2) (fun k hk=>⟨⟨⟨hk.1.1.1,fun e=>by have:=hk.2.2.1;omega⟩,hk.1.1.2⟩,hk.1.2⟩)) hb,
   Kd.R_below (Kd.R_mono (Kd.R_bound h.R3) (fun k hk=>⟨hk.1,fun e=>by have:=hk.2.2.1;omega⟩)) hb,Kd.R_below (Kd.R_mono (Kd.R_bound h.R4) (fun k hk=>⟨hk.1,fun e=>by have:=hk.2.2.1;omega⟩)) hb,
   h.B.trans (hb.mono h.hle),Kept.refl _ _,h.le,fun k hk=>h.nT k hk.1,(hb.block T h.lt).trans h.box⟩
theorem Tr.finish {wk:World}{cs':Array Value}{v2' v3' v4':Value}{hs':List Hz}{sn':List BA}{lk':List Lz}(h:Tr w0 w w T ty ok cs v2 v3 v4 hs sn lk)(hb:Below w.heap.size w wk)(h2:Tr w0 wk wd T ty (okN w wk ok) cs' v2' v3' v4' hs' sn' lk'):Tr w0 w wd T ty ok cs' v2' v3' v4' hs' sn' lk':=
  ⟨Kd.S_mono h2.S2 (fun k hk=>⟨⟨hk.1.1.1,hk.1.2⟩,hk.2⟩),Kd.R_mono h2.R3 (fun k hk=>hk.1),Kd.R_mono h2.R4 (fun k hk=>hk.1),h2.B,(Kept.of_below hb _).then_ h2.K (fun k hk=>.inl (hk.elim (fun h=>.inl h.1) .inr)),h.le,h.nT,h2.box⟩
theorem Tr.keepB {wk:World}(h2:Tr w0 wk wd T ty (okN w wk ok) cs v2 v3 v4 hs sn lk){b:Nat}{o:Obj}(hb:wk.heap[b]?=some o)(h1:w.heap.size≤b)(hne:b≠T):wd.heap[b]?=some o:=
  blk_kept hb h2.K (fun h=>h.elim (fun h=>h.2 ⟨h1,blk_lt hb⟩) hne)
theorem Tr.here (h:Tr w0 w wc T ty ok cs v2 v3 v4 hs sn lk):Tr w0 wc wc T ty ok cs v2 v3 v4 hs sn lk:=⟨h.S2,h.R3,h.R4,h.B,Kept.refl _ _,h.le,h.nT,h.box⟩
theorem Tr.then_ {cs':Array Value}{v2' v3' v4':Value}{hs':List Hz}{sn':List BA}{lk':List Lz}(h:Tr w0 w wc T ty ok cs v2 v3 v4 hs sn lk)(h2:Tr w0 wc wd T ty ok cs' v2' v3' v4' hs' sn' lk'):Tr w0 w wd T ty ok cs' v2' v3' v4' hs' sn' lk':=
  ⟨h2.S2,h2.R3,h2.R4,h2.B,h.K.then_ h2.K (fun k hk=>.inl hk),h2.le,h2.nT,h2.box⟩
theorem Tr.lend {g n cap:Nat}(h:Tr w0 w wc T ty ok cs (.slice (some ⟨g,0,none⟩) n cap) v3 v4 hs sn lk)(j:Nat)(hj:j<n):∃u3 u4 u7 oki,Kd.string.R 9 wc w0.heap.size oki u3 (hzAt hs j).f3.f0∧k98.R 98 wc w0.heap.size oki u4 (hzAt hs j).f3.f1∧k76.R 76 wc w0.heap.size oki u7 (hzAt hs j).f5 ∧
    (∀i u,(hzC (hzAt hs j) u3 u4 u7)[i]?=some u→wc.cell? ⟨g,j*8+i,none⟩=some u)∧(∀i,wc.frozen? ⟨g,j*8+i,none⟩=false)∧(∀k,oki k→okS ok v3 v4 k∧k≠g) ∧
    Kd.H kHz 43 wc w0.heap.size (okS ok v3 v4) (.slice (some ⟨g,0,none⟩) n cap) hs (j:Int) oki (hzC (hzAt hs j) u3 u4 u7):=by
  obtain⟨oki,c,hcl,hM,hcc,hfr,hoki,hH⟩:=Kd.S_elem h.S2 z43 (j:Int) (by omega) (by omega);rw[tN_]at hM hcc hfr;obtain⟨u3,u4,u7,rfl,g3,g4,g7⟩:=k43_openM (show kHz.M wc w0.heap.size oki (hzAt hs j) c from hM);exact⟨u3,u4,u7,oki,g3,g4,g7,hcc,hfr,hoki,hH⟩
structure Rw (w0 w wc:World)(ok:Nat→Prop)(v2 v3 v4:Value)(hs:List Hz)(sn:List BA)(lk:List Lz):Prop where
  S2:Kd.S kHz 43 wc w0.heap.size (okS ok v3 v4) v2 hs
  R3:Kd.string.R 9 wc w0.heap.size ok v3 sn
  R4:kLz.R 83 wc w0.heap.size ok v4 lk
  B:Below w0.heap.size w0 wc
  K:Kept w wc ok
  le:w0.heap.size≤w.heap.size
theorem Rw.below (h:Rw w0 w wc ok v2 v3 v4 hs sn lk)(hb:Below wc.heap.size wc wd):Rw w0 w wd ok v2 v3 v4 hs sn lk:=
  ⟨Kd.S_below h.S2 hb,Kd.R_below h.R3 hb,Kd.R_below h.R4 hb,h.B.trans (hb.mono (nT_ h.le h.K.1)),h.K.below hb,h.le⟩
theorem Rw.here (h:Rw w0 w wc ok v2 v3 v4 hs sn lk):Rw w0 wc wc ok v2 v3 v4 hs sn lk:=⟨h.S2,h.R3,h.R4,h.B,Kept.refl _ _,nT_ h.le h.K.1⟩
theorem Rw.then_ {v2' v3' v4':Value}{hs':List Hz}{sn':List BA}{lk':List Lz}(h:Rw w0 w wc ok v2 v3 v4 hs sn lk)(h2:Rw w0 wc wd ok v2' v3' v4' hs' sn' lk'):Rw w0 w wd ok v2' v3' v4' hs' sn' lk':=
  ⟨h2.S2,h2.R3,h2.R4,h2.B,h.K.then_ h2.K (fun k hk=>.inl hk),h.le⟩
theorem Rw.start {wk:World}(h:Rw w0 w w ok v2 v3 v4 hs sn lk)(hb:Below w.heap.size w wk)(hT:w.heap.size≤T)(hx:wk.heap[T]?=some (.cells cs ty (0,0))):Tr w0 wk wk T ty (okN w wk ok) cs v2 v3 v4 hs sn lk:=
  ⟨Kd.S_below (Kd.S_mono (Kd.S_bound h.S2) (fun k hk=>⟨⟨⟨hk.1.1.1,fun e=>by have:=hk.2.2.1;omega⟩,hk.1.1.2⟩,hk.1.2⟩)) hb,
   Kd.R_below (Kd.R_mono (Kd.R_bound h.R3) (fun k hk=>⟨hk.1,fun e=>by have:=hk.2.2.1;omega⟩)) hb,Kd.R_below (Kd.R_mono (Kd.R_bound h.R4) (fun k hk=>⟨hk.1,fun e=>by have:=hk.2.2.1;omega⟩)) hb,
   h.B.trans (hb.mono h.le),Kept.refl _ _,nT_ h.le hT,fun k hk e=>hk.2 (by rw[e];exact⟨hT,blk_lt hx⟩),hx⟩
theorem Rw.finish {wk:World}{v2' v3' v4':Value}{hs':List Hz}{sn':List BA}{lk':List Lz}(h:Rw w0 w w ok v2 v3 v4 hs sn lk)(hb:Below w.heap.size w wk)(hT:w.heap.size≤T)(h2:Tr w0 wk wd T ty (okN w wk ok) cs v2' v3' v4' hs' sn' lk'):Rw w0 w wd ok v2' v3' v4' hs' sn' lk':=
  ⟨Kd.S_mono h2.S2 (fun k hk=>⟨⟨hk.1.1.1,hk.1.2⟩,hk.2⟩),Kd.R_mono h2.R3 (fun k hk=>hk.1),Kd.R_mono h2.R4 (fun k hk=>hk.1),h2.B,(Kept.of_below hb _).then_ h2.K (fun k hk=>hk.elim (fun h=>.inl h.1) (fun h=>.inr (by rw[h];exact hT))),h.le⟩
theorem Rw.put (h:Rw w0 w wc ok v2 v3 v4 hs sn lk){b j:Nat}{u:Value}(hb:wc.heap[b]?=some (.cells cs 27 (0,0)))(hw:w.heap.size≤b):Rw w0 w (wc.setCell ⟨b,j,none⟩ u) ok v2 v3 v4 hs sn lk:=
  ⟨Kd.S_mono (Kd.S_far (p:=⟨b,j,none⟩) (Kd.S_types h.S2 hb (by decide)) (fun _ hk=>hk.2) u) (fun _ hk=>hk.1),Kd.R_mono (Kd.R_far (p:=⟨b,j,none⟩) (Kd.R_types h.R3 hb (by decide)) (fun _ hk=>hk.2) u) (fun _ hk=>hk.1),Kd.R_mono (Kd.R_far (p:=⟨b,j,none⟩) (Kd.R_types h.R4 hb (by decide)) (fun _ hk=>hk.2) u) (fun _ hk=>hk.1),h.B.setCell (p:=⟨b,j,none⟩) (nT_ h.le hw) u,h.K.setCell (.inr hw) u,h.le⟩
theorem Rw.put5 (h:Rw w0 w wc ok v2 v3 v4 hs sn lk){b:Nat}{a0 b0 c0 d0 e0:Value}(hb:wc.heap[b]?=some (.cells #[a0,b0,c0,d0,e0] 27 (0,0)))(hw:w.heap.size≤b)(a1 a2 a3 a4 a5:Value):Rw w0 w (((((wc.setCell ⟨b,0,none⟩ a1).setCell ⟨b,1,none⟩ a2).setCell ⟨b,2,none⟩ a3).setCell ⟨b,3,none⟩ a4).setCell ⟨b,4,none⟩ a5) ok v2 v3 v4 hs sn lk:=by
  have h0:=blk_put (cs':=#[a1,b0,c0,d0,e0]) hb 0 a1 rfl;have h1:=blk_put (cs':=#[a1,a2,c0,d0,e0]) h0 1 a2 rfl;have h2:=blk_put (cs':=#[a1,a2,a3,d0,e0]) h1 2 a3 rfl;have h3:=blk_put (cs':=#[a1,a2,a3,a4,e0]) h2 3 a4 rfl;exact((((h.put hb hw).put h0 hw).put h1 hw).put h2 hw).put h3 hw
end
def tnIdx (n:BA):List Hz→Nat
  | []=>0
  |h::r=>if h.f0=n then 0 else tnIdx n r+1
def tnNew (nm n:BA):Hz:=⟨n,0,false,⟨[nm],[],0⟩,0,[]⟩
def tnHouse (nm n:BA)(l:List Hz):List Hz:=if tnIdx n l<l.length then l else l++[tnNew nm n]
def hzTodo (q:Hz)(a:BA):Hz:=⟨q.f0,q.f1,q.f2,q.f3,q.f4,q.f5++[⟨a,0⟩]⟩
def tnAdd (nm n a:BA)(l:List Hz):List Hz:=(tnHouse nm n l).set (tnIdx n l) (hzTodo (hzAt (tnHouse nm n l) (tnIdx n l)) a)
theorem tnIdx_le (n:BA):∀l,tnIdx n l≤l.length
  | []=>lL_ _
  |h::r=>by
    unfold tnIdx
    split
    · omega
    · have:=tnIdx_le n r
      simp;omega
theorem tnIdx_lt (nm n:BA)(l:List Hz):tnIdx n l<(tnHouse nm n l).length:=by
  unfold tnHouse
  split
  · assumption
  · have:=tnIdx_le n l
    simp;omega
theorem tnHouse_len (nm n:BA)(l:List Hz):(tnHouse nm n l).length≤l.length+1:=by
  unfold tnHouse
  split
  · omega
  · simp
theorem put5 {w:World}{g:Nat}{t:TypeId}{a0 b0 c0 d0 e0:Value}(h:w.heap[g]?=some (.cells #[a0,b0,c0,d0,e0] t (0,0)))(a b c d e:Value):(((((w.setCell ⟨g,0,none⟩ a).setCell ⟨g,1,none⟩ b).setCell ⟨g,2,none⟩ c).setCell ⟨g,3,none⟩ d).setCell ⟨g,4,none⟩ e).heap[g]?=some (.cells #[a,b,c,d,e] t (0,0)):=
  blk_put (cs:=#[a,b,c,d,e0]) (blk_put (cs:=#[a,b,c,d0,e0]) (blk_put (cs:=#[a,b,c0,d0,e0]) (blk_put (cs:=#[a,b0,c0,d0,e0]) (blk_put (cs:=#[a0,b0,c0,d0,e0]) h 0 a rfl) 1 b rfl) 2 c rfl) 3 d rfl) 4 e rfl
theorem set5_below {w w1:World}{g:Nat}(h:Below w.heap.size w w1)(hg:w.heap.size≤g)(a b c d e:Value):Below w.heap.size w (((((w1.setCell ⟨g,0,none⟩ a).setCell ⟨g,1,none⟩ b).setCell ⟨g,2,none⟩ c).setCell ⟨g,3,none⟩ d).setCell ⟨g,4,none⟩ e):=
  below_set (below_set (below_set (below_set (below_set h hg) hg) hg) hg) hg
theorem cells5 {w:World}{g t:Nat}{a b c d e:Value}(h:w.heap[g]?=some (.cells #[a,b,c,d,e] t (0,0))):w.cell? ⟨g,0,none⟩=some a∧w.cell? ⟨g,1,none⟩=some b∧w.cell? ⟨g,2,none⟩=some c∧w.cell? ⟨g,3,none⟩=some d∧w.cell? ⟨g,4,none⟩=some e:=
  ⟨(blk_cell h 0).trans rfl,(blk_cell h 1).trans rfl,(blk_cell h 2).trans rfl,(blk_cell h 3).trans rfl,(blk_cell h 4).trans rfl⟩
theorem set5_blk {w:World}{g b:Nat}{o:Obj}(h:w.heap[b]?=some o)(hne:b≠g)(a1 a2 a3 a4 a5:Value):(((((w.setCell ⟨g,0,none⟩ a1).setCell ⟨g,1,none⟩ a2).setCell ⟨g,2,none⟩ a3).setCell ⟨g,3,none⟩ a4).setCell ⟨g,4,none⟩ a5).heap[b]?=some o:=by
  have e:∀(w:World)(j:Nat)(u:Value),w.heap[b]?=some o→(w.setCell ⟨g,j,none⟩ u).heap[b]?=some o:=fun w j u h=>(Below.heap_setCell w ⟨g,j,none⟩ u b hne).trans h
  exact e _ _ _ (e _ _ _ (e _ _ _ (e _ _ _ (e _ _ _ h))))
theorem put4 {w:World}{g:Nat}{t:TypeId}{a0 b0 c0 d0:Value}(h:w.heap[g]?=some (.cells #[a0,b0,c0,d0] t (0,0)))(a b c d:Value):((((w.setCell ⟨g,0,none⟩ a).setCell ⟨g,1,none⟩ b).setCell ⟨g,2,none⟩ c).setCell ⟨g,3,none⟩ d).heap[g]?=some (.cells #[a,b,c,d] t (0,0)):=
  blk_put (cs:=#[a,b,c,d0]) (blk_put (cs:=#[a,b,c0,d0]) (blk_put (cs:=#[a,b0,c0,d0]) (blk_put (cs:=#[a0,b0,c0,d0]) h 0 a rfl) 1 b rfl) 2 c rfl) 3 d rfl
theorem set4_below {w w1:World}{g:Nat}(h:Below w.heap.size w w1)(hg:w.heap.size≤g)(a b c d:Value):Below w.heap.size w ((((w1.setCell ⟨g,0,none⟩ a).setCell ⟨g,1,none⟩ b).setCell ⟨g,2,none⟩ c).setCell ⟨g,3,none⟩ d):=
  below_set (below_set (below_set (below_set h hg) hg) hg) hg
theorem infoSI1:(Tryz.prog.info? 41).map (·.size)=some 1:=by kernel_rfl
theorem infoIt:(Tryz.prog.info? 76).map (fun i=>(i.zero,i.size,i.bytes))=some (some (.agg #[.string ⟨#[]⟩,.int .i64 0]),2,24):=by kernel_rfl
theorem infoSt:(Tryz.prog.info? 9).map (fun i=>(i.zero,i.size,i.bytes))=some (some (.string ⟨#[]⟩),1,16):=by kernel_rfl
end Go.Proofs.YtalfefmnlnkcaaaGreatDoor.P
end
section
namespace Go.Proofs.YtalfefmnlnkcaaaGreatDoor.P
open Go.RowKit Go.Proofs.YtalfefmnlnkcaaaGreatDoorW PrintWords PrintLast PrintMore
theorem row_at {w:World}{A:Option Addr}{xs:List BA}(h:Kd.C Kd.string w A xs.length xs)(hn:0<xs.length):
  ∃bk o,A=some ⟨bk,o,none⟩∧bk<w.heap.size∧∀(j:Nat) x,xs[j]?=some x→w.cell? ⟨bk,o+j,none⟩=some (.string x):=by
 obtain⟨_,_,h3⟩:=h;obtain⟨ad,rfl,hc⟩:=h3 hn;have cells:∀(j:Nat) x,xs[j]?=some x→w.cell? (ad.add j)=some (.string x):=by
  intro j x hx;obtain⟨c,hl,hk,hcell⟩:=hc j x hx;have hk':c=[Value.string x]:=hk;subst hk';have:=hcell 0 (.string x) rfl;rw[show j*Kd.string.sz+0=j from by show j*1+0=j;omega]at this;exact this
 have h0:=cells 0 xs[0] (gE_ hn);obtain⟨bk,o,sp⟩:=ad;have h0':w.cell? ⟨bk,o,sp⟩=some (.string xs[0]):=h0;have hsp:sp=none:=by
  cases sp with
  |none=>rfl
  |some y=>
   unfold World.cell? at h0';simp at h0'
   split at h0' <;> simp at h0'
 subst hsp;refine⟨bk,o,rfl,?_,fun j x hx=>?_⟩
 ·rcases Nat.lt_or_ge bk w.heap.size with h|h
  ·exact h
  ·unfold World.cell? at h0'
   simp[Array.getElem?_eq_none h]at h0'
 ·have:=cells j x hx
  unfold Addr.add at this
  split at this
  ·rename_i hj;subst hj;exact this
  ·exact this
end Go.Proofs.YtalfefmnlnkcaaaGreatDoor.P
end
section
namespace Go.Proofs.YtalfefmnlnkcaaaGreatDoor.P
open Go.RowKit Go.Proofs.YtalfefmnlnkcaaaGreatDoorW PrintWords PrintLast PrintMore
set_option maxHeartbeats 8000000
set_option maxRecDepth 100000
def hexS:BA:=⟨#[48,49,50,51,52,53,54,55,56,57,65,66,67,68,69,70]⟩
def figAt (k:Nat):Nat:=if k<10 then 48+k else 55+k
def figI (b:Int):Int×Bool:=if 48≤b∧b≤57 then(b-48,true)else if 65≤b∧b≤70 then(b-55,true)else(0,false)
def impl_figureValue.f (a0:Int):Option (Int×Bool):=if 0≤a0∧a0<256 then some (figI (if 97≤a0∧a0≤102 then a0-32 else a0))else none
theorem hex_at:∀k:Nat,k<16→hexS.size=16∧∃h:k<hexS.size,(hexS[k]'h).toNat=figAt k:=by decide +kernel
theorem fig_hit {k:Nat}{b:Int}(hk:k<16)(h:(figAt k:Int)=b):figI b=((k:Int),true):=by
 unfold figAt at h;unfold figI
 split at h
 ·rw[if_pos (by omega)];congr 1;omega
 ·rw[if_neg (by omega),if_pos (by omega)];congr 1;omega
theorem fig_miss {b:Int}(h:∀j:Nat,j<16→(figAt j:Int)≠b):figI b=(0,false):=by
 unfold figI
 split
 ·rename_i hh
  exact absurd (by unfold figAt;rw[if_pos (by omega)];omega) (h (b-48).toNat (by omega))
 ·split
  ·rename_i hh
   exact absurd (by unfold figAt;rw[if_neg (by omega)];omega) (h (b-55).toNat (by omega))
  ·rfl
theorem impl_figureValue.calls (a0:Int)(r0:Int)(r1:Bool)(w:World)(h:impl_figureValue.f a0=some (r0,r1)):
  Calls Tryz.prog 140 #[.int .u8 a0] w fun e w'=>e=.returned (.tuple #[.int .i64 r0,.bool r1])∧Below w.heap.size w w':=by
 unfold impl_figureValue.f at h
 split at h
 case isFalse=>cases h
 rename_i hh;have h:=sI h;obtain⟨b,hb⟩:∃b,b=(if 97≤a0∧a0≤102 then a0-32 else a0):=⟨_,rfl⟩;rw[←hb]at h;by_cases h1:97≤a0
 ·by_cases h2:a0≤102
  ·rw[if_pos ⟨h1,h2⟩]at hb
   go_enter Tryz.func140,Tryz.ntmps140;go_wp2
   go_loopw [4] (fun n w'=>∃k:Nat,k≤16∧w'=w.iter hexS k∧∀j:Nat,j<k→(figAt j:Int)≠(a0-32)) (fun _ w'=>16-w'.iterPos w.heap.size)
   case atStart=>exact⟨0,by omega,rfl,fun j hj=>absurd hj (by omega)⟩
   case round=>
    obtain⟨k,hk,rfl,hne⟩:=hrel;have hbel:∀p,Below w.heap.size w (w.iter hexS p):=fun p=>(Below.refl _ _).alloc (lL_ _) _
    by_cases hlt:k<16
    ·obtain⟨hsz,hx,hf⟩:=hex_at k hlt
     have hnx:∀ty,(Instr.next (.pointer (some ⟨w.heap.size,0,none⟩)) true ty).run Tryz.prog (w.iter hexS k)=.ok (.tuple #[.bool true,.int .i64 k,.int .i32 (figAt k:Nat)]) (w.iter hexS (k+1)):=fun ty=>by
      have hfl:figAt k<128:=by unfold figAt;split <;> omega
      rw[←hf];exact run_next_ascii w hexS k ty hx (by rw[hf];exact hfl)
     by_cases he:(figAt k:Int)=(a0-32)
     ·have hr:=fig_hit hlt he
      rw[←hb,h,pI_]at hr;obtain⟨rfl,rfl⟩:=hr;go_wp2
      go_ret2
      exact⟨rfl,hbel _⟩
     ·go_wp2
      refine⟨⟨k+1,by omega,rfl,fun j hj=>?_⟩,by simp;omega⟩;by_cases e:j=k
      ·subst e;exact he
      ·exact hne j (by omega)
    ·obtain rfl:k=16:=by omega
     have hr:=fig_miss hne;rw[←hb,h,pI_]at hr;obtain⟨rfl,rfl⟩:=hr;have hnx:∀ty,(Instr.next (.pointer (some ⟨w.heap.size,0,none⟩)) true ty).run Tryz.prog (w.iter hexS 16)=_:=fun ty=>run_next_end w hexS 16 ty (by decide)
     go_wp2
     go_ret2
     exact⟨rfl,hbel _⟩
  ·rw[if_neg (fun e=>h2 e.2)]at hb
   go_enter Tryz.func140,Tryz.ntmps140;go_wp2
   go_loopw [4] (fun n w'=>∃k:Nat,k≤16∧w'=w.iter hexS k∧∀j:Nat,j<k→(figAt j:Int)≠a0) (fun _ w'=>16-w'.iterPos w.heap.size)
   case atStart=>exact⟨0,by omega,rfl,fun j hj=>absurd hj (by omega)⟩
   case round=>
    obtain⟨k,hk,rfl,hne⟩:=hrel;have hbel:∀p,Below w.heap.size w (w.iter hexS p):=fun p=>(Below.refl _ _).alloc (lL_ _) _
    by_cases hlt:k<16
    ·obtain⟨hsz,hx,hf⟩:=hex_at k hlt
     have hnx:∀ty,(Instr.next (.pointer (some ⟨w.heap.size,0,none⟩)) true ty).run Tryz.prog (w.iter hexS k)=.ok (.tuple #[.bool true,.int .i64 k,.int .i32 (figAt k:Nat)]) (w.iter hexS (k+1)):=fun ty=>by
      have hfl:figAt k<128:=by unfold figAt;split <;> omega
      rw[←hf];exact run_next_ascii w hexS k ty hx (by rw[hf];exact hfl)
     by_cases he:(figAt k:Int)=a0
     ·have hr:=fig_hit hlt he
      rw[←hb,h,pI_]at hr;obtain⟨rfl,rfl⟩:=hr;go_wp2
      go_ret2
      exact⟨rfl,hbel _⟩
     ·go_wp2
      refine⟨⟨k+1,by omega,rfl,fun j hj=>?_⟩,by simp;omega⟩;by_cases e:j=k
      ·subst e;exact he
      ·exact hne j (by omega)
    ·obtain rfl:k=16:=by omega
     have hr:=fig_miss hne;rw[←hb,h,pI_]at hr;obtain⟨rfl,rfl⟩:=hr;have hnx:∀ty,(Instr.next (.pointer (some ⟨w.heap.size,0,none⟩)) true ty).run Tryz.prog (w.iter hexS 16)=_:=fun ty=>run_next_end w hexS 16 ty (by decide)
     go_wp2
     go_ret2
     exact⟨rfl,hbel _⟩
 ·rw[if_neg (fun e=>h1 e.1)]at hb
  go_enter Tryz.func140,Tryz.ntmps140;go_wp2
  go_loopw [4] (fun n w'=>∃k:Nat,k≤16∧w'=w.iter hexS k∧∀j:Nat,j<k→(figAt j:Int)≠a0) (fun _ w'=>16-w'.iterPos w.heap.size)
  case atStart=>exact⟨0,by omega,rfl,fun j hj=>absurd hj (by omega)⟩
  case round=>
   obtain⟨k,hk,rfl,hne⟩:=hrel;have hbel:∀p,Below w.heap.size w (w.iter hexS p):=fun p=>(Below.refl _ _).alloc (lL_ _) _
   by_cases hlt:k<16
   ·obtain⟨hsz,hx,hf⟩:=hex_at k hlt
    have hnx:∀ty,(Instr.next (.pointer (some ⟨w.heap.size,0,none⟩)) true ty).run Tryz.prog (w.iter hexS k)=.ok (.tuple #[.bool true,.int .i64 k,.int .i32 (figAt k:Nat)]) (w.iter hexS (k+1)):=fun ty=>by
     have hfl:figAt k<128:=by unfold figAt;split <;> omega
     rw[←hf];exact run_next_ascii w hexS k ty hx (by rw[hf];exact hfl)
    by_cases he:(figAt k:Int)=a0
    ·have hr:=fig_hit hlt he
     rw[←hb,h,pI_]at hr;obtain⟨rfl,rfl⟩:=hr;go_wp2
     go_ret2
     exact⟨rfl,hbel _⟩
    ·go_wp2
     refine⟨⟨k+1,by omega,rfl,fun j hj=>?_⟩,by simp;omega⟩;by_cases e:j=k
     ·subst e;exact he
     ·exact hne j (by omega)
   ·obtain rfl:k=16:=by omega
    have hr:=fig_miss hne;rw[←hb,h,pI_]at hr;obtain⟨rfl,rfl⟩:=hr;have hnx:∀ty,(Instr.next (.pointer (some ⟨w.heap.size,0,none⟩)) true ty).run Tryz.prog (w.iter hexS 16)=_:=fun ty=>run_next_end w hexS 16 ty (by decide)
    go_wp2
    go_ret2
    exact⟨rfl,hbel _⟩
end Go.Proofs.YtalfefmnlnkcaaaGreatDoor.P
end
section
namespace Go.Proofs.YtalfefmnlnkcaaaGreatDoor.P
open Go.RowKit Go.Proofs.YtalfefmnlnkcaaaGreatDoorW PrintWords PrintLast PrintMore
def mhOne (m m2:Int)(t:BA)(ns:List BA)(rs:List S98)(is:List S76):Hz:=⟨t,wrap64 (m+1),(Int.tmod (wrap64 (wrap64 (m+1)+1)) 3==0),⟨ns,rs,m2⟩,wrap64 (m2+1),is⟩
def mhLoop (k:Nat):List Hz→Int→Option (Int×List Hz)
  | [],m=>some (m,[])
  |h::r,m=>(laws_markText.f k m).bind fun t=>(laws_markStringS.f k h.f3.f0 (wrap64 (wrap64 (wrap64 (m+1)+1)+1))).bind fun a=>(laws_markRuleS.f k h.f3.f1 a.1).bind fun b=>(laws_markItemS.f k h.f5 (wrap64 (wrap64 (b.1+1)+1))).bind fun c=>(mhLoop k r c.1).bind fun d=>some (d.1,mhOne m b.1 t a.2 b.2 c.2::d.2)
def laws_markHouseS.f (k:Nat)(l0:List Hz)(a1:Int):Option (Int×List Hz):=if l0.length≤1000000000 then mhLoop k l0 a1 else none
set_option maxHeartbeats 8000000 in
set_option maxRecDepth 100000 in
theorem laws_markHouseS.calls (k:Nat)(ok:Nat→Prop)(u:Value)(l0:List Hz)(a1:Int)(r1:Int)(r2:List Hz)(w0 w:World)(hS:Kd.S kHz 43 w w0.heap.size ok u l0)(hB:Below w0.heap.size w0 w)(h:laws_markHouseS.f k l0 a1=some (r1,r2)):
    Calls Tryz.prog 27 #[u,.int .i64 a1] w fun e w'=>e=.returned (.int .i64 r1)∧Kd.S kHz 43 w' w0.heap.size ok u r2∧Below w0.heap.size w0 w'∧Kept w w' ok:=by
  obtain⟨A,cc,hu⟩:=Kd.S_slice hS;unfold laws_markHouseS.f at h
  split at h
  case isFalse=>cases h
  rename_i hbig;obtain⟨n,hn⟩:∃n,l0.length=n:=⟨_,rfl⟩;rw[hn]at hu hbig;subst hu;have HS:=A_ hS;have HB:=A_ hB;have H0:=A_ h;have HK:=A_ (Kept.refl w ok);clear hS hB h
  go_enter Tryz.func27,Tryz.ntmps27
  go_wp2
  go_loopg [1,5] n (fun g v1 v5 wx=>∃(i:Nat)(gs:List Hz)(m:Int),v1=.int .i64 m∧v5=.int .i64 i∧i+g=n∧gs.length=n∧Aside0 (∃d,mhLoop k (gs.drop i) m=some (r1,d)∧gs.take i++d=r2)∧Aside0 (Kd.S kHz 43 wx w0.heap.size ok (.slice A n cc) gs)∧Aside0 (Below w0.heap.size w0 wx)∧Aside0 (Kept w wx ok))
  case atStart=>exact⟨0,l0,a1,rfl,rfl,by omega,hn,⟨r2,by rw[List.drop_zero];exact H0.out,by rw[List.take_zero];rfl⟩,HS,HB,HK⟩
  case round=>
    clear H0 HS HB HK;obtain⟨i,gs,m,rfl,rfl,hig,hgn,H,HS,HB,HK⟩:=hrel;cases gk with
    |zero=>
      have c1b:decide ((i:Int)<(n:Int))=false:=decide_eq_false (by omega);have c1n:decide (i<n)=false:=decide_eq_false (by omega);obtain⟨d,hr,hd⟩:=H.out;rw[List.drop_of_length_le (by omega)]at hr;simp only[mhLoop,oI_,pI_]at hr;obtain⟨rfl,rfl⟩:=hr;rw[List.append_nil,List.take_of_length_le (by omega)]at hd;subst hd;clear H;go_wp2;go_ret;exact⟨rfl,HS.out,HB.out,HK.out⟩
    |succ g1=>
      have c1b:decide ((i:Int)<(n:Int))=true:=decide_eq_true (by omega);have c1n:decide (i<n)=true:=decide_eq_true (by omega);have p0:(0≤(i:Int))=True:=eq_true (by omega);have q0:((i:Int)<(n:Int))=True:=eq_true (by omega);have q1:(i<n)=True:=eq_true (by omega);have hgi:i<gs.length:=by omega
      obtain⟨dd,h1,hdd⟩:=H.out;rw[dE_ hgi]at h1;obtain⟨P,hP⟩:∃P,gs.take i=P:=⟨_,rfl⟩;rw[hP]at hdd;obtain⟨R,hR⟩:∃R,gs.drop (i+1)=R:=⟨_,rfl⟩;obtain⟨q,hq⟩:∃q,gs[i]=q:=⟨_,rfl⟩;rw[hR,hq]at h1;simp only[mhLoop]at h1;obtain⟨t,A1,h2⟩:=oE_.mp h1;obtain⟨⟨m1,ns⟩,A2,h3⟩:=oE_.mp h2;obtain⟨⟨m2,rs⟩,A3,h4⟩:=oE_.mp h3;obtain⟨⟨m3,is⟩,A4,h5⟩:=oE_.mp h4;obtain⟨⟨m4,d4⟩,A5,h6⟩:=oE_.mp h5;obtain⟨rfl,rfl⟩:=Prod.mk.inj (oJ_ h6);have HA1:=A_ A1;have HA2:=A_ A2;have HA3:=A_ A3;have HA4:=A_ A4;have H':=A_ A5;have HD:=A_ hdd;clear H h1 h2 h3 h4 h5 h6 A1 A2 A3 A4 A5 hdd;obtain⟨g,cap,eu,_,_,_⟩:=Kd.S_form HS.out (by omega);rw[hgn]at eu;injection eu with eu1 eu2 eu3;subst eu1;subst eu3;clear eu2;have HX:=A_ (show At w0 w wr ok g n cc i P R q from⟨gs,HS.out,HB.out,HK.out,hgn,by omega,hP,hR,by unfold hzAt;rw[gD_,gE_ hgi,hq];rfl⟩);clear HS HB HK hP hR hq hgn
      go_wp2_with (first
        | (go_at_call 26;
           (with_reducible refine(laws_markText.calls k m t _ HA1.out).mono ?_)
           rintro e w5 ⟨rfl,hb5⟩;replace HX:=A_ (HX.out.below hb5);clear hb5)
        | ((with_reducible refine gate_store (t:=9) (p:=17) rfl ?_)
           refine HX.out.put rfl rfl 9 (.tmp 17) (.tmp 15) rfl 0 ⟨t,q.f1,q.f2,q.f3,q.f4,q.f5⟩ (.string t) rfl rfl rfl infoS1 rfl (by decide) (fun oki v3 v4 v7 g3 g4 g7=>k43_mkM _ _ _ ⟨t,q.f1,q.f2,q.f3,q.f4,q.f5⟩ g3 g4 g7) ?_;intro w6 hx;replace HX:=A_ hx;clear hx
           skip)
        | ((with_reducible refine gate_store (t:=3) (p:=24) rfl ?_)
           refine HX.out.put rfl rfl 3 (.tmp 24) (.tmp 22) rfl 1 ⟨t,wrap64 (m+1),q.f2,q.f3,q.f4,q.f5⟩ (.int .i64 (wrap64 (m+1))) rfl rfl rfl infoI1 rfl (by decide) (fun oki v3 v4 v7 g3 g4 g7=>k43_mkM _ _ _ ⟨t,wrap64 (m+1),q.f2,q.f3,q.f4,q.f5⟩ g3 g4 g7) ?_;intro w6 hx;replace HX:=A_ hx;clear hx
           skip)
        | ((with_reducible refine gate_store (t:=4) (p:=33) rfl ?_)
           refine HX.out.put rfl rfl 4 (.tmp 33) (.tmp 31) rfl 2 ⟨t,wrap64 (m+1),(Int.tmod (wrap64 (wrap64 (m+1)+1)) 3==0),q.f3,q.f4,q.f5⟩ (.bool (Int.tmod (wrap64 (wrap64 (m+1)+1)) 3==0)) rfl rfl rfl infoB1 rfl (by decide) (fun oki v3 v4 v7 g3 g4 g7=>k43_mkM _ _ _ ⟨t,wrap64 (m+1),(Int.tmod (wrap64 (wrap64 (m+1)+1)) 3==0),q.f3,q.f4,q.f5⟩ g3 g4 g7) ?_;intro w6 hx;replace HX:=A_ hx;clear hx;obtain⟨l1,v3,v4,v7,oki,hr,g3,g4,g7,hcc,hfr,hoki,hH⟩:=HX.out.lend;obtain⟨B3,b3,rfl⟩:=Kd.R_slice g3;obtain⟨B4,b4,rfl⟩:=Kd.R_slice g4;obtain⟨B7,b7,rfl⟩:=Kd.R_slice g7;have hxx:=hcc 3 _ rfl;have HR:=A_ hr;have G3:=A_ g3;have G4:=A_ g4;have G7:=A_ g7;have HO:=A_ hoki;have HH:=A_ hH;clear HX hr g3 g4 g7 hcc hfr hoki hH
           skip)
        | (go_at_call 11;
           (with_reducible refine(laws_markStringS.calls k (fun k_=>some k_=(Value.slice B3 q.f3.f0.length b3).ownBlock) (.slice B3 q.f3.f0.length b3) q.f3.f0 _ m1 ns w0 _ HR.out.B (Kd.R_tight rfl G3.out) HA2.out).mono ?_)
           rintro e w9 ⟨rfl,ho,hb,hk⟩;have HX:=A_ (HR.out.back (x':=⟨t,wrap64 (m+1),(Int.tmod (wrap64 (wrap64 (m+1)+1)) 3==0),⟨ns,q.f3.f1,q.f3.f2⟩,q.f4,q.f5⟩) HH.out HO.out hk (fun k hk2=>G3.out.1 k hk2.symm) hb (k43_mkM _ _ _ ⟨t,wrap64 (m+1),(Int.tmod (wrap64 (wrap64 (m+1)+1)) 3==0),⟨ns,q.f3.f1,q.f3.f2⟩,q.f4,q.f5⟩ (Kd.R_mono (Kd.R_tight rfl ho) (fun k hk2=>G3.out.1 k hk2.symm)) (Kd.R_mono (Kd.R_step (Kd.R_tight rfl G4.out) (fun k hk2 hlt=>hk.2 k hlt (fun e=>by obtain⟨cells,hc⟩:=Kd.R_typed G4.out k hk2.symm;exact Kd.R_ne G3.out hc (by decide) e))) (fun k hk2=>G4.out.1 k hk2.symm)) (Kd.R_mono (Kd.R_step (Kd.R_tight rfl G7.out) (fun k hk2 hlt=>hk.2 k hlt (fun e=>by obtain⟨cells,hc⟩:=Kd.R_typed G7.out k hk2.symm;exact Kd.R_ne G3.out hc (by decide) e))) (fun k hk2=>G7.out.1 k hk2.symm))));clear ho hb hk hxx HR G3 G4 G7 HO HH;obtain⟨l1,v3,v4,v7,oki,hr,g3,g4,g7,hcc,hfr,hoki,hH⟩:=HX.out.lend;obtain⟨B3,b3,rfl⟩:=Kd.R_slice g3;obtain⟨B4,b4,rfl⟩:=Kd.R_slice g4;obtain⟨B7,b7,rfl⟩:=Kd.R_slice g7;have hxx:=hcc 4 _ rfl;have HR:=A_ hr;have G3:=A_ g3;have G4:=A_ g4;have G7:=A_ g7;have HO:=A_ hoki;have HH:=A_ hH;clear HX hr g3 g4 g7 hcc hfr hoki hH
           skip)
        | (go_at_call 59;
           (with_reducible refine(laws_markRuleS.calls k (fun k_=>some k_=(Value.slice B4 q.f3.f1.length b4).ownBlock) (.slice B4 q.f3.f1.length b4) q.f3.f1 m1 m2 rs w0 _ HR.out.B (Kd.R_tight rfl G4.out) HA3.out).mono ?_)
           rintro e w9 ⟨rfl,ho,hb,hk⟩;have HX:=A_ (HR.out.back (x':=⟨t,wrap64 (m+1),(Int.tmod (wrap64 (wrap64 (m+1)+1)) 3==0),⟨ns,rs,q.f3.f2⟩,q.f4,q.f5⟩) HH.out HO.out hk (fun k hk2=>G4.out.1 k hk2.symm) hb (k43_mkM _ _ _ ⟨t,wrap64 (m+1),(Int.tmod (wrap64 (wrap64 (m+1)+1)) 3==0),⟨ns,rs,q.f3.f2⟩,q.f4,q.f5⟩ (Kd.R_mono (Kd.R_step (Kd.R_tight rfl G3.out) (fun k hk2 hlt=>hk.2 k hlt (fun e=>by obtain⟨cells,hc⟩:=Kd.R_typed G3.out k hk2.symm;exact Kd.R_ne G4.out hc (by decide) e))) (fun k hk2=>G3.out.1 k hk2.symm)) (Kd.R_mono (Kd.R_tight rfl ho) (fun k hk2=>G4.out.1 k hk2.symm)) (Kd.R_mono (Kd.R_step (Kd.R_tight rfl G7.out) (fun k hk2 hlt=>hk.2 k hlt (fun e=>by obtain⟨cells,hc⟩:=Kd.R_typed G7.out k hk2.symm;exact Kd.R_ne G4.out hc (by decide) e))) (fun k hk2=>G7.out.1 k hk2.symm))));clear ho hb hk hxx HR G3 G4 G7 HO HH
           skip)
        | ((with_reducible refine gate_store (t:=3) (p:=57) rfl ?_)
           refine HX.out.put rfl rfl 3 (.tmp 57) (.tmp 54) rfl 5 ⟨t,wrap64 (m+1),(Int.tmod (wrap64 (wrap64 (m+1)+1)) 3==0),⟨ns,rs,m2⟩,q.f4,q.f5⟩ (.int .i64 m2) rfl rfl rfl infoI1 rfl (by decide) (fun oki v3 v4 v7 g3 g4 g7=>k43_mkM _ _ _ ⟨t,wrap64 (m+1),(Int.tmod (wrap64 (wrap64 (m+1)+1)) 3==0),⟨ns,rs,m2⟩,q.f4,q.f5⟩ g3 g4 g7) ?_;intro w6 hx;replace HX:=A_ hx;clear hx
           skip)
        | ((with_reducible refine gate_store (t:=3) (p:=64) rfl ?_)
           refine HX.out.put rfl rfl 3 (.tmp 64) (.tmp 62) rfl 6 ⟨t,wrap64 (m+1),(Int.tmod (wrap64 (wrap64 (m+1)+1)) 3==0),⟨ns,rs,m2⟩,wrap64 (m2+1),q.f5⟩ (.int .i64 (wrap64 (m2+1))) rfl rfl rfl infoI1 rfl (by decide) (fun oki v3 v4 v7 g3 g4 g7=>k43_mkM _ _ _ ⟨t,wrap64 (m+1),(Int.tmod (wrap64 (wrap64 (m+1)+1)) 3==0),⟨ns,rs,m2⟩,wrap64 (m2+1),q.f5⟩ g3 g4 g7) ?_;intro w6 hx;replace HX:=A_ hx;clear hx;obtain⟨l1,v3,v4,v7,oki,hr,g3,g4,g7,hcc,hfr,hoki,hH⟩:=HX.out.lend;obtain⟨B3,b3,rfl⟩:=Kd.R_slice g3;obtain⟨B4,b4,rfl⟩:=Kd.R_slice g4;obtain⟨B7,b7,rfl⟩:=Kd.R_slice g7;have hxx:=hcc 7 _ rfl;have HR:=A_ hr;have G3:=A_ g3;have G4:=A_ g4;have G7:=A_ g7;have HO:=A_ hoki;have HH:=A_ hH;clear HX hr g3 g4 g7 hcc hfr hoki hH
           skip)
        | (go_at_call 60;
           (with_reducible refine(laws_markItemS.calls k (fun k_=>some k_=(Value.slice B7 q.f5.length b7).ownBlock) (.slice B7 q.f5.length b7) q.f5 _ m3 is w0 _ HR.out.B (Kd.R_tight rfl G7.out) HA4.out).mono ?_)
           rintro e w9 ⟨rfl,ho,hb,hk⟩;have HX:=A_ (HR.out.back (x':=⟨t,wrap64 (m+1),(Int.tmod (wrap64 (wrap64 (m+1)+1)) 3==0),⟨ns,rs,m2⟩,wrap64 (m2+1),is⟩) HH.out HO.out hk (fun k hk2=>G7.out.1 k hk2.symm) hb (k43_mkM _ _ _ ⟨t,wrap64 (m+1),(Int.tmod (wrap64 (wrap64 (m+1)+1)) 3==0),⟨ns,rs,m2⟩,wrap64 (m2+1),is⟩ (Kd.R_mono (Kd.R_step (Kd.R_tight rfl G3.out) (fun k hk2 hlt=>hk.2 k hlt (fun e=>by obtain⟨cells,hc⟩:=Kd.R_typed G3.out k hk2.symm;exact Kd.R_ne G7.out hc (by decide) e))) (fun k hk2=>G3.out.1 k hk2.symm)) (Kd.R_mono (Kd.R_step (Kd.R_tight rfl G4.out) (fun k hk2 hlt=>hk.2 k hlt (fun e=>by obtain⟨cells,hc⟩:=Kd.R_typed G4.out k hk2.symm;exact Kd.R_ne G7.out hc (by decide) e))) (fun k hk2=>G4.out.1 k hk2.symm)) (Kd.R_mono (Kd.R_tight rfl ho) (fun k hk2=>G7.out.1 k hk2.symm))));clear ho hb hk hxx HR G3 G4 G7 HO HH
           skip))
      obtain⟨l9,h9⟩:=HX.out;have H9:=A_ h9;clear h9 HX
      go_roundg g1
      case measure=>omega
      case rel=>
        have hlen:i<l9.length:=by rw[H9.out.len];omega
        have hat:l9[i]=mhOne m m2 t ns rs is:=by
          have:=H9.out.at_;unfold hzAt at this
          rwa [gD_,gE_ hlen]at this
        exact⟨i+1,l9,m3,rfl,by simp,by omega,H9.out.len,⟨d4,by rw[H9.out.rest];exact H'.out,by rw[List.take_succ_eq_append_getElem hlen,H9.out.pre,hat,List.append_assoc];exact HD.out⟩,⟨H9.out.S⟩,⟨H9.out.B⟩,⟨H9.out.K⟩⟩
def hhLoop (k:Nat):List Hz→Int→Option Int
 | [],m=>some m
 |h::r,m=>(laws_markText.f k m).bind fun t=>if h.f0=t∧h.f1=wrap64 (m+1)∧h.f2=(Int.tmod (wrap64 (wrap64 (m+1)+1)) 3==0)then
   (laws_heldStringS.f k h.f3.f0 (wrap64 (wrap64 (wrap64 (m+1)+1)+1))).bind fun a=>if 0≤a then(laws_heldRuleS.f k h.f3.f1 a).bind fun b=>if 0≤b∧h.f3.f2=b∧h.f4=wrap64 (b+1)then
    (laws_heldItemS.f k h.f5 (wrap64 (wrap64 (b+1)+1))).bind fun c=>if 0≤c then hhLoop k r c else none else none else none else none
def laws_heldHouseS.f (k:Nat)(l0:List Hz)(a1:Int):Option Int:=if l0.length≤1000000000 then hhLoop k l0 a1 else none
set_option maxHeartbeats 8000000 in
set_option maxRecDepth 100000 in
theorem laws_heldHouseS.calls (k:Nat)(A0:Option Addr)(c0:Nat)(l0:List Hz)(a1:Int)(r:Int)(w:World)(hr0:Kd.C kHz w A0 l0.length l0)(hc0:l0.length≤c0)(h:laws_heldHouseS.f k l0 a1=some r):
  Calls Tryz.prog 29 #[.slice A0 l0.length c0,.int .i64 a1] w fun e w'=>e=.returned (.int .i64 r)∧Below w.heap.size w w':=by
 have hu:=Tryz.underlying43;have hu2:=Tryz.underlying40;unfold laws_heldHouseS.f at h
 split at h
 case isFalse=>cases h
 rename_i hbig;have HB:=A_ (Below.refl w.heap.size w);have HR:=A_ hr0;have H0:=A_ h;clear h hr0 hc0
 go_enter Tryz.func29,Tryz.ntmps29
 go_wp2
 go_loopg [1,5] l0.length (fun g v1 v5 wx=>∃(i:Nat)(m:Int),v1=.int .i64 m∧v5=.int .i64 i∧i+g=l0.length∧Aside0 (hhLoop k (l0.drop i) m=some r)∧Aside0 (Below w.heap.size w wx))
 case atStart=>exact⟨0,a1,rfl,rfl,by omega,⟨by rw[List.drop_zero];exact H0.out⟩,HB⟩
 case round=>
  clear HB H0;obtain⟨i,m,rfl,rfl,hig,HA,HB⟩:=hrel;cases gk with
  |zero=>
   have hlt:decide ((i:Int)<(l0.length:Int))=false:=decide_eq_false (by omega);have hlt2:decide (i<l0.length)=false:=decide_eq_false (by omega);have ha:=HA.out;rw[List.drop_of_length_le (by omega)]at ha;obtain rfl:m=r:=by simpa [hhLoop]using ha
   clear ha HA;go_wp2;go_ret;exact⟨rfl,HB.out⟩
  |succ g1=>
   have hi:i<l0.length:=by omega
   have hlt:decide ((i:Int)<(l0.length:Int))=true:=decide_eq_true (by omega);have hlt2:decide (i<l0.length)=true:=decide_eq_true (by omega);obtain⟨ad,A3,c3,A4,c4,A7,c7,ea,hx0,hx1,hx2,hx3,hx4,hx5,hx6,hx7,hl3,hi3,hl4,hi4,hl7,hi7⟩:=at_T43 HR.out (i:Int) (by omega) (by omega);subst ea;have p0:(0≤(i:Int))=True:=eq_true (by omega);have q0:((i:Int)<(l0.length:Int))=True:=eq_true (by omega);have q1:(i<l0.length)=True:=eq_true (by omega);obtain⟨p,hp⟩:∃p,rd_T43 l0 (i:Int)=p:=⟨_,rfl⟩;have hpi:p=l0[i]:=by
    rw[←hp];simp[rd_T43,List.getD,gE_ hi]
   rw[hp]at hx0 hx1 hx2 hx3 hx4 hx5 hx6 hx7 hi3 hi4 hi7 hl3 hl4 hl7;have ha:=HA.out;rw[show l0.drop i=p::l0.drop (i+1) by rw[dE_ hi,hpi]]at ha;simp only[hhLoop]at ha;obtain⟨t,e1,ha⟩:=oE_.mp ha
   split at ha
   case isFalse=>cases ha
   rename_i c1;obtain⟨d0,d1,d2⟩:=c1;obtain⟨a,e2,ha⟩:=oE_.mp ha
   split at ha
   case isFalse=>cases ha
   rename_i a0;obtain⟨b,e3,ha⟩:=oE_.mp ha
   split at ha
   case isFalse=>cases ha
   rename_i c2;obtain⟨b0,d3,d4⟩:=c2;obtain⟨c,e4,ha⟩:=oE_.mp ha
   split at ha
   case isFalse=>cases ha
   rename_i cc0;simp only[tN_]at hx0 hx1 hx2 hx3 hx4 hx5 hx6 hx7;have f0:(p.f0.toList != t.toList)=false:=by rw[d0];simp
   have f0':(p.f0.toList==t.toList)=true:=by rw[d0];simp
   have f1':(p.f1==wrap64 (m+1))=true:=by rw[d1];simp
   have f3':(p.f3.f2==b)=true:=by rw[d3];simp
   have f4':(p.f4==wrap64 (b+1))=true:=by rw[d4];simp
   have f1:(p.f1 != wrap64 (m+1))=false:=by rw[d1];simp
   have f2:(p.f2 != (Int.tmod (wrap64 (wrap64 (m+1)+1)) 3==0))=false:=by rw[d2];simp
   have f2':decide (p.f2=(Int.tmod (wrap64 (wrap64 (m+1)+1)) 3==0))=true:=decide_eq_true d2;have f2'':(p.f2==(Int.tmod (wrap64 (wrap64 (m+1)+1)) 3==0))=true:=by rw[d2];simp
   have f3:(p.f3.f2 != b)=false:=by rw[d3];simp
   have f4:(p.f4 != wrap64 (b+1))=false:=by rw[d4];simp
   have n0:decide (a<0)=false:=decide_eq_false (by omega);have n1:decide (b<0)=false:=decide_eq_false (by omega);have n2:decide (c<0)=false:=decide_eq_false (by omega);have E1:=A_ e1;have E2:=A_ e2;have E3:=A_ e3;have E4:=A_ e4;have HA:=A_ ha;have X1:=A_ hx1;have X2:=A_ hx2;have X3:=A_ hx3;have X4:=A_ hx4;have X5:=A_ hx5;have X6:=A_ hx6;have X7:=A_ hx7;have I3:=A_ hi3;have I4:=A_ hi4;have I7:=A_ hi7;have J3:=A_ hl3;have J4:=A_ hl4;have J7:=A_ hl7;replace hx0:=(HB.out.cell (wb_ w _ hx0)).trans hx0;clear hx1 hx2 hx3 hx4 hx5 hx6 hx7 hi3 hi4 hi7 hl3 hl4 hl7 ha e1 e2 e3 e4 d0 d1 d2 d3 d4 hp hpi
   go_upto_region 4 with(fail)
   refine start_ (n:=8) (S:=fun w'=>w'.cell? (ad.add (i*8))=some (.string p.f0)∧True) (ds:=[]) #[false,false,false,false,false,false,false,false] (by kernel_rfl) rfl rfl ⟨hx0,trivial⟩ (fun hHeld=>?_);replace HB:=A_ (below_drew1 HB.out);clear hx0;generalize wr.drew=w3 at HB hHeld ⊢;refine rgP 0 (some 12) #[true,false,false,false,false,false,false,false] ?_;refine rgP 1 (some 13) #[true,true,false,false,false,false,false,false] ?_;refine rgP 2 (some 14) #[true,true,true,false,false,false,false,false] ?_;refine rgP 3 (some 15) #[true,true,true,true,false,false,false,false] ?_;refine rgT 4 (some 16) #[true,true,true,true,true,false,false,false] hHeld ?_;refine rgP 5 (some 17) #[true,true,true,true,true,true,false,false] ?_;refine one_ (i:=6) (N:=some 18) #[true,true,true,true,true,true,true,false] rfl rfl (by kernel_rfl) (by decide) (fun K hK=>?_);refine callv_ (f:=26) Tryz.func26 (by kernel_rfl) rfl #[.int .i64 m] (by rfl) rfl (.func 26) rfl rfl (by simp[Act.eval]) ?_;refine(laws_markText.calls k m t _ E1.out).mono ?_;rintro e w12 ⟨rfl,hb⟩;refine⟨_,rfl,?_⟩;have hq:=(hb.cell (wb_ _ _ hHeld.1)).trans hHeld.1;replace HB:=A_ (below_step HB.out hb);refine hK.out _ _ ⟨hq,trivial⟩ (fun hHeld=>?_);clear hK K hb hq;refine rgN 18 ?_;refine rgP 7 (some 19) #[true,true,true,true,true,true,true,true] ?_;refine done_ (by kernel_rfl) ?_;clear hHeld;have hx1:=(HB.out.cell (wb_ w _ X1.out)).trans X1.out;have hx2:=(HB.out.cell (wb_ w _ X2.out)).trans X2.out;have hx3:=(HB.out.cell (wb_ w _ X3.out)).trans X3.out
   go_wp2_with (first
    | (go_at_call 30;refine(laws_heldStringS.calls k A3 c3 p.f3.f0 _ a _ (Kd.C_below I3.out HB.out) J3.out E2.out).mono ?_;rintro e w13 ⟨rfl,hb⟩;replace HB:=A_ (below_step HB.out hb);clear hb hx1 hx2 hx3;have hx4:=(HB.out.cell (wb_ w _ X4.out)).trans X4.out)
    | (go_at_call 61;refine(laws_heldRuleS.calls k A4 c4 p.f3.f1 _ b _ (Kd.C_below I4.out HB.out) J4.out E3.out).mono ?_;rintro e w14 ⟨rfl,hb⟩;replace HB:=A_ (below_step HB.out hb);clear hb hx4;have hx5:=(HB.out.cell (wb_ w _ X5.out)).trans X5.out;have hx6:=(HB.out.cell (wb_ w _ X6.out)).trans X6.out;have hx7:=(HB.out.cell (wb_ w _ X7.out)).trans X7.out)
    | (go_at_call 62;refine(laws_heldItemS.calls k A7 c7 p.f5 _ c _ (Kd.C_below I7.out HB.out) J7.out E4.out).mono ?_;rintro e w15 ⟨rfl,hb⟩;replace HB:=A_ (below_step HB.out hb);clear hb hx5 hx6 hx7))
   go_roundg g1
   case measure=>omega
   case rel=>exact⟨i+1,c,rfl,by simp,by omega,HA,HB⟩
end Go.Proofs.YtalfefmnlnkcaaaGreatDoor.P
end
section
namespace Go.Proofs.YtalfefmnlnkcaaaGreatDoor.P
open Go.RowKit Go.Proofs.YtalfefmnlnkcaaaGreatDoorW PrintWords PrintLast PrintMore
attribute [local go_sem] max2_int min2_int max_two min_two max_three min_three max_four min_four
set_option maxHeartbeats 8000000
set_option maxRecDepth 100000
mutual
def spec_AddrOk.j0:Nat→Bool→BA→List BA→Bool→BA→Option (Bool)
 |0,_,_,_,_,_=>none
 |k+1,x29,x121000,x121001,x121002,x121003=>if x29=true then(some false)else(spec_AddrOk.l0 k 0 x121000 x121001 x121002 x121003)
def spec_AddrOk.l0:Nat→Int→BA→List BA→Bool→BA→Option (Bool)
 |0,_,_,_,_,_=>none
 |k+1,x3,x121000,x121001,x121002,x121003=>if x3<(x121001.length:Int)then(if 0≤x3 then((spec_l1Norm.f k (rdOf bE_ x121001 x3)).bind fun t124=>(if t124=true then(if(rdOf bE_ x121001 x3).toList=([]:List UInt8)then(some false)else(if(rdOf bE_ x121001 x3).toList=([46]:List UInt8)then(some false)else(if(rdOf bE_ x121001 x3).toList=([46,46]:List UInt8)then(some false)else(spec_AddrOk.l0 k (wrap64 (x3+1)) x121000 x121001 x121002 x121003))))else(some false)))else(none))else((spec_l1Text.f k x121000 x121001 x121002 x121003).bind fun t128=>(some (decide ((t128.size:Int)≤60))))
end
def spec_AddrOk.f (k:Nat)(a0_0:BA)(l0_1:List BA)(a0_2:Bool)(a0_3:BA):Option (Bool):=(spec_l1House.f k a0_0).bind fun t121=>(if t121=true then(if(l0_1.length:Int)>5 then(spec_AddrOk.j0 k true a0_0 l0_1 a0_2 a0_3)else((spec_l1Norm.f k a0_3).bind fun t122=>(if t122=true then(if a0_2=true then(spec_AddrOk.j0 k false a0_0 l0_1 a0_2 a0_3)else(spec_AddrOk.j0 k (a0_3.toList != ([]:List UInt8)) a0_0 l0_1 a0_2 a0_3))else(spec_AddrOk.j0 k true a0_0 l0_1 a0_2 a0_3))))else(spec_AddrOk.j0 k true a0_0 l0_1 a0_2 a0_3))
theorem spec_AddrOk.mono_l:∀k,(∀y0 y1 y2 y3 y4,LeO (spec_AddrOk.j0 k y0 y1 y2 y3 y4) (spec_AddrOk.j0 (k+1) y0 y1 y2 y3 y4))∧(∀y0 y1 y2 y3 y4,LeO (spec_AddrOk.l0 k y0 y1 y2 y3 y4) (spec_AddrOk.l0 (k+1) y0 y1 y2 y3 y4))
 |0=>by refine⟨?_,?_⟩ <;> (intros;intro r h;simp[spec_AddrOk.j0,spec_AddrOk.l0]at h)
 |k+1=>by
  obtain⟨ih0,ih1⟩:=spec_AddrOk.mono_l k;refine⟨?_,?_⟩ <;> intros <;> (first|unfold spec_AddrOk.j0|unfold spec_AddrOk.l0) <;>
  repeat' first|(with_reducible first|exact ih0 _ _ _ _ _|exact ih1 _ _ _ _ _|exact spec_l1House.mono _ _|exact spec_l1Norm.mono _ _|exact spec_l1Text.mono _ _ _ _ _|exact LeO.refl _|exact LeO.none _|refine LeO.ite ?_ ?_|refine LeO.bind ?_ (fun _=>?_))|exact LeO.none _|refine LeO.ite ?_ ?_|refine LeO.bind ?_ (fun _=>?_)
theorem spec_AddrOk.calls (k:Nat)(a0_0:BA)(A0_1:Option Addr)(c0_1:Nat)(l0_1:List BA)(a0_2:Bool)(a0_3:BA)(r:Bool)(w:World)(hr0_1:Kd.C Kd.string w A0_1 l0_1.length l0_1)(hc0_1:l0_1.length≤c0_1)(h:spec_AddrOk.f k a0_0 l0_1 a0_2 a0_3=some r):
  Calls Tryz.prog 71 #[.agg #[.string a0_0,.slice A0_1 l0_1.length c0_1,.bool a0_2,.string a0_3]] w fun e w'=>e=.returned (.bool r)∧Below w.heap.size w w':=by
 have hu70:=Tryz.underlying70;have HR0_1:=A_ hr0_1;have HC0_1:=A_ hc0_1;clear hr0_1 hc0_1;have HB:=A_ (Below.refl w.heap.size w);unfold spec_AddrOk.f at h;have H:=h;clear h;have HC2:=A_ H;clear H;go_enter Tryz.func71,Tryz.ntmps71;go_upto_region 1 with(first|((with_reducible refine gD (N:=1) rfl ?_);(try(refine gate_guard (by rfl) ?_;dsimp only));refine boxE 1 #[.string a0_0,.slice A0_1 l0_1.length c0_1,.bool a0_2,.string a0_3] 70 ?_;intro gb120 hg w3 hbox hb;have BK120:=A_ (hbox);have GE120:=geB hg (zz1 HB);replace HB:=A_ (bS (zz1 HB) hb);clear hb hbox hg))
 (try simp only[Act.put,lS_,l0_,lC_])
 go_cut [29] (fun v29 wc=>∃(kq:Nat)(x29_1:Bool),v29=.bool x29_1∧Aside0 (spec_AddrOk.j0 kq x29_1 a0_0 l0_1 a0_2 a0_3=some r)∧Aside0 (kq≤k)∧Aside0 (wc.heap[gb120]?=some (.cells #[.string a0_0,(.slice A0_1 l0_1.length c0_1),.bool a0_2,.string a0_3] 70 (0,0)))∧Aside0 (Below w.heap.size w wc))
 case first=>
  obtain⟨H⟩:=HC2;replace H:=bindA H;obtain⟨t121,A4,H⟩:=H;have HF5:=A_ H;clear H;obtain⟨_,_,_,_,_,_,_,_⟩:=cf4 BK120;go_wp2_with (first|(refine gR 85 (some 6) Tryz.func85 (spec_l1House.calls k a0_0 t121 _ A4.out) ?_;rintro w' ⟨nd,rfl⟩)|((with_reducible refine atG ?_ ?_ fun K_ hK_=>?_);rfl;exact undecG)|((with_reducible refine atI ?_ fun K_ hK_=>?_);exact undecI));refine unG hK_ ?_;clear hK_ K_;obtain⟨H⟩:=HF5;replace H:=iteB H;rcases H with⟨rfl,H⟩|⟨rfl,H⟩
  ·(first|refine iteT ?_|refine iteF ?_|skip)
   replace H:=iteE H;rcases H with⟨c8,H⟩|⟨c8,H⟩
   ·have c8b0:=gtT c8
    have c8b1:decide (5<l0_1.length)=true:=dT (by omega);clear c8;have H':=A_ H;clear H;obtain⟨_,_,_,_,_,_,_,_⟩:=cf4 BK120;go_wp2
    go_meet
    case rel=>exact⟨_,(true),zz2,H',⟨zz33⟩,⟨(zz36 BK120)⟩,⟨(zz37 HB GE120)⟩⟩
   ·have c8b0:=gtF c8
    have c8b1:decide (5<l0_1.length)=false:=dF (by omega);clear c8;replace H:=bindA H;obtain⟨t122,A10,H⟩:=H;have HF11:=A_ H;clear H;obtain⟨_,_,_,_,_,_,_,_⟩:=cf4 BK120;go_wp2_with (first|(go_at_call 86;(with_reducible refine(spec_l1Norm.calls k a0_3 t122 _ A10.out).mono ?_);rintro e w13 ⟨rfl,hb⟩;replace BK120:=A_ (bB (zz36 BK120) hb);replace HB:=A_ (bS (zz37 HB GE120) hb);(try clear hb))|((with_reducible refine atG ?_ ?_ fun K_ hK_=>?_);rfl;exact undecG)|((with_reducible refine atI ?_ fun K_ hK_=>?_);exact undecI));refine unG hK_ ?_;clear hK_ K_;obtain⟨H⟩:=HF11;replace H:=iteB H;rcases H with⟨rfl,H⟩|⟨rfl,H⟩
    ·(first|refine iteT ?_|refine iteF ?_|skip)
     replace H:=iteB H;rcases H with⟨rfl,H⟩|⟨rfl,H⟩
     ·have H':=A_ H
      clear H;obtain⟨_,_,_,_,_,_,_,_⟩:=cf4 BK120;go_wp2
      go_meet
      case rel=>exact⟨_,(false),zz2,H',⟨zz33⟩,⟨(zz36 BK120)⟩,⟨(zz37 HB GE120)⟩⟩
     ·have H':=A_ H
      clear H;obtain⟨_,_,_,_,_,_,_,_⟩:=cf4 BK120;go_wp2
      go_meet
      case rel=>exact⟨_,((a0_3.toList != ([]:List UInt8))),zz2,H',⟨zz33⟩,⟨(zz36 BK120)⟩,⟨(zz37 HB GE120)⟩⟩
    ·(first|refine iteT ?_|refine iteF ?_|skip)
     have H':=A_ H;clear H;(try((with_reducible refine upS ?_);go_simp));go_wp2
     go_meet
     case rel=>exact⟨_,(true),zz2,H',⟨zz33⟩,⟨(zz36 BK120)⟩,⟨(zz37 HB GE120)⟩⟩
  ·(first|refine iteT ?_|refine iteF ?_|skip)
   have H':=A_ H;clear H;(try((with_reducible refine upS ?_);go_simp));go_wp2
   go_meet
   case rel=>exact⟨_,(true),zz2,H',⟨zz33⟩,⟨(zz36 BK120)⟩,⟨(zz37 HB GE120)⟩⟩
 case rest=>
  clear HC2;obtain⟨kq,x29_1,rfl,HA,HJ1,BK120,HB⟩:=hcut;cases kq with
  |zero=>exact absurd HA.out (by simp[spec_AddrOk.j0])
  |succ kj1=>
   obtain⟨H⟩:=HA;simp only[spec_AddrOk.j0]at H;replace H:=iteB H;rcases H with⟨rfl,H⟩|⟨rfl,H⟩
   ·obtain rfl:=sI H
    go_wp2;go_ret;exact⟨zz0,(zz37 HB GE120)⟩
   ·have H':=A_ H
    clear H;go_wp2
    go_loopg [3] kj1 (fun kq v3 w'=>∃(x3_2:Int),v3=.int .i64 x3_2∧Aside0 (spec_AddrOk.l0 kq x3_2 a0_0 l0_1 a0_2 a0_3=some r)∧Aside0 (kq≤kj1)∧Aside0 (w'.heap[gb120]?=some (.cells #[.string a0_0,(.slice A0_1 l0_1.length c0_1),.bool a0_2,.string a0_3] 70 (0,0)))∧Aside0 (Below w.heap.size w w'))
    case atStart=>exact⟨(0),zz2,H',⟨lL_ _⟩,⟨(zz36 BK120)⟩,⟨(zz37 HB GE120)⟩⟩
    case round=>
     clear H';obtain⟨x3_2,rfl,HA,HK2,BK120,HB⟩:=hrel;cases gk with
     |zero=>exact absurd HA.out (by simp[spec_AddrOk.l0])
     |succ k2=>
      obtain⟨H⟩:=HA;simp only[spec_AddrOk.l0]at H;replace H:=iteEd H;rcases H with⟨c19b0,H⟩|⟨c19b0,H⟩
      ·replace H:=iteNd H
       obtain⟨c20b0,H⟩:=H;replace H:=bindA H;obtain⟨t124,A21,H⟩:=H;have HF22:=A_ H;clear H;obtain⟨_,_,_,_,_,_,_,_⟩:=cf4 BK120;obtain⟨⟨ad123,e123,hx123_0⟩,p123,q123⟩:=atB (Kd.at_string HR0_1.out x3_2);cases e123;replace hx123_0:=cbl HB hx123_0;go_wp2_with (first|(refine gR 86 (some 42) Tryz.func86 (spec_l1Norm.calls k2 (rdOf bE_ l0_1 x3_2) t124 _ A21.out) ?_;rintro w24 hb;replace BK120:=A_ (bB (zz36 BK120) hb);replace HB:=A_ (bS (zz37 HB GE120) hb);(try clear hb))|((with_reducible refine atG ?_ ?_ fun K_ hK_=>?_);rfl;exact undecG)|((with_reducible refine atI ?_ fun K_ hK_=>?_);exact undecI));refine unG hK_ ?_;clear hK_ K_;obtain⟨H⟩:=HF22;replace H:=iteB H;rcases H with⟨rfl,H⟩|⟨rfl,H⟩
       ·(first|refine iteT ?_|refine iteF ?_|skip)
        replace H:=iteEq H;rcases H with⟨c26b0,c26b1,H⟩|⟨c26b0,c26b1,c26,H⟩
        ·obtain rfl:=sI H
         obtain⟨_,_,_,_,_,_,_,_⟩:=cf4 BK120;obtain⟨⟨ad125,e125,hx125_0⟩,p125,q125⟩:=atB (Kd.at_string HR0_1.out x3_2);obtain rfl:ad123=ad125:=(by injection e125);replace hx125_0:=cbl HB hx125_0;go_wp2;go_ret;exact⟨zz0,(zz37 HB GE120)⟩
        ·replace H:=iteEq H
         rcases H with⟨c28b0,c28b1,H⟩|⟨c28b0,c28b1,c28,H⟩
         ·obtain rfl:=sI H
          obtain⟨_,_,_,_,_,_,_,_⟩:=cf4 BK120;obtain⟨⟨ad125,e125,hx125_0⟩,p125,q125⟩:=atB (Kd.at_string HR0_1.out x3_2);obtain rfl:ad123=ad125:=(by injection e125);replace hx125_0:=cbl HB hx125_0;obtain⟨⟨ad126,e126,hx126_0⟩,p126,q126⟩:=atB (Kd.at_string HR0_1.out x3_2);obtain rfl:ad123=ad126:=(by injection e126);replace hx126_0:=cbl HB hx126_0;go_wp2;go_ret;exact⟨zz0,(zz37 HB GE120)⟩
         ·replace H:=iteEq H
          rcases H with⟨c30b0,c30b1,H⟩|⟨c30b0,c30b1,c30,H⟩
          ·obtain rfl:=sI H
           obtain⟨_,_,_,_,_,_,_,_⟩:=cf4 BK120;obtain⟨⟨ad125,e125,hx125_0⟩,p125,q125⟩:=atB (Kd.at_string HR0_1.out x3_2);obtain rfl:ad123=ad125:=(by injection e125);replace hx125_0:=cbl HB hx125_0;obtain⟨⟨ad126,e126,hx126_0⟩,p126,q126⟩:=atB (Kd.at_string HR0_1.out x3_2);obtain rfl:ad123=ad126:=(by injection e126);replace hx126_0:=cbl HB hx126_0;obtain⟨⟨ad127,e127,hx127_0⟩,p127,q127⟩:=atB (Kd.at_string HR0_1.out x3_2);obtain rfl:ad123=ad127:=(by injection e127);replace hx127_0:=cbl HB hx127_0;go_wp2;go_ret;exact⟨zz0,(zz37 HB GE120)⟩
          ·have H':=A_ H
           clear H;obtain⟨_,_,_,_,_,_,_,_⟩:=cf4 BK120;obtain⟨⟨ad125,e125,hx125_0⟩,p125,q125⟩:=atB (Kd.at_string HR0_1.out x3_2);obtain rfl:ad123=ad125:=(by injection e125);replace hx125_0:=cbl HB hx125_0;obtain⟨⟨ad126,e126,hx126_0⟩,p126,q126⟩:=atB (Kd.at_string HR0_1.out x3_2);obtain rfl:ad123=ad126:=(by injection e126);replace hx126_0:=cbl HB hx126_0;obtain⟨⟨ad127,e127,hx127_0⟩,p127,q127⟩:=atB (Kd.at_string HR0_1.out x3_2);obtain rfl:ad123=ad127:=(by injection e127);replace hx127_0:=cbl HB hx127_0;go_wp2
           go_roundg k2
           case measure=>have:=HJ1.out;have:=HK2.out;omega
           case rel=>exact⟨(wrap64 (x3_2+1)),zz2,H',⟨(zz28 HJ1 HK2)⟩,⟨(zz36 BK120)⟩,⟨(zz37 HB GE120)⟩⟩
       ·(first|refine iteT ?_|refine iteF ?_|skip)
        obtain rfl:=sI H;(try((with_reducible refine upS ?_);go_simp));go_wp2;go_ret;exact⟨zz0,(zz37 HB GE120)⟩
      ·replace H:=bindA H
       obtain⟨t128,A33,H⟩:=H;obtain rfl:=sI H;obtain⟨_,_,_,_,_,_,_,_⟩:=cf4 BK120;go_wp2_with (first|(refine gR 72 (some 69) Tryz.func72 (spec_l1Text.calls k2 a0_0 _ _ l0_1 a0_2 a0_3 t128 _ ?side1 ?side2 A33.out) ?_;(case side1=>exact(zz63 HR0_1 HB));(case side2=>exact HC0_1.out);rintro w35 hb;replace BK120:=A_ (bB (zz36 BK120) hb);replace HB:=A_ (bS (zz37 HB GE120) hb);(try clear hb)));go_ret;exact⟨zz0,(zz37 HB GE120)⟩
def spec_l1Way.l0:Nat→BA→Bool→List BA→List BA→Int→BA→List BA→Bool→BA→Option (BA×List BA×Bool×BA×Bool)
 |0,_,_,_,_,_,_,_,_,_=>none
 |k+1,x6,x7,x8,x9,x10,x152000,x152001,x152002,x152003=>if x10<(x9.length:Int)then(if 0≤x10 then((spec_EscNorm.f k (rdOf bE_ x9 x10)).bind fun bt166=>(if bt166.2=true then(if x8.length<8796093022208 then(spec_l1Way.l0 k x6 x7 (x8++[bt166.1]) x9 (wrap64 (x10+1)) x152000 x152001 x152002 x152003)else(none))else(some ((⟨#[]⟩:BA),([]:List BA),false,(⟨#[]⟩:BA),false))))else(none))else((spec_EscNorm.f k x6).bind fun bt171=>((spec_PathClean.f k x8).bind fun t173=>(if bt171.2=true then((spec_AddrOk.f k x152000 t173 x7 bt171.1).bind fun t177=>(if t177=true then(some (x152000,t173,x7,bt171.1,true))else(some ((⟨#[]⟩:BA),([]:List BA),false,(⟨#[]⟩:BA),false))))else(some ((⟨#[]⟩:BA),([]:List BA),false,(⟨#[]⟩:BA),false)))))
def spec_l1Way.f (k:Nat)(a0_0:BA)(l0_1:List BA)(a0_2:Bool)(a0_3:BA)(a1:BA):Option (BA×List BA×Bool×BA×Bool):=(spec_l1Cut.f k a1 63).bind fun bt153=>((some (([]:List BA):List BA)).bind fun y156=>(if y156.length+l0_1.length<8796093022208 then((spec_l1Split.f k bt153.1 47).bind fun t162=>(spec_l1Way.l0 k bt153.2.1 bt153.2.2 (y156++l0_1) t162 0 a0_0 l0_1 a0_2 a0_3))else(none)))
def spec_l1Way.T12:Bool×List (List Nat×List Nat):=(true,[([],[]),([0],[0]),([],[]),([2],[2]),([],[]),([],[]),([1,3,4,5],[1,3,4,5]),([],[]),([7,6,3,0,1,2,3,4,5,6,7],[6,7])])
def spec_l1Way.B12:List Nat:=[0,1,0,4,0,0,63,0,255]
theorem spec_l1Way.tab12:rtab .any (opsOf Tryz.f83 12)=spec_l1Way.T12:=by kernel_rfl
theorem spec_l1Way.bits12:waitsOk spec_l1Way.T12.2 spec_l1Way.B12=true:=by kernel_rfl
theorem spec_l1Way.calls (k:Nat)(a0_0:BA)(A0_1:Option Addr)(c0_1:Nat)(l0_1:List BA)(a0_2:Bool)(a0_3:BA)(a1:BA)(r1:BA)(r2:List BA)(r3:Bool)(r4:BA)(r5:Bool)(w:World)(hr0_1:Kd.C Kd.string w A0_1 l0_1.length l0_1)(hc0_1:l0_1.length≤c0_1)(h:spec_l1Way.f k a0_0 l0_1 a0_2 a0_3 a1=some (r1,r2,r3,r4,r5)):
  Calls Tryz.prog 83 #[.agg #[.string a0_0,.slice A0_1 l0_1.length c0_1,.bool a0_2,.string a0_3],.string a1] w fun e w'=>∃v1_:Value,e=.returned (.tuple #[.agg #[.string r1,v1_,.bool r3,.string r4],.bool r5])∧Kd.R Kd.string 9 w' w.heap.size (fun _=>True) v1_ r2∧Below w.heap.size w w':=by
 have hu70:=Tryz.underlying70;have HR0_1:=A_ hr0_1;have HC0_1:=A_ hc0_1;clear hr0_1 hc0_1;have HB:=A_ (Below.refl w.heap.size w);unfold spec_l1Way.f at h;have H:=h;clear h;replace H:=bindA H;obtain⟨⟨t153,t154,t155⟩,A3,H⟩:=H;try dsimp only at H;obtain⟨y156,Ny156,H⟩:=bindY H;replace H:=iteE H;rcases H with⟨c4,H⟩|⟨c4,H⟩
 ·have LMc4:=A_ c4
  clear c4;obtain⟨y159,Ny159⟩:=toY (y156++l0_1);(first|with_reducible replace H:=bindZ Ny159 H|rw[←Ny159.out]at H|skip);replace H:=bindA H;obtain⟨t162,A5,H⟩:=H;have H':=A_ H;clear H;go_enter Tryz.func83,Tryz.ntmps83;go_wp2_with (first|(refine boxF 2 #[.string a0_0,.slice A0_1 l0_1.length c0_1,.bool a0_2,.string a0_3] 70 ?_;intro gb151 hg w6 BK151 hb;have GE151:=geB hg (zz1 HB);replace HB:=A_ (bS (zz1 HB) hb);clear hb hg)|(refine boxF 4 #[.string (⟨#[]⟩:BA),.slice none 0 0,.bool false,.string (⟨#[]⟩:BA)] 70 ?_;intro gb152 hg w7 BK152 hb;have GE152:=geB hg (zz37 HB GE151);replace HB:=A_ (bS (zz37 HB GE151) hb);have NB151_152:=A_ ((by rw[hg];exact Nat.ne_of_lt (blk_lt (zz36 BK151)):gb151≠gb152));have NB152_151:=A_ ((by rw[hg];exact Nat.ne_of_gt (blk_lt (zz36 BK151)):gb152≠gb151));replace BK151:=A_ (bB (zz36 BK151) hb);clear hb hg)|(refine gR 69 (some 18) Tryz.func69 (spec_l1Cut.calls k a1 63 t153 t154 t155 _ A3.out) ?_;rintro w' ⟨nd,rfl⟩)|((with_reducible refine gD (N:=22) rfl ?_);refine Kd.R_lit Kd.string _ 9 ?hg (N:=22) ?hd (xs:=([]:List BA)) (inner:=[]) (ok:=fun _=>True) (okp:=fun _=>True) ?hr ?hp (fun _ hk=>hk) trivial (Below.refl _ _) (lL_ _) (by simp) ?_;(case hd=>rfl);(case hg=>rfl);(case hr=>exact zz4);(case hp=>exact(Reps.none _ _));intro v157 w8 ho9 hb hg_ hnew_;clear hg_ hnew_;(first|rw[←Ny156.out]at ho9|(simp only[Int.reduceToNat]at ho9;rw[←Ny156.out]at ho9));have HO158:=A_ (Kd.R_lower ho9 (below_size (zz52 HB GE151 GE152)));replace BK151:=A_ (bB (zz36 BK151) hb);replace BK152:=A_ (bB (zz36 BK152) hb);replace HB:=A_ (bS (zz52 HB GE151 GE152) hb);clear hb ho9;have hnb10:=NB151_152.out;have hnc10:=NB152_151.out;obtain⟨_,_,_,_,_,_,_,_⟩:=cf4 BK151)|((with_reducible refine gate_builtin (b:=.append) (xs:=#[.tmp 22,.tmp 24]) rfl ?_);at_builtin;refine Kd.R_append_rows Kd.string (w0:=w) w.heap.size rfl (.tmp 22) (.tmp 24) 22 9 (.string ⟨#[]⟩) 16 rfl Tryz.underlying22 info9 rfl (by decide) (by omega) v157 y156 l0_1 _ _ _ (fun _=>True) (fun _=>False) rfl rfl ?aO ?aR (fun _ _ h=>h) (fun _ h=>h.elim) ?aF ?aB ?aS ?aL ?_;(case aR=>exact(zz63 HR0_1 HB));(case aB=>exact(zz52 HB GE151 GE152));(case aF=>exact(fun _ _=>trivial));(case aO=>exact(zz6 HO158));(case aS=>exact(below_size (zz52 HB GE151 GE152)));(case aL=>exact(zz5 LMc4));intro v160 w12 ho hb hg hat;rw[←Ny159.out]at ho;replace BK151:=A_ (blk_grown (zz36 BK151) hg (Kd.R_ne HO158.out BK151.out (by decide)));replace BK152:=A_ (blk_grown (zz36 BK152) hg (Kd.R_ne HO158.out BK152.out (by decide)));replace HB:=A_ (hb);have HO161:=A_ (ho);clear HO158;clear ho hb hg hat)|(refine gV 99 (some 27) Tryz.func99 (spec_l1Split.calls k t153 47 t162 _ A5.out) ?_;rintro v163 w13 ⟨ho0,hb⟩;have HO164:=A_ (Kd.R_lower (Kd.R_new' ho0 (Kd.R_lt (zz6 HO161))) (below_size (zz52 HB GE151 GE152)));replace HO161:=A_ (Kd.R_elder' (zz6 HO161) (Kd.R_base ho0) hb);replace BK151:=A_ (bB (zz36 BK151) hb);replace BK152:=A_ (bB (zz36 BK152) hb);replace HB:=A_ (bS (zz52 HB GE151 GE152) hb);(try clear hb ho0)))
  go_loopg [8,10] k (fun kq v8 v10 w'=>∃(x8_1:List BA)(x10_1:Int)(x153000_1:BA)(x153002_1:Bool)(x153003_1:BA),v10=.int .i64 x10_1∧Aside0 (spec_l1Way.l0 kq t154 t155 x8_1 t162 x10_1 a0_0 l0_1 a0_2 a0_3=some (r1,r2,r3,r4,r5))∧Aside0 (kq≤k)∧Aside0 (Kd.R Kd.string 9 w' w.heap.size (fun k_=>some k_≠(v163:Value).ownBlock) v8 x8_1)∧Aside0 (Kd.R Kd.string 9 w' w.heap.size (fun k_=>some k_≠(v8:Value).ownBlock) v163 t162)∧Aside0 (w'.heap[gb151]?=some (.cells #[.string a0_0,(.slice A0_1 l0_1.length c0_1),.bool a0_2,.string a0_3] 70 (0,0)))∧Aside0 (w'.heap[gb152]?=some (.cells #[.string x153000_1,(.slice none 0 0),.bool x153002_1,.string x153003_1] 70 (0,0)))∧Aside0 (Below w.heap.size w w'))
  case atStart=>exact⟨(y159),(0),((⟨#[]⟩:BA)),(false),((⟨#[]⟩:BA)),zz2,H',⟨lL_ _⟩,⟨(zz79 HO161)⟩,⟨(zz79 HO164)⟩,⟨(zz36 BK151)⟩,⟨(zz36 BK152)⟩,⟨(zz52 HB GE151 GE152)⟩⟩
  case round=>
   clear H';obtain⟨x8_1,x10_1,x153000_1,x153002_1,x153003_1,rfl,HA,HK1,HO_8,HO_9,BK151,BK152,HB⟩:=hrel;cases gk with
   |zero=>exact absurd HA.out (by simp[spec_l1Way.l0])
   |succ k1=>
    obtain⟨H⟩:=HA;simp only[spec_l1Way.l0]at H;replace H:=iteEd H;rcases H with⟨c14b0,H⟩|⟨c14b0,H⟩
    ·replace H:=iteNd H
     obtain⟨c15b0,H⟩:=H;replace H:=bindA H;obtain⟨⟨t166,t167⟩,A16,H⟩:=H;try dsimp only at H;have HF17:=A_ H;clear H;obtain⟨Ao18,co18,eo18⟩:=Kd.R_slice HO_9.out;subst eo18;obtain⟨⟨ad165,e165,hx165_0⟩,p165,q165⟩:=atB (Kd.at_string (Kd.R_reads' HO_9.out).2.2 x10_1);cases e165
     go_upto_if 43 with(first|(refine gR 100 (some 39) Tryz.func100 (spec_EscNorm.calls k1 (rdOf bE_ t162 x10_1) t166 t167 _ A16.out) ?_;rintro w19 hb;replace HO_8:=A_ (rB (zz6 HO_8) hb);replace HO_9:=A_ (rB (zz6 HO_9) hb);replace BK151:=A_ (bB (zz36 BK151) hb);replace BK152:=A_ (bB (zz36 BK152) hb);replace HB:=A_ (bS (zz52 HB GE151 GE152) hb);(try clear hb)))
     obtain⟨H⟩:=HF17;replace H:=iteB H;rcases H with⟨rfl,H⟩|⟨rfl,H⟩
     ·replace H:=iteN H
      obtain⟨c21,H⟩:=H;have LMc21:=A_ c21;clear c21;obtain⟨y168,Ny168⟩:=toY (x8_1++[t166]);(first|with_reducible replace H:=bindZ Ny168 H|rw[←Ny168.out]at H|skip);have H':=A_ H;clear H;go_wp2_with (first|((with_reducible refine gate_builtin (b:=.append) (xs:=#[.tmp 45,.tmp 47]) rfl ?_);at_builtin;refine Kd.R_append Kd.string (w0:=w) w.heap.size rfl (.tmp 45) (.tmp 47) 22 9 (.string ⟨#[]⟩) 16 rfl Tryz.underlying22 info9 rfl (by decide) (by omega) u8 x8_1 t166 [.string t166] (fun k_=>some k_≠(.slice (some ad165) t162.length co18:Value).ownBlock) (fun _=>False) rfl rfl ?aP (fun _ hk=>hk.elim) ?aF ?aO ?aB ?aS ?aL ?_;(case aP=>exact rfl);(case aB=>exact(zz52 HB GE151 GE152));(case aF=>exact(fun k_ hk=>Kd.fresh' (Kd.R_lt (zz6 HO_9)) k_ hk));(case aO=>exact(zz6 HO_8));(case aS=>exact(below_size (zz52 HB GE151 GE152)));(case aL=>exact(zz5 LMc21));intro v169 w22 ho hb hg hat;rw[←Ny168.out]at ho;replace HO_9:=A_ (Kd.R_after (ok:=(fun _=>True)) (zz81 HO_9) hg hat);replace BK151:=A_ (blk_grown (zz36 BK151) hg (Kd.R_ne HO_8.out BK151.out (by decide)));replace BK152:=A_ (blk_grown (zz36 BK152) hg (Kd.R_ne HO_8.out BK152.out (by decide)));replace HB:=A_ (hb);have HO170:=A_ (ho);clear HO_8;clear ho hb hg hat))
      go_roundg k1
      case measure=>have:=HK1.out;omega
      case rel=>exact⟨(y168),(wrap64 (x10_1+1)),(x153000_1),(x153002_1),(x153003_1),zz2,H',⟨(zz5 HK1)⟩,⟨(zz6 HO170)⟩,⟨(zz79 HO_9)⟩,⟨(zz36 BK151)⟩,⟨(zz36 BK152)⟩,⟨(zz52 HB GE151 GE152)⟩⟩
     ·simp only[oI_,pI_]at H
      obtain⟨rfl,rfl,rfl,rfl,rfl⟩:=H;have hnb23:=NB152_151.out;have hnc23:=NB151_152.out;obtain⟨_,_,_,_,_,_,_,_⟩:=cf4 BK152;go_wp2;refine pR (results_ct rfl _ _ gb152 70 #[.string (⟨#[]⟩:BA),.slice none 0 0,.bool false,.string (⟨#[]⟩:BA)] (0,0) _ rfl (zz82 BK152) Tryz.underlying70 rfl (by kernel_rfl)) rfl ?_;exact⟨_,zz0,zz24,(zz52 HB GE151 GE152)⟩
    ·replace H:=bindA H
     obtain⟨⟨t171,t172⟩,A25,H⟩:=H;try dsimp only at H;replace H:=bindA H;obtain⟨t173,A26,H⟩:=H;have HF27:=A_ H;clear H;obtain⟨Ao28,co28,eo28⟩:=Kd.R_slice HO_9.out;subst eo28;try go_wp2_with (first|(refine gR 100 (some 51) Tryz.func100 (spec_EscNorm.calls k1 t154 t171 t172 _ A25.out) ?_;rintro w29 hb;replace HO_8:=A_ (rB (zz6 HO_8) hb);replace HO_9:=A_ (rB (zz6 HO_9) hb);replace BK151:=A_ (bB (zz36 BK151) hb);replace BK152:=A_ (bB (zz36 BK152) hb);replace HB:=A_ (bS (zz52 HB GE151 GE152) hb);(try clear hb);obtain⟨Ao30,co30,eo30⟩:=Kd.R_slice HO_8.out;subst eo30));replace HO_8:=A_ (Kd.R_drew HO_8.out);replace HO_9:=A_ (Kd.R_drew HO_9.out);replace BK151:=A_ (blk_drew BK151.out);replace BK152:=A_ (blk_drew BK152.out);replace HB:=A_ (below_drew1 HB.out);refine start_ (n:=9) (S:=fun w'=>w'.cell? ⟨gb151,0,none⟩=some (.string a0_0)∧w'.cell? ⟨gb151,1,none⟩=some (.slice A0_1 l0_1.length c0_1)∧w'.cell? ⟨gb151,2,none⟩=some (.bool a0_2)∧w'.cell? ⟨gb151,3,none⟩=some (.string a0_3)) (ds:=[]) #[yF,yF,yF,yF,yF,yF,yF,yF,yF] (by kernel_rfl) rfl rfl ⟨(blk_cell BK151.out 0).trans rfl,(blk_cell BK151.out 1).trans rfl,(blk_cell BK151.out 2).trans rfl,(blk_cell BK151.out 3).trans rfl⟩ (fun hHeld=>?_);refine with_tabW spec_l1Way.tab12 spec_l1Way.bits12 (fun HT_ HW_=>?_);generalize w29.drew=w31 at HO_8 HO_9 BK151 BK152 HB hHeld ⊢;refine pureZ 0 (some 54) (yA 1 8) ?_;refine pureZ 2 (some 56) #[yT,yF,yT,yF,yF,yF,yF,yF,yF] ?_;refine pureZ 4 (some 58) #[yT,yF,yT,yF,yT,yF,yF,yF,yF] ?_;refine pureZ 5 (some 59) #[yT,yF,yT,yF,yT,yT,yF,yF,yF] ?_;refine takeZ4 1 (some 55) #[yT,yT,yT,yF,yT,yT,yF,yF,yF] hHeld ?_;refine join_ (σ:=Value×Nat) 1 (yA 8 1) (fun s_=>[(57,s_.1),(15,.pointer (some ⟨s_.2,0,none⟩)),(60,.agg #[.string a0_0,s_.1,.bool t155,.string t171])]) (fun s_ w'=>(w'.cell? ⟨gb151,0,none⟩=some (.string a0_0)∧w'.cell? ⟨gb151,1,none⟩=some (.slice A0_1 l0_1.length c0_1)∧w'.cell? ⟨gb151,2,none⟩=some (.bool a0_2)∧w'.cell? ⟨gb151,3,none⟩=some (.string a0_3))∧(Kd.R Kd.string 9 w' w.heap.size (fun k_=>some k_≠(.slice Ao30 x8_1.length co30:Value).ownBlock∧some k_≠(.slice Ao28 t162.length co28:Value).ownBlock) s_.1 t173)∧(Kd.R Kd.string 9 w' w.heap.size (fun k_=>some k_≠(s_.1:Value).ownBlock∧some k_≠(.slice Ao28 t162.length co28:Value).ownBlock) (.slice Ao30 x8_1.length co30) x8_1)∧(Kd.R Kd.string 9 w' w.heap.size (fun k_=>some k_≠(s_.1:Value).ownBlock∧some k_≠(.slice Ao30 x8_1.length co30:Value).ownBlock) (.slice Ao28 t162.length co28) t162)∧(w'.heap[gb151]?=some (.cells #[.string a0_0,.slice A0_1 l0_1.length c0_1,.bool a0_2,.string a0_3] 70 (0,0)))∧(w'.heap[gb152]?=some (.cells #[.string x153000_1,.slice none 0 0,.bool x153002_1,.string x153003_1] 70 (0,0)))∧(w'.heap[s_.2]?=some (.cells #[.string (⟨#[]⟩:BA),.slice none 0 0,.bool false,.string (⟨#[]⟩:BA)] 70 (0,0)))∧(w.heap.size≤s_.2)∧(w.heap.size≤s_.2)∧(gb151≠s_.2)∧(s_.2≠gb151)∧(gb152≠s_.2)∧(s_.2≠gb152)∧(Below w.heap.size w w')) ?_ ?_;rotate_left
     ·intro hCont
      refine twoZ 3 7 (some 57) (some 15) (yA 6 3) #[yT,yT,yT,yF,yT,yT,yF,yT,yF] (fun K hK=>?_) (fun K hK=>?_)
      ·skip
       refine goes_ Tryz.func101 (by kernel_rfl) rfl #[.slice Ao30 x8_1.length co30] (by rfl) rfl rfl zz47 ?_;with_reducible refine(spec_PathClean.calls k1 _ _ x8_1 t173 _ ?side1 ?side2 A26.out).mono ?_
       (case side1=>exact(zz83 HO_8))
       (case side2=>exact(Kd.R_reads' HO_8.out).2.1)
       rintro e w32 ⟨v174,rfl,ho0,hb⟩;refine⟨_,rfl,?_⟩;have HO175:=A_ (Kd.R_lower (Kd.R_new' (Kd.R_new' ho0 (Kd.R_lt (zz6 HO_8))) (Kd.R_lt (zz6 HO_9))) (below_size (zz52 HB GE151 GE152)));replace HO_8:=A_ (Kd.R_elder' (zz6 HO_8) (Kd.R_base ho0) hb);replace HO_9:=A_ (Kd.R_elder' (zz6 HO_9) (Kd.R_base ho0) hb);replace BK151:=A_ (bB (zz36 BK151) hb);replace BK152:=A_ (bB (zz36 BK152) hb);replace HB:=A_ (bS (zz52 HB GE151 GE152) hb);(try clear hb)
       (try clear hb2)
       (try clear hk)
       (try clear hi)
       (try clear ho0)
       obtain⟨Ao33,co33,eo33⟩:=Kd.R_slice HO175.out;(first|subst eo33|(injection eo33 with f1_ f2_ f3_;have f4_:=f1_.symm;have f5_:=f3_.symm;clear f1_ f2_ f3_;subst f4_;subst f5_));refine hK.out _ _ ⟨(blk_cell BK151.out 0).trans rfl,(blk_cell BK151.out 1).trans rfl,(blk_cell BK151.out 2).trans rfl,(blk_cell BK151.out 3).trans rfl⟩ (fun hHeld=>?_);clear hK K;refine nZ 57 ?_;refine pureZ 6 (some 60) (yA 7 2) ?_;refine oneZ 7 (some 15) (yA 8 1) (fun K hK=>?_);refine box_step ?hg (N:=15) ?hd (cs:=#[.string (⟨#[]⟩:BA),.slice none 0 0,.bool false,.string (⟨#[]⟩:BA)]) (t:=70) ?hr ?_;(case hd=>rfl);(case hg=>rfl);(case hr=>exact zz4);intro gb176 hg w34 hbox hb;replace HO_8:=A_ (rB (zz6 HO_8) hb);replace HO_9:=A_ (rB (zz6 HO_9) hb);replace HO175:=A_ (rB (zz6 HO175) hb);have BK176:=A_ (hbox);have GW176:=A_ ((by rw[hg];exact(below_size (zz52 HB GE151 GE152)):w.heap.size≤gb176));have GE176:=A_ ((by rw[hg];exact(below_size (zz52 HB GE151 GE152)):w.heap.size≤gb176));replace HB:=A_ (bS (zz52 HB GE151 GE152) hb);have NB151_176:=A_ ((by rw[hg];exact Nat.ne_of_lt (blk_lt (zz36 BK151)):gb151≠gb176));have NB176_151:=A_ ((by rw[hg];exact Nat.ne_of_gt (blk_lt (zz36 BK151)):gb176≠gb151));replace BK151:=A_ (bB (zz36 BK151) hb);have NB152_176:=A_ ((by rw[hg];exact Nat.ne_of_lt (blk_lt (zz36 BK152)):gb152≠gb176));have NB176_152:=A_ ((by rw[hg];exact Nat.ne_of_gt (blk_lt (zz36 BK152)):gb176≠gb152));replace BK152:=A_ (bB (zz36 BK152) hb);clear hb hbox hg;refine hK.out _ _ ⟨(blk_cell BK151.out 0).trans rfl,(blk_cell BK151.out 1).trans rfl,(blk_cell BK151.out 2).trans rfl,(blk_cell BK151.out 3).trans rfl⟩ (fun hHeld=>?_);clear hK K;refine nZ 15 ?_;exact norm_ viaP (hCont (.slice Ao33 t173.length co33,gb176) _ ⟨hHeld,(zz84 HO175),(zz85 HO_8),(zz85 HO_9),(zz36 BK151),(zz36 BK152),(zz36 BK176),GW176.out,GE176.out,NB151_176.out,NB176_151.out,NB152_176.out,NB176_152.out,(zz86 HB GE151 GE152 GE176)⟩)
      ·skip
       refine box_step ?hg (N:=15) ?hd (cs:=#[.string (⟨#[]⟩:BA),.slice none 0 0,.bool false,.string (⟨#[]⟩:BA)]) (t:=70) ?hr ?_;(case hd=>rfl);(case hg=>rfl);(case hr=>exact zz4);intro gb176 hg w32 hbox hb;replace HO_8:=A_ (rB (zz6 HO_8) hb);replace HO_9:=A_ (rB (zz6 HO_9) hb);have BK176:=A_ (hbox);have GW176:=A_ ((by rw[hg];exact(below_size (zz52 HB GE151 GE152)):w.heap.size≤gb176));have GE176:=A_ ((by rw[hg];exact(below_size (zz52 HB GE151 GE152)):w.heap.size≤gb176));replace HB:=A_ (bS (zz52 HB GE151 GE152) hb);have NB151_176:=A_ ((by rw[hg];exact Nat.ne_of_lt (blk_lt (zz36 BK151)):gb151≠gb176));have NB176_151:=A_ ((by rw[hg];exact Nat.ne_of_gt (blk_lt (zz36 BK151)):gb176≠gb151));replace BK151:=A_ (bB (zz36 BK151) hb);have NB152_176:=A_ ((by rw[hg];exact Nat.ne_of_lt (blk_lt (zz36 BK152)):gb152≠gb176));have NB176_152:=A_ ((by rw[hg];exact Nat.ne_of_gt (blk_lt (zz36 BK152)):gb176≠gb152));replace BK152:=A_ (bB (zz36 BK152) hb);clear hb hbox hg;refine hK.out _ _ ⟨(blk_cell BK151.out 0).trans rfl,(blk_cell BK151.out 1).trans rfl,(blk_cell BK151.out 2).trans rfl,(blk_cell BK151.out 3).trans rfl⟩ (fun hHeld=>?_);clear hK K;refine nZ 15 ?_;refine oneZ 3 (some 57) #[yT,yT,yT,yT,yT,yT,yF,yT,yF] (fun K hK=>?_);refine goes_ Tryz.func101 (by kernel_rfl) rfl #[.slice Ao30 x8_1.length co30] (by rfl) rfl rfl zz47 ?_;with_reducible refine(spec_PathClean.calls k1 _ _ x8_1 t173 _ ?side1 ?side2 A26.out).mono ?_
       (case side1=>exact(zz83 HO_8))
       (case side2=>exact(Kd.R_reads' HO_8.out).2.1)
       rintro e w33 ⟨v174,rfl,ho0,hb⟩;refine⟨_,rfl,?_⟩;have HO175:=A_ (Kd.R_lower (Kd.R_new' (Kd.R_new' ho0 (Kd.R_lt (zz6 HO_8))) (Kd.R_lt (zz6 HO_9))) (below_size (zz86 HB GE151 GE152 GE176)));replace HO_8:=A_ (Kd.R_elder' (zz6 HO_8) (Kd.R_base ho0) hb);replace HO_9:=A_ (Kd.R_elder' (zz6 HO_9) (Kd.R_base ho0) hb);replace BK151:=A_ (bB (zz36 BK151) hb);replace BK152:=A_ (bB (zz36 BK152) hb);replace BK176:=A_ (bB (zz36 BK176) hb);replace HB:=A_ (bS (zz86 HB GE151 GE152 GE176) hb);(try clear hb)
       (try clear hb2)
       (try clear hk)
       (try clear hi)
       (try clear ho0)
       obtain⟨Ao34,co34,eo34⟩:=Kd.R_slice HO175.out;(first|subst eo34|(injection eo34 with f1_ f2_ f3_;have f4_:=f1_.symm;have f5_:=f3_.symm;clear f1_ f2_ f3_;subst f4_;subst f5_));refine hK.out _ _ ⟨(blk_cell BK151.out 0).trans rfl,(blk_cell BK151.out 1).trans rfl,(blk_cell BK151.out 2).trans rfl,(blk_cell BK151.out 3).trans rfl⟩ (fun hHeld=>?_);clear hK K;refine nZ 57 ?_;refine pureZ 6 (some 60) (yA 8 1) ?_;exact norm_ viaP (hCont (.slice Ao34 t173.length co34,gb176) _ ⟨hHeld,(zz84 HO175),(zz85 HO_8),(zz85 HO_9),(zz36 BK151),(zz36 BK152),(zz36 BK176),GW176.out,GE176.out,NB151_176.out,NB176_151.out,NB152_176.out,NB176_152.out,(zz86 HB GE151 GE152 GE176)⟩)
     rintro⟨v174,gb176⟩ w35 ⟨hS_,h0_,h1_,h2_,h3_,h4_,h5_,h6_,h7_,h8_,h9_,h10_,h11_,h12_⟩;have n0_:=A_ h0_;have n1_:=A_ h1_;have n2_:=A_ h2_;have n3_:=A_ h3_;have n4_:=A_ h4_;have n5_:=A_ h5_;have n6_:=A_ h6_;have n7_:=A_ h7_;have n8_:=A_ h8_;have n9_:=A_ h9_;have n10_:=A_ h10_;have n11_:=A_ h11_;have n12_:=A_ h12_;(try dsimp only at n0_ n1_ n2_ n3_ n4_ n5_ n6_ n7_ n8_ n9_ n10_ n11_ n12_);clear HO_8;clear HO_9;clear BK151;clear BK152;clear HB;clear h0_ h1_ h2_ h3_ h4_ h5_ h6_ h7_ h8_ h9_ h10_ h11_ h12_;have HO175:=n0_;have HO_8:=n1_;have HO_9:=n2_;have BK151:=n3_;have BK152:=n4_;have BK176:=n5_;have GW176:=n6_;have GE176:=n7_;have NB151_176:=n8_;have NB176_151:=n9_;have NB152_176:=n10_;have NB176_152:=n11_;have HB:=n12_;clear n0_ n1_ n2_ n3_ n4_ n5_ n6_ n7_ n8_ n9_ n10_ n11_ n12_;have hHeld:w35.cell? ⟨gb151,0,none⟩=some (.string a0_0)∧w35.cell? ⟨gb151,1,none⟩=some (.slice A0_1 l0_1.length c0_1)∧w35.cell? ⟨gb151,2,none⟩=some (.bool a0_2)∧w35.cell? ⟨gb151,3,none⟩=some (.string a0_3):=hS_;obtain⟨Ao36,co36,eo36⟩:=Kd.R_slice HO175.out;(first|subst eo36|(injection eo36 with f1_ f2_ f3_;have f4_:=f1_.symm;have f5_:=f3_.symm;clear f1_ f2_ f3_;subst f4_;subst f5_));refine norm_ (a':=?_) ?_ ?_;rotate_left
     ·simp only[putAll,Act.put,lS_,l0_,lC_]
      rfl
     refine oneZ 8 (none) (yA 9 0) (fun K hK=>?_);have hs37:w35.cell? ⟨gb176,0,none⟩=some (.string (⟨#[]⟩:BA)):=(blk_cell BK176.out 0).trans rfl;have hfs37:=blk_frozen BK176.out 0;have hns37_0:=NB151_176.out;have hns37_1:=NB152_176.out;have hms37_0:=NB176_151.out;have hms37_1:=NB176_152.out;have hs38:w35.cell? ⟨gb176,1,none⟩=some (.slice none 0 0):=(blk_cell BK176.out 1).trans rfl;have hfs38:=blk_frozen BK176.out 1;have hns38_0:=NB151_176.out;have hns38_1:=NB152_176.out;have hms38_0:=NB176_151.out;have hms38_1:=NB176_152.out;have hs39:w35.cell? ⟨gb176,2,none⟩=some (.bool false):=(blk_cell BK176.out 2).trans rfl;have hfs39:=blk_frozen BK176.out 2;have hns39_0:=NB151_176.out;have hns39_1:=NB152_176.out;have hms39_0:=NB176_151.out;have hms39_1:=NB176_152.out;have hs40:w35.cell? ⟨gb176,3,none⟩=some (.string (⟨#[]⟩:BA)):=(blk_cell BK176.out 3).trans rfl;have hfs40:=blk_frozen BK176.out 3;have hns40_0:=NB151_176.out;have hns40_1:=NB152_176.out;have hms40_0:=NB176_151.out;have hms40_1:=NB176_152.out;refine skip_ (w1:=?_) (by rfl) rfl ?_ ?_;rotate_left
     ·go_simp
      rfl
     refine hK.out _ _ ⟨((cell_far (p:=⟨gb176,_,none⟩) NB151_176.out _).trans (((cell_far (p:=⟨gb176,_,none⟩) NB151_176.out _).trans (((cell_far (p:=⟨gb176,_,none⟩) NB151_176.out _).trans (((cell_far (p:=⟨gb176,_,none⟩) NB151_176.out _).trans (hHeld.1)))))))),((cell_far (p:=⟨gb176,_,none⟩) NB151_176.out _).trans (((cell_far (p:=⟨gb176,_,none⟩) NB151_176.out _).trans (((cell_far (p:=⟨gb176,_,none⟩) NB151_176.out _).trans (((cell_far (p:=⟨gb176,_,none⟩) NB151_176.out _).trans (hHeld.2.1)))))))),((cell_far (p:=⟨gb176,_,none⟩) NB151_176.out _).trans (((cell_far (p:=⟨gb176,_,none⟩) NB151_176.out _).trans (((cell_far (p:=⟨gb176,_,none⟩) NB151_176.out _).trans (((cell_far (p:=⟨gb176,_,none⟩) NB151_176.out _).trans (hHeld.2.2.1)))))))),((cell_far (p:=⟨gb176,_,none⟩) NB151_176.out _).trans (((cell_far (p:=⟨gb176,_,none⟩) NB151_176.out _).trans (((cell_far (p:=⟨gb176,_,none⟩) NB151_176.out _).trans (((cell_far (p:=⟨gb176,_,none⟩) NB151_176.out _).trans (hHeld.2.2.2))))))))⟩ (fun hHeld=>?_);clear hK K;refine done_ (done_of HT_.out (by kernel_rfl)) ?_;have n0_:Aside0 (Kd.R Kd.string 9 ((((w35.setCell ⟨gb176,0,none⟩ (.string a0_0)).setCell ⟨gb176,1,none⟩ (.slice Ao36 t173.length co36)).setCell ⟨gb176,2,none⟩ (.bool t155)).setCell ⟨gb176,3,none⟩ (.string t171)) w.heap.size (fun k_=>some k_≠(.slice Ao28 t162.length co28:Value).ownBlock∧some k_≠(.slice Ao36 t173.length co36:Value).ownBlock) (.slice Ao30 x8_1.length co30) x8_1):=⟨(zz87 (rt HO_8 BK176))⟩;have n1_:Aside0 (Kd.R Kd.string 9 ((((w35.setCell ⟨gb176,0,none⟩ (.string a0_0)).setCell ⟨gb176,1,none⟩ (.slice Ao36 t173.length co36)).setCell ⟨gb176,2,none⟩ (.bool t155)).setCell ⟨gb176,3,none⟩ (.string t171)) w.heap.size (fun k_=>some k_≠(.slice Ao30 x8_1.length co30:Value).ownBlock∧some k_≠(.slice Ao36 t173.length co36:Value).ownBlock) (.slice Ao28 t162.length co28) t162):=⟨(zz87 (rt HO_9 BK176))⟩;have n2_:Aside0 (Kd.R Kd.string 9 ((((w35.setCell ⟨gb176,0,none⟩ (.string a0_0)).setCell ⟨gb176,1,none⟩ (.slice Ao36 t173.length co36)).setCell ⟨gb176,2,none⟩ (.bool t155)).setCell ⟨gb176,3,none⟩ (.string t171)) w.heap.size (fun k_=>some k_≠(.slice Ao30 x8_1.length co30:Value).ownBlock∧some k_≠(.slice Ao28 t162.length co28:Value).ownBlock) (.slice Ao36 t173.length co36) t173):=⟨(zz87 (rt HO175 BK176))⟩;have n3_:Aside0 (((((w35.setCell ⟨gb176,0,none⟩ (.string a0_0)).setCell ⟨gb176,1,none⟩ (.slice Ao36 t173.length co36)).setCell ⟨gb176,2,none⟩ (.bool t155)).setCell ⟨gb176,3,none⟩ (.string t171)).heap[gb151]?=some (.cells #[.string a0_0,.slice A0_1 l0_1.length c0_1,.bool a0_2,.string a0_3] 70 (0,0))):=⟨(zz88 BK151 NB151_176)⟩;have n4_:Aside0 (((((w35.setCell ⟨gb176,0,none⟩ (.string a0_0)).setCell ⟨gb176,1,none⟩ (.slice Ao36 t173.length co36)).setCell ⟨gb176,2,none⟩ (.bool t155)).setCell ⟨gb176,3,none⟩ (.string t171)).heap[gb152]?=some (.cells #[.string x153000_1,.slice none 0 0,.bool x153002_1,.string x153003_1] 70 (0,0))):=⟨(zz88 BK152 NB152_176)⟩;have n5_:Aside0 (((((w35.setCell ⟨gb176,0,none⟩ (.string a0_0)).setCell ⟨gb176,1,none⟩ (.slice Ao36 t173.length co36)).setCell ⟨gb176,2,none⟩ (.bool t155)).setCell ⟨gb176,3,none⟩ (.string t171)).heap[gb176]?=some (.cells #[.string a0_0,.slice Ao36 t173.length co36,.bool t155,.string t171] 70 (0,0))):=⟨(zz82 BK176)⟩;have n6_:Aside0 (Below w.heap.size w ((((w35.setCell ⟨gb176,0,none⟩ (.string a0_0)).setCell ⟨gb176,1,none⟩ (.slice Ao36 t173.length co36)).setCell ⟨gb176,2,none⟩ (.bool t155)).setCell ⟨gb176,3,none⟩ (.string t171))):=⟨(zz86 HB GE151 GE152 GE176)⟩;(try clear HO_8)
     (try clear HO_9)
     (try clear HO175)
     (try clear BK151)
     (try clear BK152)
     (try clear BK176)
     (try clear HB)
     generalize ((((w35.setCell ⟨gb176,0,none⟩ (.string a0_0)).setCell ⟨gb176,1,none⟩ (.slice Ao36 t173.length co36)).setCell ⟨gb176,2,none⟩ (.bool t155)).setCell ⟨gb176,3,none⟩ (.string t171))=w41 at n0_ n1_ n2_ n3_ n4_ n5_ n6_ ⊢;have HO_8:=n0_;have HO_9:=n1_;have HO175:=n2_;have BK151:=n3_;have BK152:=n4_;have BK176:=n5_;have HB:=n6_;clear n0_ n1_ n2_ n3_ n4_ n5_ n6_;go_wp2_with (first|((with_reducible refine atG ?_ ?_ fun K_ hK_=>?_);rfl;exact undecG)|((with_reducible refine atI ?_ fun K_ hK_=>?_);exact undecI));refine unG hK_ ?_;clear hK_ K_;obtain⟨H⟩:=HF27;replace H:=iteB H;rcases H with⟨rfl,H⟩|⟨rfl,H⟩
     ·(first|refine iteT ?_|refine iteF ?_|skip)
      replace H:=bindA H;obtain⟨t177,A43,H⟩:=H;have HF44:=A_ H;clear H;have hnb45:=NB176_151.out;have hnc45:=NB151_176.out;have hnb46:=NB176_152.out;have hnc46:=NB152_176.out;obtain⟨_,_,_,_,_,_,_,_⟩:=cf4 BK176;(try((with_reducible refine upS ?_);go_simp))
      go_upto_if 67 with(first|(go_at_call 71;(with_reducible refine(spec_AddrOk.calls k1 a0_0 _ _ t173 t155 t171 t177 _ ?side1 ?side2 A43.out).mono ?_);(case side1=>exact(zz83 HO175));(case side2=>exact(Kd.R_reads' HO175.out).2.1);rintro e w48 ⟨rfl,hb⟩;replace HO_8:=A_ (rB (zz6 HO_8) hb);replace HO_9:=A_ (rB (zz6 HO_9) hb);replace HO175:=A_ (rB (zz6 HO175) hb);replace BK151:=A_ (bB (zz36 BK151) hb);replace BK152:=A_ (bB (zz36 BK152) hb);replace BK176:=A_ (bB (zz36 BK176) hb);replace HB:=A_ (bS (zz86 HB GE151 GE152 GE176) hb);(try clear hb)))
      obtain⟨H⟩:=HF44;replace H:=iteB H;rcases H with⟨rfl,H⟩|⟨rfl,H⟩
      ·simp only[oI_,pI_]at H
       obtain⟨rfl,rfl,rfl,rfl,rfl⟩:=H;have hnb50:=NB176_151.out;have hnc50:=NB151_176.out;have hnb51:=NB176_152.out;have hnc51:=NB152_176.out;obtain⟨_,_,_,_,_,_,_,_⟩:=cf4 BK176;have hnb53:=NB152_151.out;have hnc53:=NB151_152.out;obtain⟨_,_,_,_,_,_,_,_⟩:=cf4 BK152;go_wp2;refine pR (results_ct rfl _ _ gb152 70 #[.string a0_0,.slice Ao36 t173.length co36,.bool t155,.string t171] (0,0) _ rfl (zz82 BK152) Tryz.underlying70 rfl (by kernel_rfl)) rfl ?_;exact⟨_,zz0,(zz87 (rt HO175 BK152)),(zz86 HB GE151 GE152 GE176)⟩
      ·simp only[oI_,pI_]at H
       obtain⟨rfl,rfl,rfl,rfl,rfl⟩:=H;have hnb55:=NB152_151.out;have hnc55:=NB151_152.out;have hnb56:=NB152_176.out;have hnc56:=NB176_152.out;obtain⟨_,_,_,_,_,_,_,_⟩:=cf4 BK152;go_wp2;refine pR (results_ct rfl _ _ gb152 70 #[.string (⟨#[]⟩:BA),.slice none 0 0,.bool false,.string (⟨#[]⟩:BA)] (0,0) _ rfl (zz82 BK152) Tryz.underlying70 rfl (by kernel_rfl)) rfl ?_;exact⟨_,zz0,zz24,(zz86 HB GE151 GE152 GE176)⟩
     ·(first|refine iteT ?_|refine iteF ?_|skip)
      simp only[oI_,pI_]at H;obtain⟨rfl,rfl,rfl,rfl,rfl⟩:=H;have hnb58:=NB152_151.out;have hnc58:=NB151_152.out;have hnb59:=NB152_176.out;have hnc59:=NB176_152.out;obtain⟨_,_,_,_,_,_,_,_⟩:=cf4 BK152;(try((with_reducible refine upS ?_);go_simp));go_wp2;refine pR (results_ct rfl _ _ gb152 70 #[.string (⟨#[]⟩:BA),.slice none 0 0,.bool false,.string (⟨#[]⟩:BA)] (0,0) _ rfl (zz82 BK152) Tryz.underlying70 rfl (by kernel_rfl)) rfl ?_;exact⟨_,zz0,zz24,(zz86 HB GE151 GE152 GE176)⟩
 ·exact absurd H (by simp)
def spec_AddrText.f (k:Nat)(a0_0:BA)(l0_1:List BA)(a0_2:Bool)(a0_3:BA):Option (BA):=(spec_AddrOk.f k a0_0 l0_1 a0_2 a0_3).bind fun t215=>(if t215=true then((spec_l1Text.f k a0_0 l0_1 a0_2 a0_3).bind fun t216=>(some t216))else(some (⟨#[]⟩:BA)))
theorem spec_AddrText.calls (k:Nat)(a0_0:BA)(A0_1:Option Addr)(c0_1:Nat)(l0_1:List BA)(a0_2:Bool)(a0_3:BA)(r:BA)(w:World)(hr0_1:Kd.C Kd.string w A0_1 l0_1.length l0_1)(hc0_1:l0_1.length≤c0_1)(h:spec_AddrText.f k a0_0 l0_1 a0_2 a0_3=some r):
  Calls Tryz.prog 49 #[.agg #[.string a0_0,.slice A0_1 l0_1.length c0_1,.bool a0_2,.string a0_3]] w fun e w'=>e=.returned (.string r)∧Below w.heap.size w w':=by
 have hu70:=Tryz.underlying70;have HR0_1:=A_ hr0_1;have HC0_1:=A_ hc0_1;clear hr0_1 hc0_1;have HB:=A_ (Below.refl w.heap.size w);unfold spec_AddrText.f at h;have H:=h;clear h;replace H:=bindA H;obtain⟨t215,A2,H⟩:=H;have HF3:=A_ H;clear H;go_enter Tryz.func49,Tryz.ntmps49;go_upto_if 5 with(first|(refine boxF 1 #[.string a0_0,.slice A0_1 l0_1.length c0_1,.bool a0_2,.string a0_3] 70 ?_;intro gb214 hg w4 BK214 hb;have GE214:=geB hg (zz1 HB);replace HB:=A_ (bS (zz1 HB) hb);clear hb hg;obtain⟨_,_,_,_,_,_,_,_⟩:=cf4 BK214)|(refine gR 71 (some 4) Tryz.func71 (spec_AddrOk.calls k a0_0 _ _ l0_1 a0_2 a0_3 t215 _ ?side1 ?side2 A2.out) ?_;(case side1=>exact(zz63 HR0_1 HB));(case side2=>exact HC0_1.out);rintro w6 hb;replace BK214:=A_ (bB (zz36 BK214) hb);replace HB:=A_ (bS (zz37 HB GE214) hb);(try clear hb)))
 obtain⟨H⟩:=HF3;replace H:=iteB H;rcases H with⟨rfl,H⟩|⟨rfl,H⟩
 ·replace H:=bindA H
  obtain⟨t216,A8,H⟩:=H;obtain rfl:=sI H;obtain⟨_,_,_,_,_,_,_,_⟩:=cf4 BK214;go_wp2_with (first|(refine gR 72 (some 7) Tryz.func72 (spec_l1Text.calls k a0_0 _ _ l0_1 a0_2 a0_3 t216 _ ?side1 ?side2 A8.out) ?_;(case side1=>exact(zz63 HR0_1 HB));(case side2=>exact HC0_1.out);rintro w10 hb;replace BK214:=A_ (bB (zz36 BK214) hb);replace HB:=A_ (bS (zz37 HB GE214) hb);(try clear hb)));go_ret;exact⟨zz0,(zz37 HB GE214)⟩
 ·obtain rfl:=sI H
  go_wp2;go_ret;exact⟨zz0,(zz37 HB GE214)⟩
def laws_heldTrip.f (k:Nat)(a0_0:BA)(a0_1:Int)(l0_2:List (S43))(l0_3:List BA)(l0_4:List (S83))(a1:Int):Option (Int):=(laws_heldHouseS.f k l0_2 a1).bind fun t438=>(if t438<0 then(some (-1))else((laws_heldStringS.f k l0_3 t438).bind fun t439=>(if t439<0 then(some (-1))else((laws_heldLookS.f k l0_4 t439).bind fun t440=>(if t440<0 then(some (-1))else(some t440))))))
theorem laws_heldTrip.calls (k:Nat)(a0_0:BA)(a0_1:Int)(A0_2:Option Addr)(c0_2:Nat)(l0_2:List (S43))(A0_3:Option Addr)(c0_3:Nat)(l0_3:List BA)(A0_4:Option Addr)(c0_4:Nat)(l0_4:List (S83))(a1:Int)(r:Int)(w:World)(hr0_2:Kd.C k43 w A0_2 l0_2.length l0_2)(hc0_2:l0_2.length≤c0_2)(hr0_3:Kd.C Kd.string w A0_3 l0_3.length l0_3)(hc0_3:l0_3.length≤c0_3)(hr0_4:Kd.C k83 w A0_4 l0_4.length l0_4)(hc0_4:l0_4.length≤c0_4)(h:laws_heldTrip.f k a0_0 a0_1 l0_2 l0_3 l0_4 a1=some r):
  Calls Tryz.prog 13 #[.agg #[.string a0_0,.int .i64 a0_1,.slice A0_2 l0_2.length c0_2,.slice A0_3 l0_3.length c0_3,.slice A0_4 l0_4.length c0_4],.int .i64 a1] w fun e w'=>e=.returned (.int .i64 r)∧Below w.heap.size w w':=by
 have hu27:=Tryz.underlying27;have HR0_2:=A_ hr0_2;have HC0_2:=A_ hc0_2;clear hr0_2 hc0_2;have HR0_3:=A_ hr0_3;have HC0_3:=A_ hc0_3;clear hr0_3 hc0_3;have HR0_4:=A_ hr0_4;have HC0_4:=A_ hc0_4;clear hr0_4 hc0_4;have HB:=A_ (Below.refl w.heap.size w);unfold laws_heldTrip.f at h;have H:=h;clear h;replace H:=bindA H;obtain⟨t438,A3,H⟩:=H;have HF4:=A_ H;clear H;go_enter Tryz.func13,Tryz.ntmps13;go_upto_if 10 with(first|(refine boxF 2 #[.string a0_0,.int .i64 a0_1,.slice A0_2 l0_2.length c0_2,.slice A0_3 l0_3.length c0_3,.slice A0_4 l0_4.length c0_4] 27 ?_;intro gb437 hg w5 BK437 hb;have GE437:=geB hg (zz1 HB);replace HB:=A_ (bS (zz1 HB) hb);clear hb hg;obtain⟨_,_,_,_,_,_,_,_,_,_⟩:=cf5 BK437)|(refine gR 29 (some 8) Tryz.func29 (laws_heldHouseS.calls k _ _ l0_2 a1 t438 _ ?side1 ?side2 A3.out) ?_;(case side1=>exact(zz63 HR0_2 HB));(case side2=>exact HC0_2.out);rintro w7 hb;replace BK437:=A_ (bB (zz36 BK437) hb);replace HB:=A_ (bS (zz37 HB GE437) hb);(try clear hb)))
 obtain⟨H⟩:=HF4;replace H:=iteEd H;rcases H with⟨c8b0,H⟩|⟨c8b0,H⟩
 ·(first|rw[c8b0]|(simp only[i64_w,i32_w];rw[c8b0])|skip)
  obtain rfl:=sI H;go_wp2;go_ret;exact⟨zz0,(zz37 HB GE437)⟩
 ·(first|rw[c8b0]|(simp only[i64_w,i32_w];rw[c8b0])|skip)
  replace H:=bindA H;obtain⟨t439,A9,H⟩:=H;have HF10:=A_ H;clear H;obtain⟨_,_,_,_,_,_,_,_,_,_⟩:=cf5 BK437;go_upto_if 16 with(first|(refine gR 30 (some 14) Tryz.func30 (laws_heldStringS.calls k _ _ l0_3 t438 t439 _ ?side1 ?side2 A9.out) ?_;(case side1=>exact(zz63 HR0_3 HB));(case side2=>exact HC0_3.out);rintro w12 hb;replace BK437:=A_ (bB (zz36 BK437) hb);replace HB:=A_ (bS (zz37 HB GE437) hb);(try clear hb)))
  obtain⟨H⟩:=HF10;replace H:=iteEd H;rcases H with⟨c13b0,H⟩|⟨c13b0,H⟩
  ·(first|rw[c13b0]|(simp only[i64_w,i32_w];rw[c13b0])|skip)
   obtain rfl:=sI H;go_wp2;go_ret;exact⟨zz0,(zz37 HB GE437)⟩
  ·(first|rw[c13b0]|(simp only[i64_w,i32_w];rw[c13b0])|skip)
   replace H:=bindA H;obtain⟨t440,A14,H⟩:=H;have HF15:=A_ H;clear H;obtain⟨_,_,_,_,_,_,_,_,_,_⟩:=cf5 BK437;go_upto_if 22 with(first|(refine gR 31 (some 20) Tryz.func31 (laws_heldLookS.calls k _ _ l0_4 t439 t440 _ ?side1 ?side2 A14.out) ?_;(case side1=>exact(zz63 HR0_4 HB));(case side2=>exact HC0_4.out);rintro w17 hb;replace BK437:=A_ (bB (zz36 BK437) hb);replace HB:=A_ (bS (zz37 HB GE437) hb);(try clear hb)))
   obtain⟨H⟩:=HF15;replace H:=iteEd H;rcases H with⟨c18b0,H⟩|⟨c18b0,H⟩
   ·(first|rw[c18b0]|(simp only[i64_w,i32_w];rw[c18b0])|skip)
    obtain rfl:=sI H;go_wp2;go_ret;exact⟨zz0,(zz37 HB GE437)⟩
   ·(first|rw[c18b0]|(simp only[i64_w,i32_w];rw[c18b0])|skip)
    obtain rfl:=sI H;go_wp2;go_ret;exact⟨zz0,(zz37 HB GE437)⟩

end Go.Proofs.YtalfefmnlnkcaaaGreatDoor.P
end
section
namespace Go.Proofs.YtalfefmnlnkcaaaGreatDoor.Tr
open Go.RowKit Go.Proofs.YtalfefmnlnkcaaaGreatDoor.P Go.Proofs.YtalfefmnlnkcaaaGreatDoorW PrintWords PrintLast PrintMore Go.ChangeShapes Go.WideShapes Go.Deep Go.Joins
theorem weights_all {H:Type}{P:Program}{e:TypeId}:∀ {ds:List (DataW H)} {d:DataW H},d∈ds→∀n∈d.weights P e,n∈DataW.weightsAll P e ds
 |d0::ds,d,h,n,hn=>by
  simp only[DataW.weightsAll,List.mem_append];rcases List.mem_cons.1 h with rfl|h'
  ·exact .inl hn
  ·exact .inr (weights_all h' n hn)
theorem row_open {α H:Type}[Inhabited α]{K:Kd α}{P:Program}{enc:TypeId×Value→H}{W:World}{t e:TypeId}{C B0 n:Nat}{cs:List Value}{x:DataW H×List MemPlace}(ht:P.underlying t=some (.slice e))(hC:P.cellsOf e=C)(hK:K.sz=C)(hB:P.bytesOf e=B0)
  (Fits:Nat→α→Prop) (one:∀n cs y,DataW.trod enc P W 0 (fun _=>true) true n e cs=some y→∃p:α,K.K W p cs∧∀B,(∀n∈y.1.weights P e,n≤B)→Fits B p)
  (h:DataW.trod enc P W 0 (fun _=>true) true n t cs=some x):
  ∃(A:Option Addr)(l:List α)(c:Nat),cs=[.slice A l.length c]∧K.C W A l.length l∧l.length≤c∧∀B,(∀n∈x.1.weights P t,n≤B)→l.length*B0≤B∧∀p∈l,Fits B p:=by
 rcases open_slice ht h with⟨e,_⟩|⟨a,len,cap,m,k,D,Pl,ee,_,hl,hm,hmm,hx,each⟩
 ·exact⟨none,[],0,e,⟨rfl,by simp,fun h=>by simp at h⟩,lL_ _,fun B _=>⟨by simp,by simp⟩⟩
 ·have hmm':m=cap:=by simpa using hmm
  obtain⟨f,hf⟩:=choose_lt (p:=fun i (p:α)=>(∃cs',W.cells? 0 (a.add (i*C)) C=some cs'∧K.K W p cs')∧∀B,(∀n∈(D i).weights P e,n≤B)→Fits B p) (n:=m) (fun i hi=>by
   obtain⟨cs',h1,h2⟩:=each i hi;obtain⟨p,hp,hw⟩:=one _ _ _ h2;rw[hC]at h1;exact⟨p,⟨cs',h1,hp⟩,hw⟩)
  refine⟨some a,(List.range len).map f,cap,?_,⟨rfl,?_,fun hn=>⟨a,rfl,fun j p hj=>?_⟩⟩,?_,fun B hw=>?_⟩
  ·rw[ee];simp
  ·have:maxLen=2^63-1:=rfl
   simp;omega
  ·obtain⟨hjl,hp⟩:=List.getElem?_eq_some_iff.1 hj
   simp only[List.length_map,List.length_range]at hjl;simp only[List.getElem_map,List.getElem_range]at hp;subst hp;obtain⟨⟨cs',hc,hk⟩,_⟩:=hf j (by omega);obtain⟨_,hlen,hcell⟩:=World.cells?_some hc;refine⟨cs',hlen.trans hK.symm,hk,fun i u hu=>?_⟩;have hi:i<C:=by have:=(List.getElem?_eq_some_iff.1 hu).1;omega
   have:=hcell i hi;rw[Go.Deep.add_add]at this;rw[hK];exact this.trans hu
  ·simp;omega
  ·rw[hx]at hw
   simp only[DataW.weights,ht,List.mem_cons,List.mem_append]at hw;have h1:=hw _ (.inl rfl);rw[hB]at h1;simp only[List.length_map,List.length_range]at h1;refine⟨?_,fun p hp=>?_⟩
   ·have:len*B0≤(len+(m-len))*B0:=mR_ _ (by omega)
    simp;omega
   obtain⟨i,hi,rfl⟩:=List.mem_map.1 hp;have hil:=List.mem_range.1 hi;exact(hf i (by omega)).2 B (fun n hn=>hw n (.inr (.inl (weights_all (d:=D i) (List.mem_map.2 ⟨i,hi,rfl⟩) n hn))))
theorem string_one {H:Type}{enc:TypeId×Value→H}{W:World}{n:Nat}{cs:List Value}{y:DataW H×List MemPlace}(h:DataW.trod enc Tryz.prog W 0 (fun _=>true) true n 9 cs=some y):
  ∃p:BA,Kd.string.K W p cs∧∀B,(∀n∈y.1.weights Tryz.prog 9,n≤B)→p.size≤B:=by
 obtain⟨s,e,r,_⟩:=DataW.trod_string Tryz.underlying9 h;refine⟨s,e,fun B hw=>hw _ ?_⟩;rw[r];simp[DataW.weights]
theorem strs_open {H:Type}{enc:TypeId×Value→H}{W:World}{n:Nat}{cs:List Value}{x:DataW H×List MemPlace}(h:DataW.trod enc Tryz.prog W 0 (fun _=>true) true n 22 cs=some x):
  ∃(A:Option Addr)(l:List BA)(c:Nat),cs=[.slice A l.length c]∧Kd.string.C W A l.length l∧l.length≤c∧∀B,(∀n∈x.1.weights Tryz.prog 22,n≤B)→l.length*16≤B∧∀p∈l,p.size≤B:=
 row_open (K:=Kd.string) Tryz.underlying22 (show Tryz.prog.cellsOf 9=1 by kernel_rfl) rfl (show Tryz.prog.bytesOf 9=16 by kernel_rfl) (fun B p=>p.size≤B) (fun _ _ _ h=>string_one h) h
end Go.Proofs.YtalfefmnlnkcaaaGreatDoor.Tr
end
section
namespace Go.Proofs.YtalfefmnlnkcaaaGreatDoor.P
open Go.RowKit Go.Proofs.YtalfefmnlnkcaaaGreatDoorW PrintWords PrintLast PrintMore
def laws_markTrip.f (k:Nat)(l2:List Hz)(l3:List BA)(l4:List Lz)(m:Int):Option (Int×List Hz×List BA×List Lz):=
  (laws_markHouseS.f k l2 m).bind fun a=>(laws_markStringS.f k l3 a.1).bind fun b=>(laws_markLookS.f k l4 b.1).bind fun c=>some (c.1,a.2,b.2,c.2)
set_option maxHeartbeats 4000000 in
set_option maxRecDepth 100000 in
theorem laws_markTrip.calls (k:Nat)(ok:Nat→Prop)(a0:BA)(a1:Int)(v2 v3 v4:Value)(l2:List Hz)(l3:List BA)(l4:List Lz)(m r:Int)(r2:List Hz)(r3:List BA)(r4:List Lz)(w0 w:World)(hS:Kd.S kHz 43 w w0.heap.size ok v2 l2)(h3:Kd.R Kd.string 9 w w0.heap.size (fun _=>True) v3 l3)(h4:Kd.R k83 83 w w0.heap.size (fun _=>True) v4 l4)
    (hlt:∀k,ok k→k<w.heap.size) (hs3:∀k,ok k→¬some k=v3.ownBlock) (hs4:∀k,ok k→¬some k=v4.ownBlock) (hB:Below w0.heap.size w0 w) (h:laws_markTrip.f k l2 l3 l4 m=some (r,r2,r3,r4)):
    Calls Tryz.prog 12 #[.agg #[.string a0,.int .i64 a1,v2,v3,v4],.int .i64 m] w fun e w'=>e=.returned (.int .i64 r)∧Kd.S kHz 43 w' w0.heap.size ok v2 r2∧Kd.R Kd.string 9 w' w0.heap.size (fun k=>some k=v3.ownBlock) v3 r3∧Kd.R k83 83 w' w0.heap.size (fun k=>some k=v4.ownBlock) v4 r4∧Below w0.heap.size w0 w'∧Kept w w' (fun k=>ok k∨some k=v3.ownBlock∨some k=v4.ownBlock):=by
  have hu:=Tryz.underlying27;obtain⟨A2,c2,rfl⟩:=Kd.S_slice hS;obtain⟨A3,c3,rfl⟩:=Kd.R_slice h3;obtain⟨A4,c4,rfl⟩:=Kd.R_slice h4;unfold laws_markTrip.f at h;obtain⟨⟨m1,hs⟩,e1,h⟩:=oE_.mp h;obtain⟨⟨m2,ns⟩,e2,h⟩:=oE_.mp h;obtain⟨⟨m3,ks⟩,e3,h⟩:=oE_.mp h;obtain⟨rfl,rfl,rfl,rfl⟩:m3=r∧hs=r2∧ns=r3∧ks=r4:=by simpa using h
  have T3:=A_ (Kd.R_tight rfl h3);have T4:=A_ (Kd.R_tight rfl h4);have N34:=A_ (show ∀k,some k=(Value.slice A4 l4.length c4).ownBlock→¬some k=(Value.slice A3 l3.length c3).ownBlock from fun k hk e=>by
    obtain⟨cells,hc⟩:=Kd.R_typed h4 k hk.symm;exact Kd.R_ne h3 hc (by decide) e)
  have L3:=A_ (Kd.R_lt h3);have L4:=A_ (Kd.R_lt h4);have HS:=A_ hS;have HB:=A_ hB;have HL:=A_ hlt;have S3:=A_ hs3;have S4:=A_ hs4;have E1:=A_ e1;have E2:=A_ e2;have E3:=A_ e3;clear hS h3 h4 hB hlt hs3 hs4 h e1 e2 e3
  go_enter Tryz.func12,Tryz.ntmps12
  go_wp2_with (first
    | ((with_reducible refine gate_dst (N:=2) rfl ?_);refine box_event ?hg (N:=2) ?hd (cs:=#[.string a0,.int .i64 a1,.slice A2 l2.length c2,.slice A3 l3.length c3,.slice A4 l4.length c4]) (t:=27) ?hr ?_;(case hd=>rfl);(case hg=>rfl);(case hr=>first|(go_simp;done)|(go_simp;rfl));
       intro gb hg w2 hbox hb;have NB:=A_ (show ∀k,k<w.heap.size→k≠gb from fun k hk=>by rw[hg];exact Nat.ne_of_lt hk);have KP:=A_ (Kept.of_below hb (fun k=>ok k∨some k=(Value.slice A3 l3.length c3).ownBlock∨some k=(Value.slice A4 l4.length c4).ownBlock));replace HB:=A_ (below_step HB.out hb);replace HS:=A_ (Kd.S_below HS.out hb);replace T3:=A_ (Kd.R_below T3.out hb);replace T4:=A_ (Kd.R_below T4.out hb);have hx2:w2.cell? ⟨gb,2,none⟩=some (.slice A2 l2.length c2):=(blk_cell hbox 2).trans rfl;have hx3:w2.cell? ⟨gb,3,none⟩=some (.slice A3 l3.length c3):=(blk_cell hbox 3).trans rfl;have hx4:w2.cell? ⟨gb,4,none⟩=some (.slice A4 l4.length c4):=(blk_cell hbox 4).trans rfl;clear hb hg hbox)
    | (go_at_call 27;
       (with_reducible refine(laws_markHouseS.calls k ok (.slice A2 l2.length c2) l2 m m1 hs w0 _ HS.out HB.out E1.out).mono ?_)
       rintro e w3 ⟨rfl,hs2,hb,hk⟩;replace HS:=A_ hs2;clear hs2;replace KP:=A_ (KP.out.then_ hk (fun k h=>.inl (.inl h)));replace T3:=A_ (Kd.R_step T3.out (fun k h1 h2=>hk.2 k h2 (fun h3=>S3.out k h3 h1)));replace T4:=A_ (Kd.R_step T4.out (fun k h1 h2=>hk.2 k h2 (fun h3=>S4.out k h3 h1)));have hy3:=cell_kept hx3 hk (fun h=>NB.out _ (HL.out _ h) rfl);have hy4:=cell_kept hx4 hk (fun h=>NB.out _ (HL.out _ h) rfl);replace HB:=A_ hb;clear hb hk hx2 hx3 hx4)
    | (go_at_call 11;
       (with_reducible refine(laws_markStringS.calls k (fun k_=>some k_=(Value.slice A3 l3.length c3).ownBlock) (.slice A3 l3.length c3) l3 m1 m2 ns w0 _ HB.out T3.out E2.out).mono ?_)
       rintro e w4 ⟨rfl,ho,hb,hk⟩;replace KP:=A_ (KP.out.then_ hk (fun k h=>.inl (.inr (.inl h))));replace T4:=A_ (Kd.R_step T4.out (fun k h1 h2=>hk.2 k h2 (fun h3=>N34.out k h1 h3)));have hz4:=cell_kept hy4 hk (fun h=>NB.out _ (L3.out _ h.symm) rfl);replace HS:=A_ (Kd.S_step HS.out (fun k h1 h2=>hk.2 k h2 (fun h3=>S3.out k h1 h3)));replace T3:=A_ (Kd.R_tight rfl ho);replace HB:=A_ hb;clear hb hk ho hy3 hy4)
    | (go_at_call 28;
       (with_reducible refine(laws_markLookS.calls k (fun k_=>some k_=(Value.slice A4 l4.length c4).ownBlock) (.slice A4 l4.length c4) l4 m2 m3 ks w0 _ HB.out T4.out E3.out).mono ?_)
       rintro e w5 ⟨rfl,ho,hb,hk⟩;replace KP:=A_ (KP.out.then_ hk (fun k h=>.inl (.inr (.inr h))));replace HS:=A_ (Kd.S_step HS.out (fun k h1 h2=>hk.2 k h2 (fun h3=>S4.out k h1 h3)));replace T3:=A_ (Kd.R_step T3.out (fun k h1 h2=>hk.2 k h2 (fun h3=>N34.out k h3 h1)));replace T4:=A_ (Kd.R_tight rfl ho);replace HB:=A_ hb;clear hb hk ho hz4))
  go_ret;exact⟨rfl,HS.out,T3.out,T4.out,HB.out,KP.out⟩
end Go.Proofs.YtalfefmnlnkcaaaGreatDoor.P
end
section
namespace Go.Proofs.YtalfefmnlnkcaaaGreatDoor.B
open Go.RowKit Go.Proofs.YtalfefmnlnkcaaaGreatDoorW PrintWords PrintLast PrintMore
theorem w64 {n:Int}(h0:-9223372036854775808≤n)(h1:n<9223372036854775808):wrap64 n=n:=by
 unfold wrap64;omega
abbrev L (s:BA):List UInt8:=s.data.toList
theorem L_size (s:BA):(L s).length=s.size:=(Lib.size_eq s).symm
theorem L_app (a b:BA):L (a++b)=L a++L b:=by simp[L]
theorem L_ext (s:BA)(a b:Nat):L (s.extract a b)=((L s).drop a).take (b-a):=Lib.extract_data s a b
theorem L_inj {a b:BA}(h:L a=L b):a=b:=by
 cases a;cases b;congr 1;exact Array.toList_inj.1 h
theorem toList_inj {a b:BA}:a.toList=b.toList↔a=b:=by
 rw[Lib.toList_data,Lib.toList_data];exact⟨fun h=>L_inj h,fun h=>by rw[h]⟩
theorem toList_nil {a:BA}:a.toList=([]:List UInt8)↔a.size=0:=by
 rw[Lib.toList_data,Lib.size_eq];exact List.length_eq_zero_iff.symm
theorem bt_L (s:BA)(i:Nat):bt s i=(((L s).getD i 0).toNat:Int):=by
 unfold bt;simp only[tN_]
 split
 ·rename_i h
  rw[gD_,gE_ (by rw[L_size];exact h)];simp[L];rfl
 ·rename_i h
  rw[gD_,List.getElem?_eq_none (by rw[L_size];omega)];rfl
theorem Ev_succ {α:Type}{g:Nat→Option α}{r:α}(h:Ev (fun k=>g (k+1)) r):Ev g r:=Ev.step (f:=fun k=>g (k+1)) (fun _=>rfl) h
end Go.Proofs.YtalfefmnlnkcaaaGreatDoor.B
end
section
namespace Go.Proofs.YtalfefmnlnkcaaaGreatDoor.P
open Go.RowKit Go.Proofs.YtalfefmnlnkcaaaGreatDoorW PrintWords PrintLast PrintMore
theorem infoHz:(Tryz.prog.info? 43).map (fun i=>(i.zero,i.size,i.bytes))=some (some (.agg #[.string ⟨#[]⟩,.int .i64 0,.bool false,.slice none 0 0,.slice none 0 0,.int .i64 0,.int .i64 0,.slice none 0 0]),8,120):=by kernel_rfl
theorem lit_str (w:World)(base:Nat)(hb:base≤w.heap.size)(x:BA):Kd.string.R 9 (w.alloc (.cells #[.string x] 9)) base (fun _=>True) (.slice (some ⟨w.heap.size,0,none⟩) 1 1) [x]:=by
 refine⟨fun _ _=>trivial,[.string x],?_,Reps.one rfl (Reps.none _ _)⟩;have h2:=World.ownsRow_lit (base:=base) (e:=9) (size:=1) w #[.string x] 1 hb (by decide) rfl;exact h2
theorem fresh_house {wc w3:World}{base:Nat}{ok:Nat→Prop}{u v3 v4 v7:Value}{l:List Hz}{x:Hz}(hS:Kd.S kHz 43 wc base ok u l)(hfr:∀k,wc.heap.size≤k→ok k)
  (hst:∀k,k<wc.heap.size→w3.heap[k]?=wc.heap[k]?) (hle:wc.heap.size≤w3.heap.size)
  (r3:Kd.string.R 9 w3 base (fun _=>True) v3 x.f3.f0) (r4:k98.R 98 w3 base (fun _=>True) v4 x.f3.f1) (r7:k76.R 76 w3 base (fun _=>True) v7 x.f5)
  (h3:∀k,some k=v3.ownBlock→wc.heap.size≤k) (h4:∀k,some k=v4.ownBlock→wc.heap.size≤k) (h7:∀k,some k=v7.ownBlock→wc.heap.size≤k):
  ∃okp:Nat→Prop,kHz.M w3 base okp x (hzC x v3 v4 v7)∧(∀k,okp k→ok k∧some k≠u.ownBlock)∧(∀k,w3.heap.size≤k→ok k)∧Kd.S kHz 43 w3 base (fun k=>ok k∧¬okp k) u l:=by
 have hold:∀k,some k=v3.ownBlock∨some k=v4.ownBlock∨some k=v7.ownBlock→wc.heap.size≤k:=fun k hk=>hk.elim (h3 k) (fun hk=>hk.elim (h4 k) (h7 k))
 refine⟨fun k=>some k=v3.ownBlock∨some k=v4.ownBlock∨some k=v7.ownBlock,k43_mkM _ _ _ x (Kd.R_mono (Kd.R_tight rfl r3) (fun k hk=>.inl hk)) (Kd.R_mono (Kd.R_tight rfl r4) (fun k hk=>.inr (.inl hk))) (Kd.R_mono (Kd.R_tight rfl r7) (fun k hk=>.inr (.inr hk))),fun k hk=>⟨hfr k (hold k hk),fun he=>?_⟩,fun k hk=>hfr k (by omega),?_⟩
 ·have:=Kd.S_lt hS k he.symm
  have:=hold k hk;omega
 ·refine Kd.S_step (Kd.S_mono (Kd.S_bound hS) (fun k hk=>⟨hk.1,fun h2=>?_⟩)) (fun k _ hlt=>hst k hlt)
  have:=hold k h2;have:=hk.2.2.1;omega
theorem Tr.more {w0 w wc W wd:World}{T ty:Nat}{ok:Nat→Prop}{cs:Array Value}{v2 v2' v3 v4:Value}{hs hs':List Hz}{sn:List BA}{lk:List Lz}(h:Tr w0 w wc T ty ok cs v2 v3 v4 hs sn lk)(hb:Below wc.heap.size wc W)(hg:W.grownBy wd v2.ownBlock)(hS:Kd.S kHz 43 wd w0.heap.size (okS ok v3 v4) v2' hs')(hB:Below w0.heap.size w0 wd):Tr w0 w wd T ty ok cs v2' v3 v4 hs' sn lk:=
 h.houses (Kept.of_grown hg (Kept.of_below hb _) (fun k hk=>.inl ((Kd.S_R h.S2).1 k hk))) hS hB
set_option maxHeartbeats 8000000 in
set_option maxRecDepth 100000 in
theorem houseOf_walk (T:Nat)(ok:Nat→Prop)(v2 v3 v4:Value)(nm n:BA)(now:Int)(hs:List Hz)(sn:List BA)(lk:List Lz)(w0 w:World)(hT:Tr w0 w w T 27 ok #[.string nm,.int .i64 now,v2,v3,v4] v2 v3 v4 hs sn lk)(hfr:∀k,w.heap.size≤k→ok k)(hsm:hs.length<1000000):
  Calls Tryz.prog 54 #[.pointer (some ⟨T,0,none⟩),.string n] w fun e w'=>∃g cap,e=.returned (.pointer (some ⟨g,tnIdx n hs*8,none⟩))∧Tr w0 w w' T 27 ok #[.string nm,.int .i64 now,.slice (some ⟨g,0,none⟩) (tnHouse nm n hs).length cap,v3,v4] (.slice (some ⟨g,0,none⟩) (tnHouse nm n hs).length cap) v3 v4 (tnHouse nm n hs) sn lk:=by
 obtain⟨A0,c0,rfl⟩:=Kd.S_slice hT.S2;have hu:=Tryz.underlying43;have hu2:=Tryz.underlying27;have HX:=A_ hT;have HF:=A_ hfr;have hx2:w.cell? ⟨T,2,none⟩=some (.slice A0 hs.length c0):=(blk_cell hT.box 2).trans rfl;have hx0:w.cell? ⟨T,0,none⟩=some (.string nm):=(blk_cell hT.box 0).trans rfl;clear hT hfr
 go_enter Tryz.func54,Tryz.ntmps54
 go_wp2
 go_loopg [11] hs.length (fun g v11 wx=>∃i:Nat,v11=.int .i64 i∧i+g=hs.length∧wx=w∧Aside0 (tnIdx n hs=i+tnIdx n (hs.drop i)))
 case atStart=>exact⟨0,rfl,by omega,rfl,⟨by simp⟩⟩
 case round=>
  obtain⟨i,rfl,hig,rfl,HI⟩:=hrel;cases gk with
  |zero=>
   have hlt:decide ((i:Int)<(hs.length:Int))=false:=decide_eq_false (by omega);have hlt2:decide (i<hs.length)=false:=decide_eq_false (by omega);have hi:=HI.out;rw[List.drop_of_length_le (by omega)]at hi;have hi2:tnIdx n hs=hs.length:=by simp only[tnIdx]at hi;omega
   obtain⟨m,hm⟩:∃m,hs.length+1=m:=⟨_,rfl⟩;have ht:tnHouse nm n hs=hs++[tnNew nm n]:=by unfold tnHouse;rw[if_neg (by omega)]
   have ej:wrap64 ((m:Int)-1)=(hs.length:Int):=by unfold wrap64;omega
   have p0:(0≤(hs.length:Int))=True:=eq_true (by omega);have q0:((hs.length:Int)<(m:Int))=True:=eq_true (by omega);have q1:(hs.length<m)=True:=eq_true (by omega);clear hi HI
   go_upto_region 7 with(fail)
   refine start_ (n:=18) (S:=fun w'=>w'.cell? ⟨T,2,none⟩=some (.slice A0 hs.length c0)∧w'.cell? ⟨T,0,none⟩=some (.string nm)) (ds:=[17]) #[false,false,false,false,false,false,false,false,false,false,false,false,false,false,false,false,false,false] (by kernel_rfl) rfl rfl ⟨hx2,hx0⟩ (fun hHeld=>?_);replace HX:=A_ HX.out.drew;clear hx2 hx0;generalize wr.drew=w8 at HX hHeld ⊢;refine rgP 0 (some 31) #[true,false,false,false,false,false,false,false,false,false,false,false,false,false,false,false,false,false] ?_;refine rgP 1 (some 32) #[true,true,false,false,false,false,false,false,false,false,false,false,false,false,false,false,false,false] ?_;refine rgP 2 (some 33) #[true,true,true,false,false,false,false,false,false,false,false,false,false,false,false,false,false,false] ?_;refine rgP 3 (some 34) #[true,true,true,true,false,false,false,false,false,false,false,false,false,false,false,false,false,false] ?_;refine rgP 5 (some 36) #[true,true,true,true,false,true,false,false,false,false,false,false,false,false,false,false,false,false] ?_;refine rgP 6 (some 37) #[true,true,true,true,false,true,true,false,false,false,false,false,false,false,false,false,false,false] ?_;refine rgP 7 (some 38) #[true,true,true,true,false,true,true,true,false,false,false,false,false,false,false,false,false,false] ?_;refine rgP 8 (some 39) #[true,true,true,true,false,true,true,true,true,false,false,false,false,false,false,false,false,false] ?_;refine rgT 4 (some 35) #[true,true,true,true,true,true,true,true,true,false,false,false,false,false,false,false,false,false] hHeld ?_;refine rgT 9 (some 40) #[true,true,true,true,true,true,true,true,true,true,false,false,false,false,false,false,false,false] hHeld ?_;refine rgO 10 41 (.slice (some ⟨w8.heap.size,0,none⟩) 1 1) (w8.alloc (.cells #[.string nm] 9)) #[true,true,true,true,true,true,true,true,true,true,true,false,false,false,false,false,false,false] ?_ (fun hHeld=>?_)
   ·exact⟨(World.cell?_alloc_lt _ _ _ (wb_ _ _ hHeld.1)).trans hHeld.1,(World.cell?_alloc_lt _ _ _ (wb_ _ _ hHeld.2)).trans hHeld.2⟩
   refine rgP 11 (some 42) #[true,true,true,true,true,true,true,true,true,true,true,true,false,false,false,false,false,false] ?_;refine rgP 12 (some 43) #[true,true,true,true,true,true,true,true,true,true,true,true,true,false,false,false,false,false] ?_;refine rgO 13 44 (.slice (some ⟨w8.heap.size+1,0,none⟩) 1 1) ((w8.alloc (.cells #[.string nm] 9)).alloc (.cells #[.string n,.int .i64 0,.bool false,.slice (some ⟨w8.heap.size,0,none⟩) 1 1,.slice none 0 0,.int .i64 0,.int .i64 0,.slice none 0 0] 43)) #[true,true,true,true,true,true,true,true,true,true,true,true,true,true,false,false,false,false] ?_ (fun hHeld=>?_)
   ·exact⟨(World.cell?_alloc_lt _ _ _ (wb_ _ _ hHeld.1)).trans hHeld.1,(World.cell?_alloc_lt _ _ _ (wb_ _ _ hHeld.2)).trans hHeld.2⟩
   refine one_ (i:=14) (N:=some 45) #[true,true,true,true,true,true,true,true,true,true,true,true,true,true,true,false,false,false] rfl rfl (by kernel_rfl) (by decide) (fun K hK=>?_);have hbl:Below w8.heap.size w8 (w8.alloc (.cells #[.string nm] 9)):=below_alloc (Below.refl _ _) _;obtain⟨okp,hM,hokp,hnew,hS⟩:=fresh_house (x:=tnNew nm n) (w3:=(w8.alloc (.cells #[.string nm] 9))) HX.out.S2 (HX.out.fresh2 (fun k hk=>HF.out k (nT_ HX.out.K.1 hk))) (fun k hk=>hbl.block k hk) hbl.size (lit_str w8 _ HX.out.hle nm) (Kd.R_nil k98 _ _ _ _) (Kd.R_nil k76 _ _ _ _) (fun k hk=>by simp[Value.ownBlock]at hk;omega) (fun k hk=>by simp[Value.ownBlock]at hk) (fun k hk=>by simp[Value.ownBlock]at hk);refine Kd.S_append_step kHz (w0:=w0) (W:=(w8.alloc (.cells #[.string nm] 9))) w0.heap.size (by rfl) (.tmp 35) (.tmp 44) 24 43 (.agg #[.string ⟨#[]⟩,.int .i64 0,.bool false,.slice none 0 0,.slice none 0 0,.int .i64 0,.int .i64 0,.slice none 0 0]) 120 (by rfl) Tryz.underlying24 infoHz rfl (by decide) (by omega) (.slice A0 hs.length c0) hs (tnNew nm n) [.string n,.int .i64 0,.bool false,.slice (some ⟨w8.heap.size,0,none⟩) 1 1,.slice none 0 0,.int .i64 0,.int .i64 0,.slice none 0 0] (okS ok v3 v4) okp (by rfl) (by have e:(w8.alloc (.cells #[.string nm] 9)).heap.size=w8.heap.size+1:=(by simp);rw[e];rfl) hM hokp hnew hS (HX.out.below hbl).B (HX.out.below hbl).hle (by omega) ?_;intro v1 w1 hS1 hB1 hG1 hat;obtain⟨g,cap,rfl,_,_,_⟩:=Kd.S_form hS1 (by simp);have en:(hs++[tnNew nm n]).length=m:=by rw[lA_,List.length_singleton];exact hm
   rw[en]at hS1 ⊢;have HQ:=A_ (HX.out.more hbl hG1 hS1 hB1);have hx1:w1.cell? ⟨T,2,none⟩=some (.slice A0 hs.length c0):=(blk_cell HQ.out.box 2).trans rfl;have hz1:=blk_frozen HQ.out.box 2;refine hK.out _ _ ⟨hx1,(blk_cell HQ.out.box 0).trans rfl⟩ (fun hHeld=>?_);clear hK K hM hokp hnew hS hS1 hB1 hG1 hat hbl;refine rgN 45 ?_;refine rgP 15 (some 46) #[true,true,true,true,true,true,true,true,true,true,true,true,true,true,true,true,false,false] ?_;refine rgP 16 (some 47) #[true,true,true,true,true,true,true,true,true,true,true,true,true,true,true,true,true,false] ?_;refine rgL 17 (w1.setCell ⟨T,2,none⟩ (.slice (some ⟨g,0,none⟩) m cap)) #[true,true,true,true,true,true,true,true,true,true,true,true,true,true,true,true,true,true] ?_;refine done_ (by kernel_rfl) ?_;replace HQ:=A_ (HQ.out.set 2 (.slice (some ⟨g,0,none⟩) m cap) _ rfl);clear hx1 hz1 hHeld HX;generalize (w1.setCell ⟨T,2,none⟩ (.slice (some ⟨g,0,none⟩) m cap))=w9 at HQ ⊢;have hx2:w9.cell? ⟨T,2,none⟩=some (.slice (some ⟨g,0,none⟩) m cap):=(blk_cell HQ.out.box 2).trans rfl
   go_upto_region 8 with(fail)
   refine start_ (n:=12) (S:=fun w'=>w'.cell? ⟨T,2,none⟩=some (.slice (some ⟨g,0,none⟩) m cap)∧True) (ds:=[]) #[false,false,false,false,false,false,false,false,false,false,false,false] (by kernel_rfl) rfl rfl ⟨hx2,trivial⟩ (fun hHeld=>?_);replace HQ:=A_ HQ.out.drew;clear hx2;generalize w9.drew=w10 at HQ hHeld ⊢;refine rgP 0 (some 48) #[true,false,false,false,false,false,false,false,false,false,false,false] ?_;refine rgP 1 (some 49) #[true,true,false,false,false,false,false,false,false,false,false,false] ?_;refine rgP 2 (some 50) #[true,true,true,false,false,false,false,false,false,false,false,false] ?_;refine rgP 4 (some 52) #[true,true,true,false,true,false,false,false,false,false,false,false] ?_;refine rgP 5 (some 53) #[true,true,true,false,true,true,false,false,false,false,false,false] ?_;refine rgP 6 (some 54) #[true,true,true,false,true,true,true,false,false,false,false,false] ?_;refine rgT 3 (some 51) #[true,true,true,true,true,true,true,false,false,false,false,false] hHeld ?_;refine rgT 7 (some 55) #[true,true,true,true,true,true,true,true,false,false,false,false] hHeld ?_;refine rgP 8 (some 56) #[true,true,true,true,true,true,true,true,true,false,false,false] ?_;refine rgP 9 (some 57) #[true,true,true,true,true,true,true,true,true,true,false,false] ?_;rw[ej];refine rgP 10 (some 58) #[true,true,true,true,true,true,true,true,true,true,true,false] ?_;refine rgP 11 (some 4) #[true,true,true,true,true,true,true,true,true,true,true,true] ?_;refine done_ (by kernel_rfl) ?_;go_wp2;go_ret;rw[ht,hi2,en];exact⟨g,cap,rfl,HQ.out⟩
  |succ g1=>
   have hi:i<hs.length:=by omega
   have hlt:decide ((i:Int)<(hs.length:Int))=true:=decide_eq_true (by omega);have hlt2:decide (i<hs.length)=true:=decide_eq_true (by omega);have p0:(0≤(i:Int))=True:=eq_true (by omega);have q0:((i:Int)<(hs.length:Int))=True:=eq_true (by omega);have q1:(i<hs.length)=True:=eq_true (by omega);obtain⟨g,cap,eu,_,_,_⟩:=Kd.S_form HX.out.S2 (by omega);injection eu with eu1 eu2 eu3;subst eu1;subst eu3;clear eu2;obtain⟨l1,u3,u4,u7,oki,hr,g3,g4,g7,hcc,hfr,hoki,hH⟩:=(HX.out.at_ i hi rfl).lend;have hy0:wr.cell? ⟨g,i*8,none⟩=some (.string (hzAt hs i).f0):=hcc 0 _ rfl;clear l1 u3 u4 u7 oki hr g3 g4 g7 hcc hfr hoki hH;have hat:hzAt hs i=hs[i]:=by unfold hzAt;rw[gD_,gE_ hi];rfl
   have hid:=HI.out;rw[dE_ hi]at hid;simp only[tnIdx]at hid;rw[←hat]at hid;clear HI hat;obtain⟨q,hq⟩:∃q,hzAt hs i=q:=⟨_,rfl⟩;rw[hq]at hid hy0;clear hq
   by_cases c1:q.f0=n
   ·rw[if_pos c1]at hid
    have hi2:tnIdx n hs=i:=by omega
    have c1b:(q.f0.toList==n.toList)=true:=by rw[c1];simp
    have ht:tnHouse nm n hs=hs:=by unfold tnHouse;rw[if_pos (by omega)]
    clear c1 hid;go_wp2;go_ret;rw[ht,hi2];exact⟨g,_,rfl,HX.out⟩
   ·rw[if_neg c1]at hid
    have c1b:(q.f0.toList==n.toList)=false:=bN_.mpr (fun e=>c1 (Go.Proofs.YtalfefmnlnkcaaaGreatDoor.B.toList_inj.1 e));clear c1;have HI:=A_ (show tnIdx n hs=(i+1)+tnIdx n (hs.drop (i+1)) by omega);clear hid;go_wp2
    go_roundg g1
    case measure=>omega
    case rel=>exact⟨i+1,by simp,by omega,rfl,HI⟩
end Go.Proofs.YtalfefmnlnkcaaaGreatDoor.P
end
section
namespace Go.Proofs.YtalfefmnlnkcaaaGreatDoor.Ad
open Go.RowKit Go.Proofs.YtalfefmnlnkcaaaGreatDoorW PrintWords Go.Proofs.YtalfefmnlnkcaaaGreatDoor.B
abbrev ofL (l:List UInt8):BA:=⟨l.toArray⟩
theorem L_of (l:List UInt8):L (ofL l)=l:=by simp[L]
theorem of_L (s:BA):ofL (L s)=s:=by apply L_inj;simp[L]
theorem ofL_app (a b:List UInt8):ofL (a++b)=ofL a++ofL b:=by apply L_inj;rw[L_of,L_app,L_of,L_of]
theorem ofL_size (l:List UInt8):(ofL l).size=l.length:=by rw[←L_size,L_of]
def plainB (c:UInt8):Bool:=(decide (97≤c.toNat)&&decide (c.toNat≤122))||(decide (48≤c.toNat)&&decide (c.toNat≤57))||c.toNat==46||c.toNat==45
def hexN (c:UInt8):Option Nat:=
 if 48≤c.toNat∧c.toNat≤57 then some (c.toNat-48)else if 97≤c.toNat∧c.toNat≤102 then some (c.toNat-87)else if 65≤c.toNat∧c.toNat≤70 then some (c.toNat-55)else none
theorem hexN_lt {c:UInt8}{x:Nat}(h:hexN c=some x):x<16:=by
 unfold hexN at h
 split at h
 ·injection h;omega
 ·split at h
  ·injection h;omega
  ·split at h
   ·injection h;omega
   ·cases h
def fig (n:Nat):UInt8:=if n<10 then UInt8.ofNat (48+n)else UInt8.ofNat (55+n)
def encN (n:Nat):List UInt8:=if plainB (UInt8.ofNat n)then[UInt8.ofNat n]else[37,fig (n / 16),fig (n%16)]
theorem encN_len (n:Nat):(encN n).length≤3:=by unfold encN;split <;> simp
def esc:List UInt8→Option (List UInt8)
 | []=>some []
 |c::r=>if c=37 then(match r with
   |a::b::q=>(match hexN a,hexN b with
    |some x,some y=>(esc q).map (encN (x*16+y)++·)
    |_,_=>none)
   |_=>none)else(esc r).map (encN c.toNat++·)
theorem esc_short {r:List UInt8}(h:r.length≤1):esc (37::r)=none:=by
 match r,h with
 | [],_=>simp[esc]
 | [_],_=>simp[esc]
 |_::_::_,h=>simp at h
theorem esc_bad1 {a:UInt8}(b:UInt8)(q:List UInt8)(h:hexN a=none):esc (37::a::b::q)=none:=by simp[esc,h]
theorem esc_bad2 (a:UInt8){b:UInt8}(q:List UInt8)(h:hexN b=none):esc (37::a::b::q)=none:=by
 cases ha:hexN a <;> simp[esc,h,ha]
theorem esc_sign {a b:UInt8}{x y:Nat}(q:List UInt8)(ha:hexN a=some x)(hb:hexN b=some y):esc (37::a::b::q)=(esc q).map (encN (x*16+y)++·):=by simp[esc,ha,hb]
theorem esc_plain {c:UInt8}(r:List UInt8)(h:c≠37):esc (c::r)=(esc r).map (encN c.toNat++·):=by rw[esc.eq_def];exact if_neg h
def escO (o:Option (List UInt8)):BA×Bool:=match o with
 |some r=>(ofL r,true)
 |none=>(⟨#[]⟩,false)
def escNorm (s:BA):BA×Bool:=if s.size>60 then(⟨#[]⟩,false)else escO (esc (L s))
def isNorm (s:BA):Bool:=(escNorm s).2&&((escNorm s).1.toList==s.toList)
theorem esc_len (n:Nat):∀(l r:List UInt8),l.length≤n→esc l=some r→r.length≤3*l.length:=by
 induction n with
 |zero=>
  intro l r hl h;obtain rfl:l=[]:=List.length_eq_zero_iff.1 (by omega);simp[esc]at h;subst h;simp
 |succ n ih=>
  intro l r hl h
  match l,hl,h with
  | [],_,h=>simp[esc]at h;subst h;simp
  |c::q,hl,h=>
   unfold esc at h
   split at h
   ·match q,hl,h with
    |a::b::q',hl,h=>
     simp only at h
     split at h
     ·obtain⟨t,ht,rfl⟩:=Option.map_eq_some_iff.1 h
      have:=ih q' t (by simp at hl;omega) ht;exact nT_ (by rw[lA_];exact Nat.add_le_add (encN_len _) this) (by simp only[List.length_cons];omega)
     ·cases h
    | [],_,h=>simp at h
    | [_],_,h=>simp at h
   ·obtain⟨t,ht,rfl⟩:=Option.map_eq_some_iff.1 h
    have:=ih q t (by simp at hl;omega) ht;exact nT_ (by rw[lA_];exact Nat.add_le_add (encN_len _) this) (by simp only[List.length_cons];omega)
theorem escNorm_size (s:BA):(escNorm s).1.size≤180:=by
 unfold escNorm
 split
 ·exact Nat.zero_le _
 ·unfold escO
  split
  ·rename_i h1 _ r h
   have:=esc_len _ _ _ (lL_ _) h;rw[ofL_size];rw[L_size]at this;omega
  ·exact Nat.zero_le _
def body:List BA→BA
 | []=>⟨#[47]⟩
 |p::r=>r.foldl (fun a q=>(a++⟨#[47]⟩)++q) ((⟨#[47]⟩:BA)++p)
def pathB (parts:List BA)(asks:Bool)(ask:BA):BA:=if asks=true then(body parts++⟨#[63]⟩)++ask else body parts
def textB (house:BA)(parts:List BA)(asks:Bool)(ask:BA):BA:=((⟨#[47,47]⟩:BA)++house)++pathB parts asks ask
def partOk (p:BA):Bool:=isNorm p && !(p.toList==[]) && !(p.toList==[46]) && !(p.toList==[46,46])
def smallFrom (s:BA):Nat→Nat→Bool
 |0,_=>true
 |d+1,i=>if bt s i<97 then false else if bt s i>122 then false else smallFrom s d (i+1)
def isSmall (s:BA):Bool:=smallFrom s s.size 0
def isHouse (s:BA):Bool:=decide (1≤s.size)&&decide (s.size≤5)&&isSmall s
def addrOk (house:BA)(parts:List BA)(asks:Bool)(ask:BA):Bool:=
 isHouse house&&decide (parts.length≤5)&&isNorm ask&&(asks||ask.toList==[])&&parts.all partOk&&decide ((textB house parts asks ask).size≤60)
def addrText (house:BA)(parts:List BA)(asks:Bool)(ask:BA):BA:=if addrOk house parts asks ask=true then textB house parts asks ask else⟨#[]⟩
theorem isNorm_size {s:BA}(h:isNorm s=true):s.size≤60:=by
 unfold isNorm escNorm at h
 split at h
 ·simp at h
 ·omega
def sm (b:UInt8):UInt8:=if 65≤b.toNat∧b.toNat≤90 then b+32 else b
def smallB (s:BA):BA:=ofL ((L s).map sm)
end Go.Proofs.YtalfefmnlnkcaaaGreatDoor.Ad
end
section
namespace Go.Proofs.YtalfefmnlnkcaaaGreatDoor.P
open Go.RowKit Go.Proofs.YtalfefmnlnkcaaaGreatDoorW PrintWords PrintLast PrintMore Go.Proofs.YtalfefmnlnkcaaaGreatDoor.B Go.Proofs.YtalfefmnlnkcaaaGreatDoor.Ad
set_option maxHeartbeats 8000000
set_option maxRecDepth 100000
def strings_Join.f (l0:List BA)(a1:BA):Option (BA):=
 if l0.length≤140737488355328∧(Lib.join (l0.map L) (L a1)).length≤140737488355328 then some (ofL (Lib.join (l0.map L) (L a1)))else none
theorem strings_Join.calls (A0:Option Addr)(c0:Nat)(l0:List BA)(a1:BA)(r:BA)(w:World)(hr0:Kd.C Kd.string w A0 l0.length l0)(hc0:l0.length≤c0)(h:strings_Join.f l0 a1=some r):
  Calls Tryz.prog 93 #[.slice A0 l0.length c0,.string a1] w fun e w'=>e=.returned (.string r)∧Below w.heap.size w w':=by
 unfold strings_Join.f at h
 split at h
 ·rename_i hh
  obtain rfl:=sI h;rcases Nat.eq_zero_or_pos l0.length with h0|h0
  ·obtain rfl:l0=[]:=List.length_eq_zero_iff.1 h0
   exact(Tryz.strings_Join_none A0 c0 a1 w).mono fun e w' ⟨he,hw⟩=>⟨he,hw ▸ Below.refl _ _⟩
  ·obtain⟨bk,o,rfl,hb,hcells⟩:=row_at hr0 h0
   exact Tryz.strings_Join bk o c0 l0 a1 w hcells hb hh.1 hc0 hh.2
 ·cases h
def stringslite_Index.f (a0:BA)(a1:BA):Option (Int):=match L a1 with
 | [c]=>some (Lib.indexByte (L a0) c)
 |_=>none
theorem one_of_L {a:BA}{c:UInt8}(h:L a=[c]):a=⟨#[c]⟩:=L_inj (by rw[h])
theorem stringslite_Index.calls (a0:BA)(a1:BA)(r:Int)(w:World)(h:stringslite_Index.f a0 a1=some r):
  Calls Tryz.prog 119 #[.string a0,.string a1] w fun e w'=>e=.returned (.int .i64 r)∧Below w.heap.size w w':=by
 unfold stringslite_Index.f at h
 split at h
 ·rename_i c hc
  obtain rfl:=sI h;obtain rfl:=one_of_L hc;exact(Tryz.stringslite_Index_one a0 c w).mono fun e w' ⟨he,hw⟩=>⟨he,hw ▸ Below.refl _ _⟩
 ·cases h
def strings_Count.f (a0:BA)(a1:BA):Option (Int):=match L a1 with
 | [c]=>some (Lib.countByte (L a0) c)
 |_=>none
theorem strings_Count.calls (a0:BA)(a1:BA)(r:Int)(w:World)(h:strings_Count.f a0 a1=some r):
  Calls Tryz.prog 146 #[.string a0,.string a1] w fun e w'=>e=.returned (.int .i64 r)∧Below w.heap.size w w':=by
 unfold strings_Count.f at h
 split at h
 ·rename_i c hc
  obtain rfl:=sI h;obtain rfl:=one_of_L hc;exact(Tryz.strings_Count_one a0 c w).mono fun e w' ⟨he,hw⟩=>⟨he,hw ▸ Below.refl _ _⟩
 ·cases h
def slices_Clone_string_string.f (l0:List BA):Option (List BA):=if l0.length*16≤140737488355328 then some l0 else none
theorem slices_Clone_string_string.calls (A0:Option Addr)(c0:Nat)(l0:List BA)(r:List BA)(w:World)(hr0:Kd.C Kd.string w A0 l0.length l0)(hc0:l0.length≤c0)(h:slices_Clone_string_string.f l0=some r):
  Calls Tryz.prog 125 #[.slice A0 l0.length c0] w fun e w'=>∃v0_:Value,e=.returned (v0_)∧Kd.R Kd.string 9 w' w.heap.size (fun _=>True) v0_ r∧Below w.heap.size w w':=by
 unfold slices_Clone_string_string.f at h
 split at h
 ·rename_i hh
  obtain rfl:=sI h;rcases Nat.eq_zero_or_pos l0.length with h0|h0
  ·obtain rfl:l0=[]:=List.length_eq_zero_iff.1 h0
   cases A0 with
   |none=>exact(Tryz.slices_Clone_string_nil 0 c0 w).mono fun e w' ⟨he,hw⟩=>⟨_,he,Kd.R_nil _ _ _ _ _,hw ▸ Below.refl _ _⟩
   |some a=>exact(Tryz.slices_Clone_string_zero a c0 w).mono fun e w' ⟨v,he,ho,_,hb⟩=>⟨v,he,Kd.R_of_own ho (fun _ _=>trivial),hb⟩
  ·obtain⟨bk,o,rfl,hb,hcells⟩:=row_at hr0 h0
   refine(Tryz.slices_Clone_string bk o l0.length c0 l0 w (lL_ _) hh (fun j hj=>?_)).mono fun e w' ⟨v,he,ho,_,hb'⟩=>⟨v,he,Kd.R_of_own ?_ (fun _ _=>trivial),hb'⟩
   ·rw[gD_,gE_ hj]
    exact hcells j _ (gE_ hj)
   ·rw[List.take_length]at ho
    exact ho
 ·cases h
end Go.Proofs.YtalfefmnlnkcaaaGreatDoor.P
end
section
namespace Go.Proofs.YtalfefmnlnkcaaaGreatDoor.P
open Go.RowKit Go.Proofs.YtalfefmnlnkcaaaGreatDoorW PrintWords PrintLast PrintMore Go.Proofs.YtalfefmnlnkcaaaGreatDoor.B Go.Proofs.YtalfefmnlnkcaaaGreatDoor.Ad
def SmRow (b:Nat)(s:BA)(i:Nat)(w:World):Prop:=
 b<w.heap.size∧∀j,j<s.size→w.cell? ⟨b,j,none⟩=some (.int .u8 ((if j<i then sm ((L s).getD j 0)else(L s).getD j 0).toNat:Nat))∧w.frozen? ⟨b,j,none⟩=false
theorem sm_start (w:World)(e:TypeId)(s:BA):SmRow w.heap.size s 0 (Lib.bytesWorld w e s):=by
 refine⟨by rw[Lib.bytesWorld_size];omega,fun j hj=>⟨?_,?_⟩⟩
 ·rw[Lib.bytesWorld_cell w e s j hj];simp[L]
 ·have hk:s.size≤(Lib.bytesCells w e s).size:=by rw[Lib.bytesCells];simp
  simp only[World.frozen?,Lib.bytesWorld_at_new];simp;omega
theorem sm_below (w:World)(e:TypeId)(s:BA):Below w.heap.size w (Lib.bytesWorld w e s):=by
 refine⟨rfl,rfl,rfl,by rw[Lib.bytesWorld_size];omega,fun j hj=>Lib.bytesWorld_at_old w e s j hj⟩
theorem sm_set {b:Nat}{s:BA}{i:Nat}{w:World}(h:SmRow b s i w)(hi:i<s.size):SmRow b s (i+1) (w.setCell ⟨b,i,none⟩ (.int .u8 ((sm ((L s).getD i 0)).toNat:Nat))):=by
 refine⟨by rw[size_set];exact h.1,fun j hj=>⟨?_,by rw[World.frozen?_setCell];exact(h.2 j hj).2⟩⟩;rcases Nat.lt_trichotomy j i with h1|h1|h1
 ·rw[World.cell?_setCell_other _ _ _ _ (by intro e;injection e with _ e;omega),(h.2 j hj).1,if_pos h1,if_pos (by omega)]
 ·subst h1;rw[World.cell?_setCell_same _ _ _ (h.2 j hj).1,if_pos (by omega)]
 ·rw[World.cell?_setCell_other _ _ _ _ (by intro e;injection e with _ e;omega),(h.2 j hj).1,if_neg (by omega),if_neg (by omega)]
theorem sm_skip {b:Nat}{s:BA}{i:Nat}{w:World}(h:SmRow b s i w)(hi:i<s.size)(he:sm ((L s).getD i 0)=(L s).getD i 0):SmRow b s (i+1) w:=by
 refine⟨h.1,fun j hj=>⟨?_,(h.2 j hj).2⟩⟩;rw[(h.2 j hj).1];rcases Nat.lt_trichotomy j i with h1|h1|h1
 ·rw[if_pos h1,if_pos (by omega)]
 ·subst h1;rw[if_neg (by omega),if_pos (by omega),he]
 ·rw[if_neg (by omega),if_neg (by omega)]
end Go.Proofs.YtalfefmnlnkcaaaGreatDoor.P
end
section
namespace Go.Proofs.YtalfefmnlnkcaaaGreatDoor.P
open Go.RowKit Go.Proofs.YtalfefmnlnkcaaaGreatDoorW PrintWords PrintLast PrintMore Go.Proofs.YtalfefmnlnkcaaaGreatDoor.B Go.Proofs.YtalfefmnlnkcaaaGreatDoor.Ad
set_option maxHeartbeats 8000000
set_option maxRecDepth 100000
def sq:BA:=⟨#[47,63]⟩
theorem sq_at:sq.size=2∧(∀h:0<sq.size,(sq[0]'h).toNat=47)∧(∀h:1<sq.size,(sq[1]'h).toNat=63):=by decide +kernel
theorem valid_same (r:Int):Utf8.valid r=Lib.validRune r:=by
 unfold Utf8.valid Lib.validRune;rw[Bool.eq_iff_iff];simp only[Bool.or_eq_true,aE_,decide_eq_true_eq];omega
theorem decode_skip (s:BA)(pos:Nat)(h:pos<s.size)(ha:128≤(s[pos]'h).toNat):
  pos+(Utf8.decode s pos).2≤s.size∧∀j,pos≤j→j<pos+(Utf8.decode s pos).2→∀hj:j<s.size,128≤(s[j]'hj).toNat:=by
 have hn:¬(s[pos]'h).toNat<128:=by omega
 have one:pos+1≤s.size∧∀j,pos≤j→j<pos+1→∀hj:j<s.size,128≤(s[j]'hj).toNat:=by
  refine⟨h,fun j h1 h2 hj=>?_⟩;obtain rfl:j=pos:=by omega
  exact ha
 have cont:∀k,(decide (pos+k<s.size)&&((s.get! (pos+k)).toNat / 64==2))=true→pos+k<s.size∧∀hj:pos+k<s.size,128≤(s[pos+k]'hj).toNat:=by
  intro k hk;simp only[aE_,decide_eq_true_eq,beq_iff_eq]at hk;refine⟨hk.1,fun hj=>?_⟩;have e:=get_at s (pos+k) hj;rw[Nat.add_zero]at e;rw[e]at hk;omega
 simp only[Utf8.decode,get_at s pos h,hn,if_false]
 split
 ·rename_i h1
  simp only[aE_]at h1;obtain⟨l1,b1⟩:=cont 1 (by simpa using h1.2);split
  ·refine⟨(by show pos+2≤_;omega),fun j h2 h3 hj=>?_⟩
   have h3':j<pos+2:=h3;rcases(by omega:j=pos∨j=pos+1)with e|e
   ·subst e;exact ha
   ·subst e;exact b1 hj
  ·exact one
 ·split
  ·rename_i _ h1
   simp only[aE_]at h1;obtain⟨l1,b1⟩:=cont 1 (by simpa using h1.1.2);obtain⟨l2,b2⟩:=cont 2 (by simpa using h1.2);split
   ·refine⟨(by show pos+3≤_;omega),fun j h2 h3 hj=>?_⟩
    have h3':j<pos+3:=h3;rcases(by omega:j=pos∨j=pos+1∨j=pos+2)with e|e|e
    ·subst e;exact ha
    ·subst e;exact b1 hj
    ·subst e;exact b2 hj
   ·exact one
  ·split
   ·rename_i _ _ h1
    simp only[aE_]at h1;obtain⟨l1,b1⟩:=cont 1 (by simpa using h1.1.1.2);obtain⟨l2,b2⟩:=cont 2 (by simpa using h1.1.2);obtain⟨l3,b3⟩:=cont 3 (by simpa using h1.2);split
    ·refine⟨(by show pos+4≤_;omega),fun j h2 h3 hj=>?_⟩
     have h3':j<pos+4:=h3;rcases(by omega:j=pos∨j=pos+1∨j=pos+2∨j=pos+3)with e|e|e|e
     ·subst e;exact ha
     ·subst e;exact b1 hj
     ·subst e;exact b2 hj
     ·subst e;exact b3 hj
    ·exact one
   ·exact one
theorem noAny_skip {s:BA}{pos n:Nat}(h:Lib.NoAny (L s) (L sq) pos)(hb:∀j,pos≤j→j<pos+n→∀hj:j<s.size,128≤(s[j]'hj).toNat):Lib.NoAny (L s) (L sq) (pos+n):=by
 intro j b hj hx;rcases Nat.lt_or_ge j pos with hlt|hge
 ·exact h j b hlt hx
 ·obtain⟨hl,he⟩:=List.getElem?_eq_some_iff.1 hx
  have hjs:j<s.size:=by rw[←L_size];exact hl
  have h1:=hb j hge hj hjs;have h2:(s[j]'hjs)=b:=by rw[←he];rfl
  rw[h2]at h1;have:L sq=[47,63]:=rfl;rw[this];simp only[List.contains_cons,List.contains_nil,Bool.or_false,Bool.or_eq_false_iff,bN_];constructor
  ·rintro rfl;exact absurd h1 (by decide)
  ·rintro rfl;exact absurd h1 (by decide)
theorem indexRune_far (r:Int)(w:World)(h0:128≤r)(h1:r≤2147483647):
  Calls Tryz.prog 121 #[.string sq,.int .i32 r] w fun e w'=>e=.returned (.int .i64 (-1))∧Below w.heap.size w w':=by
 have g0:decide (0≤r)=true:=dT (by omega);have g1:decide (r<128)=false:=dF (by omega);obtain⟨hsz,hs0,hs1⟩:=sq_at;by_cases hr:r=65533
 ·subst hr
  have n0:=fun ty=>run_next_ascii (P:=Tryz.prog) w sq 0 ty (by rw[hsz];decide) (by rw[hs0];decide)
  have n1:=fun ty=>run_next_ascii (P:=Tryz.prog) w sq 1 ty (by rw[hsz];decide) (by rw[hs1];decide)
  rw[hs0]at n0;rw[hs1]at n1;have n2:=fun ty=>run_next_end (P:=Tryz.prog) w sq 2 ty (by rw[hsz];decide)
  clear hsz hs0 hs1 h0 h1 g0 g1;go_enter Tryz.func121,Tryz.ntmps121;go_wp2
  go_loopg [5,6] 2 (fun g _ _ wx=>∃i:Nat,i+g=2∧wx=w.iter sq i)
  case atStart=>exact⟨0,by omega,rfl⟩
  case round=>
   obtain⟨i,hig,rfl⟩:=hrel;cases gk with
   |zero=>
    obtain rfl:i=2:=by omega
    go_wp2;go_ret;exact⟨rfl,(Below.refl _ _).alloc (lL_ _) _⟩
   |succ g=>
    rcases(by omega:i=0∨i=1)with e|e
    ·subst e
     go_wp2
     go_roundg g
     case measure=>omega
     case rel=>exact⟨1,by omega,rfl⟩
    ·subst e
     go_wp2
     go_roundg g
     case measure=>omega
     case rel=>exact⟨2,by omega,rfl⟩
 ·have g2:(r==65533)=false:=by simp[hr]
  cases hv:Lib.validRune r with
  |false=>
   go_enter Tryz.func121,Tryz.ntmps121;go_wp2_with (go_at_call 138;refine(Tryz.utf8_ValidRune _ _).mono ?_;rintro e w' ⟨rfl,hw⟩;rw[hw,hv])
   go_ret;exact⟨rfl,Below.refl _ _⟩
  |true=>
   obtain⟨e1,e2,e3⟩:=encode_facts r (by rw[valid_same];exact hv) h0;go_enter Tryz.func121,Tryz.ntmps121;go_wp2_with (go_at_call 138;refine(Tryz.utf8_ValidRune _ _).mono ?_;rintro e w' ⟨rfl,hw⟩;rw[hw,hv])
   go_step3
   go_wp2;generalize Utf8.encode r=nd at e1 e2 e3 ⊢;refine wp_loop_rounds 1 ?_;rw[rounds_succ];by_cases hn:nd.size=2
   ·obtain⟨x,hx⟩:∃x:UInt8,∀h:1<nd.size,nd[1]'h=x:=⟨nd[1]'(by omega),fun _=>rfl⟩
    have hx1:128≤x.toNat:=by
     have:=e3 (by omega);simp only[hn]at this;rw[←hx (by omega)];exact this
    clear e3;have hne:((63:Int) != (x.toNat:Int))=true:=by simp;omega
    have hnz:((nd.size:Nat):Int)-1=1:=by omega
    rw[hnz];have HN:=A_ hn;have hlt:(1:Int)<(nd.size:Int):=by omega
    clear hn hnz e1 e2;have hs1':=hs1 (by rw[hsz];decide);have hi1:(1:Int)<(sq.size:Int):=by rw[hsz];decide
    have hs2:(2:Int)≤(sq.size:Int):=by rw[hsz];decide
    go_wp2
    go_step3
    go_wp2
    go_quiet (fail)
    have HB:Aside0 (Below w.heap.size w (w.drewN nq)):=⟨pw_below_drewN (Below.refl _ _) nq⟩;generalize w.drewN nq=w1 at HB ⊢;have hib:Lib.indexByte (sq.extract 2 2).data.toList ((x.toNat:Int)).toNat.toUInt8=-1:=rfl;go_wp2
    go_quiet ((go_at_call 137;exact Calls.quiet_of_same (Tryz.strings_IndexByte _ _ _)))
    go_wp2;rw[Exit.noGoto_ret];go_wp2;rw[Exit.noGoto_ret];go_ret;exact⟨rfl,pw_below_drewN HB.out _⟩
   ·have hge:decide ((nd.size:Int)-1<2)=false:=dF (by omega)
    go_wp2;rw[Exit.noGoto_ret];go_ret;exact⟨rfl,Below.refl _ _⟩
def strings_IndexAny.f (a0 a1:BA):Option Int:=if L a1=[47,63]∧a0.size<4294967281 then some (Lib.indexAny (L a0) (L a1))else none
def iterTo (w:World)(b:Nat)(s:BA)(p:Nat):World:={ w with heap:=w.heap.setIfInBounds b (.stringIter s p) }
theorem iterTo_at {w:World}{b:Nat}{s:BA}{p q:Nat}(h:w.heap[b]?=some (.stringIter s q)):(iterTo w b s p).heap[b]?=some (.stringIter s p):=by
 obtain⟨hl,_⟩:=Array.getElem?_eq_some_iff.1 h;simp[iterTo,hl]
theorem iterTo_below {w0 w:World}{b:Nat}{s:BA}{p:Nat}(h:Below w0.heap.size w0 w)(hb:w0.heap.size≤b):Below w0.heap.size w0 (iterTo w b s p):=
 ⟨h.os,h.tape,h.output,(by simp[iterTo];exact h.size),fun i hi=>by
  rw[←h.block i hi];simp only[iterTo];exact Array.getElem?_setIfInBounds_ne (by omega)⟩
theorem run_next_in {P:Program}(w:World)(b:Nat)(s:BA)(pos:Nat)(hb:w.heap[b]?=some (.stringIter s pos))(h:pos<s.size)(ty:TypeId):
  (Instr.next (.pointer (some ⟨b,0,none⟩)) true ty).run P w=.ok (.tuple #[.bool true,.int .i64 pos,.int .i32 (Utf8.decode s pos).1]) (iterTo w b s (pos+(Utf8.decode s pos).2)):=by
 simp only[Instr.next,getObj,setObj,Sem.run_bind,Sem.run,hb,Result.andThen,h,if_true,iterTo];simp[goInt]
theorem run_next_out {P:Program}(w:World)(b:Nat)(s:BA)(pos:Nat)(hb:w.heap[b]?=some (.stringIter s pos))(h:¬pos<s.size)(ty:TypeId):
  (Instr.next (.pointer (some ⟨b,0,none⟩)) true ty).run P w=.ok (.tuple #[.bool false]) w:=by
 simp[Instr.next,getObj,Sem.run,hb,h]
theorem indexAny_few (s:BA)(w:World)(h8:s.size≤8):
  Calls Tryz.prog 104 #[.string s,.string sq] w fun e w'=>e=.returned (.int .i64 (Lib.indexAny (L s) (L sq)))∧Below w.heap.size w w':=by
 have hemp:sq.toList.isEmpty=false:=by decide +kernel
 have hn1:((sq.size:Int)==1)=false:=by decide +kernel
 have h8z:decide ((8:Int)<(s.size:Int))=false:=dF (by omega);go_enter Tryz.func104,Tryz.ntmps104;go_wp2_with (go_at_call 122;refine(Tryz.strings_shouldUseASCIISet _ _).mono ?_;rintro e w' ⟨rfl,hw⟩;rw[hw,h8z])
 go_loopg [9,10] s.size (fun g _ _ wx=>∃i:Nat,i+g=s.size∧Aside0 (wx.heap[w.heap.size]?=some (.stringIter s i))∧Aside0 (Lib.NoAny (L s) (L sq) i)∧Aside0 (Below w.heap.size w wx))
 case atStart=>exact⟨0,by omega,⟨World.iter_heap w s 0⟩,⟨Lib.NoAny.zero _ _⟩,⟨(Below.refl _ _).alloc (lL_ _) _⟩⟩
 case round=>
  obtain⟨i,hig,hI,HN,HB⟩:=hrel;cases gk with
  |zero=>
   obtain rfl:i=s.size:=by omega
   have hnx:=run_next_out (P:=Tryz.prog) wr w.heap.size s s.size hI.out (by omega);go_wp2;go_ret;exact⟨(by rw[Lib.indexAny_none (by rw[L_size];exact HN.out)];rfl),HB.out⟩
  |succ g=>
   have hi:i<s.size:=by omega
   have hnx:=run_next_in (P:=Tryz.prog) wr w.heap.size s i hI.out hi;obtain⟨x,hx⟩:∃x:UInt8,s[i]'hi=x:=⟨_,rfl⟩;have Hx:Aside0 ((L s)[i]?=some x):=⟨(by rw[←hx];exact Lib.data_getElem? s i hi)⟩;by_cases hlt:x.toNat<128
   ·have hd:=decode_ascii s i hi (by rw[hx];exact hlt)
    rw[hx]at hd;rw[hd]at hnx;clear hd;have HI2:Aside0 ((iterTo wr w.heap.size s (i+1)).heap[w.heap.size]?=some (.stringIter s (i+1))):=⟨iterTo_at hI.out⟩;have HB2:Aside0 (Below w.heap.size w (iterTo wr w.heap.size s (i+1))):=⟨iterTo_below HB.out (lL_ _)⟩;simp only at hnx;have hcon:=Lib.contains_iff_indexByte (L sq) x;have hback:((x.toNat:Int)).toNat.toUInt8=x:=by simp
    obtain⟨q,hq⟩:∃q,Lib.indexByte sq.data.toList x=q:=⟨_,rfl⟩;have hcon:(L sq).contains x=decide (0≤q):=by rw[←hq];exact hcon
    clear hx HB hI;generalize iterTo wr w.heap.size s (i+1)=w2 at hnx HI2 HB2;cases hin:(L sq).contains x
    ·rw[hin]at hcon
     have hlt0:¬((0:Int)≤q):=of_decide_eq_false hcon.symm;clear hcon;have HS:Aside0 (Lib.NoAny (L s) (L sq) (i+1)):=⟨HN.out.succ Hx.out hin⟩;clear hin;go_wp2_with (go_at_call 121;refine(Tryz.strings_IndexRune_ascii _ _ _ (by omega) (by omega)).mono ?_;rintro e w' ⟨rfl,hw⟩;rw[hw,hback,hq])
     go_roundg g
     case measure=>omega
     case rel=>exact⟨i+1,by omega,HI2,HS,HB2⟩
    ·rw[hin]at hcon
     have hge:(0:Int)≤q:=of_decide_eq_true hcon.symm;clear hcon;have HE:Aside0 (Lib.indexAny (L s) (L sq)=i):=⟨Lib.indexAny_hit HN.out Hx.out hin⟩;clear hin;go_wp2_with (go_at_call 121;refine(Tryz.strings_IndexRune_ascii _ _ _ (by omega) (by omega)).mono ?_;rintro e w' ⟨rfl,hw⟩;rw[hw,hback,hq]);go_ret;exact⟨(by rw[HE.out];rfl),HB2.out⟩
   ·obtain⟨hd1,hd2⟩:=decode_high s i hi (by rw[hx];omega)
    have hd3:=decode_le s i;obtain⟨hk1,hk2⟩:=decode_skip s i hi (by rw[hx];omega);generalize (Utf8.decode s i).2=n at hnx hd2 hk1 hk2;generalize (Utf8.decode s i).1=c at hnx hd1 hd3;have HI2:Aside0 ((iterTo wr w.heap.size s (i+n)).heap[w.heap.size]?=some (.stringIter s (i+n))):=⟨iterTo_at hI.out⟩;have HB2:Aside0 (Below w.heap.size w (iterTo wr w.heap.size s (i+n))):=⟨iterTo_below HB.out (lL_ _)⟩;have HS:Aside0 (Lib.NoAny (L s) (L sq) (i+n)):=⟨noAny_skip HN.out hk2⟩;have hlo:(128:Int)≤(c:Int):=by omega
    have hhi:(c:Int)≤2147483647:=by omega
    have HK:=A_ hk1;have HD:=A_ hd2;clear hx HB hI HN Hx hk1 hk2 hd1 hd2 hd3 hlt;generalize iterTo wr w.heap.size s (i+n)=w2 at hnx HI2 HB2;go_wp2_with (go_at_call 121;refine(indexRune_far _ _ hlo hhi).mono ?_;rintro e w' ⟨rfl,hb⟩);have HC:=A_ hb;clear hb;go_roundg (g+1-n)
    case measure=>have:=HK.out;have:=HD.out;omega
    case rel=>exact⟨i+n,(zz5 HK),⟨(HC.out.block _ (by obtain⟨hl,_⟩:=Array.getElem?_eq_some_iff.1 HI2.out;exact hl)).trans HI2.out⟩,HS,⟨HB2.out.trans (HC.out.mono HB2.out.size)⟩⟩
theorem strings_IndexAny.calls (a0 a1:BA)(r:Int)(w:World)(h:strings_IndexAny.f a0 a1=some r):
  Calls Tryz.prog 104 #[.string a0,.string a1] w fun e w'=>e=.returned (.int .i64 r)∧Below w.heap.size w w':=by
 unfold strings_IndexAny.f at h
 split at h
 ·rename_i hh
  obtain rfl:=sI h;obtain rfl:a1=sq:=L_inj (by rw[hh.1];rfl);rcases Nat.lt_or_ge 8 a0.size with h8|h8
  ·refine(Tryz.strings_IndexAny_long (fun w=>by kernel_rfl) a0 sq w (by decide +kernel) h8 hh.2 (by decide +kernel) (fun j b hb=>?_)).mono fun e w' ⟨he,hw⟩=>⟨he,hw ▸ ((Below.refl _ _).alloc (lL_ _) _).alloc (by simp) _⟩
   have hb':([47,63]:List UInt8)[j]?=some b:=hb;match j,hb' with
   |0,hb'=>injection hb' with hb';subst hb';decide
   |1,hb'=>injection hb' with hb';subst hb';decide
  ·exact indexAny_few a0 w h8
 ·cases h
end Go.Proofs.YtalfefmnlnkcaaaGreatDoor.P
end
section
namespace Go.Proofs.YtalfefmnlnkcaaaGreatDoor.P
open Go.RowKit Go.Proofs.YtalfefmnlnkcaaaGreatDoorW PrintWords PrintLast PrintMore
attribute [local go_sem] max2_int min2_int max_two min_two max_three min_three max_four min_four
set_option maxHeartbeats 8000000
set_option maxRecDepth 100000
def impl_writePath.f (a0_0:BA)(l0_1:List BA)(a0_2:Bool)(a0_3:BA):Option (BA):=(strings_Join.f l0_1 (⟨#[47]⟩:BA)).bind fun t243=>(if 1+t243.size≤9223372036854775807 then(if a0_2=true then(if 1+a0_3.size≤9223372036854775807 then(if 1+t243.size+1+a0_3.size≤9223372036854775807 then(some (((⟨#[47]⟩:BA)++t243)++((⟨#[63]⟩:BA)++a0_3)))else(none))else(none))else(some ((⟨#[47]⟩:BA)++t243)))else(none))
theorem impl_writePath.calls (a0_0:BA)(A0_1:Option Addr)(c0_1:Nat)(l0_1:List BA)(a0_2:Bool)(a0_3:BA)(r:BA)(w:World)(hr0_1:Kd.C Kd.string w A0_1 l0_1.length l0_1)(hc0_1:l0_1.length≤c0_1)(h:impl_writePath.f a0_0 l0_1 a0_2 a0_3=some r):
  Calls Tryz.prog 78 #[.agg #[.string a0_0,.slice A0_1 l0_1.length c0_1,.bool a0_2,.string a0_3]] w fun e w'=>e=.returned (.string r)∧Below w.heap.size w w':=by
 have hu70:=Tryz.underlying70;have HR0_1:=A_ hr0_1;have HC0_1:=A_ hc0_1;clear hr0_1 hc0_1;have HB:=A_ (Below.refl w.heap.size w);unfold impl_writePath.f at h;have H:=h;clear h;replace H:=bindA H;obtain⟨t243,A2,H⟩:=H;replace H:=iteE H;rcases H with⟨c3,H⟩|⟨c3,H⟩
 ·have c3b0:=eq_true c3
  have c3b1:=dT c3;try have c3b2:(9223372036854775807<1+t243.size)=False:=eq_false (nL_.2 c3);have HF4:=A_ H;clear H;go_enter Tryz.func78,Tryz.ntmps78;go_upto_if 9 with(first|(refine boxF 1 #[.string a0_0,.slice A0_1 l0_1.length c0_1,.bool a0_2,.string a0_3] 70 ?_;intro gb242 hg w5 BK242 hb;have GE242:=geB hg (zz1 HB);replace HB:=A_ (bS (zz1 HB) hb);clear hb hg;obtain⟨_,_,_,_,_,_,_,_⟩:=cf4 BK242)|(refine gR 93 (some 6) Tryz.func93 (strings_Join.calls _ _ l0_1 (⟨#[47]⟩:BA) t243 _ ?side1 ?side2 A2.out) ?_;(case side1=>exact(zz63 HR0_1 HB));(case side2=>exact HC0_1.out);rintro w7 hb;replace BK242:=A_ (bB (zz36 BK242) hb);replace HB:=A_ (bS (zz37 HB GE242) hb);(try clear hb);obtain⟨_,_,_,_,_,_,_,_⟩:=cf4 BK242))
  obtain⟨H⟩:=HF4;replace H:=iteB H;rcases H with⟨rfl,H⟩|⟨rfl,H⟩
  ·replace H:=iteN H
   obtain⟨c10,H⟩:=H;have c10b0:=eq_true c10;have c10b1:=dT c10;try have c10b2:(9223372036854775807<1+a0_3.size)=False:=eq_false (nL_.2 c10);replace H:=iteN H;obtain⟨c11,H⟩:=H;have c11b0:=eq_true c11;have c11b1:=dT c11;try have c11b2:(9223372036854775807<1+t243.size+1+a0_3.size)=False:=eq_false (nL_.2 c11);obtain rfl:=sI H;obtain⟨_,_,_,_,_,_,_,_⟩:=cf4 BK242;go_wp2;go_ret;exact⟨zz0,(zz37 HB GE242)⟩
  ·obtain rfl:=sI H
   go_wp2;go_ret;exact⟨zz0,(zz37 HB GE242)⟩
 ·exact absurd H (by simp)
def impl_writeAddr.f (a0_0:BA)(l0_1:List BA)(a0_2:Bool)(a0_3:BA):Option (BA):=if 2+a0_0.size≤9223372036854775807 then((impl_writePath.f a0_0 l0_1 a0_2 a0_3).bind fun t245=>(if 2+a0_0.size+t245.size≤9223372036854775807 then(some (((⟨#[47,47]⟩:BA)++a0_0)++t245))else(none)))else(none)
theorem impl_writeAddr.calls (a0_0:BA)(A0_1:Option Addr)(c0_1:Nat)(l0_1:List BA)(a0_2:Bool)(a0_3:BA)(r:BA)(w:World)(hr0_1:Kd.C Kd.string w A0_1 l0_1.length l0_1)(hc0_1:l0_1.length≤c0_1)(h:impl_writeAddr.f a0_0 l0_1 a0_2 a0_3=some r):
  Calls Tryz.prog 74 #[.agg #[.string a0_0,.slice A0_1 l0_1.length c0_1,.bool a0_2,.string a0_3]] w fun e w'=>e=.returned (.string r)∧Below w.heap.size w w':=by
 have hu70:=Tryz.underlying70;have HR0_1:=A_ hr0_1;have HC0_1:=A_ hc0_1;clear hr0_1 hc0_1;have HB:=A_ (Below.refl w.heap.size w);unfold impl_writeAddr.f at h;have H:=h;clear h;replace H:=iteE H;rcases H with⟨c2,H⟩|⟨c2,H⟩
 ·have c2b0:=eq_true c2
  have c2b1:=dT c2;try have c2b2:(9223372036854775807<2+a0_0.size)=False:=eq_false (nL_.2 c2);replace H:=bindA H;obtain⟨t245,A3,H⟩:=H;replace H:=iteN H;obtain⟨c4,H⟩:=H;have c4b0:=eq_true c4;have c4b1:=dT c4;try have c4b2:(9223372036854775807<2+a0_0.size+t245.size)=False:=eq_false (nL_.2 c4);obtain rfl:=sI H;go_enter Tryz.func74,Tryz.ntmps74;try go_wp2_with (first|(refine boxF 1 #[.string a0_0,.slice A0_1 l0_1.length c0_1,.bool a0_2,.string a0_3] 70 ?_;intro gb244 hg w5 BK244 hb;have GE244:=geB hg (zz1 HB);replace HB:=A_ (bS (zz1 HB) hb);clear hb hg));replace BK244:=A_ (blk_drew BK244.out);replace HB:=A_ (below_drew1 HB.out);refine start_ (n:=7) (S:=fun w'=>w'.cell? ⟨gb244,0,none⟩=some (.string a0_0)∧w'.cell? ⟨gb244,1,none⟩=some (.slice A0_1 l0_1.length c0_1)∧w'.cell? ⟨gb244,2,none⟩=some (.bool a0_2)∧w'.cell? ⟨gb244,3,none⟩=some (.string a0_3)) (ds:=[]) #[yF,yF,yF,yF,yF,yF,yF] (by kernel_rfl) rfl rfl ⟨(blk_cell BK244.out 0).trans rfl,(blk_cell BK244.out 1).trans rfl,(blk_cell BK244.out 2).trans rfl,(blk_cell BK244.out 3).trans rfl⟩ (fun hHeld=>?_);generalize w5.drew=w6 at BK244 HB hHeld ⊢;refine pureY 0 (some 3) (yA 1 6) ?_;refine takeY4 1 (some 4) (yA 2 5) hHeld ?_;refine pureY 2 (some 5) (yA 3 4) ?_;refine takeY4 3 (some 6) (yA 4 3) hHeld ?_;refine one_ (i:=4) (N:=some 7) (yA 5 2) rfl rfl (by kernel_rfl) (by decide) (fun K hK=>?_);refine goes_ Tryz.func78 (by kernel_rfl) rfl #[.agg #[.string a0_0,.slice A0_1 l0_1.length c0_1,.bool a0_2,.string a0_3]] (by rfl) rfl rfl zz47 ?_;with_reducible refine(impl_writePath.calls a0_0 _ _ l0_1 a0_2 a0_3 t245 _ ?side1 ?side2 A3.out).mono ?_
  (case side1=>exact(zz63 HR0_1 HB))
  (case side2=>exact HC0_1.out)
  rintro e w7 ⟨rfl,hb⟩;refine⟨_,rfl,?_⟩;replace BK244:=A_ (bB (zz36 BK244) hb);replace HB:=A_ (bS (zz37 HB GE244) hb);(try clear hb)
  (try clear hb2)
  (try clear hk)
  (try clear hi)
  refine hK.out _ _ ⟨(blk_cell BK244.out 0).trans rfl,(blk_cell BK244.out 1).trans rfl,(blk_cell BK244.out 2).trans rfl,(blk_cell BK244.out 3).trans rfl⟩ (fun hHeld=>?_);clear hK K;refine nZ 7 ?_;refine pureY 5 (some 8) (yA 6 1) ?_;refine pureY 6 (some 2) (yA 7 0) ?_;refine done_ (by kernel_rfl) ?_;try go_wp2;go_ret;exact⟨zz0,(zz37 HB GE244)⟩
 ·exact absurd H (by simp)
def stringslite_Cut.f (a0:BA)(a1:BA):Option (BA×BA×Bool):=(stringslite_Index.f a0 a1).bind fun t234=>(if t234≥0 then(if 0≤t234 then(if t234≤(a0.size:Int)then(if 0≤(wrap64 (t234+(a1.size:Int)))then(if(wrap64 (t234+(a1.size:Int)))≤(a0.size:Int)then(some (a0.extract 0 (t234:Int).toNat,a0.extract ((wrap64 (t234+(a1.size:Int))):Int).toNat a0.size,true))else(none))else(none))else(none))else(none))else(some (a0,(⟨#[]⟩:BA),false)))
theorem stringslite_Cut.calls (a0:BA)(a1:BA)(r1:BA)(r2:BA)(r3:Bool)(w:World)(h:stringslite_Cut.f a0 a1=some (r1,r2,r3)):
  Calls Tryz.prog 102 #[.string a0,.string a1] w fun e w'=>e=.returned (.tuple #[.string r1,.string r2,.bool r3])∧Below w.heap.size w w':=by
 have HB:=A_ (Below.refl w.heap.size w);unfold stringslite_Cut.f at h;have H:=h;clear h;replace H:=bindA H;obtain⟨t234,A3,H⟩:=H;have HF4:=A_ H;clear H;go_enter Tryz.func102,Tryz.ntmps102;go_upto_if 12 with(first|(go_at_call 119;(with_reducible refine(stringslite_Index.calls a0 a1 t234 _ A3.out).mono ?_);rintro e w5 ⟨rfl,hb⟩;replace HB:=A_ (bS (zz1 HB) hb);(try clear hb)))
 repeat(go_quiet (first|(go_at_call 119;(with_reducible refine(stringslite_Index.calls a0 a1 t234 _ A3.out).mono ?_);rintro e w5 ⟨rfl,hb⟩;replace HB:=A_ (bS (zz1 HB) hb);(try clear hb)));go_upto_if 12 with(first|(go_at_call 119;(with_reducible refine(stringslite_Index.calls a0 a1 t234 _ A3.out).mono ?_);rintro e w5 ⟨rfl,hb⟩;replace HB:=A_ (bS (zz1 HB) hb);(try clear hb))))
 obtain⟨H⟩:=HF4;replace H:=iteEe H;rcases H with⟨c6b0,H⟩|⟨c6b0,H⟩
 ·(first|rw[c6b0]|(simp only[i64_w,i32_w];rw[c6b0])|skip)
  replace H:=iteN H;obtain⟨c7,H⟩:=H;have c7b0:=eq_true c7;have c7b1:=dT c7;clear c7;replace H:=iteN H;obtain⟨c8,H⟩:=H;have c8b0:=eq_true c8;have c8b1:=dT c8;clear c8;obtain⟨ji9,hji9⟩:∃j_:Int,(wrap64 (t234+(a1.size:Int)))=j_:=⟨_,rfl⟩;(first|rw[hji9]at H|simp only[hji9]at H);have hji9w:(IntKind.i64.wrap (t234+(a1.size:Int)))=ji9:=(i64_w _).trans hji9;replace H:=iteN H;obtain⟨c10,H⟩:=H;have c10b0:=eq_true c10;have c10b1:=dT c10;clear c10;replace H:=iteN H;obtain⟨c11,H⟩:=H;have c11b0:=eq_true c11;have c11b1:=dT c11;clear c11;simp only[oI_,pI_]at H;obtain⟨rfl,rfl,rfl⟩:=H;go_wp2
  repeat(go_quiet (fail);try go_wp2)
  go_ret3
  exact⟨(by first|rfl|(simp[errW_none,errW_some] <;> rfl)|(simp only[←hji9];first|rfl|(simp[errW_none,errW_some] <;> rfl))|(simp[*,errW_none,errW_some] <;> rfl)),(zz1 HB)⟩
 ·(first|rw[c6b0]|(simp only[i64_w,i32_w];rw[c6b0])|skip)
  simp only[oI_,pI_]at H;obtain⟨rfl,rfl,rfl⟩:=H;go_wp2
  repeat(go_quiet (fail);try go_wp2)
  go_ret3
  exact⟨zz0,(zz1 HB)⟩
def strings_Cut.f (a0:BA)(a1:BA):Option (BA×BA×Bool):=(stringslite_Cut.f a0 a1).bind fun bt235=>(some (bt235.1,bt235.2.1,bt235.2.2))
theorem strings_Cut.calls (a0:BA)(a1:BA)(r1:BA)(r2:BA)(r3:Bool)(w:World)(h:strings_Cut.f a0 a1=some (r1,r2,r3)):
  Calls Tryz.prog 88 #[.string a0,.string a1] w fun e w'=>e=.returned (.tuple #[.string r1,.string r2,.bool r3])∧Below w.heap.size w w':=by
 have HB:=A_ (Below.refl w.heap.size w);unfold strings_Cut.f at h;have H:=h;clear h;replace H:=bindA H;obtain⟨⟨t235,t236,t237⟩,A3,H⟩:=H;try dsimp only at H;simp only[oI_,pI_]at H;obtain⟨rfl,rfl,rfl⟩:=H;go_enter Tryz.func88,Tryz.ntmps88;go_wp2_with (first|(refine gR 102 (some 9) Tryz.func102 (stringslite_Cut.calls a0 a1 t235 t236 t237 _ A3.out) ?_;rintro w4 hb;replace HB:=A_ (bS (zz1 HB) hb);(try clear hb)))
 go_ret3
 exact⟨zz0,(zz1 HB)⟩
def impl_signByte.f (a0:BA)(a1:Int):Option (Int×Bool):=if(wrap64 ((a0.size:Int)-a1))<3 then(some (0,false))else(if 0≤(wrap64 (a1+1))then(if(wrap64 (a1+1))<(a0.size:Int)then((impl_figureValue.f (bt a0 (wrap64 (a1+1)))).bind fun bt246=>(if 0≤(wrap64 (a1+2))then(if(wrap64 (a1+2))<(a0.size:Int)then((impl_figureValue.f (bt a0 (wrap64 (a1+2)))).bind fun bt248=>(if bt246.2=true then(if bt248.2=true then(some ((wrap64 ((wrap64 (bt246.1*16))+bt248.1))%256,true))else(some (0,false)))else(some (0,false))))else(none))else(none)))else(none))else(none))
theorem impl_signByte.calls (a0:BA)(a1:Int)(r1:Int)(r2:Bool)(w:World)(h:impl_signByte.f a0 a1=some (r1,r2)):
  Calls Tryz.prog 129 #[.string a0,.int .i64 a1] w fun e w'=>e=.returned (.tuple #[.int .u8 r1,.bool r2])∧Below w.heap.size w w':=by
 have HB:=A_ (Below.refl w.heap.size w);unfold impl_signByte.f at h;have H:=h;clear h;replace H:=iteEd H;rcases H with⟨c3b0,H⟩|⟨c3b0,H⟩
 ·simp only[oI_,pI_]at H
  obtain⟨rfl,rfl⟩:=H;go_enter Tryz.func129,Tryz.ntmps129;go_wp2
  go_ret2
  exact⟨zz0,(zz1 HB)⟩
 ·obtain⟨ji4,hji4⟩:∃j_:Int,(wrap64 (a1+1))=j_:=⟨_,rfl⟩
  (first|rw[hji4]at H|simp only[hji4]at H)
  have hji4w:(IntKind.i64.wrap (a1+1))=ji4:=(i64_w _).trans hji4;replace H:=iteE H;rcases H with⟨c5,H⟩|⟨c5,H⟩
  ·have c5b0:=dT c5
   clear c5;replace H:=iteNd H;obtain⟨c6b0,H⟩:=H;replace H:=bindA H;obtain⟨⟨t246,t247⟩,A8,H⟩:=H;try dsimp only at H;obtain⟨ji9,hji9⟩:∃j_:Int,(wrap64 (a1+2))=j_:=⟨_,rfl⟩;(first|rw[hji9]at H|simp only[hji9]at H)
   (try rw[hji9]at A8)
   have hji9w:(IntKind.i64.wrap (a1+2))=ji9:=(i64_w _).trans hji9;replace H:=iteNd H;obtain⟨c10b0,H⟩:=H;replace H:=iteNd H;obtain⟨c11b0,H⟩:=H;replace H:=bindA H;obtain⟨⟨t248,t249⟩,A13,H⟩:=H;try dsimp only at H;have HF14:=A_ H;clear H;have p7:0≤((ji4):Int):=ofD;have q7:(ji4)<(a0.size:Int):=ofD;have hx7:=bt_at a0 (ji4);replace p7:=eq_true p7;replace q7:=eq_true q7;go_enter Tryz.func129,Tryz.ntmps129;go_wp2_with (first|((with_reducible refine gC (f:=140) rfl ?_);refine goesL_ (some 20) rfl rfl Tryz.func140 (by kernel_rfl) rfl #[.int .u8 (bt a0 (ji4))] rfl (by(try simp only[List.map_toArray,List.map_cons,List.map_nil]);first|done|(simp only[hji4];rfl)|rfl|(simp only[List.length_drop,lT_];rfl)) ?_;(with_reducible refine mR (impl_figureValue.calls (bt a0 (ji4)) t246 t247 _ A8.out) ?_);rintro w15 hb;replace HB:=A_ (bS (zz1 HB) hb);(try clear hb);have p12:0≤((ji9):Int):=ofD;have q12:(ji9)<(a0.size:Int):=ofD;have hx12:=bt_at a0 (ji9);replace p12:=eq_true p12;replace q12:=eq_true q12)|((with_reducible refine gC (f:=140) rfl ?_);refine goesL_ (some 28) rfl rfl Tryz.func140 (by kernel_rfl) rfl #[.int .u8 (bt a0 (ji9))] rfl (by(try simp only[List.map_toArray,List.map_cons,List.map_nil]);first|done|(simp only[hji9];rfl)|rfl|(simp only[List.length_drop,lT_];rfl)) ?_;(with_reducible refine mR (impl_figureValue.calls (bt a0 (ji9)) t248 t249 _ A13.out) ?_);rintro w16 hb;replace HB:=A_ (bS (zz1 HB) hb);(try clear hb))|((with_reducible refine atG ?_ ?_ fun K_ hK_=>?_);rfl;exact undecG)|((with_reducible refine atI ?_ fun K_ hK_=>?_);exact undecI));refine unG hK_ ?_;clear hK_ K_;obtain⟨H⟩:=HF14;replace H:=iteB H;rcases H with⟨rfl,H⟩|⟨rfl,H⟩
   ·(first|refine iteT ?_|refine iteF ?_|skip)
    replace H:=iteB H;rcases H with⟨rfl,H⟩|⟨rfl,H⟩
    ·simp only[oI_,pI_]at H
     obtain⟨rfl,rfl⟩:=H;go_wp2
     go_ret2
     exact⟨zz116,(zz1 HB)⟩
    ·simp only[oI_,pI_]at H
     obtain⟨rfl,rfl⟩:=H;go_wp2
     go_ret2
     exact⟨zz116,(zz1 HB)⟩
   ·(first|refine iteT ?_|refine iteF ?_|skip)
    simp only[oI_,pI_]at H;obtain⟨rfl,rfl⟩:=H;(try((with_reducible refine upS ?_);go_simp));go_wp2
    go_ret2
    exact⟨zz116,(zz1 HB)⟩
  ·exact absurd H (by simp)
def strings_Index.f (a0:BA)(a1:BA):Option (Int):=(stringslite_Index.f a0 a1).bind fun t281=>(some t281)
theorem strings_Index.calls (a0:BA)(a1:BA)(r:Int)(w:World)(h:strings_Index.f a0 a1=some r):
  Calls Tryz.prog 147 #[.string a0,.string a1] w fun e w'=>e=.returned (.int .i64 r)∧Below w.heap.size w w':=by
 have HB:=A_ (Below.refl w.heap.size w);unfold strings_Index.f at h;have H:=h;clear h;replace H:=bindA H;obtain⟨t281,A3,H⟩:=H;obtain rfl:=sI H;go_enter Tryz.func147,Tryz.ntmps147;go_wp2_with (first|(refine gR 119 (some 7) Tryz.func119 (stringslite_Index.calls a0 a1 t281 _ A3.out) ?_;rintro w4 hb;replace HB:=A_ (bS (zz1 HB) hb);(try clear hb)));go_ret;exact⟨zz0,(zz1 HB)⟩
def impl_EscNorm.l0:Nat→BA→List Int→Int→Option (BA×Bool)
 |0,_,_,_=>none
 |k+1,x0,x4,x5=>if x5<(x0.size:Int)then(if 0≤x5 then(if(bt x0 x5)=37 then((impl_signByte.f x0 x5).bind fun bt250=>(if bt250.2=true then((impl_standsForItself.f bt250.1).bind fun t252=>(if t252=true then(if x4.length<140737488355328 then(impl_EscNorm.l0 k x0 (x4++[bt250.1]) (wrap64 ((wrap64 (x5+2))+1)))else(none))else(if 0≤(bt250.1 / 16)then(if(bt250.1 / 16)<16 then(if 0≤(Go.bits .and .u8 bt250.1 15)then(if(Go.bits .and .u8 bt250.1 15)<16 then((some (([37,bt (⟨#[48,49,50,51,52,53,54,55,56,57,65,66,67,68,69,70]⟩:BA) (bt250.1 / 16),bt (⟨#[48,49,50,51,52,53,54,55,56,57,65,66,67,68,69,70]⟩:BA) (Go.bits .and .u8 bt250.1 15)]:List Int):List Int)).bind fun y256=>(if x4.length+y256.length<140737488355328 then(impl_EscNorm.l0 k x0 (x4++y256) (wrap64 ((wrap64 (x5+2))+1)))else(none)))else(none))else(none))else(none))else(none))))else(some ((⟨#[]⟩:BA),false))))else((impl_standsForItself.f (bt x0 x5)).bind fun t262=>(if t262=true then(if x4.length<140737488355328 then(impl_EscNorm.l0 k x0 (x4++[bt x0 x5]) (wrap64 (x5+1)))else(none))else(if 0≤((bt x0 x5) / 16)then(if((bt x0 x5) / 16)<16 then(if 0≤(Go.bits .and .u8 (bt x0 x5) 15)then(if(Go.bits .and .u8 (bt x0 x5) 15)<16 then((some (([37,bt (⟨#[48,49,50,51,52,53,54,55,56,57,65,66,67,68,69,70]⟩:BA) ((bt x0 x5) / 16),bt (⟨#[48,49,50,51,52,53,54,55,56,57,65,66,67,68,69,70]⟩:BA) (Go.bits .and .u8 (bt x0 x5) 15)]:List Int):List Int)).bind fun y266=>(if x4.length+y266.length<140737488355328 then(impl_EscNorm.l0 k x0 (x4++y266) (wrap64 (x5+1)))else(none)))else(none))else(none))else(none))else(none)))))else(none))else(some (strOfNums x4,true))
def impl_EscNorm.f (k:Nat)(a0:BA):Option (BA×Bool):=if(a0.size:Int)>60 then(some ((⟨#[]⟩:BA),false))else(impl_EscNorm.l0 k a0 ([]:List Int) 0)
theorem impl_EscNorm.mono_l:∀k,(∀y0 y1 y2,LeO (impl_EscNorm.l0 k y0 y1 y2) (impl_EscNorm.l0 (k+1) y0 y1 y2))
 |0=>by intros;intro r h;simp[impl_EscNorm.l0]at h
 |k+1=>by
  have ih0:=impl_EscNorm.mono_l k;intros;unfold impl_EscNorm.l0;repeat' first|(with_reducible first|exact ih0 _ _ _|exact LeO.refl _|exact LeO.none _|refine LeO.ite ?_ ?_|refine LeO.bind ?_ (fun _=>?_))|exact LeO.none _|refine LeO.ite ?_ ?_|refine LeO.bind ?_ (fun _=>?_)
def impl_EscNorm.T16:Bool×List (List Nat×List Nat):=(true,[([],[]),([],[]),([1],[1]),([2],[2]),([],[]),([4],[4]),([5],[5]),([3,6],[3,6]),([0,7],[0,7]),([8,8,0,1,2,3,4,5,6,7,8],[0,8])])
def impl_EscNorm.B16:List Nat:=[0,0,2,6,0,16,48,126,255,511]
theorem impl_EscNorm.tab16:rtab .any (opsOf Tryz.f109 16)=impl_EscNorm.T16:=by kernel_rfl
theorem impl_EscNorm.bits16:waitsOk impl_EscNorm.T16.2 impl_EscNorm.B16=true:=by kernel_rfl
theorem impl_EscNorm.calls (k:Nat)(a0:BA)(r1:BA)(r2:Bool)(w:World)(h:impl_EscNorm.f k a0=some (r1,r2)):
  Calls Tryz.prog 109 #[.string a0] w fun e w'=>e=.returned (.tuple #[.string r1,.bool r2])∧Below w.heap.size w w':=by
 have HB:=A_ (Below.refl w.heap.size w);unfold impl_EscNorm.f at h;have H:=h;clear h;replace H:=iteE H;rcases H with⟨c2,H⟩|⟨c2,H⟩
 ·have c2b0:=gtT c2
  have c2b1:decide (60<a0.size)=true:=dT (by omega);clear c2;simp only[oI_,pI_]at H;obtain⟨rfl,rfl⟩:=H;go_enter Tryz.func109,Tryz.ntmps109;go_wp2
  go_ret2
  exact⟨zz0,(zz1 HB)⟩
 ·have c2b0:=gtF c2
  have c2b1:decide (60<a0.size)=false:=dF (by omega);clear c2;have H':=A_ H;clear H;go_enter Tryz.func109,Tryz.ntmps109;go_wp2
  go_loopg [4,5] k (fun kq v4 v5 w'=>∃(x4_1:List Int)(x5_1:Int),v5=.int .i64 x5_1∧Aside0 (impl_EscNorm.l0 kq a0 x4_1 x5_1=some (r1,r2))∧Aside0 (kq≤k)∧Aside0 (Kd.R (Kd.int .u8) 5 w' w.heap.size (fun _=>True) v4 x4_1)∧Aside0 (Below w.heap.size w w'))
  case atStart=>exact⟨(([]:List Int)),(0),zz2,H',⟨lL_ _⟩,⟨zz24⟩,⟨(zz1 HB)⟩⟩
  case round=>
   clear H';obtain⟨x4_1,x5_1,rfl,HA,HK1,HO_4,HB⟩:=hrel;cases gk with
   |zero=>exact absurd HA.out (by simp[impl_EscNorm.l0])
   |succ k1=>
    obtain⟨H⟩:=HA;simp only[impl_EscNorm.l0]at H;replace H:=iteEd H;rcases H with⟨c3b0,H⟩|⟨c3b0,H⟩
    ·replace H:=iteNd H
     obtain⟨c4b0,H⟩:=H;replace H:=iteEq H;rcases H with⟨c6b0,c6b1,H⟩|⟨c6b0,c6b1,c6,H⟩
     ·replace H:=bindA H
      obtain⟨⟨t250,t251⟩,A7,H⟩:=H;try dsimp only at H;replace H:=iteB H;rcases H with⟨rfl,H⟩|⟨rfl,H⟩
      ·replace H:=bindA H
       obtain⟨t252,A9,H⟩:=H;replace H:=iteB H;rcases H with⟨rfl,H⟩|⟨rfl,H⟩
       ·replace H:=iteN H
        obtain⟨c11,H⟩:=H;have LMc11:=A_ c11;clear c11;obtain⟨y253,Ny253⟩:=toY (x4_1++[t250]);(first|with_reducible replace H:=bindZ Ny253 H|rw[←Ny253.out]at H|skip);have H':=A_ H;clear H;have p5:0≤(x5_1:Int):=ofD;have q5:x5_1<(a0.size:Int):=ofD;have hx5:=bt_at a0 x5_1;replace p5:=eq_true p5;replace q5:=eq_true q5;go_wp2_with (first|(refine gR 129 (some 26) Tryz.func129 (impl_signByte.calls a0 x5_1 t250 true _ A7.out) ?_;rintro w12 hb;replace HO_4:=A_ (rB (zz6 HO_4) hb);replace HB:=A_ (bS (zz1 HB) hb);(try clear hb))|(refine gR 115 (some 35) Tryz.func115 (impl_standsForItself.calls t250 true _ A9.out) ?_;rintro w' ⟨nd,rfl⟩)|((with_reducible refine gate_builtin (b:=.append) (xs:=#[.tmp 36,.tmp 38]) rfl ?_);at_builtin;refine Kd.R_append (Kd.int .u8) (w0:=w) w.heap.size rfl (.tmp 36) (.tmp 38) 35 5 (.int .u8 0) 1 rfl Tryz.underlying35 info5 rfl (by decide) (by omega) u4 x4_1 t250 [.int .u8 t250] (fun _=>True) (fun _=>False) rfl rfl ?aP (fun _ hk=>hk.elim) ?aF ?aO ?aB ?aS ?aL ?_;(case aP=>exact rfl);(case aB=>exact(zz1 HB));(case aF=>exact(fun _ _=>trivial));(case aO=>exact(zz6 HO_4));(case aS=>exact(below_size (zz1 HB)));(case aL=>exact(zz5 LMc11));intro v254 w13 ho hb hg hat;rw[←Ny253.out]at ho;replace HB:=A_ (hb);have HO255:=A_ (ho);clear HO_4;clear ho hb hg hat))
        go_roundg k1
        case measure=>have:=HK1.out;omega
        case rel=>exact⟨(y253),(wrap64 ((wrap64 (x5_1+2))+1)),zz2,H',⟨(zz5 HK1)⟩,⟨(zz6 HO255)⟩,⟨(zz1 HB)⟩⟩
       ·obtain⟨ji14,hji14⟩:∃j_:Int,(t250 / 16)=j_:=⟨_,rfl⟩
        (first|rw[hji14]at H|simp only[hji14]at H)
        (try rw[hji14]at A7)
        (try rw[hji14]at A9)
        replace H:=iteNd H;obtain⟨c15b0,H⟩:=H;replace H:=iteNd H;obtain⟨c16b0,H⟩:=H;replace H:=iteNd H;obtain⟨c18b0,H⟩:=H;replace H:=iteNd H;obtain⟨c19b0,H⟩:=H;obtain⟨y256,Ny256⟩:=toY (([37,bt (⟨#[48,49,50,51,52,53,54,55,56,57,65,66,67,68,69,70]⟩:BA) (ji14),bt (⟨#[48,49,50,51,52,53,54,55,56,57,65,66,67,68,69,70]⟩:BA) (Go.bits .and .u8 t250 15)]:List Int));(first|with_reducible replace H:=bindZ Ny256 H|rw[←Ny256.out]at H|skip);replace H:=iteN H;obtain⟨c21,H⟩:=H;have LMc21:=A_ c21;clear c21;obtain⟨y259,Ny259⟩:=toY (x4_1++y256);(first|with_reducible replace H:=bindZ Ny259 H|rw[←Ny259.out]at H|skip);have H':=A_ H;clear H;have p5:0≤(x5_1:Int):=ofD;have q5:x5_1<(a0.size:Int):=ofD;have hx5:=bt_at a0 x5_1;replace p5:=eq_true p5;replace q5:=eq_true q5;try go_wp2_with (first|(refine gR 129 (some 26) Tryz.func129 (impl_signByte.calls a0 x5_1 t250 true _ A7.out) ?_;rintro w22 hb;replace HO_4:=A_ (rB (zz6 HO_4) hb);replace HB:=A_ (bS (zz1 HB) hb);(try clear hb))|(refine gR 115 (some 35) Tryz.func115 (impl_standsForItself.calls t250 false _ A9.out) ?_;rintro w' ⟨nd,rfl⟩))
        (try(rw[drewN_self w22];generalize hq_:World.drewN w22 _=w22;have n0_:Aside0 (Kd.R (Kd.int .u8) 5 w22 w.heap.size (fun _=>True) u4 x4_1):=⟨(by rw[←hq_];exact(zz6 HO_4))⟩;have n1_:Aside0 (Below w.heap.size w w22):=⟨(by rw[←hq_];exact(zz1 HB))⟩;clear HO_4 HB hq_;have HO_4:=n0_;have HB:=n1_;clear n0_ n1_))
        replace HO_4:=A_ (Kd.R_drew HO_4.out);replace HB:=A_ (below_drew1 HB.out);have p17:0≤((ji14):Int):=ofD;have q17:(ji14)<(16:Int):=ofD;have hx17:=bt_at (⟨#[48,49,50,51,52,53,54,55,56,57,65,66,67,68,69,70]⟩:BA) (ji14);replace p17:=eq_true p17;replace q17:=eq_true q17;have p20:0≤((Go.bits .and .u8 t250 15):Int):=ofD;have q20:(Go.bits .and .u8 t250 15)<(16:Int):=ofD;have hx20:=bt_at (⟨#[48,49,50,51,52,53,54,55,56,57,65,66,67,68,69,70]⟩:BA) (Go.bits .and .u8 t250 15);replace p20:=eq_true p20;replace q20:=eq_true q20;refine start_ (n:=10) (S:=fun w'=>True) (ds:=[]) #[yF,yF,yF,yF,yF,yF,yF,yF,yF,yF] (by kernel_rfl) rfl rfl trivial (fun hHeld=>?_);refine with_tabW impl_EscNorm.tab16 impl_EscNorm.bits16 (fun HT_ HW_=>?_);generalize w22.drew=w23 at HO_4 HB hHeld ⊢;refine pureZ 0 (some 40) (yA 1 9) ?_;refine pureZ 1 (some 41) (yA 2 8) ?_;refine pureZ 2 (some 42) (yA 3 7) ?_;refine pureZ 4 (some 44) #[yT,yT,yT,yF,yT,yF,yF,yF,yF,yF] ?_;refine pureZ 5 (some 45) #[yT,yT,yT,yF,yT,yT,yF,yF,yF,yF] ?_;refine take_ (i:=3) (N:=some 43) (v:=?_) (a':=?_) (yA 6 4) rfl rfl (take_ofW HT_.out HW_.out (by kernel_rfl)) (fun _ _ _ h=>h) (Or.inl ⟨by rfl,?_⟩) hHeld ?_ ?_;rotate_left
        ·intro w' _
         go_simp
         with_reducible rfl
        rotate_left
        ·simp only[Act.put,lS_,l0_,lC_,i64_w,i32_w]
         rfl
        refine take_ (i:=6) (N:=some 46) (v:=?_) (a':=?_) (yA 7 3) rfl rfl (take_ofW HT_.out HW_.out (by kernel_rfl)) (fun _ _ _ h=>h) (Or.inl ⟨by rfl,?_⟩) hHeld ?_ ?_;rotate_left
        ·intro w' _
         go_simp
         with_reducible rfl
        rotate_left
        ·simp only[Act.put,lS_,l0_,lC_,i64_w,i32_w]
         rfl
        refine oneZ 7 (some 47) (yA 8 2) (fun K hK=>?_);refine Kd.R_lit_step (Kd.int .u8) _ 5 ?hg (N:=47) ?hd (xs:=([37,bt (⟨#[48,49,50,51,52,53,54,55,56,57,65,66,67,68,69,70]⟩:BA) (ji14),bt (⟨#[48,49,50,51,52,53,54,55,56,57,65,66,67,68,69,70]⟩:BA) (Go.bits .and .u8 t250 15)]:List Int)) (inner:=[.int .u8 37,.int .u8 (bt (⟨#[48,49,50,51,52,53,54,55,56,57,65,66,67,68,69,70]⟩:BA) (ji14)),.int .u8 (bt (⟨#[48,49,50,51,52,53,54,55,56,57,65,66,67,68,69,70]⟩:BA) (Go.bits .and .u8 t250 15))]) (ok:=fun _=>True) (okp:=fun _=>True) ?hr ?hp (fun _ hk=>hk) trivial (Below.refl _ _) (lL_ _) (by simp) ?_;(case hd=>rfl);(case hg=>rfl);(case hr=>exact zz4);(case hp=>exact(Reps.one (show Kd.M (Kd.int .u8) _ _ _ 37 [.int .u8 37]from rfl) (Reps.one (show Kd.M (Kd.int .u8) _ _ _ (bt (⟨#[48,49,50,51,52,53,54,55,56,57,65,66,67,68,69,70]⟩:BA) (ji14)) [.int .u8 (bt (⟨#[48,49,50,51,52,53,54,55,56,57,65,66,67,68,69,70]⟩:BA) (ji14))]from rfl) (Reps.one (show Kd.M (Kd.int .u8) _ _ _ (bt (⟨#[48,49,50,51,52,53,54,55,56,57,65,66,67,68,69,70]⟩:BA) (Go.bits .and .u8 t250 15)) [.int .u8 (bt (⟨#[48,49,50,51,52,53,54,55,56,57,65,66,67,68,69,70]⟩:BA) (Go.bits .and .u8 t250 15))]from rfl) (Reps.none _ _)))));intro v257 w24 ho25 hb hg_ hnew_;clear hg_ hnew_;(first|rw[←Ny256.out]at ho25|(simp only[Int.reduceToNat]at ho25;rw[←Ny256.out]at ho25));have HO258:=A_ (Kd.R_lower (Kd.R_new' ho25 (Kd.R_lt (zz6 HO_4))) (below_size (zz1 HB)));replace HO_4:=A_ (Kd.R_elder' (zz6 HO_4) (Kd.R_base ho25) hb);replace HB:=A_ (bS (zz1 HB) hb);clear hb ho25;obtain⟨Ao27,co27,eo27⟩:=Kd.R_slice HO258.out;(first|subst eo27|(injection eo27 with f1_ f2_ f3_;have f4_:=f1_.symm;have f5_:=f3_.symm;clear f1_ f2_ f3_;subst f4_;subst f5_));refine hK.out _ _ trivial (fun hHeld=>?_);clear hK K;refine nZ 47 ?_;refine oneZ 8 (some 48) (yA 9 1) (fun K hK=>?_);refine Kd.R_append_rows_step (Kd.int .u8) (w0:=w) w.heap.size (by rfl) (.tmp 40) (.tmp 47) 35 5 (.int .u8 0) 1 rfl Tryz.underlying35 info5 rfl (by decide) (by omega) u4 x4_1 y256 _ _ _ (fun k_=>some k_≠(.slice Ao27 y256.length co27:Value).ownBlock) (fun _=>False) rfl rfl ?aO ?aR (fun _ _ h=>h) (fun _ h=>h.elim) ?aF ?aB ?aS ?aL ?_;(case aR=>exact(zz83 HO258))
        (case aB=>exact(zz1 HB))
        (case aF=>exact(fun k_ hk=>Kd.fresh' (Kd.R_lt (zz6 HO258)) k_ hk))
        (case aO=>exact(zz79 HO_4))
        (case aS=>exact(below_size (zz1 HB)))
        (case aL=>exact(zz5 LMc21))
        intro v260 w26 ho hb hg hat;rw[←Ny259.out]at ho;replace HO258:=A_ (Kd.R_after (ok:=(fun _=>True)) (zz6 HO258) hg hat);replace HB:=A_ (hb);have HO261:=A_ (ho);clear HO_4;clear ho hb hg hat;refine hK.out _ _ trivial (fun hHeld=>?_);clear hK K;refine nZ 48 ?_;refine pureZ 9 (some 4) (yA 10 0) ?_;refine done_ (done_of HT_.out (by kernel_rfl)) ?_;try go_wp2
        go_roundg k1
        case measure=>have:=HK1.out;omega
        case rel=>exact⟨(y259),(wrap64 ((wrap64 (x5_1+2))+1)),zz2,H',⟨(zz5 HK1)⟩,⟨(zz120 HO261)⟩,⟨(zz1 HB)⟩⟩
      ·simp only[oI_,pI_]at H
       obtain⟨rfl,rfl⟩:=H;have p5:0≤(x5_1:Int):=ofD;have q5:x5_1<(a0.size:Int):=ofD;have hx5:=bt_at a0 x5_1;replace p5:=eq_true p5;replace q5:=eq_true q5;go_wp2_with (first|(refine gR 129 (some 26) Tryz.func129 (impl_signByte.calls a0 x5_1 t250 false _ A7.out) ?_;rintro w28 hb;replace HO_4:=A_ (rB (zz6 HO_4) hb);replace HB:=A_ (bS (zz1 HB) hb);(try clear hb)))
       go_ret2
       exact⟨zz0,(zz1 HB)⟩
     ·replace H:=bindA H
      obtain⟨t262,A29,H⟩:=H;replace H:=iteB H;rcases H with⟨rfl,H⟩|⟨rfl,H⟩
      ·replace H:=iteN H
       obtain⟨c31,H⟩:=H;have LMc31:=A_ c31;clear c31;obtain⟨y263,Ny263⟩:=toY (x4_1++[bt a0 x5_1]);(first|with_reducible replace H:=bindZ Ny263 H|rw[←Ny263.out]at H|skip);have H':=A_ H;clear H;have p5:0≤(x5_1:Int):=ofD;have q5:x5_1<(a0.size:Int):=ofD;have hx5:=bt_at a0 x5_1;replace p5:=eq_true p5;replace q5:=eq_true q5;go_wp2_with (first|(refine gR 115 (some 35) Tryz.func115 (impl_standsForItself.calls (bt a0 x5_1) true _ A29.out) ?_;rintro w' ⟨nd,rfl⟩)|((with_reducible refine gate_builtin (b:=.append) (xs:=#[.tmp 36,.tmp 38]) rfl ?_);at_builtin;refine Kd.R_append (Kd.int .u8) (w0:=w) w.heap.size rfl (.tmp 36) (.tmp 38) 35 5 (.int .u8 0) 1 rfl Tryz.underlying35 info5 rfl (by decide) (by omega) u4 x4_1 (bt a0 x5_1) [.int .u8 (bt a0 x5_1)] (fun _=>True) (fun _=>False) rfl rfl ?aP (fun _ hk=>hk.elim) ?aF ?aO ?aB ?aS ?aL ?_;(case aP=>exact rfl);(case aB=>exact(zz1 HB));(case aF=>exact(fun _ _=>trivial));(case aO=>exact(zz6 HO_4));(case aS=>exact(below_size (zz1 HB)));(case aL=>exact(zz5 LMc31));intro v264 w32 ho hb hg hat;rw[←Ny263.out]at ho;replace HB:=A_ (hb);have HO265:=A_ (ho);clear HO_4;clear ho hb hg hat))
       go_roundg k1
       case measure=>have:=HK1.out;omega
       case rel=>exact⟨(y263),(wrap64 (x5_1+1)),zz2,H',⟨(zz5 HK1)⟩,⟨(zz6 HO265)⟩,⟨(zz1 HB)⟩⟩
      ·obtain⟨ji33,hji33⟩:∃j_:Int,((bt a0 x5_1) / 16)=j_:=⟨_,rfl⟩
       (first|rw[hji33]at H|simp only[hji33]at H)
       (try rw[hji33]at A29)
       replace H:=iteNd H;obtain⟨c34b0,H⟩:=H;replace H:=iteNd H;obtain⟨c35b0,H⟩:=H;replace H:=iteNd H;obtain⟨c37b0,H⟩:=H;replace H:=iteNd H;obtain⟨c38b0,H⟩:=H;obtain⟨y266,Ny266⟩:=toY (([37,bt (⟨#[48,49,50,51,52,53,54,55,56,57,65,66,67,68,69,70]⟩:BA) (ji33),bt (⟨#[48,49,50,51,52,53,54,55,56,57,65,66,67,68,69,70]⟩:BA) (Go.bits .and .u8 (bt a0 x5_1) 15)]:List Int));(first|with_reducible replace H:=bindZ Ny266 H|rw[←Ny266.out]at H|skip);replace H:=iteN H;obtain⟨c40,H⟩:=H;have LMc40:=A_ c40;clear c40;obtain⟨y269,Ny269⟩:=toY (x4_1++y266);(first|with_reducible replace H:=bindZ Ny269 H|rw[←Ny269.out]at H|skip);have H':=A_ H;clear H;have p5:0≤(x5_1:Int):=ofD;have q5:x5_1<(a0.size:Int):=ofD;have hx5:=bt_at a0 x5_1;replace p5:=eq_true p5;replace q5:=eq_true q5;try go_wp2_with (first|(refine gR 115 (some 35) Tryz.func115 (impl_standsForItself.calls (bt a0 x5_1) false _ A29.out) ?_;rintro w' ⟨nd,rfl⟩))
       (try(rw[drewN_self wr];generalize hq_:World.drewN wr _=wr;have n0_:Aside0 (Kd.R (Kd.int .u8) 5 wr w.heap.size (fun _=>True) u4 x4_1):=⟨(by rw[←hq_];exact(zz6 HO_4))⟩;have n1_:Aside0 (Below w.heap.size w wr):=⟨(by rw[←hq_];exact(zz1 HB))⟩;clear HO_4 HB hq_;have HO_4:=n0_;have HB:=n1_;clear n0_ n1_))
       replace HO_4:=A_ (Kd.R_drew HO_4.out);replace HB:=A_ (below_drew1 HB.out);have p36:0≤((ji33):Int):=ofD;have q36:(ji33)<(16:Int):=ofD;have hx36:=bt_at (⟨#[48,49,50,51,52,53,54,55,56,57,65,66,67,68,69,70]⟩:BA) (ji33);replace p36:=eq_true p36;replace q36:=eq_true q36;have p39:0≤((Go.bits .and .u8 (bt a0 x5_1) 15):Int):=ofD;have q39:(Go.bits .and .u8 (bt a0 x5_1) 15)<(16:Int):=ofD;have hx39:=bt_at (⟨#[48,49,50,51,52,53,54,55,56,57,65,66,67,68,69,70]⟩:BA) (Go.bits .and .u8 (bt a0 x5_1) 15);replace p39:=eq_true p39;replace q39:=eq_true q39;refine start_ (n:=10) (S:=fun w'=>True) (ds:=[]) #[yF,yF,yF,yF,yF,yF,yF,yF,yF,yF] (by kernel_rfl) rfl rfl trivial (fun hHeld=>?_);refine with_tabW impl_EscNorm.tab16 impl_EscNorm.bits16 (fun HT_ HW_=>?_);generalize wr.drew=w41 at HO_4 HB hHeld ⊢;refine pureZ 0 (some 40) (yA 1 9) ?_;refine pureZ 1 (some 41) (yA 2 8) ?_;refine pureZ 2 (some 42) (yA 3 7) ?_;refine pureZ 4 (some 44) #[yT,yT,yT,yF,yT,yF,yF,yF,yF,yF] ?_;refine pureZ 5 (some 45) #[yT,yT,yT,yF,yT,yT,yF,yF,yF,yF] ?_;refine take_ (i:=3) (N:=some 43) (v:=?_) (a':=?_) (yA 6 4) rfl rfl (take_ofW HT_.out HW_.out (by kernel_rfl)) (fun _ _ _ h=>h) (Or.inl ⟨by rfl,?_⟩) hHeld ?_ ?_;rotate_left
       ·intro w' _
        go_simp
        with_reducible rfl
       rotate_left
       ·simp only[Act.put,lS_,l0_,lC_,i64_w,i32_w]
        rfl
       refine take_ (i:=6) (N:=some 46) (v:=?_) (a':=?_) (yA 7 3) rfl rfl (take_ofW HT_.out HW_.out (by kernel_rfl)) (fun _ _ _ h=>h) (Or.inl ⟨by rfl,?_⟩) hHeld ?_ ?_;rotate_left
       ·intro w' _
        go_simp
        with_reducible rfl
       rotate_left
       ·simp only[Act.put,lS_,l0_,lC_,i64_w,i32_w]
        rfl
       refine oneZ 7 (some 47) (yA 8 2) (fun K hK=>?_);refine Kd.R_lit_step (Kd.int .u8) _ 5 ?hg (N:=47) ?hd (xs:=([37,bt (⟨#[48,49,50,51,52,53,54,55,56,57,65,66,67,68,69,70]⟩:BA) (ji33),bt (⟨#[48,49,50,51,52,53,54,55,56,57,65,66,67,68,69,70]⟩:BA) (Go.bits .and .u8 (bt a0 x5_1) 15)]:List Int)) (inner:=[.int .u8 37,.int .u8 (bt (⟨#[48,49,50,51,52,53,54,55,56,57,65,66,67,68,69,70]⟩:BA) (ji33)),.int .u8 (bt (⟨#[48,49,50,51,52,53,54,55,56,57,65,66,67,68,69,70]⟩:BA) (Go.bits .and .u8 (bt a0 x5_1) 15))]) (ok:=fun _=>True) (okp:=fun _=>True) ?hr ?hp (fun _ hk=>hk) trivial (Below.refl _ _) (lL_ _) (by simp) ?_;(case hd=>rfl);(case hg=>rfl);(case hr=>exact zz4);(case hp=>exact(Reps.one (show Kd.M (Kd.int .u8) _ _ _ 37 [.int .u8 37]from rfl) (Reps.one (show Kd.M (Kd.int .u8) _ _ _ (bt (⟨#[48,49,50,51,52,53,54,55,56,57,65,66,67,68,69,70]⟩:BA) (ji33)) [.int .u8 (bt (⟨#[48,49,50,51,52,53,54,55,56,57,65,66,67,68,69,70]⟩:BA) (ji33))]from rfl) (Reps.one (show Kd.M (Kd.int .u8) _ _ _ (bt (⟨#[48,49,50,51,52,53,54,55,56,57,65,66,67,68,69,70]⟩:BA) (Go.bits .and .u8 (bt a0 x5_1) 15)) [.int .u8 (bt (⟨#[48,49,50,51,52,53,54,55,56,57,65,66,67,68,69,70]⟩:BA) (Go.bits .and .u8 (bt a0 x5_1) 15))]from rfl) (Reps.none _ _)))));intro v267 w42 ho43 hb hg_ hnew_;clear hg_ hnew_;(first|rw[←Ny266.out]at ho43|(simp only[Int.reduceToNat]at ho43;rw[←Ny266.out]at ho43));have HO268:=A_ (Kd.R_lower (Kd.R_new' ho43 (Kd.R_lt (zz6 HO_4))) (below_size (zz1 HB)));replace HO_4:=A_ (Kd.R_elder' (zz6 HO_4) (Kd.R_base ho43) hb);replace HB:=A_ (bS (zz1 HB) hb);clear hb ho43;obtain⟨Ao45,co45,eo45⟩:=Kd.R_slice HO268.out;(first|subst eo45|(injection eo45 with f1_ f2_ f3_;have f4_:=f1_.symm;have f5_:=f3_.symm;clear f1_ f2_ f3_;subst f4_;subst f5_));refine hK.out _ _ trivial (fun hHeld=>?_);clear hK K;refine nZ 47 ?_;refine oneZ 8 (some 48) (yA 9 1) (fun K hK=>?_);refine Kd.R_append_rows_step (Kd.int .u8) (w0:=w) w.heap.size (by rfl) (.tmp 40) (.tmp 47) 35 5 (.int .u8 0) 1 rfl Tryz.underlying35 info5 rfl (by decide) (by omega) u4 x4_1 y266 _ _ _ (fun k_=>some k_≠(.slice Ao45 y266.length co45:Value).ownBlock) (fun _=>False) rfl rfl ?aO ?aR (fun _ _ h=>h) (fun _ h=>h.elim) ?aF ?aB ?aS ?aL ?_;(case aR=>exact(zz83 HO268))
       (case aB=>exact(zz1 HB))
       (case aF=>exact(fun k_ hk=>Kd.fresh' (Kd.R_lt (zz6 HO268)) k_ hk))
       (case aO=>exact(zz79 HO_4))
       (case aS=>exact(below_size (zz1 HB)))
       (case aL=>exact(zz5 LMc40))
       intro v270 w44 ho hb hg hat;rw[←Ny269.out]at ho;replace HO268:=A_ (Kd.R_after (ok:=(fun _=>True)) (zz6 HO268) hg hat);replace HB:=A_ (hb);have HO271:=A_ (ho);clear HO_4;clear ho hb hg hat;refine hK.out _ _ trivial (fun hHeld=>?_);clear hK K;refine nZ 48 ?_;refine pureZ 9 (some 4) (yA 10 0) ?_;refine done_ (done_of HT_.out (by kernel_rfl)) ?_;try go_wp2
       go_roundg k1
       case measure=>have:=HK1.out;omega
       case rel=>exact⟨(y269),(wrap64 (x5_1+1)),zz2,H',⟨(zz5 HK1)⟩,⟨(zz120 HO271)⟩,⟨(zz1 HB)⟩⟩
    ·simp only[oI_,pI_]at H
     obtain⟨rfl,rfl⟩:=H;have hcv46:=own_string (P:=Tryz.prog) Tryz.underlying35 Tryz.underlying5 Tryz.underlying9 (Kd.own_of_R HO_4.out);go_wp2
     go_ret2
     exact⟨zz0,(zz1 HB)⟩
mutual
def strings_genSplit.j0:Nat→BA→BA→Int→Int→Option (List BA)
 |0,_,_,_,_=>none
 |k+1,x0,x1,x2,x3=>if 0≤(mn x3 (wrap64 ((x0.size:Int)+1)))then(if(mn x3 (wrap64 ((x0.size:Int)+1)):Int).toNat≤17592186044416 then(strings_genSplit.l0 k x0 x1 x2 (wrap64 ((mn x3 (wrap64 ((x0.size:Int)+1)))-1)) (List.replicate (mn x3 (wrap64 ((x0.size:Int)+1)):Int).toNat (⟨#[]⟩:BA)) 0)else(none))else(none)
def strings_genSplit.l0:Nat→BA→BA→Int→Int→List BA→Int→Option (List BA)
 |0,_,_,_,_,_,_=>none
 |k+1,x0,x1,x2,x3,x9,x10=>if x10<x3 then((strings_Index.f x0 x1).bind fun t289=>(if t289<0 then(if 0≤x10 then(if x10<(x9.length:Int)then(if 0≤(wrap64 (x10+1))then(if(wrap64 (x10+1))≤(x9.length:Int)then(some ((x9.set (x10:Int).toNat x0).take ((wrap64 (x10+1)):Int).toNat))else(none))else(none))else(none))else(none))else(if 0≤(wrap64 (t289+x2))then(if(wrap64 (t289+x2))≤(x0.size:Int)then(if 0≤x10 then(if x10<(x9.length:Int)then(if 0≤(wrap64 (t289+(x1.size:Int)))then(if(wrap64 (t289+(x1.size:Int)))≤(x0.size:Int)then(strings_genSplit.l0 k (x0.extract ((wrap64 (t289+(x1.size:Int))):Int).toNat x0.size) x1 x2 x3 (x9.set (x10:Int).toNat (x0.extract 0 ((wrap64 (t289+x2)):Int).toNat)) (wrap64 (x10+1)))else(none))else(none))else(none))else(none))else(none))else(none))))else(if 0≤x10 then(if x10<(x9.length:Int)then(if 0≤(wrap64 (x10+1))then(if(wrap64 (x10+1))≤(x9.length:Int)then(some ((x9.set (x10:Int).toNat x0).take ((wrap64 (x10+1)):Int).toNat))else(none))else(none))else(none))else(none))
end
def strings_genSplit.f (k:Nat)(a0:BA)(a1:BA)(a2:Int)(a3:Int):Option (List BA):=if a3=0 then(some ([]:List BA))else(if a1.toList=([]:List UInt8)then((strings_explode.f a0 a3).bind fun t282=>(some t282))else(if a3<0 then((strings_Count.f a0 a1).bind fun t285=>(strings_genSplit.j0 k a0 a1 a2 (wrap64 (t285+1))))else(strings_genSplit.j0 k a0 a1 a2 a3)))
theorem strings_genSplit.calls (k:Nat)(a0:BA)(a1:BA)(a2:Int)(a3:Int)(r:List BA)(w:World)(h:strings_genSplit.f k a0 a1 a2 a3=some r):
  Calls Tryz.prog 139 #[.string a0,.string a1,.int .i64 a2,.int .i64 a3] w fun e w'=>∃v0_:Value,e=.returned (v0_)∧Kd.R Kd.string 9 w' w.heap.size (fun _=>True) v0_ r∧Below w.heap.size w w':=by
 have HB:=A_ (Below.refl w.heap.size w);unfold strings_genSplit.f at h;have H:=h;clear h;replace H:=iteEq H;rcases H with⟨c5b0,c5b1,H⟩|⟨c5b0,c5b1,c5,H⟩
 ·obtain rfl:=sI H
  go_enter Tryz.func139,Tryz.ntmps139;go_wp2
  go_ret;exact⟨_,zz0,zz24,(zz1 HB)⟩
 ·replace H:=iteEq H
  rcases H with⟨c6b0,c6b1,H⟩|⟨c6b0,c6b1,c6,H⟩
  ·replace H:=bindA H
   obtain⟨t282,A7,H⟩:=H;obtain rfl:=sI H;go_enter Tryz.func139,Tryz.ntmps139;go_wp2_with (first|(refine gV 145 (some 18) Tryz.func145 (strings_explode.calls a0 a3 t282 _ A7.out) ?_;rintro v283 w8 ⟨ho0,hb⟩;have HO284:=A_ (Kd.R_lower ho0 (below_size (zz1 HB)));replace HB:=A_ (bS (zz1 HB) hb);(try clear hb ho0)));go_ret;exact⟨_,zz0,(zz6 HO284),(zz1 HB)⟩
  ·have HC9:=A_ H
   clear H;go_enter Tryz.func139,Tryz.ntmps139;go_upto_if 20 with(fail)
   go_cut [3] (fun v3 wc=>∃(kq:Nat)(x3_8:Int),v3=.int .i64 x3_8∧Aside0 (strings_genSplit.j0 kq a0 a1 a2 x3_8=some r)∧Aside0 (kq≤k)∧Aside0 (Below w.heap.size w wc))
   case first=>
    obtain⟨H⟩:=HC9;replace H:=iteEd H;rcases H with⟨c10b0,H⟩|⟨c10b0,H⟩
    ·(first|rw[c10b0]|(simp only[i64_w,i32_w];rw[c10b0])|skip)
     replace H:=bindA H;obtain⟨t285,A11,H⟩:=H;have H':=A_ H;clear H;go_wp2_with (first|(refine gR 146 (some 23) Tryz.func146 (strings_Count.calls a0 a1 t285 _ A11.out) ?_;rintro w12 hb;replace HB:=A_ (bS (zz1 HB) hb);(try clear hb)))
     go_meet
     case rel=>exact⟨_,(wrap64 (t285+1)),zz2,H',⟨zz33⟩,⟨(zz1 HB)⟩⟩
    ·(first|rw[c10b0]|(simp only[i64_w,i32_w];rw[c10b0])|skip)
     have H':=A_ H;clear H;go_wp2
     go_meet
     case rel=>exact⟨_,(a3),zz2,H',⟨zz33⟩,⟨(zz1 HB)⟩⟩
   case rest=>
    clear HC9;obtain⟨kq,x3_8,rfl,HA,HJ8,HB⟩:=hcut;cases kq with
    |zero=>exact absurd HA.out (by simp[strings_genSplit.j0])
    |succ kj8=>
     obtain⟨H⟩:=HA;simp only[strings_genSplit.j0]at H;obtain⟨ji13,hji13⟩:∃j_:Int,(mn x3_8 (wrap64 ((a0.size:Int)+1)))=j_:=⟨_,rfl⟩;(first|rw[hji13]at H|simp only[hji13]at H);have hji13_:(if(wrap64 ((a0.size:Int)+1))<x3_8 then(wrap64 ((a0.size:Int)+1))else x3_8)=ji13:=hji13;replace H:=iteE H;rcases H with⟨c14,H⟩|⟨c14,H⟩
     ·have c14b0:=eq_true c14
      have c14b1:=dT c14;clear c14;replace H:=iteN H;obtain⟨c15,H⟩:=H;have c15b0:=eq_true c15;have c15b1:=dT c15;clear c15;obtain⟨y286,Ny286⟩:=toY (List.replicate (ji13:Int).toNat (⟨#[]⟩:BA));(first|with_reducible replace H:=bindZ Ny286 H|rw[←Ny286.out]at H|skip);have H':=A_ H;clear H;go_wp2_with (first|((with_reducible refine gD (N:=31) rfl ?_);refine Kd.R_make Kd.string _ 9 rfl (N:=31) rfl 22 _ _ rfl ji13 rfl rfl Tryz.underlying22 (.string ⟨#[]⟩) 16 info9 rfl (by decide) (by omega) (⟨#[]⟩:BA) (ok:=fun _=>True) (okp:=fun _=>True) rfl (fun _ hk=>hk) trivial ofD (nT_ (mR_ _ (ofD:ji13.toNat≤17592186044416)) (by omega)) (Below.refl _ _) (lL_ _) ?_;intro v287 w16 ho17 hb hg_ hnew_;clear hg_ hnew_;(first|rw[←Ny286.out]at ho17|(simp only[Int.reduceToNat]at ho17;rw[←Ny286.out]at ho17));have HO288:=A_ (Kd.R_lower ho17 (below_size (zz1 HB)));replace HB:=A_ (bS (zz1 HB) hb);clear hb ho17))
      go_loopg [0,10] kj8 (fun kq v0 v10 w'=>∃(x0_2:BA)(x9_2:List BA)(x10_2:Int),v0=.string x0_2∧v10=.int .i64 x10_2∧Aside0 (strings_genSplit.l0 kq x0_2 a1 a2 (wrap64 ((ji13)-1)) x9_2 x10_2=some r)∧Aside0 (kq≤kj8)∧Aside0 (Kd.R Kd.string 9 w' w.heap.size (fun _=>True) v287 x9_2)∧Aside0 (Below w.heap.size w w'))
      case atStart=>exact⟨(a0),(y286),(0),zz2,zz2,H',⟨lL_ _⟩,⟨(zz6 HO288)⟩,⟨(zz1 HB)⟩⟩
      case round=>
       clear H';obtain⟨x0_2,x9_2,x10_2,rfl,rfl,HA,HK2,HO_9,HB⟩:=hrel;cases gk with
       |zero=>exact absurd HA.out (by simp[strings_genSplit.l0])
       |succ k2=>
        obtain⟨H⟩:=HA;simp only[strings_genSplit.l0]at H;replace H:=iteEd H;rcases H with⟨c18b0,H⟩|⟨c18b0,H⟩
        ·replace H:=bindA H
         obtain⟨t289,A19,H⟩:=H;have HF20:=A_ H;clear H;go_upto_if 41 with(first|(refine gR 147 (some 39) Tryz.func147 (strings_Index.calls x0_2 a1 t289 _ A19.out) ?_;rintro w21 hb;replace HO_9:=A_ (rB (zz6 HO_9) hb);replace HB:=A_ (bS (zz1 HB) hb);(try clear hb)))
         obtain⟨H⟩:=HF20;replace H:=iteEd H;rcases H with⟨c22b0,H⟩|⟨c22b0,H⟩
         ·(first|rw[c22b0]|(simp only[i64_w,i32_w];rw[c22b0])|skip)
          replace H:=iteNd H;obtain⟨c23b0,H⟩:=H;replace H:=iteNd H;obtain⟨c24b0,H⟩:=H;obtain⟨y290,hy290⟩:∃y_:List BA,y_=(x9_2.set (x10_2:Int).toNat x0_2):=⟨_,rfl⟩;replace H:(if 0≤(wrap64 (x10_2+1))then(if(wrap64 (x10_2+1))≤(x9_2.length:Int)then(some (y290.take ((wrap64 (x10_2+1)):Int).toNat))else(none))else(none))=some r:=by first|(rw[hy290];with_reducible exact H)|(have H2_:=(oB_ _ _).symm.trans H;rw[hy290];with_reducible exact H2_)|(have H2_:=(oB_ _ _).symm.trans H;with_reducible exact H2_)|with_reducible exact H|(rw[hy290];exact H)|exact H
          have Ny290:=A_ hy290;have Ly290:y290.length≤x9_2.length∧x9_2.length≤y290.length:=by rw[hy290,List.length_set];exact⟨lL_ _,lL_ _⟩
          have My290:=Ly290.1;replace Ly290:=Ly290.2;clear hy290;obtain⟨ji26,hji26⟩:∃j_:Int,(wrap64 (x10_2+1))=j_:=⟨_,rfl⟩;(first|rw[hji26]at H|simp only[hji26]at H);have hji26w:(IntKind.i64.wrap (x10_2+1))=ji26:=(i64_w _).trans hji26;replace H:=iteN H;obtain⟨c27,H⟩:=H;have c27b0:=eq_true c27;have c27b1:=dT c27;clear c27;replace H:=iteN H;obtain⟨c28,H⟩:=H;have c28b0:=eq_true c28;have c28b1:=dT c28;clear c28;obtain⟨y291,Ny291⟩:=toY (y290.take ((ji26):Int).toNat);(first|with_reducible replace H:=bindZ Ny291 H|rw[←Ny291.out]at H|skip);obtain rfl:=sI H;have p25:0≤(x10_2:Int):=ofD;have q25:(x10_2:Int)<((x9_2.length:Int):Int):=ofD;obtain⟨go25,co25,eo25,gb25,gl25,cl25,HG25⟩:=Kd.R_form HO_9.out (by omega);(first|cases eo25|(injection eo25 with ea_ en_ ec_;(first|subst ea_|(injection ea_ with ea_;subst ea_));subst ec_;clear en_));have GB25:=A_ gb25;have GG25:=A_ HG25;clear gb25 gl25 HG25;obtain⟨hx25_0,hf25_0⟩:=Kd.R_celln (⟨#[]⟩:BA) HO_9.out (x10_2:Int) p25 q25;replace p25:=eq_true p25;replace q25:=eq_true q25;have HP29:=Kd.R_putg HO_9.out (x10_2:Int) x0_2;go_wp2_with (first|((with_reducible refine gate_store (t:=9) (p:=61) rfl ?_);refine store_event (t:=9) (p:=61) (v:=?vo_w30) (w1:=(w21.setCell ⟨go25,(x10_2:Int).toNat,none⟩ (.string x0_2))) ?hg ?ho ?hn ?hr ?_;(case ho=>rfl);(case hg=>rfl);(case hn=>rfl);(case hr=>exact zz4);intro w30 hw;have hg:w21.grownBy w30 (some go25):=(by rw[hw];exact HP29.2);have hp_:Kd.R Kd.string 9 w30 w.heap.size (fun _=>True) (.slice (some ⟨go25,0,none⟩) x9_2.length co25) y290:=(by rw[hw,Ny290.out];exact HP29.1);clear HP29;replace HO_9:=A_ (hp_);replace HB:=A_ ((by rw[hw];exact below_set (HB.out) GB25.out:Below w.heap.size w w30));clear hg hw hp_;have q31:((ji26):Int)≤((x9_2.length:Int):Int):=ofD;obtain⟨i031,hi031,_,hsz31,_⟩:=info_parts info9;have hcut31:=cut_to (P:=Tryz.prog) 22 9 .i64 Tryz.underlying22 hi031 (some ⟨go25,0,none⟩) x9_2.length co25 (ji26) ofD q31 (Kd.R_reads' HO_9.out).2.1;have hr31:=Kd.R_take (m:=((ji26):Int).toNat) HO_9.out (by omega);have hy31:y291.length=((ji26):Int).toNat:=(by rw[Ny291.out,lT_];omega);rw[←Ny291.out]at hr31;rw[←hy31]at hr31 hcut31;clear hy31 hi031 hsz31 HO_9;have HO293:=A_ hr31;clear hr31;replace q31:=eq_true q31));go_ret;exact⟨_,(by first|rfl|(simp[errW_none,errW_some] <;> rfl)|(simp only[←hji13,←hji26];first|rfl|(simp[errW_none,errW_some] <;> rfl))|(simp[*,errW_none,errW_some] <;> rfl)),(zz6 HO293),(zz1 HB)⟩
         ·(first|rw[c22b0]|(simp only[i64_w,i32_w];rw[c22b0])|skip)
          obtain⟨ji32,hji32⟩:∃j_:Int,(wrap64 (t289+a2))=j_:=⟨_,rfl⟩;(first|rw[hji32]at H|simp only[hji32]at H);have hji32w:(IntKind.i64.wrap (t289+a2))=ji32:=(i64_w _).trans hji32;replace H:=iteN H;obtain⟨c33,H⟩:=H;have c33b0:=eq_true c33;have c33b1:=dT c33;clear c33;replace H:=iteN H;obtain⟨c34,H⟩:=H;have c34b0:=eq_true c34;have c34b1:=dT c34;clear c34;replace H:=iteNd H;obtain⟨c35b0,H⟩:=H;replace H:=iteNd H;obtain⟨c36b0,H⟩:=H;obtain⟨y294,hy294⟩:∃y_:List BA,y_=(x9_2.set (x10_2:Int).toNat (x0_2.extract 0 ((ji32):Int).toNat)):=⟨_,rfl⟩;replace H:(if 0≤(wrap64 (t289+(a1.size:Int)))then(if(wrap64 (t289+(a1.size:Int)))≤(x0_2.size:Int)then(strings_genSplit.l0 k2 (x0_2.extract ((wrap64 (t289+(a1.size:Int))):Int).toNat x0_2.size) a1 a2 (wrap64 ((ji13)-1)) y294 (wrap64 (x10_2+1)))else(none))else(none))=some r:=by first|(rw[hy294];with_reducible exact H)|(have H2_:=(oB_ _ _).symm.trans H;rw[hy294];with_reducible exact H2_)|(have H2_:=(oB_ _ _).symm.trans H;with_reducible exact H2_)|with_reducible exact H|(rw[hy294];exact H)|exact H
          have Ny294:=A_ hy294;have Ly294:y294.length≤x9_2.length∧x9_2.length≤y294.length:=by rw[hy294,List.length_set];exact⟨lL_ _,lL_ _⟩
          have My294:=Ly294.1;replace Ly294:=Ly294.2;clear hy294;obtain⟨ji38,hji38⟩:∃j_:Int,(wrap64 (t289+(a1.size:Int)))=j_:=⟨_,rfl⟩;(first|rw[hji38]at H|simp only[hji38]at H);have hji38w:(IntKind.i64.wrap (t289+(a1.size:Int)))=ji38:=(i64_w _).trans hji38;replace H:=iteN H;obtain⟨c39,H⟩:=H;have c39b0:=eq_true c39;have c39b1:=dT c39;clear c39;replace H:=iteN H;obtain⟨c40,H⟩:=H;have c40b0:=eq_true c40;have c40b1:=dT c40;clear c40;have H':=A_ H;clear H;have p37:0≤(x10_2:Int):=ofD;have q37:(x10_2:Int)<((x9_2.length:Int):Int):=ofD;obtain⟨go37,co37,eo37,gb37,gl37,cl37,HG37⟩:=Kd.R_form HO_9.out (by omega);(first|cases eo37|(injection eo37 with ea_ en_ ec_;(first|subst ea_|(injection ea_ with ea_;subst ea_));subst ec_;clear en_));have GB37:=A_ gb37;have GG37:=A_ HG37;clear gb37 gl37 HG37;obtain⟨hx37_0,hf37_0⟩:=Kd.R_celln (⟨#[]⟩:BA) HO_9.out (x10_2:Int) p37 q37;replace p37:=eq_true p37;replace q37:=eq_true q37;have HP41:=Kd.R_putg HO_9.out (x10_2:Int) (x0_2.extract 0 ((ji32):Int).toNat);go_wp2_with (first|((with_reducible refine gate_store (t:=9) (p:=49) rfl ?_);refine store_event (t:=9) (p:=49) (v:=?vo_w42) (w1:=(w21.setCell ⟨go37,(x10_2:Int).toNat,none⟩ (.string (x0_2.extract 0 ((ji32):Int).toNat)))) ?hg ?ho ?hn ?hr ?_;(case ho=>rfl);(case hg=>rfl);(case hn=>rfl);(case hr=>exact zz4);intro w42 hw;have hg:w21.grownBy w42 (some go37):=(by rw[hw];exact HP41.2);have hp_:Kd.R Kd.string 9 w42 w.heap.size (fun _=>True) (.slice (some ⟨go37,0,none⟩) x9_2.length co37) y294:=(by rw[hw,Ny294.out];exact HP41.1);clear HP41;replace HO_9:=A_ (hp_);replace HB:=A_ ((by rw[hw];exact below_set (HB.out) GB37.out:Below w.heap.size w w42));clear hg hw hp_))
          go_roundg k2
          case measure=>have:=HJ8.out;have:=HK2.out;omega
          case rel=>exact⟨(x0_2.extract ((ji38):Int).toNat x0_2.size),(y294),(wrap64 (x10_2+1)),(by first|rfl|(simp only[i64_w,i32_w];done)|(simp only[aid_isEmpty,aid_isEmpty2];done)|(simp;done)|((simp only[←hji38] <;> (first|rfl|simp));done)|(simp[*];done)),zz2,H',⟨(zz28 HJ8 HK2)⟩,⟨(zz6 HO_9)⟩,⟨(zz1 HB)⟩⟩
        ·replace H:=iteNd H
         obtain⟨c43b0,H⟩:=H;replace H:=iteNd H;obtain⟨c44b0,H⟩:=H;obtain⟨y295,hy295⟩:∃y_:List BA,y_=(x9_2.set (x10_2:Int).toNat x0_2):=⟨_,rfl⟩;replace H:(if 0≤(wrap64 (x10_2+1))then(if(wrap64 (x10_2+1))≤(x9_2.length:Int)then(some (y295.take ((wrap64 (x10_2+1)):Int).toNat))else(none))else(none))=some r:=by first|(rw[hy295];with_reducible exact H)|(have H2_:=(oB_ _ _).symm.trans H;rw[hy295];with_reducible exact H2_)|(have H2_:=(oB_ _ _).symm.trans H;with_reducible exact H2_)|with_reducible exact H|(rw[hy295];exact H)|exact H
         have Ny295:=A_ hy295;have Ly295:y295.length≤x9_2.length∧x9_2.length≤y295.length:=by rw[hy295,List.length_set];exact⟨lL_ _,lL_ _⟩
         have My295:=Ly295.1;replace Ly295:=Ly295.2;clear hy295;obtain⟨ji46,hji46⟩:∃j_:Int,(wrap64 (x10_2+1))=j_:=⟨_,rfl⟩;(first|rw[hji46]at H|simp only[hji46]at H);have hji46w:(IntKind.i64.wrap (x10_2+1))=ji46:=(i64_w _).trans hji46;replace H:=iteN H;obtain⟨c47,H⟩:=H;have c47b0:=eq_true c47;have c47b1:=dT c47;clear c47;replace H:=iteN H;obtain⟨c48,H⟩:=H;have c48b0:=eq_true c48;have c48b1:=dT c48;clear c48;obtain⟨y296,Ny296⟩:=toY (y295.take ((ji46):Int).toNat);(first|with_reducible replace H:=bindZ Ny296 H|rw[←Ny296.out]at H|skip);obtain rfl:=sI H;have p45:0≤(x10_2:Int):=ofD;have q45:(x10_2:Int)<((x9_2.length:Int):Int):=ofD;obtain⟨go45,co45,eo45,gb45,gl45,cl45,HG45⟩:=Kd.R_form HO_9.out (by omega);(first|cases eo45|(injection eo45 with ea_ en_ ec_;(first|subst ea_|(injection ea_ with ea_;subst ea_));subst ec_;clear en_));have GB45:=A_ gb45;have GG45:=A_ HG45;clear gb45 gl45 HG45;obtain⟨hx45_0,hf45_0⟩:=Kd.R_celln (⟨#[]⟩:BA) HO_9.out (x10_2:Int) p45 q45;replace p45:=eq_true p45;replace q45:=eq_true q45;have HP49:=Kd.R_putg HO_9.out (x10_2:Int) x0_2;go_wp2_with (first|((with_reducible refine gate_store (t:=9) (p:=61) rfl ?_);refine store_event (t:=9) (p:=61) (v:=?vo_w50) (w1:=(wr.setCell ⟨go45,(x10_2:Int).toNat,none⟩ (.string x0_2))) ?hg ?ho ?hn ?hr ?_;(case ho=>rfl);(case hg=>rfl);(case hn=>rfl);(case hr=>exact zz4);intro w50 hw;have hg:wr.grownBy w50 (some go45):=(by rw[hw];exact HP49.2);have hp_:Kd.R Kd.string 9 w50 w.heap.size (fun _=>True) (.slice (some ⟨go45,0,none⟩) x9_2.length co45) y295:=(by rw[hw,Ny295.out];exact HP49.1);clear HP49;replace HO_9:=A_ (hp_);replace HB:=A_ ((by rw[hw];exact below_set (HB.out) GB45.out:Below w.heap.size w w50));clear hg hw hp_;have q51:((ji46):Int)≤((x9_2.length:Int):Int):=ofD;obtain⟨i051,hi051,_,hsz51,_⟩:=info_parts info9;have hcut51:=cut_to (P:=Tryz.prog) 22 9 .i64 Tryz.underlying22 hi051 (some ⟨go45,0,none⟩) x9_2.length co45 (ji46) ofD q51 (Kd.R_reads' HO_9.out).2.1;have hr51:=Kd.R_take (m:=((ji46):Int).toNat) HO_9.out (by omega);have hy51:y296.length=((ji46):Int).toNat:=(by rw[Ny296.out,lT_];omega);rw[←Ny296.out]at hr51;rw[←hy51]at hr51 hcut51;clear hy51 hi051 hsz51 HO_9;have HO298:=A_ hr51;clear hr51;replace q51:=eq_true q51));go_ret;exact⟨_,(by first|rfl|(simp[errW_none,errW_some] <;> rfl)|(simp only[←hji13,←hji46];first|rfl|(simp[errW_none,errW_some] <;> rfl))|(simp[*,errW_none,errW_some] <;> rfl)),(zz6 HO298),(zz1 HB)⟩
     ·exact absurd H (by simp)
def impl_isNormal.f (k:Nat)(a0:BA):Option (Bool):=(impl_EscNorm.f k a0).bind fun bt272=>(if bt272.2=true then(some (bt272.1.toList==a0.toList))else(some false))
theorem impl_isNormal.calls (k:Nat)(a0:BA)(r:Bool)(w:World)(h:impl_isNormal.f k a0=some r):
  Calls Tryz.prog 92 #[.string a0] w fun e w'=>e=.returned (.bool r)∧Below w.heap.size w w':=by
 have HB:=A_ (Below.refl w.heap.size w);unfold impl_isNormal.f at h;have H:=h;clear h;replace H:=bindA H;obtain⟨⟨t272,t273⟩,A2,H⟩:=H;try dsimp only at H;have HF3:=A_ H;clear H;go_enter Tryz.func92,Tryz.ntmps92;go_wp2_with (first|(refine gR 109 (some 7) Tryz.func109 (impl_EscNorm.calls k a0 t272 t273 _ A2.out) ?_;rintro w4 hb;replace HB:=A_ (bS (zz1 HB) hb);(try clear hb))|((with_reducible refine atG ?_ ?_ fun K_ hK_=>?_);rfl;exact undecG)|((with_reducible refine atI ?_ fun K_ hK_=>?_);exact undecI));refine unG hK_ ?_;clear hK_ K_;obtain⟨H⟩:=HF3;replace H:=iteB H;rcases H with⟨rfl,H⟩|⟨rfl,H⟩
 ·(first|refine iteT ?_|refine iteF ?_|skip)
  obtain rfl:=sI H;(try((with_reducible refine upS ?_);go_simp));go_wp2;go_ret;exact⟨zz0,(zz1 HB)⟩
 ·(first|refine iteT ?_|refine iteF ?_|skip)
  obtain rfl:=sI H;(try((with_reducible refine upS ?_);go_simp));go_wp2;go_ret;exact⟨zz0,(zz1 HB)⟩
def strings_Split.f (k:Nat)(a0:BA)(a1:BA):Option (List BA):=(strings_genSplit.f k a0 a1 0 (-1)).bind fun t299=>(some t299)
theorem strings_Split.calls (k:Nat)(a0:BA)(a1:BA)(r:List BA)(w:World)(h:strings_Split.f k a0 a1=some r):
  Calls Tryz.prog 126 #[.string a0,.string a1] w fun e w'=>∃v0_:Value,e=.returned (v0_)∧Kd.R Kd.string 9 w' w.heap.size (fun _=>True) v0_ r∧Below w.heap.size w w':=by
 have HB:=A_ (Below.refl w.heap.size w);unfold strings_Split.f at h;have H:=h;clear h;replace H:=bindA H;obtain⟨t299,A3,H⟩:=H;obtain rfl:=sI H;go_enter Tryz.func126,Tryz.ntmps126;go_wp2_with (first|(refine gV 139 (some 7) Tryz.func139 (strings_genSplit.calls k a0 a1 0 (-1) t299 _ A3.out) ?_;rintro v300 w4 ⟨ho0,hb⟩;have HO301:=A_ (Kd.R_lower ho0 (below_size (zz1 HB)));replace HB:=A_ (bS (zz1 HB) hb);(try clear hb ho0)));go_ret;exact⟨_,zz0,(zz6 HO301),(zz1 HB)⟩
end Go.Proofs.YtalfefmnlnkcaaaGreatDoor.P
end
section
namespace Go.Proofs.YtalfefmnlnkcaaaGreatDoor.P
open Go.RowKit Go.Proofs.YtalfefmnlnkcaaaGreatDoorW PrintWords PrintLast PrintMore Go.Proofs.YtalfefmnlnkcaaaGreatDoor.B Go.Proofs.YtalfefmnlnkcaaaGreatDoor.Ad
set_option maxHeartbeats 8000000
set_option maxRecDepth 100000
def impl_smallLetters.f (a0:BA):Option (BA):=if a0.size≤140737488351232 then some (smallB a0)else none
theorem impl_smallLetters.calls (a0 r:BA)(w:World)(h:impl_smallLetters.f a0=some r):
  Calls Tryz.prog 106 #[.string a0] w fun e w'=>e=.returned (.string r)∧Below w.heap.size w w':=by
 unfold impl_smallLetters.f at h
 by_cases hs:a0.size≤140737488351232
 ·rw[if_pos hs]at h
  obtain rfl:=sI h;clear h;have hcv:=Lib.run_convert_string_bytes (P:=Tryz.prog) w 9 35 5 a0 Tryz.underlying9 Tryz.underlying35 Tryz.underlying5;go_enter Tryz.func106,Tryz.ntmps106;go_wp2_with fail;clear hcv;go_loopw [10] (fun i wr=>∃k:Nat,k≤a0.size∧i=.int .i64 k∧Aside0 (SmRow w.heap.size a0 k wr)∧Aside0 (Below w.heap.size w wr))
   (fun i _=>a0.size-(intOf i).toNat)
  case atStart=>
   refine⟨0,Nat.zero_le _,rfl,⟨sm_start w 5 a0⟩,⟨?_⟩⟩;exact sm_below w 5 a0
  case round=>
   obtain⟨k,hk,rfl,hI,hB⟩:=hrel;by_cases hlt:k<a0.size
   ·have hc:=(hI.out.2 k hlt).1
    have hf:=(hI.out.2 k hlt).2;rw[if_neg (by omega)]at hc;have hset:=A_ (sm_set hI.out hlt);have hskip:=A_ (sm_skip hI.out hlt);clear hI;generalize (L a0).getD k 0=b at hc hset hskip;have hb:=b.toNat_lt;by_cases h1:65≤b.toNat
    ·by_cases h2:b.toNat≤90
     ·have e1:(sm b).toNat=b.toNat+32:=by
       unfold sm;rw[if_pos ⟨h1,h2⟩,UInt8.toNat_add];have:(32:UInt8).toNat=32:=rfl;omega
      rw[e1,show((b.toNat+32:Nat):Int)=(b.toNat:Int)+32 from by omega]at hset;clear hskip e1;go_wp2;exact⟨⟨k+1,by omega,by go_num,hset,⟨hB.out.setCell (lL_ _) _⟩⟩,zz132⟩
     ·have e1:sm b=b:=by unfold sm;rw[if_neg (by omega)]
      have hS:Aside0 (SmRow w.heap.size a0 (k+1) wr):=⟨hskip.out e1⟩;clear e1 hset hskip;go_wp2;exact⟨⟨k+1,by omega,by go_num,hS,hB⟩,zz132⟩
    ·have e1:sm b=b:=by unfold sm;rw[if_neg (by omega)]
     have hS:Aside0 (SmRow w.heap.size a0 (k+1) wr):=⟨hskip.out e1⟩;clear e1 hset hskip;go_wp2;exact⟨⟨k+1,by omega,by go_num,hS,hB⟩,zz132⟩
   ·have ek:k=a0.size:=by omega
    have hcells:∀j (hj:j<(L (smallB a0)).length),wr.cell? ((⟨w.heap.size,0,none⟩:Addr).add j)=some (.int .u8 ((L (smallB a0))[j].toNat:Int)):=by
     intro j hj;have hj':j<a0.size:=by rw[L_size,smallB,ofL_size,List.length_map,L_size]at hj;exact hj
     rw[add_plain,(hI.out.2 j hj').1,if_pos (by omega)];simp[smallB,L_of,gD_,gE_ (show j<(L a0).length by rw[L_size];exact hj')]
    have hcv:=run_convert_bytes_back (P:=Tryz.prog) wr 35 9 5 ⟨w.heap.size,0,none⟩ (grownCap w a0.size 0 5) (L (smallB a0)) Tryz.underlying35 Tryz.underlying5 Tryz.underlying9 hcells;have hl:(L (smallB a0)).length=a0.size:=by rw[L_size,smallB,ofL_size,List.length_map,L_size]
    rw[hl,show(⟨(L (smallB a0)).toArray⟩:BA)=smallB a0 from of_L _]at hcv;have Hk:=A_ ek;clear ek hcells hl;go_wp2;go_ret;exact⟨rfl,hB.out⟩
 ·rw[if_neg hs]at h;cases h
def spec_l1Small.f (a0:BA):Option (BA):=if a0.size≤140737488351232 then some (smallB a0)else none
theorem spec_l1Small.calls (a0 r:BA)(w:World)(h:spec_l1Small.f a0=some r):
  Calls Tryz.prog 84 #[.string a0] w fun e w'=>e=.returned (.string r)∧Below w.heap.size w w':=by
 unfold spec_l1Small.f at h
 by_cases hs:a0.size≤140737488351232
 ·rw[if_pos hs]at h
  obtain rfl:=sI h;clear h;have hcv:=Lib.run_convert_string_bytes (P:=Tryz.prog) w 9 35 5 a0 Tryz.underlying9 Tryz.underlying35 Tryz.underlying5;go_enter Tryz.func84,Tryz.ntmps84;go_wp2_with fail;clear hcv;go_loopw [4] (fun i wr=>∃k:Nat,k≤a0.size∧i=.int .i64 k∧Aside0 (SmRow w.heap.size a0 k wr)∧Aside0 (Below w.heap.size w wr))
   (fun i _=>a0.size-(intOf i).toNat)
  case atStart=>
   refine⟨0,Nat.zero_le _,rfl,⟨sm_start w 5 a0⟩,⟨?_⟩⟩;exact sm_below w 5 a0
  case round=>
   obtain⟨k,hk,rfl,hI,hB⟩:=hrel;by_cases hlt:k<a0.size
   ·have hc:=(hI.out.2 k hlt).1
    have hf:=(hI.out.2 k hlt).2;rw[if_neg (by omega)]at hc;have hset:=A_ (sm_set hI.out hlt);have hskip:=A_ (sm_skip hI.out hlt);clear hI;generalize (L a0).getD k 0=b at hc hset hskip;have hb:=b.toNat_lt;by_cases h1:65≤b.toNat
    ·by_cases h2:b.toNat≤90
     ·have e1:(sm b).toNat=b.toNat+32:=by
       unfold sm;rw[if_pos ⟨h1,h2⟩,UInt8.toNat_add];have:(32:UInt8).toNat=32:=rfl;omega
      rw[e1,show((b.toNat+32:Nat):Int)=(b.toNat:Int)+32 from by omega]at hset;clear hskip e1;go_wp2;exact⟨⟨k+1,by omega,by go_num,hset,⟨hB.out.setCell (lL_ _) _⟩⟩,zz132⟩
     ·have e1:sm b=b:=by unfold sm;rw[if_neg (by omega)]
      have hS:Aside0 (SmRow w.heap.size a0 (k+1) wr):=⟨hskip.out e1⟩;clear e1 hset hskip;go_wp2;exact⟨⟨k+1,by omega,by go_num,hS,hB⟩,zz132⟩
    ·have e1:sm b=b:=by unfold sm;rw[if_neg (by omega)]
     have hS:Aside0 (SmRow w.heap.size a0 (k+1) wr):=⟨hskip.out e1⟩;clear e1 hset hskip;go_wp2;exact⟨⟨k+1,by omega,by go_num,hS,hB⟩,zz132⟩
   ·have ek:k=a0.size:=by omega
    have hcells:∀j (hj:j<(L (smallB a0)).length),wr.cell? ((⟨w.heap.size,0,none⟩:Addr).add j)=some (.int .u8 ((L (smallB a0))[j].toNat:Int)):=by
     intro j hj;have hj':j<a0.size:=by rw[L_size,smallB,ofL_size,List.length_map,L_size]at hj;exact hj
     rw[add_plain,(hI.out.2 j hj').1,if_pos (by omega)];simp[smallB,L_of,gD_,gE_ (show j<(L a0).length by rw[L_size];exact hj')]
    have hcv:=run_convert_bytes_back (P:=Tryz.prog) wr 35 9 5 ⟨w.heap.size,0,none⟩ (grownCap w a0.size 0 5) (L (smallB a0)) Tryz.underlying35 Tryz.underlying5 Tryz.underlying9 hcells;have hl:(L (smallB a0)).length=a0.size:=by rw[L_size,smallB,ofL_size,List.length_map,L_size]
    rw[hl,show(⟨(L (smallB a0)).toArray⟩:BA)=smallB a0 from of_L _]at hcv;have Hk:=A_ ek;clear ek hcells hl;go_wp2;go_ret;exact⟨rfl,hB.out⟩
 ·rw[if_neg hs]at h;cases h
end Go.Proofs.YtalfefmnlnkcaaaGreatDoor.P
end
section
namespace Go.Proofs.YtalfefmnlnkcaaaGreatDoor.P
open Go.RowKit Go.Proofs.YtalfefmnlnkcaaaGreatDoorW PrintWords PrintLast PrintMore
attribute [local go_sem] max2_int min2_int max_two min_two max_three min_three max_four min_four
set_option maxHeartbeats 8000000
set_option maxRecDepth 100000
mutual
def impl_AddrOk.j0:Nat→Bool→BA→List BA→Bool→BA→Option (Bool)
 |0,_,_,_,_,_=>none
 |k+1,x14,x275000,x275001,x275002,x275003=>if x14=true then(some false)else(impl_AddrOk.l0 k x275001 (x275001.length:Int) 0 x275000 x275001 x275002 x275003)
def impl_AddrOk.l0:Nat→List BA→Int→Int→BA→List BA→Bool→BA→Option (Bool)
 |0,_,_,_,_,_,_,_=>none
 |k+1,x16,x17,x18,x275000,x275001,x275002,x275003=>if x18<x17 then(if 0≤x18 then(if x18<(x16.length:Int)then(if(rdOf bE_ x16 x18).toList=([]:List UInt8)then(some false)else(if(rdOf bE_ x16 x18).toList=([46]:List UInt8)then(some false)else(if(rdOf bE_ x16 x18).toList=([46,46]:List UInt8)then(some false)else((impl_isNormal.f k (rdOf bE_ x16 x18)).bind fun t277=>(if t277=true then(impl_AddrOk.l0 k x16 x17 (wrap64 (x18+1)) x275000 x275001 x275002 x275003)else(some false))))))else(none))else(none))else((impl_isNormal.f k x275003).bind fun t278=>(if t278=true then(if x275002=true then((impl_writeAddr.f x275000 x275001 x275002 x275003).bind fun t279=>(some (decide ((t279.size:Int)≤60))))else(if x275003.toList=([]:List UInt8)then((impl_writeAddr.f x275000 x275001 x275002 x275003).bind fun t280=>(some (decide ((t280.size:Int)≤60))))else(some false)))else(some false)))
end
def impl_AddrOk.f (k:Nat)(a0_0:BA)(l0_1:List BA)(a0_2:Bool)(a0_3:BA):Option (Bool):=(impl_isHouse.f k a0_0).bind fun t275=>(if t275=true then(impl_AddrOk.j0 k (decide ((l0_1.length:Int)>5)) a0_0 l0_1 a0_2 a0_3)else(impl_AddrOk.j0 k true a0_0 l0_1 a0_2 a0_3))
theorem impl_AddrOk.calls (k:Nat)(a0_0:BA)(A0_1:Option Addr)(c0_1:Nat)(l0_1:List BA)(a0_2:Bool)(a0_3:BA)(r:Bool)(w:World)(hr0_1:Kd.C Kd.string w A0_1 l0_1.length l0_1)(hc0_1:l0_1.length≤c0_1)(h:impl_AddrOk.f k a0_0 l0_1 a0_2 a0_3=some r):
  Calls Tryz.prog 77 #[.agg #[.string a0_0,.slice A0_1 l0_1.length c0_1,.bool a0_2,.string a0_3]] w fun e w'=>e=.returned (.bool r)∧Below w.heap.size w w':=by
 have hu70:=Tryz.underlying70;have HR0_1:=A_ hr0_1;have HC0_1:=A_ hc0_1;clear hr0_1 hc0_1;have HB:=A_ (Below.refl w.heap.size w);unfold impl_AddrOk.f at h;have H:=h;clear h;have HC2:=A_ H;clear H;go_enter Tryz.func77,Tryz.ntmps77;go_upto_region 1 with(first|((with_reducible refine gD (N:=1) rfl ?_);(try(refine gate_guard (by rfl) ?_;dsimp only));refine boxE 1 #[.string a0_0,.slice A0_1 l0_1.length c0_1,.bool a0_2,.string a0_3] 70 ?_;intro gb274 hg w3 hbox hb;have BK274:=A_ (hbox);have GE274:=geB hg (zz1 HB);replace HB:=A_ (bS (zz1 HB) hb);clear hb hbox hg))
 (try simp only[Act.put,lS_,l0_,lC_])
 go_cut [14] (fun v14 wc=>∃(kq:Nat)(x14_1:Bool),v14=.bool x14_1∧Aside0 (impl_AddrOk.j0 kq x14_1 a0_0 l0_1 a0_2 a0_3=some r)∧Aside0 (kq≤k)∧Aside0 (wc.heap[gb274]?=some (.cells #[.string a0_0,(.slice A0_1 l0_1.length c0_1),.bool a0_2,.string a0_3] 70 (0,0)))∧Aside0 (Below w.heap.size w wc))
 case first=>
  obtain⟨H⟩:=HC2;replace H:=bindA H;obtain⟨t275,A4,H⟩:=H;have HF5:=A_ H;clear H;obtain⟨_,_,_,_,_,_,_,_⟩:=cf4 BK274;go_wp2_with (first|(refine gR 67 (some 7) Tryz.func67 (impl_isHouse.calls k a0_0 t275 _ A4.out) ?_;rintro w' ⟨nd,rfl⟩)|((with_reducible refine atG ?_ ?_ fun K_ hK_=>?_);rfl;exact undecG)|((with_reducible refine atI ?_ fun K_ hK_=>?_);exact undecI));refine unG hK_ ?_;clear hK_ K_;obtain⟨H⟩:=HF5;replace H:=iteB H;rcases H with⟨rfl,H⟩|⟨rfl,H⟩
  ·(first|refine iteT ?_|refine iteF ?_|skip)
   have H':=A_ H;clear H;obtain⟨_,_,_,_,_,_,_,_⟩:=cf4 BK274;(try((with_reducible refine upS ?_);go_simp));go_wp2
   go_meet
   case rel=>exact⟨_,(decide ((l0_1.length:Int)>5)),zz2,H',⟨zz33⟩,⟨(zz36 BK274)⟩,⟨(zz37 HB GE274)⟩⟩
  ·(first|refine iteT ?_|refine iteF ?_|skip)
   have H':=A_ H;clear H;(try((with_reducible refine upS ?_);go_simp));go_wp2
   go_meet
   case rel=>exact⟨_,(true),zz2,H',⟨zz33⟩,⟨(zz36 BK274)⟩,⟨(zz37 HB GE274)⟩⟩
 case rest=>
  clear HC2;obtain⟨kq,x14_1,rfl,HA,HJ1,BK274,HB⟩:=hcut;cases kq with
  |zero=>exact absurd HA.out (by simp[impl_AddrOk.j0])
  |succ kj1=>
   obtain⟨H⟩:=HA;simp only[impl_AddrOk.j0]at H;replace H:=iteB H;rcases H with⟨rfl,H⟩|⟨rfl,H⟩
   ·obtain rfl:=sI H
    go_wp2;go_ret;exact⟨zz0,(zz37 HB GE274)⟩
   ·have H':=A_ H
    clear H;obtain⟨_,_,_,_,_,_,_,_⟩:=cf4 BK274;go_wp2
    go_loopg [18] kj1 (fun kq v18 w'=>∃(x18_2:Int),v18=.int .i64 x18_2∧Aside0 (impl_AddrOk.l0 kq l0_1 (l0_1.length:Int) x18_2 a0_0 l0_1 a0_2 a0_3=some r)∧Aside0 (kq≤kj1)∧Aside0 (w'.heap[gb274]?=some (.cells #[.string a0_0,(.slice A0_1 l0_1.length c0_1),.bool a0_2,.string a0_3] 70 (0,0)))∧Aside0 (Below w.heap.size w w'))
    case atStart=>exact⟨(0),zz2,H',⟨lL_ _⟩,⟨(zz36 BK274)⟩,⟨(zz37 HB GE274)⟩⟩
    case round=>
     clear H';obtain⟨x18_2,rfl,HA,HK2,BK274,HB⟩:=hrel;cases gk with
     |zero=>exact absurd HA.out (by simp[impl_AddrOk.l0])
     |succ k2=>
      obtain⟨H⟩:=HA;simp only[impl_AddrOk.l0]at H;replace H:=iteEd H;rcases H with⟨c11b0,H⟩|⟨c11b0,H⟩
      ·replace H:=iteNd H
       obtain⟨c12b0,H⟩:=H;replace H:=iteNd H;obtain⟨c13b0,H⟩:=H;replace H:=iteEq H;rcases H with⟨c14b0,c14b1,H⟩|⟨c14b0,c14b1,c14,H⟩
       ·obtain rfl:=sI H
        obtain⟨⟨ad276,e276,hx276_0⟩,p276,q276⟩:=atB (Kd.at_string HR0_1.out x18_2);cases e276;replace hx276_0:=cbl HB hx276_0;go_wp2;go_ret;exact⟨zz0,(zz37 HB GE274)⟩
       ·replace H:=iteEq H
        rcases H with⟨c15b0,c15b1,H⟩|⟨c15b0,c15b1,c15,H⟩
        ·obtain rfl:=sI H
         obtain⟨⟨ad276,e276,hx276_0⟩,p276,q276⟩:=atB (Kd.at_string HR0_1.out x18_2);cases e276;replace hx276_0:=cbl HB hx276_0;go_wp2;go_ret;exact⟨zz0,(zz37 HB GE274)⟩
        ·replace H:=iteEq H
         rcases H with⟨c16b0,c16b1,H⟩|⟨c16b0,c16b1,c16,H⟩
         ·obtain rfl:=sI H
          obtain⟨⟨ad276,e276,hx276_0⟩,p276,q276⟩:=atB (Kd.at_string HR0_1.out x18_2);cases e276;replace hx276_0:=cbl HB hx276_0;go_wp2;go_ret;exact⟨zz0,(zz37 HB GE274)⟩
         ·replace H:=bindA H
          obtain⟨t277,A17,H⟩:=H;have HF18:=A_ H;clear H;obtain⟨⟨ad276,e276,hx276_0⟩,p276,q276⟩:=atB (Kd.at_string HR0_1.out x18_2);cases e276;replace hx276_0:=cbl HB hx276_0;go_upto_if 36 with(first|(go_at_call 92;(with_reducible refine(impl_isNormal.calls k2 (rdOf bE_ l0_1 x18_2) t277 _ A17.out).mono ?_);rintro e w19 ⟨rfl,hb⟩;replace BK274:=A_ (bB (zz36 BK274) hb);replace HB:=A_ (bS (zz37 HB GE274) hb);(try clear hb)))
          obtain⟨H⟩:=HF18;replace H:=iteB H;rcases H with⟨rfl,H⟩|⟨rfl,H⟩
          ·have H':=A_ H
           clear H;go_wp2
           go_roundg k2
           case measure=>have:=HJ1.out;have:=HK2.out;omega
           case rel=>exact⟨(wrap64 (x18_2+1)),zz2,H',⟨(zz28 HJ1 HK2)⟩,⟨(zz36 BK274)⟩,⟨(zz37 HB GE274)⟩⟩
          ·obtain rfl:=sI H
           go_wp2;go_ret;exact⟨zz0,(zz37 HB GE274)⟩
      ·replace H:=bindA H
       obtain⟨t278,A21,H⟩:=H;have HF22:=A_ H;clear H;obtain⟨_,_,_,_,_,_,_,_⟩:=cf4 BK274;go_wp2_with (first|(refine gR 92 (some 40) Tryz.func92 (impl_isNormal.calls k2 a0_3 t278 _ A21.out) ?_;rintro w24 hb;replace BK274:=A_ (bB (zz36 BK274) hb);replace HB:=A_ (bS (zz37 HB GE274) hb);(try clear hb))|((with_reducible refine atG ?_ ?_ fun K_ hK_=>?_);rfl;exact undecG)|((with_reducible refine atI ?_ fun K_ hK_=>?_);exact undecI));refine unG hK_ ?_;clear hK_ K_;obtain⟨H⟩:=HF22;replace H:=iteB H;rcases H with⟨rfl,H⟩|⟨rfl,H⟩
       ·(first|refine iteT ?_|refine iteF ?_|skip)
        replace H:=iteB H;rcases H with⟨rfl,H⟩|⟨rfl,H⟩
        ·replace H:=bindA H
         obtain⟨t279,A27,H⟩:=H;obtain rfl:=sI H;obtain⟨_,_,_,_,_,_,_,_⟩:=cf4 BK274;go_wp2_with (first|(refine gR 74 (some 53) Tryz.func74 (impl_writeAddr.calls a0_0 _ _ l0_1 true a0_3 t279 _ ?side1 ?side2 A27.out) ?_;(case side1=>exact(zz63 HR0_1 HB));(case side2=>exact HC0_1.out);rintro w29 hb;replace BK274:=A_ (bB (zz36 BK274) hb);replace HB:=A_ (bS (zz37 HB GE274) hb);(try clear hb)));go_ret;exact⟨zz0,(zz37 HB GE274)⟩
        ·replace H:=iteE H
         rcases H with⟨c30,H⟩|⟨c30,H⟩
         ·obtain⟨c30b0,c30b1⟩:=eqT c30
          clear c30;replace H:=bindA H;obtain⟨t280,A31,H⟩:=H;obtain rfl:=sI H;obtain⟨_,_,_,_,_,_,_,_⟩:=cf4 BK274;go_wp2_with (first|(refine gR 74 (some 53) Tryz.func74 (impl_writeAddr.calls a0_0 _ _ l0_1 false a0_3 t280 _ ?side1 ?side2 A31.out) ?_;(case side1=>exact(zz63 HR0_1 HB));(case side2=>exact HC0_1.out);rintro w33 hb;replace BK274:=A_ (bB (zz36 BK274) hb);replace HB:=A_ (bS (zz37 HB GE274) hb);(try clear hb)));go_ret;exact⟨zz0,(zz37 HB GE274)⟩
         ·obtain⟨c30b0,c30b1⟩:=eqF c30
          obtain rfl:=sI H;obtain⟨_,_,_,_,_,_,_,_⟩:=cf4 BK274;go_wp2;go_ret;exact⟨zz0,(zz37 HB GE274)⟩
       ·(first|refine iteT ?_|refine iteF ?_|skip)
        obtain rfl:=sI H;(try((with_reducible refine upS ?_);go_simp));go_wp2;go_ret;exact⟨zz0,(zz37 HB GE274)⟩
def impl_readWay.l0:Nat→BA→BA→Bool→List BA→List BA→Int→Int→Option (BA×List BA×Bool×BA×Bool)
 |0,_,_,_,_,_,_,_=>none
 |k+1,x0,x9,x10,x12,x35,x36,x37=>if x37<x36 then(if 0≤x37 then(if x37<(x35.length:Int)then((impl_EscNorm.f k (rdOf bE_ x35 x37)).bind fun bt322=>(if bt322.2=true then(if x12.length<8796093022208 then(impl_readWay.l0 k x0 x9 x10 (x12++[bt322.1]) x35 x36 (wrap64 (x37+1)))else(none))else(some ((⟨#[]⟩:BA),([]:List BA),false,(⟨#[]⟩:BA),false))))else(none))else(none))else((impl_PathClean.f k x12).bind fun t327=>((impl_AddrOk.f k x0 t327 x10 x9).bind fun t331=>(if t331=true then(some (x0,t327,x10,x9,true))else(some ((⟨#[]⟩:BA),([]:List BA),false,(⟨#[]⟩:BA),false)))))
def impl_readWay.f (k:Nat)(a0:BA)(l1:List BA)(a2:BA):Option (BA×List BA×Bool×BA×Bool):=(strings_Cut.f a2 (⟨#[63]⟩:BA)).bind fun bt310=>((impl_EscNorm.f k bt310.2.1).bind fun bt313=>(if bt313.2=true then((slices_Clone_string_string.f l1).bind fun t315=>((strings_Split.f k bt310.1 (⟨#[47]⟩:BA)).bind fun t318=>(impl_readWay.l0 k a0 bt313.1 bt310.2.2 t315 t318 (t318.length:Int) 0)))else(some ((⟨#[]⟩:BA),([]:List BA),false,(⟨#[]⟩:BA),false))))
theorem impl_readWay.calls (k:Nat)(a0:BA)(A1:Option Addr)(c1:Nat)(l1:List BA)(a2:BA)(r1:BA)(r2:List BA)(r3:Bool)(r4:BA)(r5:Bool)(w:World)(hr1:Kd.C Kd.string w A1 l1.length l1)(hc1:l1.length≤c1)(h:impl_readWay.f k a0 l1 a2=some (r1,r2,r3,r4,r5)):
  Calls Tryz.prog 105 #[.string a0,.slice A1 l1.length c1,.string a2] w fun e w'=>∃v1_:Value,e=.returned (.tuple #[.agg #[.string r1,v1_,.bool r3,.string r4],.bool r5])∧Kd.R Kd.string 9 w' w.heap.size (fun _=>True) v1_ r2∧Below w.heap.size w w':=by
 have hu70:=Tryz.underlying70;have HR1:=A_ hr1;have HC1:=A_ hc1;clear hr1 hc1;have HB:=A_ (Below.refl w.heap.size w);unfold impl_readWay.f at h;have H:=h;clear h;replace H:=bindA H;obtain⟨⟨t310,t311,t312⟩,A4,H⟩:=H;try dsimp only at H;replace H:=bindA H;obtain⟨⟨t313,t314⟩,A5,H⟩:=H;try dsimp only at H;have HF6:=A_ H;clear H;go_enter Tryz.func105,Tryz.ntmps105;go_upto_if 30 with(first|(refine boxF 6 #[.string (⟨#[]⟩:BA),.slice none 0 0,.bool false,.string (⟨#[]⟩:BA)] 70 ?_;intro gb309 hg w7 BK309 hb;have GE309:=geB hg (zz1 HB);replace HB:=A_ (bS (zz1 HB) hb);clear hb hg)|(refine gR 88 (some 20) Tryz.func88 (strings_Cut.calls a2 (⟨#[63]⟩:BA) t310 t311 t312 _ A4.out) ?_;rintro w8 hb;replace BK309:=A_ (bB (zz36 BK309) hb);replace HB:=A_ (bS (zz37 HB GE309) hb);(try clear hb))|(refine gR 109 (some 26) Tryz.func109 (impl_EscNorm.calls k t311 t313 t314 _ A5.out) ?_;rintro w9 hb;replace BK309:=A_ (bB (zz36 BK309) hb);replace HB:=A_ (bS (zz37 HB GE309) hb);(try clear hb)))
 obtain⟨H⟩:=HF6;replace H:=iteB H;rcases H with⟨rfl,H⟩|⟨rfl,H⟩
 ·replace H:=bindA H
  obtain⟨t315,A11,H⟩:=H;replace H:=bindA H;obtain⟨t318,A12,H⟩:=H;have H':=A_ H;clear H;go_wp2_with (first|(refine gV 125 (some 33) Tryz.func125 (slices_Clone_string_string.calls _ _ l1 t315 _ ?side1 ?side2 A11.out) ?_;(case side1=>exact(zz63 HR1 HB));(case side2=>exact HC1.out);rintro v316 w13 ⟨ho0,hb⟩;have HO317:=A_ (Kd.R_lower ho0 (below_size (zz37 HB GE309)));replace BK309:=A_ (bB (zz36 BK309) hb);replace HB:=A_ (bS (zz37 HB GE309) hb);(try clear hb ho0))|(refine gV 126 (some 35) Tryz.func126 (strings_Split.calls k t310 (⟨#[47]⟩:BA) t318 _ A12.out) ?_;rintro v319 w14 ⟨ho0,hb⟩;have HO320:=A_ (Kd.R_lower (Kd.R_new' ho0 (Kd.R_lt (zz6 HO317))) (below_size (zz37 HB GE309)));replace HO317:=A_ (Kd.R_elder' (zz6 HO317) (Kd.R_base ho0) hb);replace BK309:=A_ (bB (zz36 BK309) hb);replace HB:=A_ (bS (zz37 HB GE309) hb);(try clear hb ho0);obtain⟨Ao15,co15,eo15⟩:=Kd.R_slice HO320.out;subst eo15))
  go_loopg [12,37] k (fun kq v12 v37 w'=>∃(x12_1:List BA)(x37_1:Int)(x310000_1:BA)(x310002_1:Bool)(x310003_1:BA),v37=.int .i64 x37_1∧Aside0 (impl_readWay.l0 kq a0 t313 t312 x12_1 t318 (t318.length:Int) x37_1=some (r1,r2,r3,r4,r5))∧Aside0 (kq≤k)∧Aside0 (Kd.R Kd.string 9 w' w.heap.size (fun k_=>some k_≠((.slice Ao15 t318.length co15):Value).ownBlock) v12 x12_1)∧Aside0 (Kd.R Kd.string 9 w' w.heap.size (fun k_=>some k_≠(v12:Value).ownBlock) (.slice Ao15 t318.length co15) t318)∧Aside0 (w'.heap[gb309]?=some (.cells #[.string x310000_1,(.slice none 0 0),.bool x310002_1,.string x310003_1] 70 (0,0)))∧Aside0 (Below w.heap.size w w'))
  case atStart=>exact⟨(t315),(0),((⟨#[]⟩:BA)),(false),((⟨#[]⟩:BA)),zz2,H',⟨lL_ _⟩,⟨(zz79 HO317)⟩,⟨(zz79 HO320)⟩,⟨(zz36 BK309)⟩,⟨(zz37 HB GE309)⟩⟩
  case round=>
   clear H';obtain⟨x12_1,x37_1,x310000_1,x310002_1,x310003_1,rfl,HA,HK1,HO_12,HO_35,BK309,HB⟩:=hrel;cases gk with
   |zero=>exact absurd HA.out (by simp[impl_readWay.l0])
   |succ k1=>
    obtain⟨H⟩:=HA;simp only[impl_readWay.l0]at H;replace H:=iteEd H;rcases H with⟨c16b0,H⟩|⟨c16b0,H⟩
    ·(first|rw[c16b0]|(simp only[i64_w,i32_w];rw[c16b0])|skip)
     replace H:=iteNd H;obtain⟨c17b0,H⟩:=H;replace H:=iteNd H;obtain⟨c18b0,H⟩:=H;replace H:=bindA H;obtain⟨⟨t322,t323⟩,A19,H⟩:=H;try dsimp only at H;have HF20:=A_ H;clear H;obtain⟨⟨ad321,e321,hx321_0⟩,p321,q321⟩:=atB (Kd.at_string (Kd.R_reads' HO_35.out).2.2 x37_1);cases e321
     go_upto_if 47 with(first|(refine gR 109 (some 43) Tryz.func109 (impl_EscNorm.calls k1 (rdOf bE_ t318 x37_1) t322 t323 _ A19.out) ?_;rintro w21 hb;replace HO_12:=A_ (rB (zz6 HO_12) hb);replace HO_35:=A_ (rB (zz6 HO_35) hb);replace BK309:=A_ (bB (zz36 BK309) hb);replace HB:=A_ (bS (zz37 HB GE309) hb);(try clear hb)))
     obtain⟨H⟩:=HF20;replace H:=iteB H;rcases H with⟨rfl,H⟩|⟨rfl,H⟩
     ·replace H:=iteN H
      obtain⟨c23,H⟩:=H;have LMc23:=A_ c23;clear c23;obtain⟨y324,Ny324⟩:=toY (x12_1++[t322]);(first|with_reducible replace H:=bindZ Ny324 H|rw[←Ny324.out]at H|skip);have H':=A_ H;clear H;go_wp2_with (first|((with_reducible refine gate_builtin (b:=.append) (xs:=#[.tmp 49,.tmp 51]) rfl ?_);at_builtin;refine Kd.R_append Kd.string (w0:=w) w.heap.size rfl (.tmp 49) (.tmp 51) 22 9 (.string ⟨#[]⟩) 16 rfl Tryz.underlying22 info9 rfl (by decide) (by omega) u12 x12_1 t322 [.string t322] (fun k_=>some k_≠(.slice (some ad321) t318.length co15:Value).ownBlock) (fun _=>False) rfl rfl ?aP (fun _ hk=>hk.elim) ?aF ?aO ?aB ?aS ?aL ?_;(case aP=>exact rfl);(case aB=>exact(zz37 HB GE309));(case aF=>exact(fun k_ hk=>Kd.fresh' (Kd.R_lt (zz6 HO_35)) k_ hk));(case aO=>exact(zz6 HO_12));(case aS=>exact(below_size (zz37 HB GE309)));(case aL=>exact(zz5 LMc23));intro v325 w24 ho hb hg hat;rw[←Ny324.out]at ho;replace HO_35:=A_ (Kd.R_after (ok:=(fun _=>True)) (zz81 HO_35) hg hat);replace BK309:=A_ (blk_grown (zz36 BK309) hg (Kd.R_ne HO_12.out BK309.out (by decide)));replace HB:=A_ (hb);have HO326:=A_ (ho);clear HO_12;clear ho hb hg hat))
      go_roundg k1
      case measure=>have:=HK1.out;omega
      case rel=>exact⟨(y324),(wrap64 (x37_1+1)),(x310000_1),(x310002_1),(x310003_1),zz2,H',⟨(zz5 HK1)⟩,⟨(zz6 HO326)⟩,⟨(zz79 HO_35)⟩,⟨(zz36 BK309)⟩,⟨(zz37 HB GE309)⟩⟩
     ·simp only[oI_,pI_]at H
      obtain⟨rfl,rfl,rfl,rfl,rfl⟩:=H;obtain⟨_,_,_,_,_,_,_,_⟩:=cf4 BK309;go_wp2;refine pR (results_ct rfl _ _ gb309 70 #[.string (⟨#[]⟩:BA),.slice none 0 0,.bool false,.string (⟨#[]⟩:BA)] (0,0) _ rfl (zz82 BK309) Tryz.underlying70 rfl (by kernel_rfl)) rfl ?_;exact⟨_,zz0,zz24,(zz37 HB GE309)⟩
    ·(first|rw[c16b0]|(simp only[i64_w,i32_w];rw[c16b0])|skip)
     replace H:=bindA H;obtain⟨t327,A26,H⟩:=H;replace H:=bindA H;obtain⟨t331,A27,H⟩:=H;have HF28:=A_ H;clear H;obtain⟨Ao29,co29,eo29⟩:=Kd.R_slice HO_12.out;subst eo29;go_upto_if 62 with(first|(refine gV 127 (some 56) Tryz.func127 (impl_PathClean.calls k1 _ _ x12_1 t327 _ ?side1 ?side2 A26.out) ?_;(case side1=>exact(zz83 HO_12));(case side2=>exact(Kd.R_reads' HO_12.out).2.1);rintro v328 w30 ⟨ho0,hb⟩;have HO329:=A_ (Kd.R_lower (Kd.R_new' (Kd.R_new' ho0 (Kd.R_lt (zz6 HO_12))) (Kd.R_lt (zz6 HO_35))) (below_size (zz37 HB GE309)));replace HO_12:=A_ (Kd.R_elder' (zz6 HO_12) (Kd.R_base ho0) hb);replace HO_35:=A_ (Kd.R_elder' (zz6 HO_35) (Kd.R_base ho0) hb);replace BK309:=A_ (bB (zz36 BK309) hb);replace HB:=A_ (bS (zz37 HB GE309) hb);(try clear hb ho0);obtain⟨Ao31,co31,eo31⟩:=Kd.R_slice HO329.out;subst eo31)|(refine boxF 17 #[.string (⟨#[]⟩:BA),.slice none 0 0,.bool false,.string (⟨#[]⟩:BA)] 70 ?_;intro gb330 hg w32 BK330 hb;replace HO_12:=A_ (rB (zz6 HO_12) hb);replace HO_35:=A_ (rB (zz6 HO_35) hb);replace HO329:=A_ (rB (zz6 HO329) hb);have GE330:=geB hg (zz37 HB GE309);replace HB:=A_ (bS (zz37 HB GE309) hb);have NB309_330:=A_ ((by rw[hg];exact Nat.ne_of_lt (blk_lt (zz36 BK309)):gb309≠gb330));have NB330_309:=A_ ((by rw[hg];exact Nat.ne_of_gt (blk_lt (zz36 BK309)):gb330≠gb309));replace BK309:=A_ (bB (zz36 BK309) hb);clear hb hg;have hnb33:=NB330_309.out;have hnc33:=NB309_330.out;obtain⟨_,_,_,_,_,_,_,_⟩:=cf4 BK330)|((with_reducible refine gC (f:=77) rfl ?_);refine gsL (some 61) Tryz.func77 #[.agg #[.string a0,.slice Ao31 t327.length co31,.bool t312,.string t313]] ?_;(with_reducible refine(impl_AddrOk.calls k1 a0 _ _ t327 t312 t313 t331 _ ?side1 ?side2 A27.out).mono ?_);(case side1=>exact(by refine(Kd.R_reads' (e:=9) (base:=w.heap.size) (ok:=fun k_=>((True∧some k_≠(.slice Ao29 x12_1.length co29:Value).ownBlock)∧some k_≠(.slice Ao15 t318.length co15:Value).ownBlock)) (n:=t327.length) (c:=co31) ?_).2.2;exact(zz136 HO329 BK330)));(case side2=>exact(Kd.R_reads' HO329.out).2.1);rintro e w35 ⟨rfl,hb⟩;refine⟨_,rfl,?_⟩;replace HO_12:=A_ (rB (zz136 HO_12 BK330) hb);replace HO_35:=A_ (rB (zz136 HO_35 BK330) hb);replace HO329:=A_ (rB (zz136 HO329 BK330) hb);replace BK309:=A_ (bB (g:=gb309) (o:=.cells #[.string x310000_1,.slice none 0 0,.bool x310002_1,.string x310003_1] 70 (0,0)) (zz88 BK309 NB309_330) hb);replace BK330:=A_ (bB (g:=gb330) (o:=.cells #[.string a0,.slice Ao31 t327.length co31,.bool t312,.string t313] 70 (0,0)) (zz82 BK330) hb);replace HB:=A_ (bS (zz52 HB GE309 GE330) hb);(try clear hb)))
     obtain⟨H⟩:=HF28;replace H:=iteB H;rcases H with⟨rfl,H⟩|⟨rfl,H⟩
     ·simp only[oI_,pI_]at H
      obtain⟨rfl,rfl,rfl,rfl,rfl⟩:=H;have hnb37:=NB330_309.out;have hnc37:=NB309_330.out;obtain⟨_,_,_,_,_,_,_,_⟩:=cf4 BK330;obtain⟨_,_,_,_,_,_,_,_⟩:=cf4 BK309;go_wp2;refine pR (results_ct rfl _ _ gb309 70 #[.string a0,.slice Ao31 t327.length co31,.bool t312,.string t313] (0,0) _ rfl (zz82 BK309) Tryz.underlying70 rfl (by kernel_rfl)) rfl ?_;exact⟨_,zz0,(zz87 (rt HO329 BK309)),(zz52 HB GE309 GE330)⟩
     ·simp only[oI_,pI_]at H
      obtain⟨rfl,rfl,rfl,rfl,rfl⟩:=H;have hnb40:=NB309_330.out;have hnc40:=NB330_309.out;obtain⟨_,_,_,_,_,_,_,_⟩:=cf4 BK309;go_wp2;refine pR (results_ct rfl _ _ gb309 70 #[.string (⟨#[]⟩:BA),.slice none 0 0,.bool false,.string (⟨#[]⟩:BA)] (0,0) _ rfl (zz82 BK309) Tryz.underlying70 rfl (by kernel_rfl)) rfl ?_;exact⟨_,zz0,zz24,(zz52 HB GE309 GE330)⟩
 ·simp only[oI_,pI_]at H
  obtain⟨rfl,rfl,rfl,rfl,rfl⟩:=H;obtain⟨_,_,_,_,_,_,_,_⟩:=cf4 BK309;go_wp2;refine pR (results_ct rfl _ _ gb309 70 #[.string (⟨#[]⟩:BA),.slice none 0 0,.bool false,.string (⟨#[]⟩:BA)] (0,0) _ rfl (zz82 BK309) Tryz.underlying70 rfl (by kernel_rfl)) rfl ?_;exact⟨_,zz0,zz24,(zz37 HB GE309)⟩
def impl_readWhole.f (k:Nat)(a0:BA):Option (BA×List BA×Bool×BA×Bool):=(strings_CutPrefix.f a0 (⟨#[47,47]⟩:BA)).bind fun bt333=>(if bt333.2=true then((strings_IndexAny.f bt333.1 (⟨#[47,63]⟩:BA)).bind fun t335=>(if t335<0 then(if 0≤(bt333.1.size:Int)then(if(bt333.1.size:Int)≤(bt333.1.size:Int)then((impl_smallLetters.f (bt333.1.extract 0 ((bt333.1.size:Int):Int).toNat)).bind fun t336=>((impl_readWay.f k t336 ([]:List BA) (bt333.1.extract ((bt333.1.size:Int):Int).toNat bt333.1.size)).bind fun bt337=>(some (bt337.1,bt337.2.1,bt337.2.2.1,bt337.2.2.2.1,bt337.2.2.2.2))))else(none))else(none))else(if 0≤t335 then(if t335≤(bt333.1.size:Int)then((impl_smallLetters.f (bt333.1.extract 0 (t335:Int).toNat)).bind fun t344=>((impl_readWay.f k t344 ([]:List BA) (bt333.1.extract (t335:Int).toNat bt333.1.size)).bind fun bt345=>(some (bt345.1,bt345.2.1,bt345.2.2.1,bt345.2.2.2.1,bt345.2.2.2.2))))else(none))else(none))))else(some ((⟨#[]⟩:BA),([]:List BA),false,(⟨#[]⟩:BA),false)))
def impl_readWhole.T7:Bool×List (List Nat×List Nat):=(true,[([],[]),([],[]),([0,1],[0,1]),([2],[2]),([],[]),([],[]),([4,5],[4,5]),([3,6,3],[3,6]),([7],[7]),([7],[7]),([8,7,0,1,2,3,4,5,6,7,8,9],[8]),([9,10,0,1,2,3,4,5,6,7,8,9,10],[9])])
def impl_readWhole.B7:List Nat:=[0,0,3,7,0,0,48,127,255,255,1023,2047]
theorem impl_readWhole.tab7:rtab .any (opsOf Tryz.f89 7)=impl_readWhole.T7:=by kernel_rfl
theorem impl_readWhole.bits7:waitsOk impl_readWhole.T7.2 impl_readWhole.B7=true:=by kernel_rfl
theorem impl_readWhole.calls (k:Nat)(a0:BA)(r1:BA)(r2:List BA)(r3:Bool)(r4:BA)(r5:Bool)(w:World)(h:impl_readWhole.f k a0=some (r1,r2,r3,r4,r5)):
  Calls Tryz.prog 89 #[.string a0] w fun e w'=>∃v1_:Value,e=.returned (.tuple #[.agg #[.string r1,v1_,.bool r3,.string r4],.bool r5])∧Kd.R Kd.string 9 w' w.heap.size (fun _=>True) v1_ r2∧Below w.heap.size w w':=by
 have hu70:=Tryz.underlying70;have HB:=A_ (Below.refl w.heap.size w);unfold impl_readWhole.f at h;have H:=h;clear h;replace H:=bindA H;obtain⟨⟨t333,t334⟩,A2,H⟩:=H;try dsimp only at H;have HF3:=A_ H;clear H;go_enter Tryz.func89,Tryz.ntmps89;go_upto_if 13 with(first|(refine boxF 2 #[.string (⟨#[]⟩:BA),.slice none 0 0,.bool false,.string (⟨#[]⟩:BA)] 70 ?_;intro gb332 hg w4 BK332 hb;have GE332:=geB hg (zz1 HB);replace HB:=A_ (bS (zz1 HB) hb);clear hb hg)|((with_reducible refine gC (f:=103) rfl ?_);refine goesL_ (some 9) rfl rfl Tryz.func103 (by kernel_rfl) rfl #[.string a0,.string (⟨#[47,47]⟩:BA)] rfl zz138 ?_;(with_reducible refine(strings_CutPrefix.calls a0 (⟨#[47,47]⟩:BA) t333 t334 _ A2.out).mono ?_);rintro e w' ⟨rfl,⟨nd,rfl⟩⟩;refine⟨_,rfl,?_⟩))
 obtain⟨H⟩:=HF3;replace H:=iteB H;rcases H with⟨rfl,H⟩|⟨rfl,H⟩
 ·replace H:=bindA H
  obtain⟨t335,A6,H⟩:=H;have HF7:=A_ H;clear H;go_upto_if 18 with(first|((with_reducible refine gC (f:=104) rfl ?_);refine goesL_ (some 16) rfl rfl Tryz.func104 (by kernel_rfl) rfl #[.string t333,.string (⟨#[47,63]⟩:BA)] rfl zz138 ?_;(with_reducible refine mR (strings_IndexAny.calls t333 (⟨#[47,63]⟩:BA) t335 _ A6.out) ?_);rintro w8 hb;replace BK332:=A_ (bB (zz36 BK332) hb);replace HB:=A_ (bS (zz37 HB GE332) hb);(try clear hb)))
  obtain⟨H⟩:=HF7;replace H:=iteEd H;rcases H with⟨c9b0,H⟩|⟨c9b0,H⟩
  ·(first|rw[c9b0]|(simp only[i64_w,i32_w];rw[c9b0])|skip)
   replace H:=iteN H;obtain⟨c10,H⟩:=H;have c10b0:=eq_true c10;have c10b1:=dT c10;clear c10;replace H:=iteN H;obtain⟨c11,H⟩:=H;have c11b0:=eq_true c11;have c11b1:=dT c11;clear c11;replace H:=bindA H;obtain⟨t336,A12,H⟩:=H;have c13b0:=eq_true (ofD:0≤(t333.size:Int));have c14b0:=eq_true (ofD:(t333.size:Int)≤(t333.size:Int));replace H:=bindA H;obtain⟨⟨t337,t338,t341,t342,t343⟩,A15,H⟩:=H;try dsimp only at H;simp only[oI_,pI_]at H;obtain⟨rfl,rfl,rfl,rfl,rfl⟩:=H;try go_wp2;replace BK332:=A_ (blk_drew BK332.out);replace HB:=A_ (below_drew1 HB.out);refine start_ (n:=12) (S:=fun w'=>True) (ds:=[]) #[yF,yF,yF,yF,yF,yF,yF,yF,yF,yF,yF,yF] (by kernel_rfl) rfl rfl trivial (fun hHeld=>?_);refine with_tabW impl_readWhole.tab7 impl_readWhole.bits7 (fun HT_ HW_=>?_);generalize w8.drew=w16 at BK332 HB hHeld ⊢;refine pureZ 0 (some 21) (yA 1 11) ?_;refine pureZ 1 (some 22) (yA 2 10) ?_;refine pureZ 2 (some 23) (yA 3 9) ?_;refine pureZ 4 (some 25) #[yT,yT,yT,yF,yT,yF,yF,yF,yF,yF,yF,yF] ?_;refine pureZ 5 (some 26) #[yT,yT,yT,yF,yT,yT,yF,yF,yF,yF,yF,yF] ?_;refine pureZ 6 (some 27) #[yT,yT,yT,yF,yT,yT,yT,yF,yF,yF,yF,yF] ?_;refine oneZ 3 (some 24) (yA 7 5) (fun K hK=>?_);refine goes_ Tryz.func106 (by kernel_rfl) rfl #[.string (t333.extract 0 ((t333.size:Int):Int).toNat)] (by rfl) rfl rfl zz138 ?_;with_reducible refine(impl_smallLetters.calls (t333.extract 0 ((t333.size:Int):Int).toNat) t336 _ A12.out).mono ?_;rintro e w17 ⟨rfl,hb⟩;refine⟨_,rfl,?_⟩;replace BK332:=A_ (bB (zz36 BK332) hb);replace HB:=A_ (bS (zz37 HB GE332) hb);(try clear hb)
   (try clear hb2)
   (try clear hk)
   (try clear hi)
   refine hK.out _ _ trivial (fun hHeld=>?_);clear hK K;refine nZ 24 ?_;refine oneZ 7 (some 28) (yA 8 4) (fun K hK=>?_);refine goes_ Tryz.func105 (by kernel_rfl) rfl #[.string t336,.slice none 0 0,.string (t333.extract ((t333.size:Int):Int).toNat t333.size)] (by rfl) rfl rfl zz138 ?_;refine(impl_readWay.calls k t336 _ _ ([]:List BA) (t333.extract ((t333.size:Int):Int).toNat t333.size) t337 t338 t341 t342 t343 _ ?side1 ?side2 A15.out).mono ?_;(case side1=>exact Kd.C_nil _ _)
   (case side2=>exact lL_ _)
   rintro e w18 ⟨v339,rfl,ho0,hb⟩;refine⟨_,rfl,?_⟩;have HO340:=A_ (Kd.R_lower ho0 (below_size (zz37 HB GE332)));replace BK332:=A_ (bB (zz36 BK332) hb);replace HB:=A_ (bS (zz37 HB GE332) hb);(try clear hb)
   (try clear hb2)
   (try clear hk)
   (try clear hi)
   (try clear ho0)
   obtain⟨Ao20,co20,eo20⟩:=Kd.R_slice HO340.out;(first|subst eo20|(injection eo20 with f1_ f2_ f3_;have f4_:=f1_.symm;have f5_:=f3_.symm;clear f1_ f2_ f3_;subst f4_;subst f5_));refine hK.out _ _ trivial (fun hHeld=>?_);clear hK K;refine nZ 28 ?_;refine pureZ 8 (some 29) (yA 9 3) ?_;refine pureZ 9 (some 30) (yA 10 2) ?_;refine oneZ 10 (none) (yA 11 1) (fun K hK=>?_);have hs19:w18.cell? ⟨gb332,0,none⟩=some (.string (⟨#[]⟩:BA)):=(blk_cell BK332.out 0).trans rfl;have hfs19:=blk_frozen BK332.out 0;have hs21:w18.cell? ⟨gb332,1,none⟩=some (.slice none 0 0):=(blk_cell BK332.out 1).trans rfl;have hfs21:=blk_frozen BK332.out 1;have hs22:w18.cell? ⟨gb332,2,none⟩=some (.bool false):=(blk_cell BK332.out 2).trans rfl;have hfs22:=blk_frozen BK332.out 2;have hs23:w18.cell? ⟨gb332,3,none⟩=some (.string (⟨#[]⟩:BA)):=(blk_cell BK332.out 3).trans rfl;have hfs23:=blk_frozen BK332.out 3;refine skip_ (w1:=?_) (by rfl) rfl ?_ ?_;rotate_left
   ·go_simp
    rfl
   refine hK.out _ _ trivial (fun hHeld=>?_);clear hK K;refine pureZ 11 (some 3) (yA 12 0) ?_;refine done_ (done_of HT_.out (by kernel_rfl)) ?_;try go_wp2;refine pR (results_ct rfl _ _ gb332 70 #[.string t337,.slice Ao20 t338.length co20,.bool t341,.string t342] (0,0) _ rfl (zz82 BK332) Tryz.underlying70 rfl (by kernel_rfl)) rfl ?_;exact⟨_,zz0,(zz87 (rt HO340 BK332)),(zz37 HB GE332)⟩
  ·(first|rw[c9b0]|(simp only[i64_w,i32_w];rw[c9b0])|skip)
   replace H:=iteN H;obtain⟨c24,H⟩:=H;have c24b0:=eq_true c24;have c24b1:=dT c24;clear c24;replace H:=iteN H;obtain⟨c25,H⟩:=H;have c25b0:=eq_true c25;have c25b1:=dT c25;clear c25;replace H:=bindA H;obtain⟨t344,A26,H⟩:=H;have c27b0:=eq_true (ofD:0≤t335);have c28b0:=eq_true (ofD:t335≤(t333.size:Int));replace H:=bindA H;obtain⟨⟨t345,t346,t349,t350,t351⟩,A29,H⟩:=H;try dsimp only at H;simp only[oI_,pI_]at H;obtain⟨rfl,rfl,rfl,rfl,rfl⟩:=H;try go_wp2;replace BK332:=A_ (blk_drew BK332.out);replace HB:=A_ (below_drew1 HB.out);refine start_ (n:=12) (S:=fun w'=>True) (ds:=[]) #[yF,yF,yF,yF,yF,yF,yF,yF,yF,yF,yF,yF] (by kernel_rfl) rfl rfl trivial (fun hHeld=>?_);refine with_tabW impl_readWhole.tab7 impl_readWhole.bits7 (fun HT_ HW_=>?_);generalize w8.drew=w30 at BK332 HB hHeld ⊢;refine pureZ 0 (some 21) (yA 1 11) ?_;refine pureZ 1 (some 22) (yA 2 10) ?_;refine pureZ 2 (some 23) (yA 3 9) ?_;refine pureZ 4 (some 25) #[yT,yT,yT,yF,yT,yF,yF,yF,yF,yF,yF,yF] ?_;refine pureZ 5 (some 26) #[yT,yT,yT,yF,yT,yT,yF,yF,yF,yF,yF,yF] ?_;refine pureZ 6 (some 27) #[yT,yT,yT,yF,yT,yT,yT,yF,yF,yF,yF,yF] ?_;refine oneZ 3 (some 24) (yA 7 5) (fun K hK=>?_);refine goes_ Tryz.func106 (by kernel_rfl) rfl #[.string (t333.extract 0 (t335:Int).toNat)] (by rfl) rfl rfl zz138 ?_;with_reducible refine(impl_smallLetters.calls (t333.extract 0 (t335:Int).toNat) t344 _ A26.out).mono ?_;rintro e w31 ⟨rfl,hb⟩;refine⟨_,rfl,?_⟩;replace BK332:=A_ (bB (zz36 BK332) hb);replace HB:=A_ (bS (zz37 HB GE332) hb);(try clear hb)
   (try clear hb2)
   (try clear hk)
   (try clear hi)
   refine hK.out _ _ trivial (fun hHeld=>?_);clear hK K;refine nZ 24 ?_;refine oneZ 7 (some 28) (yA 8 4) (fun K hK=>?_);refine goes_ Tryz.func105 (by kernel_rfl) rfl #[.string t344,.slice none 0 0,.string (t333.extract (t335:Int).toNat t333.size)] (by rfl) rfl rfl zz138 ?_;refine(impl_readWay.calls k t344 _ _ ([]:List BA) (t333.extract (t335:Int).toNat t333.size) t345 t346 t349 t350 t351 _ ?side1 ?side2 A29.out).mono ?_;(case side1=>exact Kd.C_nil _ _)
   (case side2=>exact lL_ _)
   rintro e w32 ⟨v347,rfl,ho0,hb⟩;refine⟨_,rfl,?_⟩;have HO348:=A_ (Kd.R_lower ho0 (below_size (zz37 HB GE332)));replace BK332:=A_ (bB (zz36 BK332) hb);replace HB:=A_ (bS (zz37 HB GE332) hb);(try clear hb)
   (try clear hb2)
   (try clear hk)
   (try clear hi)
   (try clear ho0)
   obtain⟨Ao34,co34,eo34⟩:=Kd.R_slice HO348.out;(first|subst eo34|(injection eo34 with f1_ f2_ f3_;have f4_:=f1_.symm;have f5_:=f3_.symm;clear f1_ f2_ f3_;subst f4_;subst f5_));refine hK.out _ _ trivial (fun hHeld=>?_);clear hK K;refine nZ 28 ?_;refine pureZ 8 (some 29) (yA 9 3) ?_;refine pureZ 9 (some 30) (yA 10 2) ?_;refine oneZ 10 (none) (yA 11 1) (fun K hK=>?_);have hs33:w32.cell? ⟨gb332,0,none⟩=some (.string (⟨#[]⟩:BA)):=(blk_cell BK332.out 0).trans rfl;have hfs33:=blk_frozen BK332.out 0;have hs35:w32.cell? ⟨gb332,1,none⟩=some (.slice none 0 0):=(blk_cell BK332.out 1).trans rfl;have hfs35:=blk_frozen BK332.out 1;have hs36:w32.cell? ⟨gb332,2,none⟩=some (.bool false):=(blk_cell BK332.out 2).trans rfl;have hfs36:=blk_frozen BK332.out 2;have hs37:w32.cell? ⟨gb332,3,none⟩=some (.string (⟨#[]⟩:BA)):=(blk_cell BK332.out 3).trans rfl;have hfs37:=blk_frozen BK332.out 3;refine skip_ (w1:=?_) (by rfl) rfl ?_ ?_;rotate_left
   ·go_simp
    rfl
   refine hK.out _ _ trivial (fun hHeld=>?_);clear hK K;refine pureZ 11 (some 3) (yA 12 0) ?_;refine done_ (done_of HT_.out (by kernel_rfl)) ?_;try go_wp2;refine pR (results_ct rfl _ _ gb332 70 #[.string t345,.slice Ao34 t346.length co34,.bool t349,.string t350] (0,0) _ rfl (zz82 BK332) Tryz.underlying70 rfl (by kernel_rfl)) rfl ?_;exact⟨_,zz0,(zz87 (rt HO348 BK332)),(zz37 HB GE332)⟩
 ·simp only[oI_,pI_]at H
  obtain⟨rfl,rfl,rfl,rfl,rfl⟩:=H;obtain⟨_,_,_,_,_,_,_,_⟩:=cf4 BK332;go_wp2;refine pR (results_ct rfl _ _ gb332 70 #[.string (⟨#[]⟩:BA),.slice none 0 0,.bool false,.string (⟨#[]⟩:BA)] (0,0) _ rfl (zz82 BK332) Tryz.underlying70 rfl (by kernel_rfl)) rfl ?_;exact⟨_,zz0,zz24,(zz37 HB GE332)⟩
def impl_AddrRead.f (k:Nat)(a0:BA):Option (BA×List BA×Bool×BA×Bool):=if(a0.size:Int)>60 then(some ((⟨#[]⟩:BA),([]:List BA),false,(⟨#[]⟩:BA),false))else((strings_Cut.f a0 (⟨#[35]⟩:BA)).bind fun bt353=>((impl_readWhole.f k bt353.1).bind fun bt356=>(some (bt356.1,bt356.2.1,bt356.2.2.1,bt356.2.2.2.1,bt356.2.2.2.2))))
theorem impl_AddrRead.calls (k:Nat)(a0:BA)(r1:BA)(r2:List BA)(r3:Bool)(r4:BA)(r5:Bool)(w:World)(h:impl_AddrRead.f k a0=some (r1,r2,r3,r4,r5)):
  Calls Tryz.prog 73 #[.string a0] w fun e w'=>∃v1_:Value,e=.returned (.tuple #[.agg #[.string r1,v1_,.bool r3,.string r4],.bool r5])∧Kd.R Kd.string 9 w' w.heap.size (fun _=>True) v1_ r2∧Below w.heap.size w w':=by
 have hu70:=Tryz.underlying70;have HB:=A_ (Below.refl w.heap.size w);unfold impl_AddrRead.f at h;have H:=h;clear h;have HF2:=A_ H;clear H;go_enter Tryz.func73,Tryz.ntmps73;go_upto_if 9 with(first|(refine boxF 2 #[.string (⟨#[]⟩:BA),.slice none 0 0,.bool false,.string (⟨#[]⟩:BA)] 70 ?_;intro gb352 hg w3 BK352 hb;have GE352:=geB hg (zz1 HB);replace HB:=A_ (bS (zz1 HB) hb);clear hb hg))
 obtain⟨H⟩:=HF2;replace H:=iteE H;rcases H with⟨c4,H⟩|⟨c4,H⟩
 ·have c4b0:=gtT c4
  have c4b1:decide (60<a0.size)=true:=dT (by omega);clear c4;(first|rw[c4b0]|(simp only[i64_w,i32_w];rw[c4b0])|skip);simp only[oI_,pI_]at H;obtain⟨rfl,rfl,rfl,rfl,rfl⟩:=H;obtain⟨_,_,_,_,_,_,_,_⟩:=cf4 BK352;go_wp2;refine pR (results_ct rfl _ _ gb352 70 #[.string (⟨#[]⟩:BA),.slice none 0 0,.bool false,.string (⟨#[]⟩:BA)] (0,0) _ rfl (zz82 BK352) Tryz.underlying70 rfl (by kernel_rfl)) rfl ?_;exact⟨_,zz0,zz24,(zz37 HB GE352)⟩
 ·have c4b0:=gtF c4
  have c4b1:decide (60<a0.size)=false:=dF (by omega);clear c4;(first|rw[c4b0]|(simp only[i64_w,i32_w];rw[c4b0])|skip);replace H:=bindA H;obtain⟨⟨t353,t354,t355⟩,A6,H⟩:=H;try dsimp only at H;replace H:=bindA H;obtain⟨⟨t356,t357,t360,t361,t362⟩,A7,H⟩:=H;try dsimp only at H;simp only[oI_,pI_]at H;obtain⟨rfl,rfl,rfl,rfl,rfl⟩:=H;go_wp2_with (first|(refine gR 88 (some 13) Tryz.func88 (strings_Cut.calls a0 (⟨#[35]⟩:BA) t353 t354 t355 _ A6.out) ?_;rintro w8 hb;replace BK352:=A_ (bB (zz36 BK352) hb);replace HB:=A_ (bS (zz37 HB GE352) hb);(try clear hb))|(refine gV 89 (some 18) Tryz.func89 (impl_readWhole.calls k t353 t356 t357 t360 t361 t362 _ A7.out) ?_;rintro v358 w9 ⟨ho0,hb⟩;have HO359:=A_ (Kd.R_lower ho0 (below_size (zz37 HB GE352)));replace BK352:=A_ (bB (zz36 BK352) hb);replace HB:=A_ (bS (zz37 HB GE352) hb);(try clear hb ho0);obtain⟨_,_,_,_,_,_,_,_⟩:=cf4 BK352;obtain⟨Ao11,co11,eo11⟩:=Kd.R_slice HO359.out;subst eo11));refine pR (results_ct rfl _ _ gb352 70 #[.string t356,.slice Ao11 t357.length co11,.bool t360,.string t361] (0,0) _ rfl (zz82 BK352) Tryz.underlying70 rfl (by kernel_rfl)) rfl ?_;exact⟨_,zz0,(zz87 (rt HO359 BK352)),(zz37 HB GE352)⟩
def impl_readAddress.f (k:Nat)(a0:BA):Option (BA×List BA×Bool×BA×Bool):=(impl_AddrRead.f k a0).bind fun bt364=>(if bt364.2.2.2.2=true then((impl_writeAddr.f bt364.1 bt364.2.1 bt364.2.2.1 bt364.2.2.2.1).bind fun t372=>(if t372.toList=a0.toList then(some (bt364.1,bt364.2.1,bt364.2.2.1,bt364.2.2.2.1,true))else(some ((⟨#[]⟩:BA),([]:List BA),false,(⟨#[]⟩:BA),false))))else(some ((⟨#[]⟩:BA),([]:List BA),false,(⟨#[]⟩:BA),false)))
theorem impl_readAddress.calls (k:Nat)(a0:BA)(r1:BA)(r2:List BA)(r3:Bool)(r4:BA)(r5:Bool)(w:World)(h:impl_readAddress.f k a0=some (r1,r2,r3,r4,r5)):
  Calls Tryz.prog 52 #[.string a0] w fun e w'=>∃v1_:Value,e=.returned (.tuple #[.agg #[.string r1,v1_,.bool r3,.string r4],.bool r5])∧Kd.R Kd.string 9 w' w.heap.size (fun _=>True) v1_ r2∧Below w.heap.size w w':=by
 have hu70:=Tryz.underlying70;have HB:=A_ (Below.refl w.heap.size w);unfold impl_readAddress.f at h;have H:=h;clear h;replace H:=bindA H;obtain⟨⟨t364,t365,t368,t369,t370⟩,A2,H⟩:=H;try dsimp only at H;have HF3:=A_ H;clear H;go_enter Tryz.func52,Tryz.ntmps52;go_wp2_with (first|(refine boxF 2 #[.string (⟨#[]⟩:BA),.slice none 0 0,.bool false,.string (⟨#[]⟩:BA)] 70 ?_;intro gb363 hg w4 BK363 hb;have GE363:=geB hg (zz1 HB);replace HB:=A_ (bS (zz1 HB) hb);clear hb hg)|(refine gV 73 (some 8) Tryz.func73 (impl_AddrRead.calls k a0 t364 t365 t368 t369 t370 _ A2.out) ?_;rintro v366 w5 ⟨ho0,hb⟩;have HO367:=A_ (Kd.R_lower ho0 (below_size (zz37 HB GE363)));replace BK363:=A_ (bB (zz36 BK363) hb);replace HB:=A_ (bS (zz37 HB GE363) hb);(try clear hb ho0))|(refine boxF 4 #[.string (⟨#[]⟩:BA),.slice none 0 0,.bool false,.string (⟨#[]⟩:BA)] 70 ?_;intro gb371 hg w6 BK371 hb;replace HO367:=A_ (rB (zz6 HO367) hb);have GE371:=geB hg (zz37 HB GE363);replace HB:=A_ (bS (zz37 HB GE363) hb);have NB363_371:=A_ ((by rw[hg];exact Nat.ne_of_lt (blk_lt (zz36 BK363)):gb363≠gb371));have NB371_363:=A_ ((by rw[hg];exact Nat.ne_of_gt (blk_lt (zz36 BK363)):gb371≠gb363));replace BK363:=A_ (bB (zz36 BK363) hb);clear hb hg;have hnb7:=NB371_363.out;have hnc7:=NB363_371.out;obtain⟨_,_,_,_,_,_,_,_⟩:=cf4 BK371;obtain⟨Ao9,co9,eo9⟩:=Kd.R_slice HO367.out;subst eo9)|((with_reducible refine gate_store (t:=70) (p:=4) rfl ?_);refine store_event (t:=70) (p:=4) (v:=?vo_w10) (w1:=((((w6.setCell ⟨gb371,0,none⟩ (.string t364)).setCell ⟨gb371,1,none⟩ (.slice Ao9 t365.length co9)).setCell ⟨gb371,2,none⟩ (.bool t368)).setCell ⟨gb371,3,none⟩ (.string t369))) ?hg ?ho ?hn ?hr ?_;(case ho=>rfl);(case hg=>rfl);(case hn=>rfl);(case hr=>exact zz4);intro w10 hw;have n0_:Aside0 (Kd.R Kd.string 9 w10 w.heap.size (fun _=>True) (.slice Ao9 t365.length co9) t365):=⟨(by rw[hw];exact(zz87 (rt HO367 BK371)))⟩;have n1_:Aside0 (w10.heap[gb363]?=some (.cells #[.string (⟨#[]⟩:BA),.slice none 0 0,.bool false,.string (⟨#[]⟩:BA)] 70 (0,0))):=⟨(by rw[hw];exact(zz88 BK363 NB363_371))⟩;have n2_:Aside0 (w10.heap[gb371]?=some (.cells #[.string t364,.slice Ao9 t365.length co9,.bool t368,.string t369] 70 (0,0))):=⟨(by rw[hw];exact(zz82 BK371))⟩;have n3_:Aside0 (Below w.heap.size w w10):=⟨(by rw[hw];exact(zz52 HB GE363 GE371))⟩;clear hw;clear HO367;clear BK363;clear BK371;clear HB;have HO367:=n0_;have BK363:=n1_;have BK371:=n2_;have HB:=n3_;clear n0_ n1_ n2_ n3_)|((with_reducible refine atG ?_ ?_ fun K_ hK_=>?_);rfl;exact undecG)|((with_reducible refine atI ?_ fun K_ hK_=>?_);exact undecI));refine unG hK_ ?_;clear hK_ K_;obtain⟨H⟩:=HF3;replace H:=iteB H;rcases H with⟨rfl,H⟩|⟨rfl,H⟩
 ·(first|refine iteT ?_|refine iteF ?_|skip)
  replace H:=bindA H;obtain⟨t372,A12,H⟩:=H;have HF13:=A_ H;clear H;have hnb14:=NB371_363.out;have hnc14:=NB363_371.out;obtain⟨_,_,_,_,_,_,_,_⟩:=cf4 BK371;(try((with_reducible refine upS ?_);go_simp))
  go_upto_if 18 with(first|(go_at_call 74;(with_reducible refine(impl_writeAddr.calls t364 _ _ t365 t368 t369 t372 _ ?side1 ?side2 A12.out).mono ?_);(case side1=>exact(zz83 HO367));(case side2=>exact(Kd.R_reads' HO367.out).2.1);rintro e w16 ⟨rfl,hb⟩;replace HO367:=A_ (rB (zz6 HO367) hb);replace BK363:=A_ (bB (zz36 BK363) hb);replace BK371:=A_ (bB (zz36 BK371) hb);replace HB:=A_ (bS (zz52 HB GE363 GE371) hb);(try clear hb)))
  obtain⟨H⟩:=HF13;replace H:=iteEq H;rcases H with⟨c17b0,c17b1,H⟩|⟨c17b0,c17b1,c17,H⟩
  ·(first|rw[c17b0]|(simp only[i64_w,i32_w];rw[c17b0])|skip)
   simp only[oI_,pI_]at H;obtain⟨rfl,rfl,rfl,rfl,rfl⟩:=H;have hnb18:=NB371_363.out;have hnc18:=NB363_371.out;obtain⟨_,_,_,_,_,_,_,_⟩:=cf4 BK371;obtain⟨_,_,_,_,_,_,_,_⟩:=cf4 BK363;go_wp2;refine pR (results_ct rfl _ _ gb363 70 #[.string t364,.slice Ao9 t365.length co9,.bool t368,.string t369] (0,0) _ rfl (zz82 BK363) Tryz.underlying70 rfl (by kernel_rfl)) rfl ?_;exact⟨_,zz0,(zz87 (rt HO367 BK363)),(zz52 HB GE363 GE371)⟩
  ·(first|rw[c17b0]|(simp only[i64_w,i32_w];rw[c17b0])|skip)
   simp only[oI_,pI_]at H;obtain⟨rfl,rfl,rfl,rfl,rfl⟩:=H;have hnb21:=NB363_371.out;have hnc21:=NB371_363.out;obtain⟨_,_,_,_,_,_,_,_⟩:=cf4 BK363;go_wp2;refine pR (results_ct rfl _ _ gb363 70 #[.string (⟨#[]⟩:BA),.slice none 0 0,.bool false,.string (⟨#[]⟩:BA)] (0,0) _ rfl (zz82 BK363) Tryz.underlying70 rfl (by kernel_rfl)) rfl ?_;exact⟨_,zz0,zz24,(zz52 HB GE363 GE371)⟩
 ·(first|refine iteT ?_|refine iteF ?_|skip)
  simp only[oI_,pI_]at H;obtain⟨rfl,rfl,rfl,rfl,rfl⟩:=H;have hnb23:=NB363_371.out;have hnc23:=NB371_363.out;obtain⟨_,_,_,_,_,_,_,_⟩:=cf4 BK363;(try((with_reducible refine upS ?_);go_simp));go_wp2;refine pR (results_ct rfl _ _ gb363 70 #[.string (⟨#[]⟩:BA),.slice none 0 0,.bool false,.string (⟨#[]⟩:BA)] (0,0) _ rfl (zz82 BK363) Tryz.underlying70 rfl (by kernel_rfl)) rfl ?_;exact⟨_,zz0,zz24,(zz52 HB GE363 GE371)⟩
def spec_l1Whole.l0:Nat→BA→BA→BA→Int→Option (BA×List BA×Bool×BA×Bool)
 |0,_,_,_,_=>none
 |k+1,x0,x4,x5,x6=>if x6<(x0.size:Int)then(if 0≤x6 then(if(bt x0 x6)=47 then(if x6≤(x0.size:Int)then((spec_l1Small.f (x0.extract 0 (x6:Int).toNat)).bind fun t179=>((spec_l1Way.f k t179 ([]:List BA) false (⟨#[]⟩:BA) (x0.extract (x6:Int).toNat x0.size)).bind fun bt180=>(some (bt180.1,bt180.2.1,bt180.2.2.1,bt180.2.2.2.1,bt180.2.2.2.2))))else(none))else(if(bt x0 x6)=63 then(if x6≤(x0.size:Int)then((spec_l1Small.f (x0.extract 0 (x6:Int).toNat)).bind fun t187=>((spec_l1Way.f k t187 ([]:List BA) false (⟨#[]⟩:BA) (x0.extract (x6:Int).toNat x0.size)).bind fun bt188=>(some (bt188.1,bt188.2.1,bt188.2.2.1,bt188.2.2.2.1,bt188.2.2.2.2))))else(none))else(spec_l1Whole.l0 k x0 x4 x5 (wrap64 (x6+1)))))else(none))else((spec_l1Small.f x4).bind fun t195=>((spec_l1Way.f k t195 ([]:List BA) false (⟨#[]⟩:BA) x5).bind fun bt196=>(some (bt196.1,bt196.2.1,bt196.2.2.1,bt196.2.2.2.1,bt196.2.2.2.2))))
def spec_l1Whole.f (k:Nat)(a0:BA):Option (BA×List BA×Bool×BA×Bool):=spec_l1Whole.l0 k a0 a0 (⟨#[]⟩:BA) 0
theorem spec_l1Whole.calls (k:Nat)(a0:BA)(r1:BA)(r2:List BA)(r3:Bool)(r4:BA)(r5:Bool)(w:World)(h:spec_l1Whole.f k a0=some (r1,r2,r3,r4,r5)):
  Calls Tryz.prog 70 #[.string a0] w fun e w'=>∃v1_:Value,e=.returned (.tuple #[.agg #[.string r1,v1_,.bool r3,.string r4],.bool r5])∧Kd.R Kd.string 9 w' w.heap.size (fun _=>True) v1_ r2∧Below w.heap.size w w':=by
 have hu70:=Tryz.underlying70;have HB:=A_ (Below.refl w.heap.size w);unfold spec_l1Whole.f at h;have H:=h;clear h;have H':=A_ H;clear H;go_enter Tryz.func70,Tryz.ntmps70;go_wp2_with (first|(refine boxF 2 #[.string (⟨#[]⟩:BA),.slice none 0 0,.bool false,.string (⟨#[]⟩:BA)] 70 ?_;intro gb178 hg w2 BK178 hb;have GE178:=geB hg (zz1 HB);replace HB:=A_ (bS (zz1 HB) hb);clear hb hg))
 go_loopg [4,5,6] k (fun kq v4 v5 v6 w'=>∃(x4_1:BA)(x5_1:BA)(x6_1:Int),v4=.string x4_1∧v5=.string x5_1∧v6=.int .i64 x6_1∧Aside0 (spec_l1Whole.l0 kq a0 x4_1 x5_1 x6_1=some (r1,r2,r3,r4,r5))∧Aside0 (kq≤k)∧Aside0 (w'.heap[gb178]?=some (.cells #[.string (⟨#[]⟩:BA),(.slice none 0 0),.bool false,.string (⟨#[]⟩:BA)] 70 (0,0)))∧Aside0 (Below w.heap.size w w'))
 case atStart=>exact⟨(a0),((⟨#[]⟩:BA)),(0),zz2,zz2,zz2,H',⟨lL_ _⟩,⟨(zz36 BK178)⟩,⟨(zz37 HB GE178)⟩⟩
 case round=>
  clear H';obtain⟨x4_1,x5_1,x6_1,rfl,rfl,rfl,HA,HK1,BK178,HB⟩:=hrel;cases gk with
  |zero=>exact absurd HA.out (by simp[spec_l1Whole.l0])
  |succ k1=>
   obtain⟨H⟩:=HA;simp only[spec_l1Whole.l0]at H;replace H:=iteEd H;rcases H with⟨c3b0,H⟩|⟨c3b0,H⟩
   ·replace H:=iteNd H
    obtain⟨c4b0,H⟩:=H;replace H:=iteEq H;rcases H with⟨c6b0,c6b1,H⟩|⟨c6b0,c6b1,c6,H⟩
    ·have c7b0:=eq_true (ofD:0≤x6_1)
     replace H:=iteN H;obtain⟨c8,H⟩:=H;have c8b0:=eq_true c8;have c8b1:=dT c8;clear c8;have c9b0:=eq_true (ofD:0≤x6_1);have c10b0:=eq_true (ofD:x6_1≤(a0.size:Int));replace H:=bindA H;obtain⟨t179,A11,H⟩:=H;replace H:=bindA H;obtain⟨⟨t180,t181,t184,t185,t186⟩,A12,H⟩:=H;try dsimp only at H;simp only[oI_,pI_]at H;obtain⟨rfl,rfl,rfl,rfl,rfl⟩:=H;have p5:0≤(x6_1:Int):=ofD;have q5:x6_1<(a0.size:Int):=ofD;have hx5:=bt_at a0 x6_1;replace p5:=eq_true p5;replace q5:=eq_true q5;go_wp2_with (first|(refine gR 84 (some 31) Tryz.func84 (spec_l1Small.calls (a0.extract 0 (x6_1:Int).toNat) t179 _ A11.out) ?_;rintro w13 hb;replace BK178:=A_ (bB (zz36 BK178) hb);replace HB:=A_ (bS (zz37 HB GE178) hb);(try clear hb))|((with_reducible refine gC (f:=83) rfl ?_);refine gsL (some 34) Tryz.func83 #[.agg #[.string t179,.slice none 0 0,.bool false,.string (⟨#[]⟩:BA)],.string (a0.extract (x6_1:Int).toNat a0.size)] ?_;(refine(spec_l1Way.calls k1 t179 _ _ ([]:List BA) false (⟨#[]⟩:BA) (a0.extract (x6_1:Int).toNat a0.size) t180 t181 t184 t185 t186 _ ?side1 ?side2 A12.out).mono ?_);(case side1=>exact Kd.C_nil _ _);(case side2=>exact lL_ _);rintro e w14 ⟨v182,rfl,ho0,hb⟩;refine⟨_,rfl,?_⟩;have HO183:=A_ (Kd.R_lower ho0 (below_size (zz37 HB GE178)));replace BK178:=A_ (bB (zz36 BK178) hb);replace HB:=A_ (bS (zz37 HB GE178) hb);(try clear hb ho0);obtain⟨_,_,_,_,_,_,_,_⟩:=cf4 BK178;obtain⟨Ao16,co16,eo16⟩:=Kd.R_slice HO183.out;subst eo16));refine pR (results_ct rfl _ _ gb178 70 #[.string t180,.slice Ao16 t181.length co16,.bool t184,.string t185] (0,0) _ rfl (zz82 BK178) Tryz.underlying70 rfl (by kernel_rfl)) rfl ?_;exact⟨_,zz0,(zz87 (rt HO183 BK178)),(zz37 HB GE178)⟩
    ·replace H:=iteEq H
     rcases H with⟨c18b0,c18b1,H⟩|⟨c18b0,c18b1,c18,H⟩
     ·have c19b0:=eq_true (ofD:0≤x6_1)
      replace H:=iteN H;obtain⟨c20,H⟩:=H;have c20b0:=eq_true c20;have c20b1:=dT c20;clear c20;have c21b0:=eq_true (ofD:0≤x6_1);have c22b0:=eq_true (ofD:x6_1≤(a0.size:Int));replace H:=bindA H;obtain⟨t187,A23,H⟩:=H;replace H:=bindA H;obtain⟨⟨t188,t189,t192,t193,t194⟩,A24,H⟩:=H;try dsimp only at H;simp only[oI_,pI_]at H;obtain⟨rfl,rfl,rfl,rfl,rfl⟩:=H;have p5:0≤(x6_1:Int):=ofD;have q5:x6_1<(a0.size:Int):=ofD;have hx5:=bt_at a0 x6_1;replace p5:=eq_true p5;replace q5:=eq_true q5;have p17:0≤(x6_1:Int):=ofD;have q17:x6_1<(a0.size:Int):=ofD;have hx17:=bt_at a0 x6_1;replace p17:=eq_true p17;replace q17:=eq_true q17;go_wp2_with (first|(refine gR 84 (some 31) Tryz.func84 (spec_l1Small.calls (a0.extract 0 (x6_1:Int).toNat) t187 _ A23.out) ?_;rintro w25 hb;replace BK178:=A_ (bB (zz36 BK178) hb);replace HB:=A_ (bS (zz37 HB GE178) hb);(try clear hb))|((with_reducible refine gC (f:=83) rfl ?_);refine gsL (some 34) Tryz.func83 #[.agg #[.string t187,.slice none 0 0,.bool false,.string (⟨#[]⟩:BA)],.string (a0.extract (x6_1:Int).toNat a0.size)] ?_;(refine(spec_l1Way.calls k1 t187 _ _ ([]:List BA) false (⟨#[]⟩:BA) (a0.extract (x6_1:Int).toNat a0.size) t188 t189 t192 t193 t194 _ ?side1 ?side2 A24.out).mono ?_);(case side1=>exact Kd.C_nil _ _);(case side2=>exact lL_ _);rintro e w26 ⟨v190,rfl,ho0,hb⟩;refine⟨_,rfl,?_⟩;have HO191:=A_ (Kd.R_lower ho0 (below_size (zz37 HB GE178)));replace BK178:=A_ (bB (zz36 BK178) hb);replace HB:=A_ (bS (zz37 HB GE178) hb);(try clear hb ho0);obtain⟨_,_,_,_,_,_,_,_⟩:=cf4 BK178;obtain⟨Ao28,co28,eo28⟩:=Kd.R_slice HO191.out;subst eo28));refine pR (results_ct rfl _ _ gb178 70 #[.string t188,.slice Ao28 t189.length co28,.bool t192,.string t193] (0,0) _ rfl (zz82 BK178) Tryz.underlying70 rfl (by kernel_rfl)) rfl ?_;exact⟨_,zz0,(zz87 (rt HO191 BK178)),(zz37 HB GE178)⟩
     ·have H':=A_ H
      clear H;have p5:0≤(x6_1:Int):=ofD;have q5:x6_1<(a0.size:Int):=ofD;have hx5:=bt_at a0 x6_1;replace p5:=eq_true p5;replace q5:=eq_true q5;have p17:0≤(x6_1:Int):=ofD;have q17:x6_1<(a0.size:Int):=ofD;have hx17:=bt_at a0 x6_1;replace p17:=eq_true p17;replace q17:=eq_true q17;go_wp2
      go_roundg k1
      case measure=>have:=HK1.out;omega
      case rel=>exact⟨(x4_1),(x5_1),(wrap64 (x6_1+1)),zz2,zz2,zz2,H',⟨(zz5 HK1)⟩,⟨(zz36 BK178)⟩,⟨(zz37 HB GE178)⟩⟩
   ·replace H:=bindA H
    obtain⟨t195,A29,H⟩:=H;replace H:=bindA H;obtain⟨⟨t196,t197,t200,t201,t202⟩,A30,H⟩:=H;try dsimp only at H;simp only[oI_,pI_]at H;obtain⟨rfl,rfl,rfl,rfl,rfl⟩:=H;go_wp2_with (first|(refine gR 84 (some 31) Tryz.func84 (spec_l1Small.calls x4_1 t195 _ A29.out) ?_;rintro w31 hb;replace BK178:=A_ (bB (zz36 BK178) hb);replace HB:=A_ (bS (zz37 HB GE178) hb);(try clear hb))|((with_reducible refine gC (f:=83) rfl ?_);refine gsL (some 34) Tryz.func83 #[.agg #[.string t195,.slice none 0 0,.bool false,.string (⟨#[]⟩:BA)],.string x5_1] ?_;(refine(spec_l1Way.calls k1 t195 _ _ ([]:List BA) false (⟨#[]⟩:BA) x5_1 t196 t197 t200 t201 t202 _ ?side1 ?side2 A30.out).mono ?_);(case side1=>exact Kd.C_nil _ _);(case side2=>exact lL_ _);rintro e w32 ⟨v198,rfl,ho0,hb⟩;refine⟨_,rfl,?_⟩;have HO199:=A_ (Kd.R_lower ho0 (below_size (zz37 HB GE178)));replace BK178:=A_ (bB (zz36 BK178) hb);replace HB:=A_ (bS (zz37 HB GE178) hb);(try clear hb ho0);obtain⟨_,_,_,_,_,_,_,_⟩:=cf4 BK178;obtain⟨Ao34,co34,eo34⟩:=Kd.R_slice HO199.out;subst eo34));refine pR (results_ct rfl _ _ gb178 70 #[.string t196,.slice Ao34 t197.length co34,.bool t200,.string t201] (0,0) _ rfl (zz82 BK178) Tryz.underlying70 rfl (by kernel_rfl)) rfl ?_;exact⟨_,zz0,(zz87 (rt HO199 BK178)),(zz37 HB GE178)⟩
end Go.Proofs.YtalfefmnlnkcaaaGreatDoor.P
end
