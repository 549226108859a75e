/- Part 3 of the proof of FnTripNew: the plain functions of what it reaches, that Go comes to just their answers, what they answer, and the words that the walks use; conditions: each theorem's own. -/
import Derived.Test.YtalfefmnlnkcaaaGreatDoorZFnTripNewb
import Derived.Laws.RangeAny
import Derived.LoopTactic
import Derived.Test.YtalfefmnlnkcaaaGreatDoorZFnTripNewa
import Derived.OneCell
import Derived.Laws.BitsLemmas
import Derived.Lib.Strings
import Derived.Lib.ConvBytes
import Derived.Laws.Runes
import Derived.Laws.RangeString
import Derived.Laws.Strings3
import Derived.Lib.IndexAny
import Derived.Lib.IndexBytes
import Derived.Deep.LoopGhost
import Derived.Maps.Own
import Derived.Maps.OwnSet
import Derived.Carry
import Derived.Deep.RegionHeld3

set_option linter.unusedVariables false
set_option linter.unusedSimpArgs false
section
namespace Go.Proofs.YtalfefmnlnkcaaaGreatDoor.P
open Go.RowKit Go.Proofs.YtalfefmnlnkcaaaGreatDoorW PrintWords PrintLast PrintMore
attribute [local go_sem] max2_int min2_int max_two min_two max_three min_three max_four min_four
set_option maxHeartbeats 8000000
set_option maxRecDepth 100000
mutual
def impl_houseOk.j0:Nat→BA→Bool→BA→Int→Bool→List BA→List (S98)→Int→Int→List (S76)→Option (Bool)
 |0,_,_,_,_,_,_,_,_,_,_=>none
 |k+1,x1,x21,x601000,x601001,x601002,x601003,x601004,x601005,x601006,x601007=>if x21=true then(some false)else(if(x601003.length:Int)=1 then(if 0<(x601003.length:Int)then(impl_houseOk.j1 k ((rdOf bE_ x601003 0).toList != x1.toList) x601000 x601001 x601002 x601003 x601004 x601005 x601006 x601007 x601003 x601004 x601005)else(none))else(impl_houseOk.j1 k true x601000 x601001 x601002 x601003 x601004 x601005 x601006 x601007 x601003 x601004 x601005))
def impl_houseOk.j1:Nat→Bool→BA→Int→Bool→List BA→List (S98)→Int→Int→List (S76)→List BA→List (S98)→Int→Option (Bool)
 |0,_,_,_,_,_,_,_,_,_,_,_,_=>none
 |k+1,x35,x601000,x601001,x601002,x601003,x601004,x601005,x601006,x601007,x605000,x605001,x605002=>if x35=true then(some false)else(if x601002=true then(if(x605001.length:Int)≤40 then((impl_rulesOk.f k x605001).bind fun t606=>(if t606=true then((impl_between.f 0 x605002 20).bind fun t607=>(some t607))else(some false)))else(some false))else(if(x605001.length:Int)=0 then(some (x605002==0))else(some false)))
end
def impl_houseOk.f (k:Nat)(a0_0:BA)(a0_1:Int)(a0_2:Bool)(l0_3:List BA)(l0_4:List (S98))(a0_5:Int)(a0_6:Int)(l0_7:List (S76))(a1:BA):Option (Bool):=(impl_isHouse.f k a0_0).bind fun t601=>(if t601=true then((impl_between.f 0 a0_1 5100).bind fun t602=>(if t602=true then((impl_between.f 0 a0_6 2).bind fun t603=>(impl_houseOk.j0 k a1 (!t603) a0_0 a0_1 a0_2 l0_3 l0_4 a0_5 a0_6 l0_7))else(impl_houseOk.j0 k a1 true a0_0 a0_1 a0_2 l0_3 l0_4 a0_5 a0_6 l0_7)))else(impl_houseOk.j0 k a1 true a0_0 a0_1 a0_2 l0_3 l0_4 a0_5 a0_6 l0_7))
theorem impl_houseOk.calls (k:Nat)(a0_0:BA)(a0_1:Int)(a0_2:Bool)(A0_3:Option Addr)(c0_3:Nat)(l0_3:List BA)(A0_4:Option Addr)(c0_4:Nat)(l0_4:List (S98))(a0_5:Int)(a0_6:Int)(A0_7:Option Addr)(c0_7:Nat)(l0_7:List (S76))(a1:BA)(r:Bool)(w:World)(hr0_3:Kd.C Kd.string w A0_3 l0_3.length l0_3)(hc0_3:l0_3.length≤c0_3)(hr0_4:Kd.C k98 w A0_4 l0_4.length l0_4)(hc0_4:l0_4.length≤c0_4)(hr0_7:Kd.C k76 w A0_7 l0_7.length l0_7)(hc0_7:l0_7.length≤c0_7)(h:impl_houseOk.f k a0_0 a0_1 a0_2 l0_3 l0_4 a0_5 a0_6 l0_7 a1=some r):
  Calls Tryz.prog 43 #[.agg #[.string a0_0,.int .i64 a0_1,.bool a0_2,.slice A0_3 l0_3.length c0_3,.slice A0_4 l0_4.length c0_4,.int .i64 a0_5,.int .i64 a0_6,.slice A0_7 l0_7.length c0_7],.string a1] w fun e w'=>e=.returned (.bool r)∧Below w.heap.size w w':=by
 have hu43:=Tryz.underlying43;have hu40:=Tryz.underlying40;have HR0_3:=A_ hr0_3;have HC0_3:=A_ hc0_3;clear hr0_3 hc0_3;have HR0_4:=A_ hr0_4;have HC0_4:=A_ hc0_4;clear hr0_4 hc0_4;have HR0_7:=A_ hr0_7;have HC0_7:=A_ hc0_7;clear hr0_7 hc0_7;have HB:=A_ (Below.refl w.heap.size w);unfold impl_houseOk.f at h;have H:=h;clear h;have HC3:=A_ H;clear H;go_enter Tryz.func43,Tryz.ntmps43;go_upto_region 1 with(first|(refine boxF 2 #[.string a0_0,.int .i64 a0_1,.bool a0_2,.slice A0_3 l0_3.length c0_3,.slice A0_4 l0_4.length c0_4,.int .i64 a0_5,.int .i64 a0_6,.slice A0_7 l0_7.length c0_7] 43 ?_;intro gb600 hg w4 BK600 hb;have GE600:=geB hg (zz2 HB);replace HB:=A_ (bS (zz2 HB) hb);clear hb hg))
 (try simp only[Act.put,lS_,l0_,lC_])
 go_cut [21] (fun v21 wc=>∃(kq:Nat)(x21_2:Bool),v21=.bool x21_2∧Aside0 (impl_houseOk.j0 kq a1 x21_2 a0_0 a0_1 a0_2 l0_3 l0_4 a0_5 a0_6 l0_7=some r)∧Aside0 (kq≤k)∧Aside0 (wc.heap[gb600]?=some (.cells #[.string a0_0,.int .i64 a0_1,.bool a0_2,(.slice A0_3 l0_3.length c0_3),(.slice A0_4 l0_4.length c0_4),.int .i64 a0_5,.int .i64 a0_6,(.slice A0_7 l0_7.length c0_7)] 43 (0,0)))∧Aside0 (Below w.heap.size w wc))
 case first=>
  obtain⟨H⟩:=HC3;replace H:=bindA H;obtain⟨t601,A5,H⟩:=H;have HF6:=A_ H;clear H;have hcz7_0:w4.cell? ⟨gb600,0,none⟩=some (.string a0_0):=(blk_cell BK600.out 0).trans rfl;have hcz7_1:w4.cell? ⟨gb600,1,none⟩=some (.int .i64 a0_1):=(blk_cell BK600.out 1).trans rfl;have hcz7_2:w4.cell? ⟨gb600,2,none⟩=some (.bool a0_2):=(blk_cell BK600.out 2).trans rfl;have hcz7_3:w4.cell? ⟨gb600,3,none⟩=some (.slice A0_3 l0_3.length c0_3):=(blk_cell BK600.out 3).trans rfl;have hcz7_4:w4.cell? ⟨gb600,4,none⟩=some (.slice A0_4 l0_4.length c0_4):=(blk_cell BK600.out 4).trans rfl;have hcz7_5:w4.cell? ⟨gb600,5,none⟩=some (.int .i64 a0_5):=(blk_cell BK600.out 5).trans rfl;have hcz7_6:w4.cell? ⟨gb600,6,none⟩=some (.int .i64 a0_6):=(blk_cell BK600.out 6).trans rfl;have hcz7_7:w4.cell? ⟨gb600,7,none⟩=some (.slice A0_7 l0_7.length c0_7):=(blk_cell BK600.out 7).trans rfl;have hfz7_0:=blk_frozen BK600.out 0;have hfz7_1:=blk_frozen BK600.out 1;have hfz7_2:=blk_frozen BK600.out 2;have hfz7_3:=blk_frozen BK600.out 3;have hfz7_4:=blk_frozen BK600.out 4;have hfz7_5:=blk_frozen BK600.out 5;have hfz7_6:=blk_frozen BK600.out 6;have hfz7_7:=blk_frozen BK600.out 7;go_wp2_with (first|(refine gR 67 (some 8) Tryz.func67 (impl_isHouse.calls k a0_0 t601 _ A5.out) ?_;rintro w' ⟨nd,rfl⟩)|((with_reducible refine atG ?_ ?_ fun K_ hK_=>?_);rfl;exact undecG)|((with_reducible refine atI ?_ fun K_ hK_=>?_);exact undecI));refine unG hK_ ?_;clear hK_ K_;obtain⟨H⟩:=HF6;replace H:=iteB H;rcases H with⟨rfl,H⟩|⟨rfl,H⟩
  ·(first|refine iteT ?_|refine iteF ?_|skip)
   replace H:=bindA H;obtain⟨t602,A9,H⟩:=H;have HF10:=A_ H;clear H;have hcz11_0:w4.cell? ⟨gb600,0,none⟩=some (.string a0_0):=(blk_cell BK600.out 0).trans rfl;have hcz11_1:w4.cell? ⟨gb600,1,none⟩=some (.int .i64 a0_1):=(blk_cell BK600.out 1).trans rfl;have hcz11_2:w4.cell? ⟨gb600,2,none⟩=some (.bool a0_2):=(blk_cell BK600.out 2).trans rfl;have hcz11_3:w4.cell? ⟨gb600,3,none⟩=some (.slice A0_3 l0_3.length c0_3):=(blk_cell BK600.out 3).trans rfl;have hcz11_4:w4.cell? ⟨gb600,4,none⟩=some (.slice A0_4 l0_4.length c0_4):=(blk_cell BK600.out 4).trans rfl;have hcz11_5:w4.cell? ⟨gb600,5,none⟩=some (.int .i64 a0_5):=(blk_cell BK600.out 5).trans rfl;have hcz11_6:w4.cell? ⟨gb600,6,none⟩=some (.int .i64 a0_6):=(blk_cell BK600.out 6).trans rfl;have hcz11_7:w4.cell? ⟨gb600,7,none⟩=some (.slice A0_7 l0_7.length c0_7):=(blk_cell BK600.out 7).trans rfl;have hfz11_0:=blk_frozen BK600.out 0;have hfz11_1:=blk_frozen BK600.out 1;have hfz11_2:=blk_frozen BK600.out 2;have hfz11_3:=blk_frozen BK600.out 3;have hfz11_4:=blk_frozen BK600.out 4;have hfz11_5:=blk_frozen BK600.out 5;have hfz11_6:=blk_frozen BK600.out 6;have hfz11_7:=blk_frozen BK600.out 7;(try((with_reducible refine upS ?_);go_simp))
   go_wp2_with (first|(go_at_call 40;(with_reducible refine(impl_between.calls 0 a0_1 5100 t602 _ A9.out).mono ?_);rintro e w' ⟨rfl,⟨nd,rfl⟩⟩)|((with_reducible refine atG ?_ ?_ fun K_ hK_=>?_);rfl;exact undecG)|((with_reducible refine atI ?_ fun K_ hK_=>?_);exact undecI))
   refine unG hK_ ?_;clear hK_ K_;obtain⟨H⟩:=HF10;replace H:=iteB H;rcases H with⟨rfl,H⟩|⟨rfl,H⟩
   ·(first|refine iteT ?_|refine iteF ?_|skip)
    replace H:=bindA H;obtain⟨t603,A13,H⟩:=H;have H':=A_ H;clear H;have hcz14_0:w4.cell? ⟨gb600,0,none⟩=some (.string a0_0):=(blk_cell BK600.out 0).trans rfl;have hcz14_1:w4.cell? ⟨gb600,1,none⟩=some (.int .i64 a0_1):=(blk_cell BK600.out 1).trans rfl;have hcz14_2:w4.cell? ⟨gb600,2,none⟩=some (.bool a0_2):=(blk_cell BK600.out 2).trans rfl;have hcz14_3:w4.cell? ⟨gb600,3,none⟩=some (.slice A0_3 l0_3.length c0_3):=(blk_cell BK600.out 3).trans rfl;have hcz14_4:w4.cell? ⟨gb600,4,none⟩=some (.slice A0_4 l0_4.length c0_4):=(blk_cell BK600.out 4).trans rfl;have hcz14_5:w4.cell? ⟨gb600,5,none⟩=some (.int .i64 a0_5):=(blk_cell BK600.out 5).trans rfl;have hcz14_6:w4.cell? ⟨gb600,6,none⟩=some (.int .i64 a0_6):=(blk_cell BK600.out 6).trans rfl;have hcz14_7:w4.cell? ⟨gb600,7,none⟩=some (.slice A0_7 l0_7.length c0_7):=(blk_cell BK600.out 7).trans rfl;have hfz14_0:=blk_frozen BK600.out 0;have hfz14_1:=blk_frozen BK600.out 1;have hfz14_2:=blk_frozen BK600.out 2;have hfz14_3:=blk_frozen BK600.out 3;have hfz14_4:=blk_frozen BK600.out 4;have hfz14_5:=blk_frozen BK600.out 5;have hfz14_6:=blk_frozen BK600.out 6;have hfz14_7:=blk_frozen BK600.out 7;(try((with_reducible refine upS ?_);go_simp))
    go_wp2_with (first|(go_at_call 40;(with_reducible refine(impl_between.calls 0 a0_6 2 t603 _ A13.out).mono ?_);rintro e w' ⟨rfl,⟨nd,rfl⟩⟩))
    go_meet
    case rel=>exact⟨_,(!t603),zz5,H',⟨zz6⟩,⟨(zz3 BK600)⟩,⟨(zz4 HB GE600)⟩⟩
   ·(first|refine iteT ?_|refine iteF ?_|skip)
    have H':=A_ H;clear H;(try((with_reducible refine upS ?_);go_simp));go_wp2
    go_meet
    case rel=>exact⟨_,(true),zz5,H',⟨zz6⟩,⟨(zz3 BK600)⟩,⟨(zz4 HB GE600)⟩⟩
  ·(first|refine iteT ?_|refine iteF ?_|skip)
   have H':=A_ H;clear H;(try((with_reducible refine upS ?_);go_simp));go_wp2
   go_meet
   case rel=>exact⟨_,(true),zz5,H',⟨zz6⟩,⟨(zz3 BK600)⟩,⟨(zz4 HB GE600)⟩⟩
 case rest=>
  clear HC3;obtain⟨kq,x21_2,rfl,HA,HJ2,BK600,HB⟩:=hcut;cases kq with
  |zero=>exact absurd HA.out (by simp[impl_houseOk.j0])
  |succ kj2=>
   obtain⟨H⟩:=HA;simp only[impl_houseOk.j0]at H;replace H:=iteB H;rcases H with⟨rfl,H⟩|⟨rfl,H⟩
   ·obtain rfl:=sI H
    go_wp2;go_ret;exact⟨zz11,(zz4 HB GE600)⟩
   ·have HC16:=A_ H
    clear H;have hcz17_0:wc.cell? ⟨gb600,0,none⟩=some (.string a0_0):=(blk_cell BK600.out 0).trans rfl;have hcz17_1:wc.cell? ⟨gb600,1,none⟩=some (.int .i64 a0_1):=(blk_cell BK600.out 1).trans rfl;have hcz17_2:wc.cell? ⟨gb600,2,none⟩=some (.bool a0_2):=(blk_cell BK600.out 2).trans rfl;have hcz17_3:wc.cell? ⟨gb600,3,none⟩=some (.slice A0_3 l0_3.length c0_3):=(blk_cell BK600.out 3).trans rfl;have hcz17_4:wc.cell? ⟨gb600,4,none⟩=some (.slice A0_4 l0_4.length c0_4):=(blk_cell BK600.out 4).trans rfl;have hcz17_5:wc.cell? ⟨gb600,5,none⟩=some (.int .i64 a0_5):=(blk_cell BK600.out 5).trans rfl;have hcz17_6:wc.cell? ⟨gb600,6,none⟩=some (.int .i64 a0_6):=(blk_cell BK600.out 6).trans rfl;have hcz17_7:wc.cell? ⟨gb600,7,none⟩=some (.slice A0_7 l0_7.length c0_7):=(blk_cell BK600.out 7).trans rfl;have hfz17_0:=blk_frozen BK600.out 0;have hfz17_1:=blk_frozen BK600.out 1;have hfz17_2:=blk_frozen BK600.out 2;have hfz17_3:=blk_frozen BK600.out 3;have hfz17_4:=blk_frozen BK600.out 4;have hfz17_5:=blk_frozen BK600.out 5;have hfz17_6:=blk_frozen BK600.out 6;have hfz17_7:=blk_frozen BK600.out 7;go_upto_region 4 with(first|(refine boxF 5 #[.slice none 0 0,.slice none 0 0,.int .i64 0] 40 ?_;intro gb604 hg w18 BK604 hb;have GE604:=geB hg (zz4 HB GE600);have GW604:=GE604;replace HB:=A_ (bS (zz4 HB GE600) hb);have NB600_604:=A_ ((by rw[hg];exact Nat.ne_of_lt (blk_lt (zz3 BK600)):gb600≠gb604));have NB604_600:=A_ ((by rw[hg];exact Nat.ne_of_gt (blk_lt (zz3 BK600)):gb604≠gb600));replace BK600:=A_ (bB (zz3 BK600) hb);clear hb hg;have hnb19:=NB604_600.out;have hnc19:=NB600_604.out;obtain⟨_,_,_,_,_,_⟩:=cf3 BK604))
    (try simp only[Act.put,lS_,l0_,lC_])
    go_cut [35] (fun v35 wc=>∃(kq:Nat)(x35_15:Bool),v35=.bool x35_15∧Aside0 (impl_houseOk.j1 kq x35_15 a0_0 a0_1 a0_2 l0_3 l0_4 a0_5 a0_6 l0_7 l0_3 l0_4 a0_5=some r)∧Aside0 (kq≤kj2)∧Aside0 (wc.heap[gb600]?=some (.cells #[.string a0_0,.int .i64 a0_1,.bool a0_2,(.slice A0_3 l0_3.length c0_3),(.slice A0_4 l0_4.length c0_4),.int .i64 a0_5,.int .i64 a0_6,(.slice A0_7 l0_7.length c0_7)] 43 (0,0)))∧Aside0 (wc.heap[gb604]?=some (.cells #[(.slice A0_3 l0_3.length c0_3),(.slice A0_4 l0_4.length c0_4),.int .i64 a0_5] 40 (0,0)))∧Aside0 (Below w.heap.size w wc))
    case first=>
     obtain⟨H⟩:=HC16;replace H:=iteEq H;rcases H with⟨c21b0,c21b1,H⟩|⟨c21b0,c21b1,c21,H⟩
     ·(first|rw[c21b0]|(simp only[i64_w,i32_w];rw[c21b0])|skip)
      replace H:=iteN H;obtain⟨c22,H⟩:=H;have c22b0:=dT c22;have c22b1:decide (0<l0_3.length)=true:=dT (by omega);clear c22;have H':=A_ H;clear H;have hnb23:=NB604_600.out;have hnc23:=NB600_604.out;obtain⟨_,_,_,_,_,_⟩:=cf3 BK604;have p605:0≤(0:Int):=(by omega);have q605:0<(l0_3.length:Int):=ofD;obtain⟨ad605,e605,hx605_0⟩:=Kd.at_string HR0_3.out 0 p605 q605;cases e605;have qi605:(0<l0_3.length)=True:=eq_true (by omega);(try rw[show((0:Int)).toNat=0 from rfl]at hx605_0)
      (try rw[Addr.add_zero']at hx605_0)
      have hn605_0:ad605.block≠gb604:=Nat.ne_of_lt (Nat.lt_of_lt_of_le zz86 GW604.out);have hn605_1:ad605.block≠gb604:=Nat.ne_of_lt (Nat.lt_of_lt_of_le zz86 GW604.out);have hn605_2:ad605.block≠gb604:=Nat.ne_of_lt (Nat.lt_of_lt_of_le zz86 GW604.out);replace hx605_0:=cbl HB hx605_0;replace hx605_0:=(cell_far (p:=⟨gb604,0,none⟩) (by first|(rw[add_block];exact hn605_0)|(show(Addr.add _ _).block≠_;rw[add_block];exact hn605_0)|exact hn605_0) (.slice (some ad605) l0_3.length c0_3)).trans hx605_0;replace hx605_0:=(cell_far (p:=⟨gb604,1,none⟩) (by first|(rw[add_block];exact hn605_1)|(show(Addr.add _ _).block≠_;rw[add_block];exact hn605_1)|exact hn605_1) (.slice A0_4 l0_4.length c0_4)).trans hx605_0;replace hx605_0:=(cell_far (p:=⟨gb604,2,none⟩) (by first|(rw[add_block];exact hn605_2)|(show(Addr.add _ _).block≠_;rw[add_block];exact hn605_2)|exact hn605_2) (.int .i64 a0_5)).trans hx605_0;clear hn605_0;clear hn605_1;clear hn605_2;replace p605:=eq_true p605;replace q605:=eq_true q605;go_wp2
      go_meet
      case rel=>exact⟨_,(((rdOf bE_ l0_3 0).toList != a1.toList)),zz5,H',⟨(zz18 HJ2)⟩,⟨(zz90 BK600 NB600_604)⟩,⟨(zz91 BK604)⟩,⟨(zz46 HB GE600 GE604)⟩⟩
     ·(first|rw[c21b0]|(simp only[i64_w,i32_w];rw[c21b0])|skip)
      have H':=A_ H;clear H;have hnb25:=NB604_600.out;have hnc25:=NB600_604.out;obtain⟨_,_,_,_,_,_⟩:=cf3 BK604;go_wp2
      go_meet
      case rel=>exact⟨_,(true),zz5,H',⟨(zz18 HJ2)⟩,⟨(zz90 BK600 NB600_604)⟩,⟨(zz91 BK604)⟩,⟨(zz46 HB GE600 GE604)⟩⟩
    case rest=>
     clear HC16;obtain⟨kq,x35_15,rfl,HA,HJ15,BK600,BK604,HB⟩:=hcut;cases kq with
     |zero=>exact absurd HA.out (by simp[impl_houseOk.j1])
     |succ kj15=>
      obtain⟨H⟩:=HA;simp only[impl_houseOk.j1]at H;replace H:=iteB H;rcases H with⟨rfl,H⟩|⟨rfl,H⟩
      ·obtain rfl:=sI H
       go_wp2;go_ret;exact⟨zz11,(zz46 HB GE600 GE604)⟩
      ·replace H:=iteB H
       rcases H with⟨rfl,H⟩|⟨rfl,H⟩
       ·replace H:=iteE H
        rcases H with⟨c29,H⟩|⟨c29,H⟩
        ·have c29b0:=dT c29
         have c29b1:decide (l0_4.length≤40)=true:=dT (by omega);clear c29;replace H:=bindA H;obtain⟨t606,A30,H⟩:=H;have HF31:=A_ H;clear H;have hnb32:=NB600_604.out;have hnc32:=NB604_600.out;have hcz33_0:wc.cell? ⟨gb600,0,none⟩=some (.string a0_0):=(blk_cell BK600.out 0).trans rfl;have hcz33_1:wc.cell? ⟨gb600,1,none⟩=some (.int .i64 a0_1):=(blk_cell BK600.out 1).trans rfl;have hcz33_2:wc.cell? ⟨gb600,2,none⟩=some (.bool true):=(blk_cell BK600.out 2).trans rfl;have hcz33_3:wc.cell? ⟨gb600,3,none⟩=some (.slice A0_3 l0_3.length c0_3):=(blk_cell BK600.out 3).trans rfl;have hcz33_4:wc.cell? ⟨gb600,4,none⟩=some (.slice A0_4 l0_4.length c0_4):=(blk_cell BK600.out 4).trans rfl;have hcz33_5:wc.cell? ⟨gb600,5,none⟩=some (.int .i64 a0_5):=(blk_cell BK600.out 5).trans rfl;have hcz33_6:wc.cell? ⟨gb600,6,none⟩=some (.int .i64 a0_6):=(blk_cell BK600.out 6).trans rfl;have hcz33_7:wc.cell? ⟨gb600,7,none⟩=some (.slice A0_7 l0_7.length c0_7):=(blk_cell BK600.out 7).trans rfl;have hfz33_0:=blk_frozen BK600.out 0;have hfz33_1:=blk_frozen BK600.out 1;have hfz33_2:=blk_frozen BK600.out 2;have hfz33_3:=blk_frozen BK600.out 3;have hfz33_4:=blk_frozen BK600.out 4;have hfz33_5:=blk_frozen BK600.out 5;have hfz33_6:=blk_frozen BK600.out 6;have hfz33_7:=blk_frozen BK600.out 7;obtain⟨_,_,_,_,_,_⟩:=cf3 BK604;go_wp2_with (first|(go_at_call 68;(with_reducible refine(impl_rulesOk.calls kj15 _ _ l0_4 t606 _ ?side1 ?side2 A30.out).mono ?_);(case side1=>exact(zz62 HR0_4 HB));(case side2=>exact HC0_4.out);rintro e w35 ⟨rfl,hb⟩;replace BK600:=A_ (bB (zz3 BK600) hb);replace BK604:=A_ (bB (zz3 BK604) hb);replace HB:=A_ (bS (zz46 HB GE600 GE604) hb);(try clear hb))|((with_reducible refine atG ?_ ?_ fun K_ hK_=>?_);rfl;exact undecG)|((with_reducible refine atI ?_ fun K_ hK_=>?_);exact undecI));refine unG hK_ ?_;clear hK_ K_;obtain⟨H⟩:=HF31;replace H:=iteB H;rcases H with⟨rfl,H⟩|⟨rfl,H⟩
         ·(first|refine iteT ?_|refine iteF ?_|skip)
          replace H:=bindA H;obtain⟨t607,A37,H⟩:=H;obtain rfl:=sI H;have hnb38:=NB604_600.out;have hnc38:=NB600_604.out;obtain⟨_,_,_,_,_,_⟩:=cf3 BK604;(try((with_reducible refine upS ?_);go_simp))
          go_wp2_with (first|(go_at_call 40;(with_reducible refine(impl_between.calls 0 a0_5 20 t607 _ A37.out).mono ?_);rintro e w' ⟨rfl,⟨nd,rfl⟩⟩))
          go_ret;exact⟨zz11,(zz46 HB GE600 GE604)⟩
         ·(first|refine iteT ?_|refine iteF ?_|skip)
          obtain rfl:=sI H;(try((with_reducible refine upS ?_);go_simp));go_wp2;go_ret;exact⟨zz11,(zz46 HB GE600 GE604)⟩
        ·have c29b0:=dF c29
         have c29b1:decide (l0_4.length≤40)=false:=dF (by omega);clear c29;obtain rfl:=sI H;have hnb40:=NB600_604.out;have hnc40:=NB604_600.out;have hcz41_0:wc.cell? ⟨gb600,0,none⟩=some (.string a0_0):=(blk_cell BK600.out 0).trans rfl;have hcz41_1:wc.cell? ⟨gb600,1,none⟩=some (.int .i64 a0_1):=(blk_cell BK600.out 1).trans rfl;have hcz41_2:wc.cell? ⟨gb600,2,none⟩=some (.bool true):=(blk_cell BK600.out 2).trans rfl;have hcz41_3:wc.cell? ⟨gb600,3,none⟩=some (.slice A0_3 l0_3.length c0_3):=(blk_cell BK600.out 3).trans rfl;have hcz41_4:wc.cell? ⟨gb600,4,none⟩=some (.slice A0_4 l0_4.length c0_4):=(blk_cell BK600.out 4).trans rfl;have hcz41_5:wc.cell? ⟨gb600,5,none⟩=some (.int .i64 a0_5):=(blk_cell BK600.out 5).trans rfl;have hcz41_6:wc.cell? ⟨gb600,6,none⟩=some (.int .i64 a0_6):=(blk_cell BK600.out 6).trans rfl;have hcz41_7:wc.cell? ⟨gb600,7,none⟩=some (.slice A0_7 l0_7.length c0_7):=(blk_cell BK600.out 7).trans rfl;have hfz41_0:=blk_frozen BK600.out 0;have hfz41_1:=blk_frozen BK600.out 1;have hfz41_2:=blk_frozen BK600.out 2;have hfz41_3:=blk_frozen BK600.out 3;have hfz41_4:=blk_frozen BK600.out 4;have hfz41_5:=blk_frozen BK600.out 5;have hfz41_6:=blk_frozen BK600.out 6;have hfz41_7:=blk_frozen BK600.out 7;obtain⟨_,_,_,_,_,_⟩:=cf3 BK604;go_wp2;go_ret;exact⟨zz11,(zz46 HB GE600 GE604)⟩
       ·replace H:=iteE H
        rcases H with⟨c43,H⟩|⟨c43,H⟩
        ·obtain⟨c43b0,c43b1⟩:=eqT c43
         clear c43;obtain rfl:=sI H;have hnb44:=NB600_604.out;have hnc44:=NB604_600.out;have hcz45_0:wc.cell? ⟨gb600,0,none⟩=some (.string a0_0):=(blk_cell BK600.out 0).trans rfl;have hcz45_1:wc.cell? ⟨gb600,1,none⟩=some (.int .i64 a0_1):=(blk_cell BK600.out 1).trans rfl;have hcz45_2:wc.cell? ⟨gb600,2,none⟩=some (.bool false):=(blk_cell BK600.out 2).trans rfl;have hcz45_3:wc.cell? ⟨gb600,3,none⟩=some (.slice A0_3 l0_3.length c0_3):=(blk_cell BK600.out 3).trans rfl;have hcz45_4:wc.cell? ⟨gb600,4,none⟩=some (.slice A0_4 l0_4.length c0_4):=(blk_cell BK600.out 4).trans rfl;have hcz45_5:wc.cell? ⟨gb600,5,none⟩=some (.int .i64 a0_5):=(blk_cell BK600.out 5).trans rfl;have hcz45_6:wc.cell? ⟨gb600,6,none⟩=some (.int .i64 a0_6):=(blk_cell BK600.out 6).trans rfl;have hcz45_7:wc.cell? ⟨gb600,7,none⟩=some (.slice A0_7 l0_7.length c0_7):=(blk_cell BK600.out 7).trans rfl;have hfz45_0:=blk_frozen BK600.out 0;have hfz45_1:=blk_frozen BK600.out 1;have hfz45_2:=blk_frozen BK600.out 2;have hfz45_3:=blk_frozen BK600.out 3;have hfz45_4:=blk_frozen BK600.out 4;have hfz45_5:=blk_frozen BK600.out 5;have hfz45_6:=blk_frozen BK600.out 6;have hfz45_7:=blk_frozen BK600.out 7;obtain⟨_,_,_,_,_,_⟩:=cf3 BK604;go_wp2;go_ret;exact⟨zz11,(zz46 HB GE600 GE604)⟩
        ·obtain⟨c43b0,c43b1⟩:=eqF c43
         have c43b2:¬(l0_4=[]):=fun h_=>c43 (by rw[h_];rfl)
         obtain rfl:=sI H;have hnb47:=NB600_604.out;have hnc47:=NB604_600.out;have hcz48_0:wc.cell? ⟨gb600,0,none⟩=some (.string a0_0):=(blk_cell BK600.out 0).trans rfl;have hcz48_1:wc.cell? ⟨gb600,1,none⟩=some (.int .i64 a0_1):=(blk_cell BK600.out 1).trans rfl;have hcz48_2:wc.cell? ⟨gb600,2,none⟩=some (.bool false):=(blk_cell BK600.out 2).trans rfl;have hcz48_3:wc.cell? ⟨gb600,3,none⟩=some (.slice A0_3 l0_3.length c0_3):=(blk_cell BK600.out 3).trans rfl;have hcz48_4:wc.cell? ⟨gb600,4,none⟩=some (.slice A0_4 l0_4.length c0_4):=(blk_cell BK600.out 4).trans rfl;have hcz48_5:wc.cell? ⟨gb600,5,none⟩=some (.int .i64 a0_5):=(blk_cell BK600.out 5).trans rfl;have hcz48_6:wc.cell? ⟨gb600,6,none⟩=some (.int .i64 a0_6):=(blk_cell BK600.out 6).trans rfl;have hcz48_7:wc.cell? ⟨gb600,7,none⟩=some (.slice A0_7 l0_7.length c0_7):=(blk_cell BK600.out 7).trans rfl;have hfz48_0:=blk_frozen BK600.out 0;have hfz48_1:=blk_frozen BK600.out 1;have hfz48_2:=blk_frozen BK600.out 2;have hfz48_3:=blk_frozen BK600.out 3;have hfz48_4:=blk_frozen BK600.out 4;have hfz48_5:=blk_frozen BK600.out 5;have hfz48_6:=blk_frozen BK600.out 6;have hfz48_7:=blk_frozen BK600.out 7;obtain⟨_,_,_,_,_,_⟩:=cf3 BK604;go_wp2;go_ret;exact⟨zz11,(zz46 HB GE600 GE604)⟩
def spec_l1Way.l0:Nat→BA→Bool→List BA→List BA→Int→BA→List BA→Bool→BA→Option (BA×List BA×Bool×BA×Bool)
 |0,_,_,_,_,_,_,_,_,_=>none
 |k+1,x6,x7,x8,x9,x10,x152000,x152001,x152002,x152003=>if x10<(x9.length:Int)then(if 0≤x10 then((spec_EscNorm.f k (rdOf bE_ x9 x10)).bind fun bt166=>(if bt166.2=true then(if x8.length<8796093022208 then(spec_l1Way.l0 k x6 x7 (x8++[bt166.1]) x9 (wrap64 (x10+1)) x152000 x152001 x152002 x152003)else(none))else(some ((⟨#[]⟩:BA),([]:List BA),false,(⟨#[]⟩:BA),false))))else(none))else((spec_EscNorm.f k x6).bind fun bt171=>((spec_PathClean.f k x8).bind fun t173=>(if bt171.2=true then((spec_AddrOk.f k x152000 t173 x7 bt171.1).bind fun t177=>(if t177=true then(some (x152000,t173,x7,bt171.1,true))else(some ((⟨#[]⟩:BA),([]:List BA),false,(⟨#[]⟩:BA),false))))else(some ((⟨#[]⟩:BA),([]:List BA),false,(⟨#[]⟩:BA),false)))))
def spec_l1Way.f (k:Nat)(a0_0:BA)(l0_1:List BA)(a0_2:Bool)(a0_3:BA)(a1:BA):Option (BA×List BA×Bool×BA×Bool):=(spec_l1Cut.f k a1 63).bind fun bt153=>((some (([]:List BA):List BA)).bind fun y156=>(if y156.length+l0_1.length<8796093022208 then((spec_l1Split.f k bt153.1 47).bind fun t162=>(spec_l1Way.l0 k bt153.2.1 bt153.2.2 (y156++l0_1) t162 0 a0_0 l0_1 a0_2 a0_3))else(none)))
def spec_l1Way.T12:Bool×List (List Nat×List Nat):=(true,[([],[]),([0],[0]),([],[]),([2],[2]),([],[]),([],[]),([1,3,4,5],[1,3,4,5]),([],[]),([7,6,3,0,1,2,3,4,5,6,7],[6,7])])
def spec_l1Way.B12:List Nat:=[0,1,0,4,0,0,63,0,255]
theorem spec_l1Way.tab12:rtab .any (opsOf Tryz.f83 12)=spec_l1Way.T12:=by kernel_rfl
theorem spec_l1Way.bits12:waitsOk spec_l1Way.T12.2 spec_l1Way.B12=true:=by kernel_rfl
theorem spec_l1Way.calls (k:Nat)(a0_0:BA)(A0_1:Option Addr)(c0_1:Nat)(l0_1:List BA)(a0_2:Bool)(a0_3:BA)(a1:BA)(r1:BA)(r2:List BA)(r3:Bool)(r4:BA)(r5:Bool)(w:World)(hr0_1:Kd.C Kd.string w A0_1 l0_1.length l0_1)(hc0_1:l0_1.length≤c0_1)(h:spec_l1Way.f k a0_0 l0_1 a0_2 a0_3 a1=some (r1,r2,r3,r4,r5)):
  Calls Tryz.prog 83 #[.agg #[.string a0_0,.slice A0_1 l0_1.length c0_1,.bool a0_2,.string a0_3],.string a1] w fun e w'=>∃v1_:Value,e=.returned (.tuple #[.agg #[.string r1,v1_,.bool r3,.string r4],.bool r5])∧Kd.R Kd.string 9 w' w.heap.size (fun _=>True) v1_ r2∧Below w.heap.size w w':=by
 have hu70:=Tryz.underlying70;have HR0_1:=A_ hr0_1;have HC0_1:=A_ hc0_1;clear hr0_1 hc0_1;have HB:=A_ (Below.refl w.heap.size w);unfold spec_l1Way.f at h;have H:=h;clear h;replace H:=bindA H;obtain⟨⟨t153,t154,t155⟩,A3,H⟩:=H;try dsimp only at H;obtain⟨y156,Ny156,H⟩:=bindY H;replace H:=iteE H;rcases H with⟨c4,H⟩|⟨c4,H⟩
 ·have LMc4:=A_ c4
  clear c4;obtain⟨y159,Ny159⟩:=toY (y156++l0_1);(first|with_reducible replace H:=bindZ Ny159 H|rw[←Ny159.out]at H|skip);replace H:=bindA H;obtain⟨t162,A5,H⟩:=H;have H':=A_ H;clear H;go_enter Tryz.func83,Tryz.ntmps83;go_wp2_with (first|(refine boxF 2 #[.string a0_0,.slice A0_1 l0_1.length c0_1,.bool a0_2,.string a0_3] 70 ?_;intro gb151 hg w6 BK151 hb;have GE151:=geB hg (zz2 HB);replace HB:=A_ (bS (zz2 HB) hb);clear hb hg)|(refine boxF 4 #[.string (⟨#[]⟩:BA),.slice none 0 0,.bool false,.string (⟨#[]⟩:BA)] 70 ?_;intro gb152 hg w7 BK152 hb;have GE152:=geB hg (zz4 HB GE151);replace HB:=A_ (bS (zz4 HB GE151) hb);have NB151_152:=A_ ((by rw[hg];exact Nat.ne_of_lt (blk_lt (zz3 BK151)):gb151≠gb152));have NB152_151:=A_ ((by rw[hg];exact Nat.ne_of_gt (blk_lt (zz3 BK151)):gb152≠gb151));replace BK151:=A_ (bB (zz3 BK151) hb);clear hb hg)|(refine gR 69 (some 18) Tryz.func69 (spec_l1Cut.calls k a1 63 t153 t154 t155 _ A3.out) ?_;rintro w' ⟨nd,rfl⟩)|((with_reducible refine gD (N:=22) rfl ?_);refine Kd.R_lit Kd.string _ 9 ?hg (N:=22) ?hd (xs:=([]:List BA)) (inner:=[]) (ok:=fun _=>True) (okp:=fun _=>True) ?hr ?hp (fun _ hk=>hk) trivial (Below.refl _ _) (lL_ _) (by simp) ?_;(case hd=>rfl);(case hg=>rfl);(case hr=>exact zz21);(case hp=>exact(Reps.none _ _));intro v157 w8 ho9 hb hg_ hnew_;clear hg_ hnew_;(first|rw[←Ny156.out]at ho9|(simp only[Int.reduceToNat]at ho9;rw[←Ny156.out]at ho9));have HO158:=A_ (Kd.R_lower ho9 (below_size (zz46 HB GE151 GE152)));replace BK151:=A_ (bB (zz3 BK151) hb);replace BK152:=A_ (bB (zz3 BK152) hb);replace HB:=A_ (bS (zz46 HB GE151 GE152) hb);clear hb ho9;have hnb10:=NB151_152.out;have hnc10:=NB152_151.out;obtain⟨_,_,_,_,_,_,_,_⟩:=cf4 BK151)|((with_reducible refine gate_builtin (b:=.append) (xs:=#[.tmp 22,.tmp 24]) rfl ?_);at_builtin;refine Kd.R_append_rows Kd.string (w0:=w) w.heap.size rfl (.tmp 22) (.tmp 24) 22 9 (.string ⟨#[]⟩) 16 rfl Tryz.underlying22 info9 rfl (by decide) (by omega) v157 y156 l0_1 _ _ _ (fun _=>True) (fun _=>False) rfl rfl ?aO ?aR (fun _ _ h=>h) (fun _ h=>h.elim) ?aF ?aB ?aS ?aL ?_;(case aR=>exact(zz62 HR0_1 HB));(case aB=>exact(zz46 HB GE151 GE152));(case aF=>exact(fun _ _=>trivial));(case aO=>exact(zz23 HO158));(case aS=>exact(below_size (zz46 HB GE151 GE152)));(case aL=>exact(zz15 LMc4));intro v160 w12 ho hb hg hat;rw[←Ny159.out]at ho;replace BK151:=A_ (blk_grown (zz3 BK151) hg (Kd.R_ne HO158.out BK151.out (by decide)));replace BK152:=A_ (blk_grown (zz3 BK152) hg (Kd.R_ne HO158.out BK152.out (by decide)));replace HB:=A_ (hb);have HO161:=A_ (ho);clear HO158;clear ho hb hg hat)|(refine gV 99 (some 27) Tryz.func99 (spec_l1Split.calls k t153 47 t162 _ A5.out) ?_;rintro v163 w13 ⟨ho0,hb⟩;have HO164:=A_ (Kd.R_lower (Kd.R_new' ho0 (Kd.R_lt (zz23 HO161))) (below_size (zz46 HB GE151 GE152)));replace HO161:=A_ (Kd.R_elder' (zz23 HO161) (Kd.R_base ho0) hb);replace BK151:=A_ (bB (zz3 BK151) hb);replace BK152:=A_ (bB (zz3 BK152) hb);replace HB:=A_ (bS (zz46 HB GE151 GE152) hb);(try clear hb ho0)))
  go_loopg [8,10] k (fun kq v8 v10 w'=>∃(x8_1:List BA)(x10_1:Int)(x153000_1:BA)(x153002_1:Bool)(x153003_1:BA),v10=.int .i64 x10_1∧Aside0 (spec_l1Way.l0 kq t154 t155 x8_1 t162 x10_1 a0_0 l0_1 a0_2 a0_3=some (r1,r2,r3,r4,r5))∧Aside0 (kq≤k)∧Aside0 (Kd.R Kd.string 9 w' w.heap.size (fun k_=>some k_≠(v163:Value).ownBlock) v8 x8_1)∧Aside0 (Kd.R Kd.string 9 w' w.heap.size (fun k_=>some k_≠(v8:Value).ownBlock) v163 t162)∧Aside0 (w'.heap[gb151]?=some (.cells #[.string a0_0,(.slice A0_1 l0_1.length c0_1),.bool a0_2,.string a0_3] 70 (0,0)))∧Aside0 (w'.heap[gb152]?=some (.cells #[.string x153000_1,(.slice none 0 0),.bool x153002_1,.string x153003_1] 70 (0,0)))∧Aside0 (Below w.heap.size w w'))
  case atStart=>exact⟨(y159),(0),((⟨#[]⟩:BA)),(false),((⟨#[]⟩:BA)),zz5,H',⟨lL_ _⟩,⟨(zz74 HO161)⟩,⟨(zz74 HO164)⟩,⟨(zz3 BK151)⟩,⟨(zz3 BK152)⟩,⟨(zz46 HB GE151 GE152)⟩⟩
  case round=>
   clear H';obtain⟨x8_1,x10_1,x153000_1,x153002_1,x153003_1,rfl,HA,HK1,HO_8,HO_9,BK151,BK152,HB⟩:=hrel;cases gk with
   |zero=>exact absurd HA.out (by simp[spec_l1Way.l0])
   |succ k1=>
    obtain⟨H⟩:=HA;simp only[spec_l1Way.l0]at H;replace H:=iteEd H;rcases H with⟨c14b0,H⟩|⟨c14b0,H⟩
    ·replace H:=iteNd H
     obtain⟨c15b0,H⟩:=H;replace H:=bindA H;obtain⟨⟨t166,t167⟩,A16,H⟩:=H;try dsimp only at H;have HF17:=A_ H;clear H;obtain⟨Ao18,co18,eo18⟩:=Kd.R_slice HO_9.out;subst eo18;obtain⟨⟨ad165,e165,hx165_0⟩,p165,q165⟩:=atB (Kd.at_string (Kd.R_reads' HO_9.out).2.2 x10_1);cases e165
     go_upto_if 43 with(first|(refine gR 100 (some 39) Tryz.func100 (spec_EscNorm.calls k1 (rdOf bE_ t162 x10_1) t166 t167 _ A16.out) ?_;rintro w19 hb;replace HO_8:=A_ (rB (zz23 HO_8) hb);replace HO_9:=A_ (rB (zz23 HO_9) hb);replace BK151:=A_ (bB (zz3 BK151) hb);replace BK152:=A_ (bB (zz3 BK152) hb);replace HB:=A_ (bS (zz46 HB GE151 GE152) hb);(try clear hb)))
     obtain⟨H⟩:=HF17;replace H:=iteB H;rcases H with⟨rfl,H⟩|⟨rfl,H⟩
     ·replace H:=iteN H
      obtain⟨c21,H⟩:=H;have LMc21:=A_ c21;clear c21;obtain⟨y168,Ny168⟩:=toY (x8_1++[t166]);(first|with_reducible replace H:=bindZ Ny168 H|rw[←Ny168.out]at H|skip);have H':=A_ H;clear H;go_wp2_with (first|((with_reducible refine gate_builtin (b:=.append) (xs:=#[.tmp 45,.tmp 47]) rfl ?_);at_builtin;refine Kd.R_append Kd.string (w0:=w) w.heap.size rfl (.tmp 45) (.tmp 47) 22 9 (.string ⟨#[]⟩) 16 rfl Tryz.underlying22 info9 rfl (by decide) (by omega) u8 x8_1 t166 [.string t166] (fun k_=>some k_≠(.slice (some ad165) t162.length co18:Value).ownBlock) (fun _=>False) rfl rfl ?aP (fun _ hk=>hk.elim) ?aF ?aO ?aB ?aS ?aL ?_;(case aP=>exact rfl);(case aB=>exact(zz46 HB GE151 GE152));(case aF=>exact(fun k_ hk=>Kd.fresh' (Kd.R_lt (zz23 HO_9)) k_ hk));(case aO=>exact(zz23 HO_8));(case aS=>exact(below_size (zz46 HB GE151 GE152)));(case aL=>exact(zz15 LMc21));intro v169 w22 ho hb hg hat;rw[←Ny168.out]at ho;replace HO_9:=A_ (Kd.R_after (ok:=(fun _=>True)) (zz94 HO_9) hg hat);replace BK151:=A_ (blk_grown (zz3 BK151) hg (Kd.R_ne HO_8.out BK151.out (by decide)));replace BK152:=A_ (blk_grown (zz3 BK152) hg (Kd.R_ne HO_8.out BK152.out (by decide)));replace HB:=A_ (hb);have HO170:=A_ (ho);clear HO_8;clear ho hb hg hat))
      go_roundg k1
      case measure=>have:=HK1.out;omega
      case rel=>exact⟨(y168),(wrap64 (x10_1+1)),(x153000_1),(x153002_1),(x153003_1),zz5,H',⟨(zz15 HK1)⟩,⟨(zz23 HO170)⟩,⟨(zz74 HO_9)⟩,⟨(zz3 BK151)⟩,⟨(zz3 BK152)⟩,⟨(zz46 HB GE151 GE152)⟩⟩
     ·simp only[oI_,pI_]at H
      obtain⟨rfl,rfl,rfl,rfl,rfl⟩:=H;have hnb23:=NB152_151.out;have hnc23:=NB151_152.out;obtain⟨_,_,_,_,_,_,_,_⟩:=cf4 BK152;go_wp2;refine pR (results_ct rfl _ _ gb152 70 #[.string (⟨#[]⟩:BA),.slice none 0 0,.bool false,.string (⟨#[]⟩:BA)] (0,0) _ rfl (zz71 BK152) Tryz.underlying70 rfl (by kernel_rfl)) rfl ?_;exact⟨_,zz11,zz25,(zz46 HB GE151 GE152)⟩
    ·replace H:=bindA H
     obtain⟨⟨t171,t172⟩,A25,H⟩:=H;try dsimp only at H;replace H:=bindA H;obtain⟨t173,A26,H⟩:=H;have HF27:=A_ H;clear H;obtain⟨Ao28,co28,eo28⟩:=Kd.R_slice HO_9.out;subst eo28;try go_wp2_with (first|(refine gR 100 (some 51) Tryz.func100 (spec_EscNorm.calls k1 t154 t171 t172 _ A25.out) ?_;rintro w29 hb;replace HO_8:=A_ (rB (zz23 HO_8) hb);replace HO_9:=A_ (rB (zz23 HO_9) hb);replace BK151:=A_ (bB (zz3 BK151) hb);replace BK152:=A_ (bB (zz3 BK152) hb);replace HB:=A_ (bS (zz46 HB GE151 GE152) hb);(try clear hb);obtain⟨Ao30,co30,eo30⟩:=Kd.R_slice HO_8.out;subst eo30));replace HO_8:=A_ (Kd.R_drew HO_8.out);replace HO_9:=A_ (Kd.R_drew HO_9.out);replace BK151:=A_ (blk_drew BK151.out);replace BK152:=A_ (blk_drew BK152.out);replace HB:=A_ (below_drew1 HB.out);refine start_ (n:=9) (S:=fun w'=>w'.cell? ⟨gb151,0,none⟩=some (.string a0_0)∧w'.cell? ⟨gb151,1,none⟩=some (.slice A0_1 l0_1.length c0_1)∧w'.cell? ⟨gb151,2,none⟩=some (.bool a0_2)∧w'.cell? ⟨gb151,3,none⟩=some (.string a0_3)) (ds:=[]) #[yF,yF,yF,yF,yF,yF,yF,yF,yF] (by kernel_rfl) rfl rfl ⟨(blk_cell BK151.out 0).trans rfl,(blk_cell BK151.out 1).trans rfl,(blk_cell BK151.out 2).trans rfl,(blk_cell BK151.out 3).trans rfl⟩ (fun hHeld=>?_);refine with_tabW spec_l1Way.tab12 spec_l1Way.bits12 (fun HT_ HW_=>?_);generalize w29.drew=w31 at HO_8 HO_9 BK151 BK152 HB hHeld ⊢;refine pureZ 0 (some 54) (yA 1 8) ?_;refine pureZ 2 (some 56) #[yT,yF,yT,yF,yF,yF,yF,yF,yF] ?_;refine pureZ 4 (some 58) #[yT,yF,yT,yF,yT,yF,yF,yF,yF] ?_;refine pureZ 5 (some 59) #[yT,yF,yT,yF,yT,yT,yF,yF,yF] ?_;refine takeZ4 1 (some 55) #[yT,yT,yT,yF,yT,yT,yF,yF,yF] hHeld ?_;refine join_ (σ:=Value×Nat) 1 (yA 8 1) (fun s_=>[(57,s_.1),(15,.pointer (some ⟨s_.2,0,none⟩)),(60,.agg #[.string a0_0,s_.1,.bool t155,.string t171])]) (fun s_ w'=>(w'.cell? ⟨gb151,0,none⟩=some (.string a0_0)∧w'.cell? ⟨gb151,1,none⟩=some (.slice A0_1 l0_1.length c0_1)∧w'.cell? ⟨gb151,2,none⟩=some (.bool a0_2)∧w'.cell? ⟨gb151,3,none⟩=some (.string a0_3))∧(Kd.R Kd.string 9 w' w.heap.size (fun k_=>some k_≠(.slice Ao30 x8_1.length co30:Value).ownBlock∧some k_≠(.slice Ao28 t162.length co28:Value).ownBlock) s_.1 t173)∧(Kd.R Kd.string 9 w' w.heap.size (fun k_=>some k_≠(s_.1:Value).ownBlock∧some k_≠(.slice Ao28 t162.length co28:Value).ownBlock) (.slice Ao30 x8_1.length co30) x8_1)∧(Kd.R Kd.string 9 w' w.heap.size (fun k_=>some k_≠(s_.1:Value).ownBlock∧some k_≠(.slice Ao30 x8_1.length co30:Value).ownBlock) (.slice Ao28 t162.length co28) t162)∧(w'.heap[gb151]?=some (.cells #[.string a0_0,.slice A0_1 l0_1.length c0_1,.bool a0_2,.string a0_3] 70 (0,0)))∧(w'.heap[gb152]?=some (.cells #[.string x153000_1,.slice none 0 0,.bool x153002_1,.string x153003_1] 70 (0,0)))∧(w'.heap[s_.2]?=some (.cells #[.string (⟨#[]⟩:BA),.slice none 0 0,.bool false,.string (⟨#[]⟩:BA)] 70 (0,0)))∧(w.heap.size≤s_.2)∧(w.heap.size≤s_.2)∧(gb151≠s_.2)∧(s_.2≠gb151)∧(gb152≠s_.2)∧(s_.2≠gb152)∧(Below w.heap.size w w')) ?_ ?_;rotate_left
     ·intro hCont
      refine twoZ 3 7 (some 57) (some 15) (yA 6 3) #[yT,yT,yT,yF,yT,yT,yF,yT,yF] (fun K hK=>?_) (fun K hK=>?_)
      ·skip
       refine goes_ Tryz.func101 (by kernel_rfl) rfl #[.slice Ao30 x8_1.length co30] (by rfl) rfl rfl zz61 ?_;with_reducible refine(spec_PathClean.calls k1 _ _ x8_1 t173 _ ?side1 ?side2 A26.out).mono ?_
       (case side1=>exact(zz22 HO_8))
       (case side2=>exact(Kd.R_reads' HO_8.out).2.1)
       rintro e w32 ⟨v174,rfl,ho0,hb⟩;refine⟨_,rfl,?_⟩;have HO175:=A_ (Kd.R_lower (Kd.R_new' (Kd.R_new' ho0 (Kd.R_lt (zz23 HO_8))) (Kd.R_lt (zz23 HO_9))) (below_size (zz46 HB GE151 GE152)));replace HO_8:=A_ (Kd.R_elder' (zz23 HO_8) (Kd.R_base ho0) hb);replace HO_9:=A_ (Kd.R_elder' (zz23 HO_9) (Kd.R_base ho0) hb);replace BK151:=A_ (bB (zz3 BK151) hb);replace BK152:=A_ (bB (zz3 BK152) hb);replace HB:=A_ (bS (zz46 HB GE151 GE152) hb);(try clear hb)
       (try clear hb2)
       (try clear hk)
       (try clear hi)
       (try clear ho0)
       obtain⟨Ao33,co33,eo33⟩:=Kd.R_slice HO175.out;(first|subst eo33|(injection eo33 with f1_ f2_ f3_;have f4_:=f1_.symm;have f5_:=f3_.symm;clear f1_ f2_ f3_;subst f4_;subst f5_));refine hK.out _ _ ⟨(blk_cell BK151.out 0).trans rfl,(blk_cell BK151.out 1).trans rfl,(blk_cell BK151.out 2).trans rfl,(blk_cell BK151.out 3).trans rfl⟩ (fun hHeld=>?_);clear hK K;refine nZ 57 ?_;refine pureZ 6 (some 60) (yA 7 2) ?_;refine oneZ 7 (some 15) (yA 8 1) (fun K hK=>?_);refine box_step ?hg (N:=15) ?hd (cs:=#[.string (⟨#[]⟩:BA),.slice none 0 0,.bool false,.string (⟨#[]⟩:BA)]) (t:=70) ?hr ?_;(case hd=>rfl);(case hg=>rfl);(case hr=>exact zz21);intro gb176 hg w34 hbox hb;replace HO_8:=A_ (rB (zz23 HO_8) hb);replace HO_9:=A_ (rB (zz23 HO_9) hb);replace HO175:=A_ (rB (zz23 HO175) hb);have BK176:=A_ (hbox);have GW176:=A_ ((by rw[hg];exact(below_size (zz46 HB GE151 GE152)):w.heap.size≤gb176));have GE176:=A_ ((by rw[hg];exact(below_size (zz46 HB GE151 GE152)):w.heap.size≤gb176));replace HB:=A_ (bS (zz46 HB GE151 GE152) hb);have NB151_176:=A_ ((by rw[hg];exact Nat.ne_of_lt (blk_lt (zz3 BK151)):gb151≠gb176));have NB176_151:=A_ ((by rw[hg];exact Nat.ne_of_gt (blk_lt (zz3 BK151)):gb176≠gb151));replace BK151:=A_ (bB (zz3 BK151) hb);have NB152_176:=A_ ((by rw[hg];exact Nat.ne_of_lt (blk_lt (zz3 BK152)):gb152≠gb176));have NB176_152:=A_ ((by rw[hg];exact Nat.ne_of_gt (blk_lt (zz3 BK152)):gb176≠gb152));replace BK152:=A_ (bB (zz3 BK152) hb);clear hb hbox hg;refine hK.out _ _ ⟨(blk_cell BK151.out 0).trans rfl,(blk_cell BK151.out 1).trans rfl,(blk_cell BK151.out 2).trans rfl,(blk_cell BK151.out 3).trans rfl⟩ (fun hHeld=>?_);clear hK K;refine nZ 15 ?_;exact norm_ viaP (hCont (.slice Ao33 t173.length co33,gb176) _ ⟨hHeld,(zz95 HO175),(zz96 HO_8),(zz96 HO_9),(zz3 BK151),(zz3 BK152),(zz3 BK176),GW176.out,GE176.out,NB151_176.out,NB176_151.out,NB152_176.out,NB176_152.out,(zz97 HB GE151 GE152 GE176)⟩)
      ·skip
       refine box_step ?hg (N:=15) ?hd (cs:=#[.string (⟨#[]⟩:BA),.slice none 0 0,.bool false,.string (⟨#[]⟩:BA)]) (t:=70) ?hr ?_;(case hd=>rfl);(case hg=>rfl);(case hr=>exact zz21);intro gb176 hg w32 hbox hb;replace HO_8:=A_ (rB (zz23 HO_8) hb);replace HO_9:=A_ (rB (zz23 HO_9) hb);have BK176:=A_ (hbox);have GW176:=A_ ((by rw[hg];exact(below_size (zz46 HB GE151 GE152)):w.heap.size≤gb176));have GE176:=A_ ((by rw[hg];exact(below_size (zz46 HB GE151 GE152)):w.heap.size≤gb176));replace HB:=A_ (bS (zz46 HB GE151 GE152) hb);have NB151_176:=A_ ((by rw[hg];exact Nat.ne_of_lt (blk_lt (zz3 BK151)):gb151≠gb176));have NB176_151:=A_ ((by rw[hg];exact Nat.ne_of_gt (blk_lt (zz3 BK151)):gb176≠gb151));replace BK151:=A_ (bB (zz3 BK151) hb);have NB152_176:=A_ ((by rw[hg];exact Nat.ne_of_lt (blk_lt (zz3 BK152)):gb152≠gb176));have NB176_152:=A_ ((by rw[hg];exact Nat.ne_of_gt (blk_lt (zz3 BK152)):gb176≠gb152));replace BK152:=A_ (bB (zz3 BK152) hb);clear hb hbox hg;refine hK.out _ _ ⟨(blk_cell BK151.out 0).trans rfl,(blk_cell BK151.out 1).trans rfl,(blk_cell BK151.out 2).trans rfl,(blk_cell BK151.out 3).trans rfl⟩ (fun hHeld=>?_);clear hK K;refine nZ 15 ?_;refine oneZ 3 (some 57) #[yT,yT,yT,yT,yT,yT,yF,yT,yF] (fun K hK=>?_);refine goes_ Tryz.func101 (by kernel_rfl) rfl #[.slice Ao30 x8_1.length co30] (by rfl) rfl rfl zz61 ?_;with_reducible refine(spec_PathClean.calls k1 _ _ x8_1 t173 _ ?side1 ?side2 A26.out).mono ?_
       (case side1=>exact(zz22 HO_8))
       (case side2=>exact(Kd.R_reads' HO_8.out).2.1)
       rintro e w33 ⟨v174,rfl,ho0,hb⟩;refine⟨_,rfl,?_⟩;have HO175:=A_ (Kd.R_lower (Kd.R_new' (Kd.R_new' ho0 (Kd.R_lt (zz23 HO_8))) (Kd.R_lt (zz23 HO_9))) (below_size (zz97 HB GE151 GE152 GE176)));replace HO_8:=A_ (Kd.R_elder' (zz23 HO_8) (Kd.R_base ho0) hb);replace HO_9:=A_ (Kd.R_elder' (zz23 HO_9) (Kd.R_base ho0) hb);replace BK151:=A_ (bB (zz3 BK151) hb);replace BK152:=A_ (bB (zz3 BK152) hb);replace BK176:=A_ (bB (zz3 BK176) hb);replace HB:=A_ (bS (zz97 HB GE151 GE152 GE176) hb);(try clear hb)
       (try clear hb2)
       (try clear hk)
       (try clear hi)
       (try clear ho0)
       obtain⟨Ao34,co34,eo34⟩:=Kd.R_slice HO175.out;(first|subst eo34|(injection eo34 with f1_ f2_ f3_;have f4_:=f1_.symm;have f5_:=f3_.symm;clear f1_ f2_ f3_;subst f4_;subst f5_));refine hK.out _ _ ⟨(blk_cell BK151.out 0).trans rfl,(blk_cell BK151.out 1).trans rfl,(blk_cell BK151.out 2).trans rfl,(blk_cell BK151.out 3).trans rfl⟩ (fun hHeld=>?_);clear hK K;refine nZ 57 ?_;refine pureZ 6 (some 60) (yA 8 1) ?_;exact norm_ viaP (hCont (.slice Ao34 t173.length co34,gb176) _ ⟨hHeld,(zz95 HO175),(zz96 HO_8),(zz96 HO_9),(zz3 BK151),(zz3 BK152),(zz3 BK176),GW176.out,GE176.out,NB151_176.out,NB176_151.out,NB152_176.out,NB176_152.out,(zz97 HB GE151 GE152 GE176)⟩)
     rintro⟨v174,gb176⟩ w35 ⟨hS_,h0_,h1_,h2_,h3_,h4_,h5_,h6_,h7_,h8_,h9_,h10_,h11_,h12_⟩;have n0_:=A_ h0_;have n1_:=A_ h1_;have n2_:=A_ h2_;have n3_:=A_ h3_;have n4_:=A_ h4_;have n5_:=A_ h5_;have n6_:=A_ h6_;have n7_:=A_ h7_;have n8_:=A_ h8_;have n9_:=A_ h9_;have n10_:=A_ h10_;have n11_:=A_ h11_;have n12_:=A_ h12_;(try dsimp only at n0_ n1_ n2_ n3_ n4_ n5_ n6_ n7_ n8_ n9_ n10_ n11_ n12_);clear HO_8;clear HO_9;clear BK151;clear BK152;clear HB;clear h0_ h1_ h2_ h3_ h4_ h5_ h6_ h7_ h8_ h9_ h10_ h11_ h12_;have HO175:=n0_;have HO_8:=n1_;have HO_9:=n2_;have BK151:=n3_;have BK152:=n4_;have BK176:=n5_;have GW176:=n6_;have GE176:=n7_;have NB151_176:=n8_;have NB176_151:=n9_;have NB152_176:=n10_;have NB176_152:=n11_;have HB:=n12_;clear n0_ n1_ n2_ n3_ n4_ n5_ n6_ n7_ n8_ n9_ n10_ n11_ n12_;have hHeld:w35.cell? ⟨gb151,0,none⟩=some (.string a0_0)∧w35.cell? ⟨gb151,1,none⟩=some (.slice A0_1 l0_1.length c0_1)∧w35.cell? ⟨gb151,2,none⟩=some (.bool a0_2)∧w35.cell? ⟨gb151,3,none⟩=some (.string a0_3):=hS_;obtain⟨Ao36,co36,eo36⟩:=Kd.R_slice HO175.out;(first|subst eo36|(injection eo36 with f1_ f2_ f3_;have f4_:=f1_.symm;have f5_:=f3_.symm;clear f1_ f2_ f3_;subst f4_;subst f5_));refine norm_ (a':=?_) ?_ ?_;rotate_left
     ·simp only[putAll,Act.put,lS_,l0_,lC_]
      rfl
     refine oneZ 8 (none) (yA 9 0) (fun K hK=>?_);have hs37:w35.cell? ⟨gb176,0,none⟩=some (.string (⟨#[]⟩:BA)):=(blk_cell BK176.out 0).trans rfl;have hfs37:=blk_frozen BK176.out 0;have hns37_0:=NB151_176.out;have hns37_1:=NB152_176.out;have hms37_0:=NB176_151.out;have hms37_1:=NB176_152.out;have hs38:w35.cell? ⟨gb176,1,none⟩=some (.slice none 0 0):=(blk_cell BK176.out 1).trans rfl;have hfs38:=blk_frozen BK176.out 1;have hns38_0:=NB151_176.out;have hns38_1:=NB152_176.out;have hms38_0:=NB176_151.out;have hms38_1:=NB176_152.out;have hs39:w35.cell? ⟨gb176,2,none⟩=some (.bool false):=(blk_cell BK176.out 2).trans rfl;have hfs39:=blk_frozen BK176.out 2;have hns39_0:=NB151_176.out;have hns39_1:=NB152_176.out;have hms39_0:=NB176_151.out;have hms39_1:=NB176_152.out;have hs40:w35.cell? ⟨gb176,3,none⟩=some (.string (⟨#[]⟩:BA)):=(blk_cell BK176.out 3).trans rfl;have hfs40:=blk_frozen BK176.out 3;have hns40_0:=NB151_176.out;have hns40_1:=NB152_176.out;have hms40_0:=NB176_151.out;have hms40_1:=NB176_152.out;refine skip_ (w1:=?_) (by rfl) rfl ?_ ?_;rotate_left
     ·go_simp
      rfl
     refine hK.out _ _ ⟨((cell_far (p:=⟨gb176,_,none⟩) NB151_176.out _).trans (((cell_far (p:=⟨gb176,_,none⟩) NB151_176.out _).trans (((cell_far (p:=⟨gb176,_,none⟩) NB151_176.out _).trans (((cell_far (p:=⟨gb176,_,none⟩) NB151_176.out _).trans (hHeld.1)))))))),((cell_far (p:=⟨gb176,_,none⟩) NB151_176.out _).trans (((cell_far (p:=⟨gb176,_,none⟩) NB151_176.out _).trans (((cell_far (p:=⟨gb176,_,none⟩) NB151_176.out _).trans (((cell_far (p:=⟨gb176,_,none⟩) NB151_176.out _).trans (hHeld.2.1)))))))),((cell_far (p:=⟨gb176,_,none⟩) NB151_176.out _).trans (((cell_far (p:=⟨gb176,_,none⟩) NB151_176.out _).trans (((cell_far (p:=⟨gb176,_,none⟩) NB151_176.out _).trans (((cell_far (p:=⟨gb176,_,none⟩) NB151_176.out _).trans (hHeld.2.2.1)))))))),((cell_far (p:=⟨gb176,_,none⟩) NB151_176.out _).trans (((cell_far (p:=⟨gb176,_,none⟩) NB151_176.out _).trans (((cell_far (p:=⟨gb176,_,none⟩) NB151_176.out _).trans (((cell_far (p:=⟨gb176,_,none⟩) NB151_176.out _).trans (hHeld.2.2.2))))))))⟩ (fun hHeld=>?_);clear hK K;refine done_ (done_of HT_.out (by kernel_rfl)) ?_;have n0_:Aside0 (Kd.R Kd.string 9 ((((w35.setCell ⟨gb176,0,none⟩ (.string a0_0)).setCell ⟨gb176,1,none⟩ (.slice Ao36 t173.length co36)).setCell ⟨gb176,2,none⟩ (.bool t155)).setCell ⟨gb176,3,none⟩ (.string t171)) w.heap.size (fun k_=>some k_≠(.slice Ao28 t162.length co28:Value).ownBlock∧some k_≠(.slice Ao36 t173.length co36:Value).ownBlock) (.slice Ao30 x8_1.length co30) x8_1):=⟨(zz75 (rt HO_8 BK176))⟩;have n1_:Aside0 (Kd.R Kd.string 9 ((((w35.setCell ⟨gb176,0,none⟩ (.string a0_0)).setCell ⟨gb176,1,none⟩ (.slice Ao36 t173.length co36)).setCell ⟨gb176,2,none⟩ (.bool t155)).setCell ⟨gb176,3,none⟩ (.string t171)) w.heap.size (fun k_=>some k_≠(.slice Ao30 x8_1.length co30:Value).ownBlock∧some k_≠(.slice Ao36 t173.length co36:Value).ownBlock) (.slice Ao28 t162.length co28) t162):=⟨(zz75 (rt HO_9 BK176))⟩;have n2_:Aside0 (Kd.R Kd.string 9 ((((w35.setCell ⟨gb176,0,none⟩ (.string a0_0)).setCell ⟨gb176,1,none⟩ (.slice Ao36 t173.length co36)).setCell ⟨gb176,2,none⟩ (.bool t155)).setCell ⟨gb176,3,none⟩ (.string t171)) w.heap.size (fun k_=>some k_≠(.slice Ao30 x8_1.length co30:Value).ownBlock∧some k_≠(.slice Ao28 t162.length co28:Value).ownBlock) (.slice Ao36 t173.length co36) t173):=⟨(zz75 (rt HO175 BK176))⟩;have n3_:Aside0 (((((w35.setCell ⟨gb176,0,none⟩ (.string a0_0)).setCell ⟨gb176,1,none⟩ (.slice Ao36 t173.length co36)).setCell ⟨gb176,2,none⟩ (.bool t155)).setCell ⟨gb176,3,none⟩ (.string t171)).heap[gb151]?=some (.cells #[.string a0_0,.slice A0_1 l0_1.length c0_1,.bool a0_2,.string a0_3] 70 (0,0))):=⟨(zz90 BK151 NB151_176)⟩;have n4_:Aside0 (((((w35.setCell ⟨gb176,0,none⟩ (.string a0_0)).setCell ⟨gb176,1,none⟩ (.slice Ao36 t173.length co36)).setCell ⟨gb176,2,none⟩ (.bool t155)).setCell ⟨gb176,3,none⟩ (.string t171)).heap[gb152]?=some (.cells #[.string x153000_1,.slice none 0 0,.bool x153002_1,.string x153003_1] 70 (0,0))):=⟨(zz90 BK152 NB152_176)⟩;have n5_:Aside0 (((((w35.setCell ⟨gb176,0,none⟩ (.string a0_0)).setCell ⟨gb176,1,none⟩ (.slice Ao36 t173.length co36)).setCell ⟨gb176,2,none⟩ (.bool t155)).setCell ⟨gb176,3,none⟩ (.string t171)).heap[gb176]?=some (.cells #[.string a0_0,.slice Ao36 t173.length co36,.bool t155,.string t171] 70 (0,0))):=⟨(zz71 BK176)⟩;have n6_:Aside0 (Below w.heap.size w ((((w35.setCell ⟨gb176,0,none⟩ (.string a0_0)).setCell ⟨gb176,1,none⟩ (.slice Ao36 t173.length co36)).setCell ⟨gb176,2,none⟩ (.bool t155)).setCell ⟨gb176,3,none⟩ (.string t171))):=⟨(zz97 HB GE151 GE152 GE176)⟩;(try clear HO_8)
     (try clear HO_9)
     (try clear HO175)
     (try clear BK151)
     (try clear BK152)
     (try clear BK176)
     (try clear HB)
     generalize ((((w35.setCell ⟨gb176,0,none⟩ (.string a0_0)).setCell ⟨gb176,1,none⟩ (.slice Ao36 t173.length co36)).setCell ⟨gb176,2,none⟩ (.bool t155)).setCell ⟨gb176,3,none⟩ (.string t171))=w41 at n0_ n1_ n2_ n3_ n4_ n5_ n6_ ⊢;have HO_8:=n0_;have HO_9:=n1_;have HO175:=n2_;have BK151:=n3_;have BK152:=n4_;have BK176:=n5_;have HB:=n6_;clear n0_ n1_ n2_ n3_ n4_ n5_ n6_;go_wp2_with (first|((with_reducible refine atG ?_ ?_ fun K_ hK_=>?_);rfl;exact undecG)|((with_reducible refine atI ?_ fun K_ hK_=>?_);exact undecI));refine unG hK_ ?_;clear hK_ K_;obtain⟨H⟩:=HF27;replace H:=iteB H;rcases H with⟨rfl,H⟩|⟨rfl,H⟩
     ·(first|refine iteT ?_|refine iteF ?_|skip)
      replace H:=bindA H;obtain⟨t177,A43,H⟩:=H;have HF44:=A_ H;clear H;have hnb45:=NB176_151.out;have hnc45:=NB151_176.out;have hnb46:=NB176_152.out;have hnc46:=NB152_176.out;obtain⟨_,_,_,_,_,_,_,_⟩:=cf4 BK176;(try((with_reducible refine upS ?_);go_simp))
      go_upto_if 67 with(first|(go_at_call 71;(with_reducible refine(spec_AddrOk.calls k1 a0_0 _ _ t173 t155 t171 t177 _ ?side1 ?side2 A43.out).mono ?_);(case side1=>exact(zz22 HO175));(case side2=>exact(Kd.R_reads' HO175.out).2.1);rintro e w48 ⟨rfl,hb⟩;replace HO_8:=A_ (rB (zz23 HO_8) hb);replace HO_9:=A_ (rB (zz23 HO_9) hb);replace HO175:=A_ (rB (zz23 HO175) hb);replace BK151:=A_ (bB (zz3 BK151) hb);replace BK152:=A_ (bB (zz3 BK152) hb);replace BK176:=A_ (bB (zz3 BK176) hb);replace HB:=A_ (bS (zz97 HB GE151 GE152 GE176) hb);(try clear hb)))
      obtain⟨H⟩:=HF44;replace H:=iteB H;rcases H with⟨rfl,H⟩|⟨rfl,H⟩
      ·simp only[oI_,pI_]at H
       obtain⟨rfl,rfl,rfl,rfl,rfl⟩:=H;have hnb50:=NB176_151.out;have hnc50:=NB151_176.out;have hnb51:=NB176_152.out;have hnc51:=NB152_176.out;obtain⟨_,_,_,_,_,_,_,_⟩:=cf4 BK176;have hnb53:=NB152_151.out;have hnc53:=NB151_152.out;obtain⟨_,_,_,_,_,_,_,_⟩:=cf4 BK152;go_wp2;refine pR (results_ct rfl _ _ gb152 70 #[.string a0_0,.slice Ao36 t173.length co36,.bool t155,.string t171] (0,0) _ rfl (zz71 BK152) Tryz.underlying70 rfl (by kernel_rfl)) rfl ?_;exact⟨_,zz11,(zz75 (rt HO175 BK152)),(zz97 HB GE151 GE152 GE176)⟩
      ·simp only[oI_,pI_]at H
       obtain⟨rfl,rfl,rfl,rfl,rfl⟩:=H;have hnb55:=NB152_151.out;have hnc55:=NB151_152.out;have hnb56:=NB152_176.out;have hnc56:=NB176_152.out;obtain⟨_,_,_,_,_,_,_,_⟩:=cf4 BK152;go_wp2;refine pR (results_ct rfl _ _ gb152 70 #[.string (⟨#[]⟩:BA),.slice none 0 0,.bool false,.string (⟨#[]⟩:BA)] (0,0) _ rfl (zz71 BK152) Tryz.underlying70 rfl (by kernel_rfl)) rfl ?_;exact⟨_,zz11,zz25,(zz97 HB GE151 GE152 GE176)⟩
     ·(first|refine iteT ?_|refine iteF ?_|skip)
      simp only[oI_,pI_]at H;obtain⟨rfl,rfl,rfl,rfl,rfl⟩:=H;have hnb58:=NB152_151.out;have hnc58:=NB151_152.out;have hnb59:=NB152_176.out;have hnc59:=NB176_152.out;obtain⟨_,_,_,_,_,_,_,_⟩:=cf4 BK152;(try((with_reducible refine upS ?_);go_simp));go_wp2;refine pR (results_ct rfl _ _ gb152 70 #[.string (⟨#[]⟩:BA),.slice none 0 0,.bool false,.string (⟨#[]⟩:BA)] (0,0) _ rfl (zz71 BK152) Tryz.underlying70 rfl (by kernel_rfl)) rfl ?_;exact⟨_,zz11,zz25,(zz97 HB GE151 GE152 GE176)⟩
 ·exact absurd H (by simp)
end Go.Proofs.YtalfefmnlnkcaaaGreatDoor.P
end
section
namespace Go.Proofs.YtalfefmnlnkcaaaGreatDoor.P
open Go.RowKit Go.Proofs.YtalfefmnlnkcaaaGreatDoorW PrintWords PrintLast PrintMore
theorem row_at {w:World}{A:Option Addr}{xs:List BA}(h:Kd.C Kd.string w A xs.length xs)(hn:0<xs.length):
  ∃bk o,A=some ⟨bk,o,none⟩∧bk<w.heap.size∧∀(j:Nat) x,xs[j]?=some x→w.cell? ⟨bk,o+j,none⟩=some (.string x):=by
 obtain⟨_,_,h3⟩:=h;obtain⟨ad,rfl,hc⟩:=h3 hn;have cells:∀(j:Nat) x,xs[j]?=some x→w.cell? (ad.add j)=some (.string x):=by
  intro j x hx;obtain⟨c,hl,hk,hcell⟩:=hc j x hx;have hk':c=[Value.string x]:=hk;subst hk';have:=hcell 0 (.string x) rfl;rw[show j*Kd.string.sz+0=j from by show j*1+0=j;omega]at this;exact this
 have h0:=cells 0 xs[0] (gE_ hn);obtain⟨bk,o,sp⟩:=ad;have h0':w.cell? ⟨bk,o,sp⟩=some (.string xs[0]):=h0;have hsp:sp=none:=by
  cases sp with
  |none=>rfl
  |some y=>
   unfold World.cell? at h0';simp at h0'
   split at h0' <;> simp at h0'
 subst hsp;refine⟨bk,o,rfl,?_,fun j x hx=>?_⟩
 ·rcases Nat.lt_or_ge bk w.heap.size with h|h
  ·exact h
  ·unfold World.cell? at h0'
   simp[Array.getElem?_eq_none h]at h0'
 ·have:=cells j x hx
  unfold Addr.add at this
  split at this
  ·rename_i hj;subst hj;exact this
  ·exact this
end Go.Proofs.YtalfefmnlnkcaaaGreatDoor.P
end
section
namespace Go.Proofs.YtalfefmnlnkcaaaGreatDoor.P
open Go.RowKit Go.Proofs.YtalfefmnlnkcaaaGreatDoorW PrintWords PrintLast PrintMore
set_option maxHeartbeats 8000000
set_option maxRecDepth 100000
def hexS:BA:=⟨#[48,49,50,51,52,53,54,55,56,57,65,66,67,68,69,70]⟩
def figAt (k:Nat):Nat:=if k<10 then 48+k else 55+k
def figI (b:Int):Int×Bool:=if 48≤b∧b≤57 then(b-48,true)else if 65≤b∧b≤70 then(b-55,true)else(0,false)
def impl_figureValue.f (a0:Int):Option (Int×Bool):=if 0≤a0∧a0<256 then some (figI (if 97≤a0∧a0≤102 then a0-32 else a0))else none
theorem hex_at:∀k:Nat,k<16→hexS.size=16∧∃h:k<hexS.size,(hexS[k]'h).toNat=figAt k:=by decide +kernel
theorem fig_hit {k:Nat}{b:Int}(hk:k<16)(h:(figAt k:Int)=b):figI b=((k:Int),true):=by
 unfold figAt at h;unfold figI
 split at h
 ·rw[if_pos (by omega)];congr 1;omega
 ·rw[if_neg (by omega),if_pos (by omega)];congr 1;omega
theorem fig_miss {b:Int}(h:∀j:Nat,j<16→(figAt j:Int)≠b):figI b=(0,false):=by
 unfold figI
 split
 ·rename_i hh
  exact absurd (by unfold figAt;rw[if_pos (by omega)];omega) (h (b-48).toNat (by omega))
 ·split
  ·rename_i hh
   exact absurd (by unfold figAt;rw[if_neg (by omega)];omega) (h (b-55).toNat (by omega))
  ·rfl
theorem impl_figureValue.calls (a0:Int)(r0:Int)(r1:Bool)(w:World)(h:impl_figureValue.f a0=some (r0,r1)):
  Calls Tryz.prog 140 #[.int .u8 a0] w fun e w'=>e=.returned (.tuple #[.int .i64 r0,.bool r1])∧Below w.heap.size w w':=by
 unfold impl_figureValue.f at h
 split at h
 case isFalse=>cases h
 rename_i hh;have h:=sI h;obtain⟨b,hb⟩:∃b,b=(if 97≤a0∧a0≤102 then a0-32 else a0):=⟨_,rfl⟩;rw[←hb]at h;by_cases h1:97≤a0
 ·by_cases h2:a0≤102
  ·rw[if_pos ⟨h1,h2⟩]at hb
   go_enter Tryz.func140,Tryz.ntmps140;go_wp2
   go_loopw [4] (fun n w'=>∃k:Nat,k≤16∧w'=w.iter hexS k∧∀j:Nat,j<k→(figAt j:Int)≠(a0-32)) (fun _ w'=>16-w'.iterPos w.heap.size)
   case atStart=>exact⟨0,by omega,rfl,fun j hj=>absurd hj (by omega)⟩
   case round=>
    obtain⟨k,hk,rfl,hne⟩:=hrel;have hbel:∀p,Below w.heap.size w (w.iter hexS p):=fun p=>(Below.refl _ _).alloc (lL_ _) _
    by_cases hlt:k<16
    ·obtain⟨hsz,hx,hf⟩:=hex_at k hlt
     have hnx:∀ty,(Instr.next (.pointer (some ⟨w.heap.size,0,none⟩)) true ty).run Tryz.prog (w.iter hexS k)=.ok (.tuple #[.bool true,.int .i64 k,.int .i32 (figAt k:Nat)]) (w.iter hexS (k+1)):=fun ty=>by
      have hfl:figAt k<128:=by unfold figAt;split <;> omega
      rw[←hf];exact run_next_ascii w hexS k ty hx (by rw[hf];exact hfl)
     by_cases he:(figAt k:Int)=(a0-32)
     ·have hr:=fig_hit hlt he
      rw[←hb,h,pI_]at hr;obtain⟨rfl,rfl⟩:=hr;go_wp2
      go_ret2
      exact⟨rfl,hbel _⟩
     ·go_wp2
      refine⟨⟨k+1,by omega,rfl,fun j hj=>?_⟩,by simp;omega⟩;by_cases e:j=k
      ·subst e;exact he
      ·exact hne j (by omega)
    ·obtain rfl:k=16:=by omega
     have hr:=fig_miss hne;rw[←hb,h,pI_]at hr;obtain⟨rfl,rfl⟩:=hr;have hnx:∀ty,(Instr.next (.pointer (some ⟨w.heap.size,0,none⟩)) true ty).run Tryz.prog (w.iter hexS 16)=_:=fun ty=>run_next_end w hexS 16 ty (by decide)
     go_wp2
     go_ret2
     exact⟨rfl,hbel _⟩
  ·rw[if_neg (fun e=>h2 e.2)]at hb
   go_enter Tryz.func140,Tryz.ntmps140;go_wp2
   go_loopw [4] (fun n w'=>∃k:Nat,k≤16∧w'=w.iter hexS k∧∀j:Nat,j<k→(figAt j:Int)≠a0) (fun _ w'=>16-w'.iterPos w.heap.size)
   case atStart=>exact⟨0,by omega,rfl,fun j hj=>absurd hj (by omega)⟩
   case round=>
    obtain⟨k,hk,rfl,hne⟩:=hrel;have hbel:∀p,Below w.heap.size w (w.iter hexS p):=fun p=>(Below.refl _ _).alloc (lL_ _) _
    by_cases hlt:k<16
    ·obtain⟨hsz,hx,hf⟩:=hex_at k hlt
     have hnx:∀ty,(Instr.next (.pointer (some ⟨w.heap.size,0,none⟩)) true ty).run Tryz.prog (w.iter hexS k)=.ok (.tuple #[.bool true,.int .i64 k,.int .i32 (figAt k:Nat)]) (w.iter hexS (k+1)):=fun ty=>by
      have hfl:figAt k<128:=by unfold figAt;split <;> omega
      rw[←hf];exact run_next_ascii w hexS k ty hx (by rw[hf];exact hfl)
     by_cases he:(figAt k:Int)=a0
     ·have hr:=fig_hit hlt he
      rw[←hb,h,pI_]at hr;obtain⟨rfl,rfl⟩:=hr;go_wp2
      go_ret2
      exact⟨rfl,hbel _⟩
     ·go_wp2
      refine⟨⟨k+1,by omega,rfl,fun j hj=>?_⟩,by simp;omega⟩;by_cases e:j=k
      ·subst e;exact he
      ·exact hne j (by omega)
    ·obtain rfl:k=16:=by omega
     have hr:=fig_miss hne;rw[←hb,h,pI_]at hr;obtain⟨rfl,rfl⟩:=hr;have hnx:∀ty,(Instr.next (.pointer (some ⟨w.heap.size,0,none⟩)) true ty).run Tryz.prog (w.iter hexS 16)=_:=fun ty=>run_next_end w hexS 16 ty (by decide)
     go_wp2
     go_ret2
     exact⟨rfl,hbel _⟩
 ·rw[if_neg (fun e=>h1 e.1)]at hb
  go_enter Tryz.func140,Tryz.ntmps140;go_wp2
  go_loopw [4] (fun n w'=>∃k:Nat,k≤16∧w'=w.iter hexS k∧∀j:Nat,j<k→(figAt j:Int)≠a0) (fun _ w'=>16-w'.iterPos w.heap.size)
  case atStart=>exact⟨0,by omega,rfl,fun j hj=>absurd hj (by omega)⟩
  case round=>
   obtain⟨k,hk,rfl,hne⟩:=hrel;have hbel:∀p,Below w.heap.size w (w.iter hexS p):=fun p=>(Below.refl _ _).alloc (lL_ _) _
   by_cases hlt:k<16
   ·obtain⟨hsz,hx,hf⟩:=hex_at k hlt
    have hnx:∀ty,(Instr.next (.pointer (some ⟨w.heap.size,0,none⟩)) true ty).run Tryz.prog (w.iter hexS k)=.ok (.tuple #[.bool true,.int .i64 k,.int .i32 (figAt k:Nat)]) (w.iter hexS (k+1)):=fun ty=>by
     have hfl:figAt k<128:=by unfold figAt;split <;> omega
     rw[←hf];exact run_next_ascii w hexS k ty hx (by rw[hf];exact hfl)
    by_cases he:(figAt k:Int)=a0
    ·have hr:=fig_hit hlt he
     rw[←hb,h,pI_]at hr;obtain⟨rfl,rfl⟩:=hr;go_wp2
     go_ret2
     exact⟨rfl,hbel _⟩
    ·go_wp2
     refine⟨⟨k+1,by omega,rfl,fun j hj=>?_⟩,by simp;omega⟩;by_cases e:j=k
     ·subst e;exact he
     ·exact hne j (by omega)
   ·obtain rfl:k=16:=by omega
    have hr:=fig_miss hne;rw[←hb,h,pI_]at hr;obtain⟨rfl,rfl⟩:=hr;have hnx:∀ty,(Instr.next (.pointer (some ⟨w.heap.size,0,none⟩)) true ty).run Tryz.prog (w.iter hexS 16)=_:=fun ty=>run_next_end w hexS 16 ty (by decide)
    go_wp2
    go_ret2
    exact⟨rfl,hbel _⟩
end Go.Proofs.YtalfefmnlnkcaaaGreatDoor.P
end
section
namespace Go.Proofs.YtalfefmnlnkcaaaGreatDoor.P
open Go.RowKit Go.Proofs.YtalfefmnlnkcaaaGreatDoorW PrintWords PrintLast PrintMore
def strings_explode.f (a0:BA)(a1:Int):Option (List BA):=none
theorem strings_explode.calls (a0:BA)(a1:Int)(r:List BA)(w:World)(h:strings_explode.f a0 a1=some r):
  Calls Tryz.prog 145 #[.string a0,.int .i64 a1] w fun e w'=>∃v0_:Value,e=.returned (v0_)∧Kd.R Kd.string 9 w' w.heap.size (fun _=>True) v0_ r∧Below w.heap.size w w':=by
 cases h
end Go.Proofs.YtalfefmnlnkcaaaGreatDoor.P
end
section
namespace Go.Proofs.YtalfefmnlnkcaaaGreatDoor.P
open Go.RowKit Go.Proofs.YtalfefmnlnkcaaaGreatDoorW PrintWords PrintLast PrintMore
section
variable {P:Program}{ops:Array Oper}{Q:Exit→Act→World→Prop}
theorem callv_ {oi:Oper}{N:Option Tmp}{a:Act}{w:World}{K:Act→World→Prop}{f:FuncId}{fn:Func}{as1:Array Operand}{ts:Array TypeId}{cap:Array Value}(hf:P.funcs[f]?=some fn)(hname:(fn.name == "runtime.NumGoroutine")=false)(hb:fn.body.isSome=true)(args:Array Value)
  (hw:Region.wanted oi (yielded ops a.tmps)=true) (hN:oi.dst=N) (t:Operand) (hop:oi.op=.call { callee:=.value t,args:=as1,argTypes:=ts }) (hv:a.eval t=.func (.func f) #[] cap) (hargs:as1.map a.eval++cap=args)
  (h:Calls P f args w fun e w'=>∃v,e=.returned v∧K (a.put N v) w'):if Region.wanted oi (yielded ops a.tmps)=true then Oper.wp P oi a w K Q else K (a.put N undef) w:=by
 refine call_ f args hw hN ?_ h;have he:=enters_ hf hname hb args w;unfold execOp;simp[hop,resolve,hv,Deferred.ofValue,invoke,hargs,he]
end
theorem size_set (w:World)(p:Addr)(u:Value):(w.setCell p u).heap.size=w.heap.size:=by simp
end Go.Proofs.YtalfefmnlnkcaaaGreatDoor.P
end
section
namespace Go.Proofs.YtalfefmnlnkcaaaGreatDoor.B
open Go.RowKit Go.Proofs.YtalfefmnlnkcaaaGreatDoorW PrintWords PrintLast PrintMore
theorem w64 {n:Int}(h0:-9223372036854775808≤n)(h1:n<9223372036854775808):wrap64 n=n:=by
 unfold wrap64;omega
theorem tmod_nn {a b:Int}(h0:0≤a)(h1:0<b):0≤Int.tmod a b∧Int.tmod a b<b:=
 ⟨Int.tmod_nonneg _ h0,Int.tmod_lt_of_pos _ h1⟩
theorem tdiv_nn {a b:Int}(h0:0≤a)(h1:0<b):0≤Int.tdiv a b∧Int.tdiv a b≤a:=by
 rw[Int.tdiv_eq_ediv_of_nonneg h0];exact⟨Int.ediv_nonneg h0 (by omega),Int.ediv_le_self _ h0⟩
theorem xor_nn {a b:Int}(h0:0≤a)(h1:a<2^62)(h2:0≤b)(h3:b<2^62):
  0≤Go.bits .xor .i64 a b∧Go.bits .xor .i64 a b<2^62:=by
 obtain⟨x,rfl⟩:=Int.eq_ofNat_of_zero_le h0;obtain⟨y,rfl⟩:=Int.eq_ofNat_of_zero_le h2;have hx:x<2^62:=by exact_mod_cast h1
 have hy:y<2^62:=by exact_mod_cast h3
 have hx':x%2^IntKind.i64.bits=x:=Nat.mod_eq_of_lt (Nat.lt_of_lt_of_le hx (by decide));have hy':y%2^IntKind.i64.bits=y:=Nat.mod_eq_of_lt (Nat.lt_of_lt_of_le hy (by decide));have hz:x ^^^ y<2^62:=Nat.xor_lt_two_pow hx hy;have e:Go.bits .xor .i64 (x:Int) (y:Int)=((x ^^^ y:Nat):Int):=by
  simp only[Go.bits,BitVec.ofInt_natCast,BitVec.toNat_xor,BitVec.toNat_ofNat,hx',hy'];rw[IntKind.wrap_i64];have:((x ^^^ y:Nat):Int)<2^62:=by exact_mod_cast hz
  omega
 rw[e];exact⟨Int.natCast_nonneg _,by exact_mod_cast hz⟩
theorem rd_byte {b:List Int}(hb:∀x∈b,0≤x∧x≤255)(i:Int):0≤rd b i∧rd b i≤255:=by
 unfold rd;rw[gD_];cases h:b[i.toNat]? with
 |none=>simp
 |some v=>simpa using hb v (List.mem_of_getElem? h)
theorem wf_u8 {x:Int}(h:(Lit.int .u8 x).wf=true):0≤x∧x≤255:=by
 simp[Lit.wf,IntKind.min,IntKind.max,IntKind.signed,IntKind.bits]at h;omega
abbrev L (s:BA):List UInt8:=s.data.toList
theorem L_size (s:BA):(L s).length=s.size:=(Lib.size_eq s).symm
theorem L_app (a b:BA):L (a++b)=L a++L b:=by simp[L]
theorem L_ext (s:BA)(a b:Nat):L (s.extract a b)=((L s).drop a).take (b-a):=Lib.extract_data s a b
theorem L_inj {a b:BA}(h:L a=L b):a=b:=by
 cases a;cases b;congr 1;exact Array.toList_inj.1 h
theorem toList_inj {a b:BA}:a.toList=b.toList↔a=b:=by
 rw[Lib.toList_data,Lib.toList_data];exact⟨fun h=>L_inj h,fun h=>by rw[h]⟩
theorem toList_nil {a:BA}:a.toList=([]:List UInt8)↔a.size=0:=by
 rw[Lib.toList_data,Lib.size_eq];exact List.length_eq_zero_iff.symm
theorem bt_L (s:BA)(i:Nat):bt s i=(((L s).getD i 0).toNat:Int):=by
 unfold bt;simp only[tN_]
 split
 ·rename_i h
  rw[gD_,gE_ (by rw[L_size];exact h)];simp[L];rfl
 ·rename_i h
  rw[gD_,List.getElem?_eq_none (by rw[L_size];omega)];rfl
theorem Ev_succ {α:Type}{g:Nat→Option α}{r:α}(h:Ev (fun k=>g (k+1)) r):Ev g r:=Ev.step (f:=fun k=>g (k+1)) (fun _=>rfl) h
end Go.Proofs.YtalfefmnlnkcaaaGreatDoor.B
end
section
namespace Go.Proofs.YtalfefmnlnkcaaaGreatDoor.Ad
open Go.RowKit Go.Proofs.YtalfefmnlnkcaaaGreatDoorW PrintWords Go.Proofs.YtalfefmnlnkcaaaGreatDoor.B
abbrev ofL (l:List UInt8):BA:=⟨l.toArray⟩
theorem L_of (l:List UInt8):L (ofL l)=l:=by simp[L]
theorem of_L (s:BA):ofL (L s)=s:=by apply L_inj;simp[L]
theorem ofL_app (a b:List UInt8):ofL (a++b)=ofL a++ofL b:=by apply L_inj;rw[L_of,L_app,L_of,L_of]
theorem ofL_size (l:List UInt8):(ofL l).size=l.length:=by rw[←L_size,L_of]
def plainB (c:UInt8):Bool:=(decide (97≤c.toNat)&&decide (c.toNat≤122))||(decide (48≤c.toNat)&&decide (c.toNat≤57))||c.toNat==46||c.toNat==45
def hexN (c:UInt8):Option Nat:=
 if 48≤c.toNat∧c.toNat≤57 then some (c.toNat-48)else if 97≤c.toNat∧c.toNat≤102 then some (c.toNat-87)else if 65≤c.toNat∧c.toNat≤70 then some (c.toNat-55)else none
theorem hexN_lt {c:UInt8}{x:Nat}(h:hexN c=some x):x<16:=by
 unfold hexN at h
 split at h
 ·injection h;omega
 ·split at h
  ·injection h;omega
  ·split at h
   ·injection h;omega
   ·cases h
def fig (n:Nat):UInt8:=if n<10 then UInt8.ofNat (48+n)else UInt8.ofNat (55+n)
def encN (n:Nat):List UInt8:=if plainB (UInt8.ofNat n)then[UInt8.ofNat n]else[37,fig (n / 16),fig (n%16)]
theorem encN_len (n:Nat):(encN n).length≤3:=by unfold encN;split <;> simp
def esc:List UInt8→Option (List UInt8)
 | []=>some []
 |c::r=>if c=37 then(match r with
   |a::b::q=>(match hexN a,hexN b with
    |some x,some y=>(esc q).map (encN (x*16+y)++·)
    |_,_=>none)
   |_=>none)else(esc r).map (encN c.toNat++·)
theorem esc_short {r:List UInt8}(h:r.length≤1):esc (37::r)=none:=by
 match r,h with
 | [],_=>simp[esc]
 | [_],_=>simp[esc]
 |_::_::_,h=>simp at h
theorem esc_bad1 {a:UInt8}(b:UInt8)(q:List UInt8)(h:hexN a=none):esc (37::a::b::q)=none:=by simp[esc,h]
theorem esc_bad2 (a:UInt8){b:UInt8}(q:List UInt8)(h:hexN b=none):esc (37::a::b::q)=none:=by
 cases ha:hexN a <;> simp[esc,h,ha]
theorem esc_sign {a b:UInt8}{x y:Nat}(q:List UInt8)(ha:hexN a=some x)(hb:hexN b=some y):esc (37::a::b::q)=(esc q).map (encN (x*16+y)++·):=by simp[esc,ha,hb]
theorem esc_plain {c:UInt8}(r:List UInt8)(h:c≠37):esc (c::r)=(esc r).map (encN c.toNat++·):=by rw[esc.eq_def];exact if_neg h
def escO (o:Option (List UInt8)):BA×Bool:=match o with
 |some r=>(ofL r,true)
 |none=>(⟨#[]⟩,false)
def escNorm (s:BA):BA×Bool:=if s.size>60 then(⟨#[]⟩,false)else escO (esc (L s))
def isNorm (s:BA):Bool:=(escNorm s).2&&((escNorm s).1.toList==s.toList)
theorem esc_len (n:Nat):∀(l r:List UInt8),l.length≤n→esc l=some r→r.length≤3*l.length:=by
 induction n with
 |zero=>
  intro l r hl h;obtain rfl:l=[]:=List.length_eq_zero_iff.1 (by omega);simp[esc]at h;subst h;simp
 |succ n ih=>
  intro l r hl h
  match l,hl,h with
  | [],_,h=>simp[esc]at h;subst h;simp
  |c::q,hl,h=>
   unfold esc at h
   split at h
   ·match q,hl,h with
    |a::b::q',hl,h=>
     simp only at h
     split at h
     ·obtain⟨t,ht,rfl⟩:=Option.map_eq_some_iff.1 h
      have:=ih q' t (by simp at hl;omega) ht;exact nT_ (by rw[lA_];exact Nat.add_le_add (encN_len _) this) (by simp only[List.length_cons];omega)
     ·cases h
    | [],_,h=>simp at h
    | [_],_,h=>simp at h
   ·obtain⟨t,ht,rfl⟩:=Option.map_eq_some_iff.1 h
    have:=ih q t (by simp at hl;omega) ht;exact nT_ (by rw[lA_];exact Nat.add_le_add (encN_len _) this) (by simp only[List.length_cons];omega)
theorem escNorm_size (s:BA):(escNorm s).1.size≤180:=by
 unfold escNorm
 split
 ·exact Nat.zero_le _
 ·unfold escO
  split
  ·rename_i h1 _ r h
   have:=esc_len _ _ _ (lL_ _) h;rw[ofL_size];rw[L_size]at this;omega
  ·exact Nat.zero_le _
def body:List BA→BA
 | []=>⟨#[47]⟩
 |p::r=>r.foldl (fun a q=>(a++⟨#[47]⟩)++q) ((⟨#[47]⟩:BA)++p)
def pathB (parts:List BA)(asks:Bool)(ask:BA):BA:=if asks=true then(body parts++⟨#[63]⟩)++ask else body parts
def textB (house:BA)(parts:List BA)(asks:Bool)(ask:BA):BA:=((⟨#[47,47]⟩:BA)++house)++pathB parts asks ask
def partOk (p:BA):Bool:=isNorm p && !(p.toList==[]) && !(p.toList==[46]) && !(p.toList==[46,46])
def smallFrom (s:BA):Nat→Nat→Bool
 |0,_=>true
 |d+1,i=>if bt s i<97 then false else if bt s i>122 then false else smallFrom s d (i+1)
def isSmall (s:BA):Bool:=smallFrom s s.size 0
def isHouse (s:BA):Bool:=decide (1≤s.size)&&decide (s.size≤5)&&isSmall s
def addrOk (house:BA)(parts:List BA)(asks:Bool)(ask:BA):Bool:=
 isHouse house&&decide (parts.length≤5)&&isNorm ask&&(asks||ask.toList==[])&&parts.all partOk&&decide ((textB house parts asks ask).size≤60)
def addrText (house:BA)(parts:List BA)(asks:Bool)(ask:BA):BA:=if addrOk house parts asks ask=true then textB house parts asks ask else⟨#[]⟩
theorem isNorm_size {s:BA}(h:isNorm s=true):s.size≤60:=by
 unfold isNorm escNorm at h
 split at h
 ·simp at h
 ·omega
def sm (b:UInt8):UInt8:=if 65≤b.toNat∧b.toNat≤90 then b+32 else b
def smallB (s:BA):BA:=ofL ((L s).map sm)
end Go.Proofs.YtalfefmnlnkcaaaGreatDoor.Ad
end
section
namespace Go.Proofs.YtalfefmnlnkcaaaGreatDoor.P
open Go.RowKit Go.Proofs.YtalfefmnlnkcaaaGreatDoorW PrintWords PrintLast PrintMore Go.Proofs.YtalfefmnlnkcaaaGreatDoor.B Go.Proofs.YtalfefmnlnkcaaaGreatDoor.Ad
set_option maxHeartbeats 8000000
set_option maxRecDepth 100000
def strings_Join.f (l0:List BA)(a1:BA):Option (BA):=
 if l0.length≤140737488355328∧(Lib.join (l0.map L) (L a1)).length≤140737488355328 then some (ofL (Lib.join (l0.map L) (L a1)))else none
theorem strings_Join.calls (A0:Option Addr)(c0:Nat)(l0:List BA)(a1:BA)(r:BA)(w:World)(hr0:Kd.C Kd.string w A0 l0.length l0)(hc0:l0.length≤c0)(h:strings_Join.f l0 a1=some r):
  Calls Tryz.prog 93 #[.slice A0 l0.length c0,.string a1] w fun e w'=>e=.returned (.string r)∧Below w.heap.size w w':=by
 unfold strings_Join.f at h
 split at h
 ·rename_i hh
  obtain rfl:=sI h;rcases Nat.eq_zero_or_pos l0.length with h0|h0
  ·obtain rfl:l0=[]:=List.length_eq_zero_iff.1 h0
   exact(Tryz.strings_Join_none A0 c0 a1 w).mono fun e w' ⟨he,hw⟩=>⟨he,hw ▸ Below.refl _ _⟩
  ·obtain⟨bk,o,rfl,hb,hcells⟩:=row_at hr0 h0
   exact Tryz.strings_Join bk o c0 l0 a1 w hcells hb hh.1 hc0 hh.2
 ·cases h
def stringslite_Index.f (a0:BA)(a1:BA):Option (Int):=match L a1 with
 | [c]=>some (Lib.indexByte (L a0) c)
 |_=>none
theorem one_of_L {a:BA}{c:UInt8}(h:L a=[c]):a=⟨#[c]⟩:=L_inj (by rw[h])
theorem stringslite_Index.calls (a0:BA)(a1:BA)(r:Int)(w:World)(h:stringslite_Index.f a0 a1=some r):
  Calls Tryz.prog 119 #[.string a0,.string a1] w fun e w'=>e=.returned (.int .i64 r)∧Below w.heap.size w w':=by
 unfold stringslite_Index.f at h
 split at h
 ·rename_i c hc
  obtain rfl:=sI h;obtain rfl:=one_of_L hc;exact(Tryz.stringslite_Index_one a0 c w).mono fun e w' ⟨he,hw⟩=>⟨he,hw ▸ Below.refl _ _⟩
 ·cases h
def strings_Count.f (a0:BA)(a1:BA):Option (Int):=match L a1 with
 | [c]=>some (Lib.countByte (L a0) c)
 |_=>none
theorem strings_Count.calls (a0:BA)(a1:BA)(r:Int)(w:World)(h:strings_Count.f a0 a1=some r):
  Calls Tryz.prog 146 #[.string a0,.string a1] w fun e w'=>e=.returned (.int .i64 r)∧Below w.heap.size w w':=by
 unfold strings_Count.f at h
 split at h
 ·rename_i c hc
  obtain rfl:=sI h;obtain rfl:=one_of_L hc;exact(Tryz.strings_Count_one a0 c w).mono fun e w' ⟨he,hw⟩=>⟨he,hw ▸ Below.refl _ _⟩
 ·cases h
def slices_Clone_string_string.f (l0:List BA):Option (List BA):=if l0.length*16≤140737488355328 then some l0 else none
theorem slices_Clone_string_string.calls (A0:Option Addr)(c0:Nat)(l0:List BA)(r:List BA)(w:World)(hr0:Kd.C Kd.string w A0 l0.length l0)(hc0:l0.length≤c0)(h:slices_Clone_string_string.f l0=some r):
  Calls Tryz.prog 125 #[.slice A0 l0.length c0] w fun e w'=>∃v0_:Value,e=.returned (v0_)∧Kd.R Kd.string 9 w' w.heap.size (fun _=>True) v0_ r∧Below w.heap.size w w':=by
 unfold slices_Clone_string_string.f at h
 split at h
 ·rename_i hh
  obtain rfl:=sI h;rcases Nat.eq_zero_or_pos l0.length with h0|h0
  ·obtain rfl:l0=[]:=List.length_eq_zero_iff.1 h0
   cases A0 with
   |none=>exact(Tryz.slices_Clone_string_nil 0 c0 w).mono fun e w' ⟨he,hw⟩=>⟨_,he,Kd.R_nil _ _ _ _ _,hw ▸ Below.refl _ _⟩
   |some a=>exact(Tryz.slices_Clone_string_zero a c0 w).mono fun e w' ⟨v,he,ho,_,hb⟩=>⟨v,he,Kd.R_of_own ho (fun _ _=>trivial),hb⟩
  ·obtain⟨bk,o,rfl,hb,hcells⟩:=row_at hr0 h0
   refine(Tryz.slices_Clone_string bk o l0.length c0 l0 w (lL_ _) hh (fun j hj=>?_)).mono fun e w' ⟨v,he,ho,_,hb'⟩=>⟨v,he,Kd.R_of_own ?_ (fun _ _=>trivial),hb'⟩
   ·rw[gD_,gE_ hj]
    exact hcells j _ (gE_ hj)
   ·rw[List.take_length]at ho
    exact ho
 ·cases h
end Go.Proofs.YtalfefmnlnkcaaaGreatDoor.P
end
section
namespace Go.Proofs.YtalfefmnlnkcaaaGreatDoor.P
open Go.RowKit Go.Proofs.YtalfefmnlnkcaaaGreatDoorW PrintWords PrintLast PrintMore Go.Proofs.YtalfefmnlnkcaaaGreatDoor.B Go.Proofs.YtalfefmnlnkcaaaGreatDoor.Ad
def SmRow (b:Nat)(s:BA)(i:Nat)(w:World):Prop:=
 b<w.heap.size∧∀j,j<s.size→w.cell? ⟨b,j,none⟩=some (.int .u8 ((if j<i then sm ((L s).getD j 0)else(L s).getD j 0).toNat:Nat))∧w.frozen? ⟨b,j,none⟩=false
theorem sm_start (w:World)(e:TypeId)(s:BA):SmRow w.heap.size s 0 (Lib.bytesWorld w e s):=by
 refine⟨by rw[Lib.bytesWorld_size];omega,fun j hj=>⟨?_,?_⟩⟩
 ·rw[Lib.bytesWorld_cell w e s j hj];simp[L]
 ·have hk:s.size≤(Lib.bytesCells w e s).size:=by rw[Lib.bytesCells];simp
  simp only[World.frozen?,Lib.bytesWorld_at_new];simp;omega
theorem sm_below (w:World)(e:TypeId)(s:BA):Below w.heap.size w (Lib.bytesWorld w e s):=by
 refine⟨rfl,rfl,rfl,by rw[Lib.bytesWorld_size];omega,fun j hj=>Lib.bytesWorld_at_old w e s j hj⟩
theorem sm_set {b:Nat}{s:BA}{i:Nat}{w:World}(h:SmRow b s i w)(hi:i<s.size):SmRow b s (i+1) (w.setCell ⟨b,i,none⟩ (.int .u8 ((sm ((L s).getD i 0)).toNat:Nat))):=by
 refine⟨by rw[size_set];exact h.1,fun j hj=>⟨?_,by rw[World.frozen?_setCell];exact(h.2 j hj).2⟩⟩;rcases Nat.lt_trichotomy j i with h1|h1|h1
 ·rw[World.cell?_setCell_other _ _ _ _ (by intro e;injection e with _ e;omega),(h.2 j hj).1,if_pos h1,if_pos (by omega)]
 ·subst h1;rw[World.cell?_setCell_same _ _ _ (h.2 j hj).1,if_pos (by omega)]
 ·rw[World.cell?_setCell_other _ _ _ _ (by intro e;injection e with _ e;omega),(h.2 j hj).1,if_neg (by omega),if_neg (by omega)]
theorem sm_skip {b:Nat}{s:BA}{i:Nat}{w:World}(h:SmRow b s i w)(hi:i<s.size)(he:sm ((L s).getD i 0)=(L s).getD i 0):SmRow b s (i+1) w:=by
 refine⟨h.1,fun j hj=>⟨?_,(h.2 j hj).2⟩⟩;rw[(h.2 j hj).1];rcases Nat.lt_trichotomy j i with h1|h1|h1
 ·rw[if_pos h1,if_pos (by omega)]
 ·subst h1;rw[if_neg (by omega),if_pos (by omega),he]
 ·rw[if_neg (by omega),if_neg (by omega)]
end Go.Proofs.YtalfefmnlnkcaaaGreatDoor.P
end
section
namespace Go.Proofs.YtalfefmnlnkcaaaGreatDoor.P
open Go.RowKit Go.Proofs.YtalfefmnlnkcaaaGreatDoorW PrintWords PrintLast PrintMore Go.Proofs.YtalfefmnlnkcaaaGreatDoor.B Go.Proofs.YtalfefmnlnkcaaaGreatDoor.Ad
set_option maxHeartbeats 8000000
set_option maxRecDepth 100000
def sq:BA:=⟨#[47,63]⟩
theorem sq_at:sq.size=2∧(∀h:0<sq.size,(sq[0]'h).toNat=47)∧(∀h:1<sq.size,(sq[1]'h).toNat=63):=by decide +kernel
theorem valid_same (r:Int):Utf8.valid r=Lib.validRune r:=by
 unfold Utf8.valid Lib.validRune;rw[Bool.eq_iff_iff];simp only[Bool.or_eq_true,aE_,decide_eq_true_eq];omega
theorem decode_skip (s:BA)(pos:Nat)(h:pos<s.size)(ha:128≤(s[pos]'h).toNat):
  pos+(Utf8.decode s pos).2≤s.size∧∀j,pos≤j→j<pos+(Utf8.decode s pos).2→∀hj:j<s.size,128≤(s[j]'hj).toNat:=by
 have hn:¬(s[pos]'h).toNat<128:=by omega
 have one:pos+1≤s.size∧∀j,pos≤j→j<pos+1→∀hj:j<s.size,128≤(s[j]'hj).toNat:=by
  refine⟨h,fun j h1 h2 hj=>?_⟩;obtain rfl:j=pos:=by omega
  exact ha
 have cont:∀k,(decide (pos+k<s.size)&&((s.get! (pos+k)).toNat / 64==2))=true→pos+k<s.size∧∀hj:pos+k<s.size,128≤(s[pos+k]'hj).toNat:=by
  intro k hk;simp only[aE_,decide_eq_true_eq,beq_iff_eq]at hk;refine⟨hk.1,fun hj=>?_⟩;have e:=get_at s (pos+k) hj;rw[Nat.add_zero]at e;rw[e]at hk;omega
 simp only[Utf8.decode,get_at s pos h,hn,if_false]
 split
 ·rename_i h1
  simp only[aE_]at h1;obtain⟨l1,b1⟩:=cont 1 (by simpa using h1.2);split
  ·refine⟨(by show pos+2≤_;omega),fun j h2 h3 hj=>?_⟩
   have h3':j<pos+2:=h3;rcases(by omega:j=pos∨j=pos+1)with e|e
   ·subst e;exact ha
   ·subst e;exact b1 hj
  ·exact one
 ·split
  ·rename_i _ h1
   simp only[aE_]at h1;obtain⟨l1,b1⟩:=cont 1 (by simpa using h1.1.2);obtain⟨l2,b2⟩:=cont 2 (by simpa using h1.2);split
   ·refine⟨(by show pos+3≤_;omega),fun j h2 h3 hj=>?_⟩
    have h3':j<pos+3:=h3;rcases(by omega:j=pos∨j=pos+1∨j=pos+2)with e|e|e
    ·subst e;exact ha
    ·subst e;exact b1 hj
    ·subst e;exact b2 hj
   ·exact one
  ·split
   ·rename_i _ _ h1
    simp only[aE_]at h1;obtain⟨l1,b1⟩:=cont 1 (by simpa using h1.1.1.2);obtain⟨l2,b2⟩:=cont 2 (by simpa using h1.1.2);obtain⟨l3,b3⟩:=cont 3 (by simpa using h1.2);split
    ·refine⟨(by show pos+4≤_;omega),fun j h2 h3 hj=>?_⟩
     have h3':j<pos+4:=h3;rcases(by omega:j=pos∨j=pos+1∨j=pos+2∨j=pos+3)with e|e|e|e
     ·subst e;exact ha
     ·subst e;exact b1 hj
     ·subst e;exact b2 hj
     ·subst e;exact b3 hj
    ·exact one
   ·exact one
theorem noAny_skip {s:BA}{pos n:Nat}(h:Lib.NoAny (L s) (L sq) pos)(hb:∀j,pos≤j→j<pos+n→∀hj:j<s.size,128≤(s[j]'hj).toNat):Lib.NoAny (L s) (L sq) (pos+n):=by
 intro j b hj hx;rcases Nat.lt_or_ge j pos with hlt|hge
 ·exact h j b hlt hx
 ·obtain⟨hl,he⟩:=List.getElem?_eq_some_iff.1 hx
  have hjs:j<s.size:=by rw[←L_size];exact hl
  have h1:=hb j hge hj hjs;have h2:(s[j]'hjs)=b:=by rw[←he];rfl
  rw[h2]at h1;have:L sq=[47,63]:=rfl;rw[this];simp only[List.contains_cons,List.contains_nil,Bool.or_false,Bool.or_eq_false_iff,bN_];constructor
  ·rintro rfl;exact absurd h1 (by decide)
  ·rintro rfl;exact absurd h1 (by decide)
theorem indexRune_far (r:Int)(w:World)(h0:128≤r)(h1:r≤2147483647):
  Calls Tryz.prog 121 #[.string sq,.int .i32 r] w fun e w'=>e=.returned (.int .i64 (-1))∧Below w.heap.size w w':=by
 have g0:decide (0≤r)=true:=dT (by omega);have g1:decide (r<128)=false:=dF (by omega);obtain⟨hsz,hs0,hs1⟩:=sq_at;by_cases hr:r=65533
 ·subst hr
  have n0:=fun ty=>run_next_ascii (P:=Tryz.prog) w sq 0 ty (by rw[hsz];decide) (by rw[hs0];decide)
  have n1:=fun ty=>run_next_ascii (P:=Tryz.prog) w sq 1 ty (by rw[hsz];decide) (by rw[hs1];decide)
  rw[hs0]at n0;rw[hs1]at n1;have n2:=fun ty=>run_next_end (P:=Tryz.prog) w sq 2 ty (by rw[hsz];decide)
  clear hsz hs0 hs1 h0 h1 g0 g1;go_enter Tryz.func121,Tryz.ntmps121;go_wp2
  go_loopg [5,6] 2 (fun g _ _ wx=>∃i:Nat,i+g=2∧wx=w.iter sq i)
  case atStart=>exact⟨0,by omega,rfl⟩
  case round=>
   obtain⟨i,hig,rfl⟩:=hrel;cases gk with
   |zero=>
    obtain rfl:i=2:=by omega
    go_wp2;go_ret;exact⟨rfl,(Below.refl _ _).alloc (lL_ _) _⟩
   |succ g=>
    rcases(by omega:i=0∨i=1)with e|e
    ·subst e
     go_wp2
     go_roundg g
     case measure=>omega
     case rel=>exact⟨1,by omega,rfl⟩
    ·subst e
     go_wp2
     go_roundg g
     case measure=>omega
     case rel=>exact⟨2,by omega,rfl⟩
 ·have g2:(r==65533)=false:=by simp[hr]
  cases hv:Lib.validRune r with
  |false=>
   go_enter Tryz.func121,Tryz.ntmps121;go_wp2_with (go_at_call 138;refine(Tryz.utf8_ValidRune _ _).mono ?_;rintro e w' ⟨rfl,hw⟩;rw[hw,hv])
   go_ret;exact⟨rfl,Below.refl _ _⟩
  |true=>
   obtain⟨e1,e2,e3⟩:=encode_facts r (by rw[valid_same];exact hv) h0;go_enter Tryz.func121,Tryz.ntmps121;go_wp2_with (go_at_call 138;refine(Tryz.utf8_ValidRune _ _).mono ?_;rintro e w' ⟨rfl,hw⟩;rw[hw,hv])
   go_step3
   go_wp2;generalize Utf8.encode r=nd at e1 e2 e3 ⊢;refine wp_loop_rounds 1 ?_;rw[rounds_succ];by_cases hn:nd.size=2
   ·obtain⟨x,hx⟩:∃x:UInt8,∀h:1<nd.size,nd[1]'h=x:=⟨nd[1]'(by omega),fun _=>rfl⟩
    have hx1:128≤x.toNat:=by
     have:=e3 (by omega);simp only[hn]at this;rw[←hx (by omega)];exact this
    clear e3;have hne:((63:Int) != (x.toNat:Int))=true:=by simp;omega
    have hnz:((nd.size:Nat):Int)-1=1:=by omega
    rw[hnz];have HN:=A_ hn;have hlt:(1:Int)<(nd.size:Int):=by omega
    clear hn hnz e1 e2;have hs1':=hs1 (by rw[hsz];decide);have hi1:(1:Int)<(sq.size:Int):=by rw[hsz];decide
    have hs2:(2:Int)≤(sq.size:Int):=by rw[hsz];decide
    go_wp2
    go_step3
    go_wp2
    go_quiet (fail)
    have HB:Aside0 (Below w.heap.size w (w.drewN nq)):=⟨pw_below_drewN (Below.refl _ _) nq⟩;generalize w.drewN nq=w1 at HB ⊢;have hib:Lib.indexByte (sq.extract 2 2).data.toList ((x.toNat:Int)).toNat.toUInt8=-1:=rfl;go_wp2
    go_quiet ((go_at_call 137;exact Calls.quiet_of_same (Tryz.strings_IndexByte _ _ _)))
    go_wp2;rw[Exit.noGoto_ret];go_wp2;rw[Exit.noGoto_ret];go_ret;exact⟨rfl,pw_below_drewN HB.out _⟩
   ·have hge:decide ((nd.size:Int)-1<2)=false:=dF (by omega)
    go_wp2;rw[Exit.noGoto_ret];go_ret;exact⟨rfl,Below.refl _ _⟩
def strings_IndexAny.f (a0 a1:BA):Option Int:=if L a1=[47,63]∧a0.size<4294967281 then some (Lib.indexAny (L a0) (L a1))else none
def iterTo (w:World)(b:Nat)(s:BA)(p:Nat):World:={ w with heap:=w.heap.setIfInBounds b (.stringIter s p) }
theorem iterTo_at {w:World}{b:Nat}{s:BA}{p q:Nat}(h:w.heap[b]?=some (.stringIter s q)):(iterTo w b s p).heap[b]?=some (.stringIter s p):=by
 obtain⟨hl,_⟩:=Array.getElem?_eq_some_iff.1 h;simp[iterTo,hl]
theorem iterTo_below {w0 w:World}{b:Nat}{s:BA}{p:Nat}(h:Below w0.heap.size w0 w)(hb:w0.heap.size≤b):Below w0.heap.size w0 (iterTo w b s p):=
 ⟨h.os,h.tape,h.output,(by simp[iterTo];exact h.size),fun i hi=>by
  rw[←h.block i hi];simp only[iterTo];exact Array.getElem?_setIfInBounds_ne (by omega)⟩
theorem run_next_in {P:Program}(w:World)(b:Nat)(s:BA)(pos:Nat)(hb:w.heap[b]?=some (.stringIter s pos))(h:pos<s.size)(ty:TypeId):
  (Instr.next (.pointer (some ⟨b,0,none⟩)) true ty).run P w=.ok (.tuple #[.bool true,.int .i64 pos,.int .i32 (Utf8.decode s pos).1]) (iterTo w b s (pos+(Utf8.decode s pos).2)):=by
 simp only[Instr.next,getObj,setObj,Sem.run_bind,Sem.run,hb,Result.andThen,h,if_true,iterTo];simp[goInt]
theorem run_next_out {P:Program}(w:World)(b:Nat)(s:BA)(pos:Nat)(hb:w.heap[b]?=some (.stringIter s pos))(h:¬pos<s.size)(ty:TypeId):
  (Instr.next (.pointer (some ⟨b,0,none⟩)) true ty).run P w=.ok (.tuple #[.bool false]) w:=by
 simp[Instr.next,getObj,Sem.run,hb,h]
theorem indexAny_few (s:BA)(w:World)(h8:s.size≤8):
  Calls Tryz.prog 104 #[.string s,.string sq] w fun e w'=>e=.returned (.int .i64 (Lib.indexAny (L s) (L sq)))∧Below w.heap.size w w':=by
 have hemp:sq.toList.isEmpty=false:=by decide +kernel
 have hn1:((sq.size:Int)==1)=false:=by decide +kernel
 have h8z:decide ((8:Int)<(s.size:Int))=false:=dF (by omega);go_enter Tryz.func104,Tryz.ntmps104;go_wp2_with (go_at_call 122;refine(Tryz.strings_shouldUseASCIISet _ _).mono ?_;rintro e w' ⟨rfl,hw⟩;rw[hw,h8z])
 go_loopg [9,10] s.size (fun g _ _ wx=>∃i:Nat,i+g=s.size∧Aside0 (wx.heap[w.heap.size]?=some (.stringIter s i))∧Aside0 (Lib.NoAny (L s) (L sq) i)∧Aside0 (Below w.heap.size w wx))
 case atStart=>exact⟨0,by omega,⟨World.iter_heap w s 0⟩,⟨Lib.NoAny.zero _ _⟩,⟨(Below.refl _ _).alloc (lL_ _) _⟩⟩
 case round=>
  obtain⟨i,hig,hI,HN,HB⟩:=hrel;cases gk with
  |zero=>
   obtain rfl:i=s.size:=by omega
   have hnx:=run_next_out (P:=Tryz.prog) wr w.heap.size s s.size hI.out (by omega);go_wp2;go_ret;exact⟨(by rw[Lib.indexAny_none (by rw[L_size];exact HN.out)];rfl),HB.out⟩
  |succ g=>
   have hi:i<s.size:=by omega
   have hnx:=run_next_in (P:=Tryz.prog) wr w.heap.size s i hI.out hi;obtain⟨x,hx⟩:∃x:UInt8,s[i]'hi=x:=⟨_,rfl⟩;have Hx:Aside0 ((L s)[i]?=some x):=⟨(by rw[←hx];exact Lib.data_getElem? s i hi)⟩;by_cases hlt:x.toNat<128
   ·have hd:=decode_ascii s i hi (by rw[hx];exact hlt)
    rw[hx]at hd;rw[hd]at hnx;clear hd;have HI2:Aside0 ((iterTo wr w.heap.size s (i+1)).heap[w.heap.size]?=some (.stringIter s (i+1))):=⟨iterTo_at hI.out⟩;have HB2:Aside0 (Below w.heap.size w (iterTo wr w.heap.size s (i+1))):=⟨iterTo_below HB.out (lL_ _)⟩;simp only at hnx;have hcon:=Lib.contains_iff_indexByte (L sq) x;have hback:((x.toNat:Int)).toNat.toUInt8=x:=by simp
    obtain⟨q,hq⟩:∃q,Lib.indexByte sq.data.toList x=q:=⟨_,rfl⟩;have hcon:(L sq).contains x=decide (0≤q):=by rw[←hq];exact hcon
    clear hx HB hI;generalize iterTo wr w.heap.size s (i+1)=w2 at hnx HI2 HB2;cases hin:(L sq).contains x
    ·rw[hin]at hcon
     have hlt0:¬((0:Int)≤q):=of_decide_eq_false hcon.symm;clear hcon;have HS:Aside0 (Lib.NoAny (L s) (L sq) (i+1)):=⟨HN.out.succ Hx.out hin⟩;clear hin;go_wp2_with (go_at_call 121;refine(Tryz.strings_IndexRune_ascii _ _ _ (by omega) (by omega)).mono ?_;rintro e w' ⟨rfl,hw⟩;rw[hw,hback,hq])
     go_roundg g
     case measure=>omega
     case rel=>exact⟨i+1,by omega,HI2,HS,HB2⟩
    ·rw[hin]at hcon
     have hge:(0:Int)≤q:=of_decide_eq_true hcon.symm;clear hcon;have HE:Aside0 (Lib.indexAny (L s) (L sq)=i):=⟨Lib.indexAny_hit HN.out Hx.out hin⟩;clear hin;go_wp2_with (go_at_call 121;refine(Tryz.strings_IndexRune_ascii _ _ _ (by omega) (by omega)).mono ?_;rintro e w' ⟨rfl,hw⟩;rw[hw,hback,hq]);go_ret;exact⟨(by rw[HE.out];rfl),HB2.out⟩
   ·obtain⟨hd1,hd2⟩:=decode_high s i hi (by rw[hx];omega)
    have hd3:=decode_le s i;obtain⟨hk1,hk2⟩:=decode_skip s i hi (by rw[hx];omega);generalize (Utf8.decode s i).2=n at hnx hd2 hk1 hk2;generalize (Utf8.decode s i).1=c at hnx hd1 hd3;have HI2:Aside0 ((iterTo wr w.heap.size s (i+n)).heap[w.heap.size]?=some (.stringIter s (i+n))):=⟨iterTo_at hI.out⟩;have HB2:Aside0 (Below w.heap.size w (iterTo wr w.heap.size s (i+n))):=⟨iterTo_below HB.out (lL_ _)⟩;have HS:Aside0 (Lib.NoAny (L s) (L sq) (i+n)):=⟨noAny_skip HN.out hk2⟩;have hlo:(128:Int)≤(c:Int):=by omega
    have hhi:(c:Int)≤2147483647:=by omega
    have HK:=A_ hk1;have HD:=A_ hd2;clear hx HB hI HN Hx hk1 hk2 hd1 hd2 hd3 hlt;generalize iterTo wr w.heap.size s (i+n)=w2 at hnx HI2 HB2;go_wp2_with (go_at_call 121;refine(indexRune_far _ _ hlo hhi).mono ?_;rintro e w' ⟨rfl,hb⟩);have HC:=A_ hb;clear hb;go_roundg (g+1-n)
    case measure=>have:=HK.out;have:=HD.out;omega
    case rel=>exact⟨i+n,(zz15 HK),⟨(HC.out.block _ (by obtain⟨hl,_⟩:=Array.getElem?_eq_some_iff.1 HI2.out;exact hl)).trans HI2.out⟩,HS,⟨HB2.out.trans (HC.out.mono HB2.out.size)⟩⟩
theorem strings_IndexAny.calls (a0 a1:BA)(r:Int)(w:World)(h:strings_IndexAny.f a0 a1=some r):
  Calls Tryz.prog 104 #[.string a0,.string a1] w fun e w'=>e=.returned (.int .i64 r)∧Below w.heap.size w w':=by
 unfold strings_IndexAny.f at h
 split at h
 ·rename_i hh
  obtain rfl:=sI h;obtain rfl:a1=sq:=L_inj (by rw[hh.1];rfl);rcases Nat.lt_or_ge 8 a0.size with h8|h8
  ·refine(Tryz.strings_IndexAny_long (fun w=>by kernel_rfl) a0 sq w (by decide +kernel) h8 hh.2 (by decide +kernel) (fun j b hb=>?_)).mono fun e w' ⟨he,hw⟩=>⟨he,hw ▸ ((Below.refl _ _).alloc (lL_ _) _).alloc (by simp) _⟩
   have hb':([47,63]:List UInt8)[j]?=some b:=hb;match j,hb' with
   |0,hb'=>injection hb' with hb';subst hb';decide
   |1,hb'=>injection hb' with hb';subst hb';decide
  ·exact indexAny_few a0 w h8
 ·cases h
end Go.Proofs.YtalfefmnlnkcaaaGreatDoor.P
end
section
namespace Go.Proofs.YtalfefmnlnkcaaaGreatDoor.P
open Go.RowKit Go.Proofs.YtalfefmnlnkcaaaGreatDoorW PrintWords PrintLast PrintMore
attribute [local go_sem] max2_int min2_int max_two min_two max_three min_three max_four min_four
set_option maxHeartbeats 8000000
set_option maxRecDepth 100000
def impl_writePath.f (a0_0:BA)(l0_1:List BA)(a0_2:Bool)(a0_3:BA):Option (BA):=(strings_Join.f l0_1 (⟨#[47]⟩:BA)).bind fun t243=>(if 1+t243.size≤9223372036854775807 then(if a0_2=true then(if 1+a0_3.size≤9223372036854775807 then(if 1+t243.size+1+a0_3.size≤9223372036854775807 then(some (((⟨#[47]⟩:BA)++t243)++((⟨#[63]⟩:BA)++a0_3)))else(none))else(none))else(some ((⟨#[47]⟩:BA)++t243)))else(none))
theorem impl_writePath.calls (a0_0:BA)(A0_1:Option Addr)(c0_1:Nat)(l0_1:List BA)(a0_2:Bool)(a0_3:BA)(r:BA)(w:World)(hr0_1:Kd.C Kd.string w A0_1 l0_1.length l0_1)(hc0_1:l0_1.length≤c0_1)(h:impl_writePath.f a0_0 l0_1 a0_2 a0_3=some r):
  Calls Tryz.prog 78 #[.agg #[.string a0_0,.slice A0_1 l0_1.length c0_1,.bool a0_2,.string a0_3]] w fun e w'=>e=.returned (.string r)∧Below w.heap.size w w':=by
 have hu70:=Tryz.underlying70;have HR0_1:=A_ hr0_1;have HC0_1:=A_ hc0_1;clear hr0_1 hc0_1;have HB:=A_ (Below.refl w.heap.size w);unfold impl_writePath.f at h;have H:=h;clear h;replace H:=bindA H;obtain⟨t243,A2,H⟩:=H;replace H:=iteE H;rcases H with⟨c3,H⟩|⟨c3,H⟩
 ·have c3b0:=eq_true c3
  have c3b1:=dT c3;try have c3b2:(9223372036854775807<1+t243.size)=False:=eq_false (nL_.2 c3);have HF4:=A_ H;clear H;go_enter Tryz.func78,Tryz.ntmps78;go_upto_if 9 with(first|(refine boxF 1 #[.string a0_0,.slice A0_1 l0_1.length c0_1,.bool a0_2,.string a0_3] 70 ?_;intro gb242 hg w5 BK242 hb;have GE242:=geB hg (zz2 HB);replace HB:=A_ (bS (zz2 HB) hb);clear hb hg;obtain⟨_,_,_,_,_,_,_,_⟩:=cf4 BK242)|(refine gR 93 (some 6) Tryz.func93 (strings_Join.calls _ _ l0_1 (⟨#[47]⟩:BA) t243 _ ?side1 ?side2 A2.out) ?_;(case side1=>exact(zz62 HR0_1 HB));(case side2=>exact HC0_1.out);rintro w7 hb;replace BK242:=A_ (bB (zz3 BK242) hb);replace HB:=A_ (bS (zz4 HB GE242) hb);(try clear hb);obtain⟨_,_,_,_,_,_,_,_⟩:=cf4 BK242))
  obtain⟨H⟩:=HF4;replace H:=iteB H;rcases H with⟨rfl,H⟩|⟨rfl,H⟩
  ·replace H:=iteN H
   obtain⟨c10,H⟩:=H;have c10b0:=eq_true c10;have c10b1:=dT c10;try have c10b2:(9223372036854775807<1+a0_3.size)=False:=eq_false (nL_.2 c10);replace H:=iteN H;obtain⟨c11,H⟩:=H;have c11b0:=eq_true c11;have c11b1:=dT c11;try have c11b2:(9223372036854775807<1+t243.size+1+a0_3.size)=False:=eq_false (nL_.2 c11);obtain rfl:=sI H;obtain⟨_,_,_,_,_,_,_,_⟩:=cf4 BK242;go_wp2;go_ret;exact⟨zz11,(zz4 HB GE242)⟩
  ·obtain rfl:=sI H
   go_wp2;go_ret;exact⟨zz11,(zz4 HB GE242)⟩
 ·exact absurd H (by simp)
def impl_writeAddr.f (a0_0:BA)(l0_1:List BA)(a0_2:Bool)(a0_3:BA):Option (BA):=if 2+a0_0.size≤9223372036854775807 then((impl_writePath.f a0_0 l0_1 a0_2 a0_3).bind fun t245=>(if 2+a0_0.size+t245.size≤9223372036854775807 then(some (((⟨#[47,47]⟩:BA)++a0_0)++t245))else(none)))else(none)
theorem impl_writeAddr.calls (a0_0:BA)(A0_1:Option Addr)(c0_1:Nat)(l0_1:List BA)(a0_2:Bool)(a0_3:BA)(r:BA)(w:World)(hr0_1:Kd.C Kd.string w A0_1 l0_1.length l0_1)(hc0_1:l0_1.length≤c0_1)(h:impl_writeAddr.f a0_0 l0_1 a0_2 a0_3=some r):
  Calls Tryz.prog 74 #[.agg #[.string a0_0,.slice A0_1 l0_1.length c0_1,.bool a0_2,.string a0_3]] w fun e w'=>e=.returned (.string r)∧Below w.heap.size w w':=by
 have hu70:=Tryz.underlying70;have HR0_1:=A_ hr0_1;have HC0_1:=A_ hc0_1;clear hr0_1 hc0_1;have HB:=A_ (Below.refl w.heap.size w);unfold impl_writeAddr.f at h;have H:=h;clear h;replace H:=iteE H;rcases H with⟨c2,H⟩|⟨c2,H⟩
 ·have c2b0:=eq_true c2
  have c2b1:=dT c2;try have c2b2:(9223372036854775807<2+a0_0.size)=False:=eq_false (nL_.2 c2);replace H:=bindA H;obtain⟨t245,A3,H⟩:=H;replace H:=iteN H;obtain⟨c4,H⟩:=H;have c4b0:=eq_true c4;have c4b1:=dT c4;try have c4b2:(9223372036854775807<2+a0_0.size+t245.size)=False:=eq_false (nL_.2 c4);obtain rfl:=sI H;go_enter Tryz.func74,Tryz.ntmps74;try go_wp2_with (first|(refine boxF 1 #[.string a0_0,.slice A0_1 l0_1.length c0_1,.bool a0_2,.string a0_3] 70 ?_;intro gb244 hg w5 BK244 hb;have GE244:=geB hg (zz2 HB);replace HB:=A_ (bS (zz2 HB) hb);clear hb hg));replace BK244:=A_ (blk_drew BK244.out);replace HB:=A_ (below_drew1 HB.out);refine start_ (n:=7) (S:=fun w'=>w'.cell? ⟨gb244,0,none⟩=some (.string a0_0)∧w'.cell? ⟨gb244,1,none⟩=some (.slice A0_1 l0_1.length c0_1)∧w'.cell? ⟨gb244,2,none⟩=some (.bool a0_2)∧w'.cell? ⟨gb244,3,none⟩=some (.string a0_3)) (ds:=[]) #[yF,yF,yF,yF,yF,yF,yF] (by kernel_rfl) rfl rfl ⟨(blk_cell BK244.out 0).trans rfl,(blk_cell BK244.out 1).trans rfl,(blk_cell BK244.out 2).trans rfl,(blk_cell BK244.out 3).trans rfl⟩ (fun hHeld=>?_);generalize w5.drew=w6 at BK244 HB hHeld ⊢;refine pureY 0 (some 3) (yA 1 6) ?_;refine takeY4 1 (some 4) (yA 2 5) hHeld ?_;refine pureY 2 (some 5) (yA 3 4) ?_;refine takeY4 3 (some 6) (yA 4 3) hHeld ?_;refine one_ (i:=4) (N:=some 7) (yA 5 2) rfl rfl (by kernel_rfl) (by decide) (fun K hK=>?_);refine goes_ Tryz.func78 (by kernel_rfl) rfl #[.agg #[.string a0_0,.slice A0_1 l0_1.length c0_1,.bool a0_2,.string a0_3]] (by rfl) rfl rfl zz61 ?_;with_reducible refine(impl_writePath.calls a0_0 _ _ l0_1 a0_2 a0_3 t245 _ ?side1 ?side2 A3.out).mono ?_
  (case side1=>exact(zz62 HR0_1 HB))
  (case side2=>exact HC0_1.out)
  rintro e w7 ⟨rfl,hb⟩;refine⟨_,rfl,?_⟩;replace BK244:=A_ (bB (zz3 BK244) hb);replace HB:=A_ (bS (zz4 HB GE244) hb);(try clear hb)
  (try clear hb2)
  (try clear hk)
  (try clear hi)
  refine hK.out _ _ ⟨(blk_cell BK244.out 0).trans rfl,(blk_cell BK244.out 1).trans rfl,(blk_cell BK244.out 2).trans rfl,(blk_cell BK244.out 3).trans rfl⟩ (fun hHeld=>?_);clear hK K;refine nZ 7 ?_;refine pureY 5 (some 8) (yA 6 1) ?_;refine pureY 6 (some 2) (yA 7 0) ?_;refine done_ (by kernel_rfl) ?_;try go_wp2;go_ret;exact⟨zz11,(zz4 HB GE244)⟩
 ·exact absurd H (by simp)
def stringslite_Cut.f (a0:BA)(a1:BA):Option (BA×BA×Bool):=(stringslite_Index.f a0 a1).bind fun t234=>(if t234≥0 then(if 0≤t234 then(if t234≤(a0.size:Int)then(if 0≤(wrap64 (t234+(a1.size:Int)))then(if(wrap64 (t234+(a1.size:Int)))≤(a0.size:Int)then(some (a0.extract 0 (t234:Int).toNat,a0.extract ((wrap64 (t234+(a1.size:Int))):Int).toNat a0.size,true))else(none))else(none))else(none))else(none))else(some (a0,(⟨#[]⟩:BA),false)))
theorem stringslite_Cut.calls (a0:BA)(a1:BA)(r1:BA)(r2:BA)(r3:Bool)(w:World)(h:stringslite_Cut.f a0 a1=some (r1,r2,r3)):
  Calls Tryz.prog 102 #[.string a0,.string a1] w fun e w'=>e=.returned (.tuple #[.string r1,.string r2,.bool r3])∧Below w.heap.size w w':=by
 have HB:=A_ (Below.refl w.heap.size w);unfold stringslite_Cut.f at h;have H:=h;clear h;replace H:=bindA H;obtain⟨t234,A3,H⟩:=H;have HF4:=A_ H;clear H;go_enter Tryz.func102,Tryz.ntmps102;go_upto_if 12 with(first|(go_at_call 119;(with_reducible refine(stringslite_Index.calls a0 a1 t234 _ A3.out).mono ?_);rintro e w5 ⟨rfl,hb⟩;replace HB:=A_ (bS (zz2 HB) hb);(try clear hb)))
 repeat(go_quiet (first|(go_at_call 119;(with_reducible refine(stringslite_Index.calls a0 a1 t234 _ A3.out).mono ?_);rintro e w5 ⟨rfl,hb⟩;replace HB:=A_ (bS (zz2 HB) hb);(try clear hb)));go_upto_if 12 with(first|(go_at_call 119;(with_reducible refine(stringslite_Index.calls a0 a1 t234 _ A3.out).mono ?_);rintro e w5 ⟨rfl,hb⟩;replace HB:=A_ (bS (zz2 HB) hb);(try clear hb))))
 obtain⟨H⟩:=HF4;replace H:=iteEe H;rcases H with⟨c6b0,H⟩|⟨c6b0,H⟩
 ·(first|rw[c6b0]|(simp only[i64_w,i32_w];rw[c6b0])|skip)
  replace H:=iteN H;obtain⟨c7,H⟩:=H;have c7b0:=eq_true c7;have c7b1:=dT c7;clear c7;replace H:=iteN H;obtain⟨c8,H⟩:=H;have c8b0:=eq_true c8;have c8b1:=dT c8;clear c8;obtain⟨ji9,hji9⟩:∃j_:Int,(wrap64 (t234+(a1.size:Int)))=j_:=⟨_,rfl⟩;(first|rw[hji9]at H|simp only[hji9]at H);have hji9w:(IntKind.i64.wrap (t234+(a1.size:Int)))=ji9:=(i64_w _).trans hji9;replace H:=iteN H;obtain⟨c10,H⟩:=H;have c10b0:=eq_true c10;have c10b1:=dT c10;clear c10;replace H:=iteN H;obtain⟨c11,H⟩:=H;have c11b0:=eq_true c11;have c11b1:=dT c11;clear c11;simp only[oI_,pI_]at H;obtain⟨rfl,rfl,rfl⟩:=H;go_wp2
  repeat(go_quiet (fail);try go_wp2)
  go_ret3
  exact⟨zz12,(zz2 HB)⟩
 ·(first|rw[c6b0]|(simp only[i64_w,i32_w];rw[c6b0])|skip)
  simp only[oI_,pI_]at H;obtain⟨rfl,rfl,rfl⟩:=H;go_wp2
  repeat(go_quiet (fail);try go_wp2)
  go_ret3
  exact⟨zz11,(zz2 HB)⟩
def strings_Cut.f (a0:BA)(a1:BA):Option (BA×BA×Bool):=(stringslite_Cut.f a0 a1).bind fun bt235=>(some (bt235.1,bt235.2.1,bt235.2.2))
theorem strings_Cut.calls (a0:BA)(a1:BA)(r1:BA)(r2:BA)(r3:Bool)(w:World)(h:strings_Cut.f a0 a1=some (r1,r2,r3)):
  Calls Tryz.prog 88 #[.string a0,.string a1] w fun e w'=>e=.returned (.tuple #[.string r1,.string r2,.bool r3])∧Below w.heap.size w w':=by
 have HB:=A_ (Below.refl w.heap.size w);unfold strings_Cut.f at h;have H:=h;clear h;replace H:=bindA H;obtain⟨⟨t235,t236,t237⟩,A3,H⟩:=H;try dsimp only at H;simp only[oI_,pI_]at H;obtain⟨rfl,rfl,rfl⟩:=H;go_enter Tryz.func88,Tryz.ntmps88;go_wp2_with (first|(refine gR 102 (some 9) Tryz.func102 (stringslite_Cut.calls a0 a1 t235 t236 t237 _ A3.out) ?_;rintro w4 hb;replace HB:=A_ (bS (zz2 HB) hb);(try clear hb)))
 go_ret3
 exact⟨zz11,(zz2 HB)⟩
def impl_signByte.f (a0:BA)(a1:Int):Option (Int×Bool):=if(wrap64 ((a0.size:Int)-a1))<3 then(some (0,false))else(if 0≤(wrap64 (a1+1))then(if(wrap64 (a1+1))<(a0.size:Int)then((impl_figureValue.f (bt a0 (wrap64 (a1+1)))).bind fun bt246=>(if 0≤(wrap64 (a1+2))then(if(wrap64 (a1+2))<(a0.size:Int)then((impl_figureValue.f (bt a0 (wrap64 (a1+2)))).bind fun bt248=>(if bt246.2=true then(if bt248.2=true then(some ((wrap64 ((wrap64 (bt246.1*16))+bt248.1))%256,true))else(some (0,false)))else(some (0,false))))else(none))else(none)))else(none))else(none))
theorem impl_signByte.calls (a0:BA)(a1:Int)(r1:Int)(r2:Bool)(w:World)(h:impl_signByte.f a0 a1=some (r1,r2)):
  Calls Tryz.prog 129 #[.string a0,.int .i64 a1] w fun e w'=>e=.returned (.tuple #[.int .u8 r1,.bool r2])∧Below w.heap.size w w':=by
 have HB:=A_ (Below.refl w.heap.size w);unfold impl_signByte.f at h;have H:=h;clear h;replace H:=iteEd H;rcases H with⟨c3b0,H⟩|⟨c3b0,H⟩
 ·simp only[oI_,pI_]at H
  obtain⟨rfl,rfl⟩:=H;go_enter Tryz.func129,Tryz.ntmps129;go_wp2
  go_ret2
  exact⟨zz11,(zz2 HB)⟩
 ·obtain⟨ji4,hji4⟩:∃j_:Int,(wrap64 (a1+1))=j_:=⟨_,rfl⟩
  (first|rw[hji4]at H|simp only[hji4]at H)
  have hji4w:(IntKind.i64.wrap (a1+1))=ji4:=(i64_w _).trans hji4;replace H:=iteE H;rcases H with⟨c5,H⟩|⟨c5,H⟩
  ·have c5b0:=dT c5
   clear c5;replace H:=iteNd H;obtain⟨c6b0,H⟩:=H;replace H:=bindA H;obtain⟨⟨t246,t247⟩,A8,H⟩:=H;try dsimp only at H;obtain⟨ji9,hji9⟩:∃j_:Int,(wrap64 (a1+2))=j_:=⟨_,rfl⟩;(first|rw[hji9]at H|simp only[hji9]at H)
   (try rw[hji9]at A8)
   have hji9w:(IntKind.i64.wrap (a1+2))=ji9:=(i64_w _).trans hji9;replace H:=iteNd H;obtain⟨c10b0,H⟩:=H;replace H:=iteNd H;obtain⟨c11b0,H⟩:=H;replace H:=bindA H;obtain⟨⟨t248,t249⟩,A13,H⟩:=H;try dsimp only at H;have HF14:=A_ H;clear H;have p7:0≤((ji4):Int):=ofD;have q7:(ji4)<(a0.size:Int):=ofD;have hx7:=bt_at a0 (ji4);replace p7:=eq_true p7;replace q7:=eq_true q7;go_enter Tryz.func129,Tryz.ntmps129;go_wp2_with (first|((with_reducible refine gC (f:=140) rfl ?_);refine goesL_ (some 20) rfl rfl Tryz.func140 (by kernel_rfl) rfl #[.int .u8 (bt a0 (ji4))] rfl (by(try simp only[List.map_toArray,List.map_cons,List.map_nil]);first|done|(simp only[hji4];rfl)|rfl|(simp only[List.length_drop,lT_];rfl)) ?_;(with_reducible refine mR (impl_figureValue.calls (bt a0 (ji4)) t246 t247 _ A8.out) ?_);rintro w15 hb;replace HB:=A_ (bS (zz2 HB) hb);(try clear hb);have p12:0≤((ji9):Int):=ofD;have q12:(ji9)<(a0.size:Int):=ofD;have hx12:=bt_at a0 (ji9);replace p12:=eq_true p12;replace q12:=eq_true q12)|((with_reducible refine gC (f:=140) rfl ?_);refine goesL_ (some 28) rfl rfl Tryz.func140 (by kernel_rfl) rfl #[.int .u8 (bt a0 (ji9))] rfl (by(try simp only[List.map_toArray,List.map_cons,List.map_nil]);first|done|(simp only[hji9];rfl)|rfl|(simp only[List.length_drop,lT_];rfl)) ?_;(with_reducible refine mR (impl_figureValue.calls (bt a0 (ji9)) t248 t249 _ A13.out) ?_);rintro w16 hb;replace HB:=A_ (bS (zz2 HB) hb);(try clear hb))|((with_reducible refine atG ?_ ?_ fun K_ hK_=>?_);rfl;exact undecG)|((with_reducible refine atI ?_ fun K_ hK_=>?_);exact undecI));refine unG hK_ ?_;clear hK_ K_;obtain⟨H⟩:=HF14;replace H:=iteB H;rcases H with⟨rfl,H⟩|⟨rfl,H⟩
   ·(first|refine iteT ?_|refine iteF ?_|skip)
    replace H:=iteB H;rcases H with⟨rfl,H⟩|⟨rfl,H⟩
    ·simp only[oI_,pI_]at H
     obtain⟨rfl,rfl⟩:=H;go_wp2
     go_ret2
     exact⟨zz120,(zz2 HB)⟩
    ·simp only[oI_,pI_]at H
     obtain⟨rfl,rfl⟩:=H;go_wp2
     go_ret2
     exact⟨zz120,(zz2 HB)⟩
   ·(first|refine iteT ?_|refine iteF ?_|skip)
    simp only[oI_,pI_]at H;obtain⟨rfl,rfl⟩:=H;(try((with_reducible refine upS ?_);go_simp));go_wp2
    go_ret2
    exact⟨zz120,(zz2 HB)⟩
  ·exact absurd H (by simp)
def strings_Index.f (a0:BA)(a1:BA):Option (Int):=(stringslite_Index.f a0 a1).bind fun t281=>(some t281)
theorem strings_Index.calls (a0:BA)(a1:BA)(r:Int)(w:World)(h:strings_Index.f a0 a1=some r):
  Calls Tryz.prog 147 #[.string a0,.string a1] w fun e w'=>e=.returned (.int .i64 r)∧Below w.heap.size w w':=by
 have HB:=A_ (Below.refl w.heap.size w);unfold strings_Index.f at h;have H:=h;clear h;replace H:=bindA H;obtain⟨t281,A3,H⟩:=H;obtain rfl:=sI H;go_enter Tryz.func147,Tryz.ntmps147;go_wp2_with (first|(refine gR 119 (some 7) Tryz.func119 (stringslite_Index.calls a0 a1 t281 _ A3.out) ?_;rintro w4 hb;replace HB:=A_ (bS (zz2 HB) hb);(try clear hb)));go_ret;exact⟨zz11,(zz2 HB)⟩
def impl_EscNorm.l0:Nat→BA→List Int→Int→Option (BA×Bool)
 |0,_,_,_=>none
 |k+1,x0,x4,x5=>if x5<(x0.size:Int)then(if 0≤x5 then(if(bt x0 x5)=37 then((impl_signByte.f x0 x5).bind fun bt250=>(if bt250.2=true then((impl_standsForItself.f bt250.1).bind fun t252=>(if t252=true then(if x4.length<140737488355328 then(impl_EscNorm.l0 k x0 (x4++[bt250.1]) (wrap64 ((wrap64 (x5+2))+1)))else(none))else(if 0≤(bt250.1 / 16)then(if(bt250.1 / 16)<16 then(if 0≤(Go.bits .and .u8 bt250.1 15)then(if(Go.bits .and .u8 bt250.1 15)<16 then((some (([37,bt (⟨#[48,49,50,51,52,53,54,55,56,57,65,66,67,68,69,70]⟩:BA) (bt250.1 / 16),bt (⟨#[48,49,50,51,52,53,54,55,56,57,65,66,67,68,69,70]⟩:BA) (Go.bits .and .u8 bt250.1 15)]:List Int):List Int)).bind fun y256=>(if x4.length+y256.length<140737488355328 then(impl_EscNorm.l0 k x0 (x4++y256) (wrap64 ((wrap64 (x5+2))+1)))else(none)))else(none))else(none))else(none))else(none))))else(some ((⟨#[]⟩:BA),false))))else((impl_standsForItself.f (bt x0 x5)).bind fun t262=>(if t262=true then(if x4.length<140737488355328 then(impl_EscNorm.l0 k x0 (x4++[bt x0 x5]) (wrap64 (x5+1)))else(none))else(if 0≤((bt x0 x5) / 16)then(if((bt x0 x5) / 16)<16 then(if 0≤(Go.bits .and .u8 (bt x0 x5) 15)then(if(Go.bits .and .u8 (bt x0 x5) 15)<16 then((some (([37,bt (⟨#[48,49,50,51,52,53,54,55,56,57,65,66,67,68,69,70]⟩:BA) ((bt x0 x5) / 16),bt (⟨#[48,49,50,51,52,53,54,55,56,57,65,66,67,68,69,70]⟩:BA) (Go.bits .and .u8 (bt x0 x5) 15)]:List Int):List Int)).bind fun y266=>(if x4.length+y266.length<140737488355328 then(impl_EscNorm.l0 k x0 (x4++y266) (wrap64 (x5+1)))else(none)))else(none))else(none))else(none))else(none)))))else(none))else(some (strOfNums x4,true))
def impl_EscNorm.f (k:Nat)(a0:BA):Option (BA×Bool):=if(a0.size:Int)>60 then(some ((⟨#[]⟩:BA),false))else(impl_EscNorm.l0 k a0 ([]:List Int) 0)
theorem impl_EscNorm.mono_l:∀k,(∀y0 y1 y2,LeO (impl_EscNorm.l0 k y0 y1 y2) (impl_EscNorm.l0 (k+1) y0 y1 y2))
 |0=>by intros;intro r h;simp[impl_EscNorm.l0]at h
 |k+1=>by
  have ih0:=impl_EscNorm.mono_l k;intros;unfold impl_EscNorm.l0;repeat' first|(with_reducible first|exact ih0 _ _ _|exact LeO.refl _|exact LeO.none _|refine LeO.ite ?_ ?_|refine LeO.bind ?_ (fun _=>?_))|exact LeO.none _|refine LeO.ite ?_ ?_|refine LeO.bind ?_ (fun _=>?_)
def impl_EscNorm.T16:Bool×List (List Nat×List Nat):=(true,[([],[]),([],[]),([1],[1]),([2],[2]),([],[]),([4],[4]),([5],[5]),([3,6],[3,6]),([0,7],[0,7]),([8,8,0,1,2,3,4,5,6,7,8],[0,8])])
def impl_EscNorm.B16:List Nat:=[0,0,2,6,0,16,48,126,255,511]
theorem impl_EscNorm.tab16:rtab .any (opsOf Tryz.f109 16)=impl_EscNorm.T16:=by kernel_rfl
theorem impl_EscNorm.bits16:waitsOk impl_EscNorm.T16.2 impl_EscNorm.B16=true:=by kernel_rfl
theorem impl_EscNorm.calls (k:Nat)(a0:BA)(r1:BA)(r2:Bool)(w:World)(h:impl_EscNorm.f k a0=some (r1,r2)):
  Calls Tryz.prog 109 #[.string a0] w fun e w'=>e=.returned (.tuple #[.string r1,.bool r2])∧Below w.heap.size w w':=by
 have HB:=A_ (Below.refl w.heap.size w);unfold impl_EscNorm.f at h;have H:=h;clear h;replace H:=iteE H;rcases H with⟨c2,H⟩|⟨c2,H⟩
 ·have c2b0:=gtT c2
  have c2b1:decide (60<a0.size)=true:=dT (by omega);clear c2;simp only[oI_,pI_]at H;obtain⟨rfl,rfl⟩:=H;go_enter Tryz.func109,Tryz.ntmps109;go_wp2
  go_ret2
  exact⟨zz11,(zz2 HB)⟩
 ·have c2b0:=gtF c2
  have c2b1:decide (60<a0.size)=false:=dF (by omega);clear c2;have H':=A_ H;clear H;go_enter Tryz.func109,Tryz.ntmps109;go_wp2
  go_loopg [4,5] k (fun kq v4 v5 w'=>∃(x4_1:List Int)(x5_1:Int),v5=.int .i64 x5_1∧Aside0 (impl_EscNorm.l0 kq a0 x4_1 x5_1=some (r1,r2))∧Aside0 (kq≤k)∧Aside0 (Kd.R (Kd.int .u8) 5 w' w.heap.size (fun _=>True) v4 x4_1)∧Aside0 (Below w.heap.size w w'))
  case atStart=>exact⟨(([]:List Int)),(0),zz5,H',⟨lL_ _⟩,⟨zz25⟩,⟨(zz2 HB)⟩⟩
  case round=>
   clear H';obtain⟨x4_1,x5_1,rfl,HA,HK1,HO_4,HB⟩:=hrel;cases gk with
   |zero=>exact absurd HA.out (by simp[impl_EscNorm.l0])
   |succ k1=>
    obtain⟨H⟩:=HA;simp only[impl_EscNorm.l0]at H;replace H:=iteEd H;rcases H with⟨c3b0,H⟩|⟨c3b0,H⟩
    ·replace H:=iteNd H
     obtain⟨c4b0,H⟩:=H;replace H:=iteEq H;rcases H with⟨c6b0,c6b1,H⟩|⟨c6b0,c6b1,c6,H⟩
     ·replace H:=bindA H
      obtain⟨⟨t250,t251⟩,A7,H⟩:=H;try dsimp only at H;replace H:=iteB H;rcases H with⟨rfl,H⟩|⟨rfl,H⟩
      ·replace H:=bindA H
       obtain⟨t252,A9,H⟩:=H;replace H:=iteB H;rcases H with⟨rfl,H⟩|⟨rfl,H⟩
       ·replace H:=iteN H
        obtain⟨c11,H⟩:=H;have LMc11:=A_ c11;clear c11;obtain⟨y253,Ny253⟩:=toY (x4_1++[t250]);(first|with_reducible replace H:=bindZ Ny253 H|rw[←Ny253.out]at H|skip);have H':=A_ H;clear H;have p5:0≤(x5_1:Int):=ofD;have q5:x5_1<(a0.size:Int):=ofD;have hx5:=bt_at a0 x5_1;replace p5:=eq_true p5;replace q5:=eq_true q5;go_wp2_with (first|(refine gR 129 (some 26) Tryz.func129 (impl_signByte.calls a0 x5_1 t250 true _ A7.out) ?_;rintro w12 hb;replace HO_4:=A_ (rB (zz23 HO_4) hb);replace HB:=A_ (bS (zz2 HB) hb);(try clear hb))|(refine gR 115 (some 35) Tryz.func115 (impl_standsForItself.calls t250 true _ A9.out) ?_;rintro w' ⟨nd,rfl⟩)|((with_reducible refine gate_builtin (b:=.append) (xs:=#[.tmp 36,.tmp 38]) rfl ?_);at_builtin;refine Kd.R_append (Kd.int .u8) (w0:=w) w.heap.size rfl (.tmp 36) (.tmp 38) 35 5 (.int .u8 0) 1 rfl Tryz.underlying35 info5 rfl (by decide) (by omega) u4 x4_1 t250 [.int .u8 t250] (fun _=>True) (fun _=>False) rfl rfl ?aP (fun _ hk=>hk.elim) ?aF ?aO ?aB ?aS ?aL ?_;(case aP=>exact rfl);(case aB=>exact(zz2 HB));(case aF=>exact(fun _ _=>trivial));(case aO=>exact(zz23 HO_4));(case aS=>exact(below_size (zz2 HB)));(case aL=>exact(zz15 LMc11));intro v254 w13 ho hb hg hat;rw[←Ny253.out]at ho;replace HB:=A_ (hb);have HO255:=A_ (ho);clear HO_4;clear ho hb hg hat))
        go_roundg k1
        case measure=>have:=HK1.out;omega
        case rel=>exact⟨(y253),(wrap64 ((wrap64 (x5_1+2))+1)),zz5,H',⟨(zz15 HK1)⟩,⟨(zz23 HO255)⟩,⟨(zz2 HB)⟩⟩
       ·obtain⟨ji14,hji14⟩:∃j_:Int,(t250 / 16)=j_:=⟨_,rfl⟩
        (first|rw[hji14]at H|simp only[hji14]at H)
        (try rw[hji14]at A7)
        (try rw[hji14]at A9)
        replace H:=iteNd H;obtain⟨c15b0,H⟩:=H;replace H:=iteNd H;obtain⟨c16b0,H⟩:=H;replace H:=iteNd H;obtain⟨c18b0,H⟩:=H;replace H:=iteNd H;obtain⟨c19b0,H⟩:=H;obtain⟨y256,Ny256⟩:=toY (([37,bt (⟨#[48,49,50,51,52,53,54,55,56,57,65,66,67,68,69,70]⟩:BA) (ji14),bt (⟨#[48,49,50,51,52,53,54,55,56,57,65,66,67,68,69,70]⟩:BA) (Go.bits .and .u8 t250 15)]:List Int));(first|with_reducible replace H:=bindZ Ny256 H|rw[←Ny256.out]at H|skip);replace H:=iteN H;obtain⟨c21,H⟩:=H;have LMc21:=A_ c21;clear c21;obtain⟨y259,Ny259⟩:=toY (x4_1++y256);(first|with_reducible replace H:=bindZ Ny259 H|rw[←Ny259.out]at H|skip);have H':=A_ H;clear H;have p5:0≤(x5_1:Int):=ofD;have q5:x5_1<(a0.size:Int):=ofD;have hx5:=bt_at a0 x5_1;replace p5:=eq_true p5;replace q5:=eq_true q5;try go_wp2_with (first|(refine gR 129 (some 26) Tryz.func129 (impl_signByte.calls a0 x5_1 t250 true _ A7.out) ?_;rintro w22 hb;replace HO_4:=A_ (rB (zz23 HO_4) hb);replace HB:=A_ (bS (zz2 HB) hb);(try clear hb))|(refine gR 115 (some 35) Tryz.func115 (impl_standsForItself.calls t250 false _ A9.out) ?_;rintro w' ⟨nd,rfl⟩))
        (try(rw[drewN_self w22];generalize hq_:World.drewN w22 _=w22;have n0_:Aside0 (Kd.R (Kd.int .u8) 5 w22 w.heap.size (fun _=>True) u4 x4_1):=⟨(by rw[←hq_];exact(zz23 HO_4))⟩;have n1_:Aside0 (Below w.heap.size w w22):=⟨(by rw[←hq_];exact(zz2 HB))⟩;clear HO_4 HB hq_;have HO_4:=n0_;have HB:=n1_;clear n0_ n1_))
        replace HO_4:=A_ (Kd.R_drew HO_4.out);replace HB:=A_ (below_drew1 HB.out);have p17:0≤((ji14):Int):=ofD;have q17:(ji14)<(16:Int):=ofD;have hx17:=bt_at (⟨#[48,49,50,51,52,53,54,55,56,57,65,66,67,68,69,70]⟩:BA) (ji14);replace p17:=eq_true p17;replace q17:=eq_true q17;have p20:0≤((Go.bits .and .u8 t250 15):Int):=ofD;have q20:(Go.bits .and .u8 t250 15)<(16:Int):=ofD;have hx20:=bt_at (⟨#[48,49,50,51,52,53,54,55,56,57,65,66,67,68,69,70]⟩:BA) (Go.bits .and .u8 t250 15);replace p20:=eq_true p20;replace q20:=eq_true q20;refine start_ (n:=10) (S:=fun w'=>True) (ds:=[]) #[yF,yF,yF,yF,yF,yF,yF,yF,yF,yF] (by kernel_rfl) rfl rfl trivial (fun hHeld=>?_);refine with_tabW impl_EscNorm.tab16 impl_EscNorm.bits16 (fun HT_ HW_=>?_);generalize w22.drew=w23 at HO_4 HB hHeld ⊢;refine pureZ 0 (some 40) (yA 1 9) ?_;refine pureZ 1 (some 41) (yA 2 8) ?_;refine pureZ 2 (some 42) (yA 3 7) ?_;refine pureZ 4 (some 44) #[yT,yT,yT,yF,yT,yF,yF,yF,yF,yF] ?_;refine pureZ 5 (some 45) #[yT,yT,yT,yF,yT,yT,yF,yF,yF,yF] ?_;refine take_ (i:=3) (N:=some 43) (v:=?_) (a':=?_) (yA 6 4) rfl rfl (take_ofW HT_.out HW_.out (by kernel_rfl)) (fun _ _ _ h=>h) (Or.inl ⟨by rfl,?_⟩) hHeld ?_ ?_;rotate_left
        ·intro w' _
         go_simp
         with_reducible rfl
        rotate_left
        ·simp only[Act.put,lS_,l0_,lC_,i64_w,i32_w]
         rfl
        refine take_ (i:=6) (N:=some 46) (v:=?_) (a':=?_) (yA 7 3) rfl rfl (take_ofW HT_.out HW_.out (by kernel_rfl)) (fun _ _ _ h=>h) (Or.inl ⟨by rfl,?_⟩) hHeld ?_ ?_;rotate_left
        ·intro w' _
         go_simp
         with_reducible rfl
        rotate_left
        ·simp only[Act.put,lS_,l0_,lC_,i64_w,i32_w]
         rfl
        refine oneZ 7 (some 47) (yA 8 2) (fun K hK=>?_);refine Kd.R_lit_step (Kd.int .u8) _ 5 ?hg (N:=47) ?hd (xs:=([37,bt (⟨#[48,49,50,51,52,53,54,55,56,57,65,66,67,68,69,70]⟩:BA) (ji14),bt (⟨#[48,49,50,51,52,53,54,55,56,57,65,66,67,68,69,70]⟩:BA) (Go.bits .and .u8 t250 15)]:List Int)) (inner:=[.int .u8 37,.int .u8 (bt (⟨#[48,49,50,51,52,53,54,55,56,57,65,66,67,68,69,70]⟩:BA) (ji14)),.int .u8 (bt (⟨#[48,49,50,51,52,53,54,55,56,57,65,66,67,68,69,70]⟩:BA) (Go.bits .and .u8 t250 15))]) (ok:=fun _=>True) (okp:=fun _=>True) ?hr ?hp (fun _ hk=>hk) trivial (Below.refl _ _) (lL_ _) (by simp) ?_;(case hd=>rfl);(case hg=>rfl);(case hr=>exact zz21);(case hp=>exact(Reps.one (show Kd.M (Kd.int .u8) _ _ _ 37 [.int .u8 37]from rfl) (Reps.one (show Kd.M (Kd.int .u8) _ _ _ (bt (⟨#[48,49,50,51,52,53,54,55,56,57,65,66,67,68,69,70]⟩:BA) (ji14)) [.int .u8 (bt (⟨#[48,49,50,51,52,53,54,55,56,57,65,66,67,68,69,70]⟩:BA) (ji14))]from rfl) (Reps.one (show Kd.M (Kd.int .u8) _ _ _ (bt (⟨#[48,49,50,51,52,53,54,55,56,57,65,66,67,68,69,70]⟩:BA) (Go.bits .and .u8 t250 15)) [.int .u8 (bt (⟨#[48,49,50,51,52,53,54,55,56,57,65,66,67,68,69,70]⟩:BA) (Go.bits .and .u8 t250 15))]from rfl) (Reps.none _ _)))));intro v257 w24 ho25 hb hg_ hnew_;clear hg_ hnew_;(first|rw[←Ny256.out]at ho25|(simp only[Int.reduceToNat]at ho25;rw[←Ny256.out]at ho25));have HO258:=A_ (Kd.R_lower (Kd.R_new' ho25 (Kd.R_lt (zz23 HO_4))) (below_size (zz2 HB)));replace HO_4:=A_ (Kd.R_elder' (zz23 HO_4) (Kd.R_base ho25) hb);replace HB:=A_ (bS (zz2 HB) hb);clear hb ho25;obtain⟨Ao27,co27,eo27⟩:=Kd.R_slice HO258.out;(first|subst eo27|(injection eo27 with f1_ f2_ f3_;have f4_:=f1_.symm;have f5_:=f3_.symm;clear f1_ f2_ f3_;subst f4_;subst f5_));refine hK.out _ _ trivial (fun hHeld=>?_);clear hK K;refine nZ 47 ?_;refine oneZ 8 (some 48) (yA 9 1) (fun K hK=>?_);refine Kd.R_append_rows_step (Kd.int .u8) (w0:=w) w.heap.size (by rfl) (.tmp 40) (.tmp 47) 35 5 (.int .u8 0) 1 rfl Tryz.underlying35 info5 rfl (by decide) (by omega) u4 x4_1 y256 _ _ _ (fun k_=>some k_≠(.slice Ao27 y256.length co27:Value).ownBlock) (fun _=>False) rfl rfl ?aO ?aR (fun _ _ h=>h) (fun _ h=>h.elim) ?aF ?aB ?aS ?aL ?_;(case aR=>exact(zz22 HO258))
        (case aB=>exact(zz2 HB))
        (case aF=>exact(fun k_ hk=>Kd.fresh' (Kd.R_lt (zz23 HO258)) k_ hk))
        (case aO=>exact(zz74 HO_4))
        (case aS=>exact(below_size (zz2 HB)))
        (case aL=>exact(zz15 LMc21))
        intro v260 w26 ho hb hg hat;rw[←Ny259.out]at ho;replace HO258:=A_ (Kd.R_after (ok:=(fun _=>True)) (zz23 HO258) hg hat);replace HB:=A_ (hb);have HO261:=A_ (ho);clear HO_4;clear ho hb hg hat;refine hK.out _ _ trivial (fun hHeld=>?_);clear hK K;refine nZ 48 ?_;refine pureZ 9 (some 4) (yA 10 0) ?_;refine done_ (done_of HT_.out (by kernel_rfl)) ?_;try go_wp2
        go_roundg k1
        case measure=>have:=HK1.out;omega
        case rel=>exact⟨(y259),(wrap64 ((wrap64 (x5_1+2))+1)),zz5,H',⟨(zz15 HK1)⟩,⟨(zz84 HO261)⟩,⟨(zz2 HB)⟩⟩
      ·simp only[oI_,pI_]at H
       obtain⟨rfl,rfl⟩:=H;have p5:0≤(x5_1:Int):=ofD;have q5:x5_1<(a0.size:Int):=ofD;have hx5:=bt_at a0 x5_1;replace p5:=eq_true p5;replace q5:=eq_true q5;go_wp2_with (first|(refine gR 129 (some 26) Tryz.func129 (impl_signByte.calls a0 x5_1 t250 false _ A7.out) ?_;rintro w28 hb;replace HO_4:=A_ (rB (zz23 HO_4) hb);replace HB:=A_ (bS (zz2 HB) hb);(try clear hb)))
       go_ret2
       exact⟨zz11,(zz2 HB)⟩
     ·replace H:=bindA H
      obtain⟨t262,A29,H⟩:=H;replace H:=iteB H;rcases H with⟨rfl,H⟩|⟨rfl,H⟩
      ·replace H:=iteN H
       obtain⟨c31,H⟩:=H;have LMc31:=A_ c31;clear c31;obtain⟨y263,Ny263⟩:=toY (x4_1++[bt a0 x5_1]);(first|with_reducible replace H:=bindZ Ny263 H|rw[←Ny263.out]at H|skip);have H':=A_ H;clear H;have p5:0≤(x5_1:Int):=ofD;have q5:x5_1<(a0.size:Int):=ofD;have hx5:=bt_at a0 x5_1;replace p5:=eq_true p5;replace q5:=eq_true q5;go_wp2_with (first|(refine gR 115 (some 35) Tryz.func115 (impl_standsForItself.calls (bt a0 x5_1) true _ A29.out) ?_;rintro w' ⟨nd,rfl⟩)|((with_reducible refine gate_builtin (b:=.append) (xs:=#[.tmp 36,.tmp 38]) rfl ?_);at_builtin;refine Kd.R_append (Kd.int .u8) (w0:=w) w.heap.size rfl (.tmp 36) (.tmp 38) 35 5 (.int .u8 0) 1 rfl Tryz.underlying35 info5 rfl (by decide) (by omega) u4 x4_1 (bt a0 x5_1) [.int .u8 (bt a0 x5_1)] (fun _=>True) (fun _=>False) rfl rfl ?aP (fun _ hk=>hk.elim) ?aF ?aO ?aB ?aS ?aL ?_;(case aP=>exact rfl);(case aB=>exact(zz2 HB));(case aF=>exact(fun _ _=>trivial));(case aO=>exact(zz23 HO_4));(case aS=>exact(below_size (zz2 HB)));(case aL=>exact(zz15 LMc31));intro v264 w32 ho hb hg hat;rw[←Ny263.out]at ho;replace HB:=A_ (hb);have HO265:=A_ (ho);clear HO_4;clear ho hb hg hat))
       go_roundg k1
       case measure=>have:=HK1.out;omega
       case rel=>exact⟨(y263),(wrap64 (x5_1+1)),zz5,H',⟨(zz15 HK1)⟩,⟨(zz23 HO265)⟩,⟨(zz2 HB)⟩⟩
      ·obtain⟨ji33,hji33⟩:∃j_:Int,((bt a0 x5_1) / 16)=j_:=⟨_,rfl⟩
       (first|rw[hji33]at H|simp only[hji33]at H)
       (try rw[hji33]at A29)
       replace H:=iteNd H;obtain⟨c34b0,H⟩:=H;replace H:=iteNd H;obtain⟨c35b0,H⟩:=H;replace H:=iteNd H;obtain⟨c37b0,H⟩:=H;replace H:=iteNd H;obtain⟨c38b0,H⟩:=H;obtain⟨y266,Ny266⟩:=toY (([37,bt (⟨#[48,49,50,51,52,53,54,55,56,57,65,66,67,68,69,70]⟩:BA) (ji33),bt (⟨#[48,49,50,51,52,53,54,55,56,57,65,66,67,68,69,70]⟩:BA) (Go.bits .and .u8 (bt a0 x5_1) 15)]:List Int));(first|with_reducible replace H:=bindZ Ny266 H|rw[←Ny266.out]at H|skip);replace H:=iteN H;obtain⟨c40,H⟩:=H;have LMc40:=A_ c40;clear c40;obtain⟨y269,Ny269⟩:=toY (x4_1++y266);(first|with_reducible replace H:=bindZ Ny269 H|rw[←Ny269.out]at H|skip);have H':=A_ H;clear H;have p5:0≤(x5_1:Int):=ofD;have q5:x5_1<(a0.size:Int):=ofD;have hx5:=bt_at a0 x5_1;replace p5:=eq_true p5;replace q5:=eq_true q5;try go_wp2_with (first|(refine gR 115 (some 35) Tryz.func115 (impl_standsForItself.calls (bt a0 x5_1) false _ A29.out) ?_;rintro w' ⟨nd,rfl⟩))
       (try(rw[drewN_self wr];generalize hq_:World.drewN wr _=wr;have n0_:Aside0 (Kd.R (Kd.int .u8) 5 wr w.heap.size (fun _=>True) u4 x4_1):=⟨(by rw[←hq_];exact(zz23 HO_4))⟩;have n1_:Aside0 (Below w.heap.size w wr):=⟨(by rw[←hq_];exact(zz2 HB))⟩;clear HO_4 HB hq_;have HO_4:=n0_;have HB:=n1_;clear n0_ n1_))
       replace HO_4:=A_ (Kd.R_drew HO_4.out);replace HB:=A_ (below_drew1 HB.out);have p36:0≤((ji33):Int):=ofD;have q36:(ji33)<(16:Int):=ofD;have hx36:=bt_at (⟨#[48,49,50,51,52,53,54,55,56,57,65,66,67,68,69,70]⟩:BA) (ji33);replace p36:=eq_true p36;replace q36:=eq_true q36;have p39:0≤((Go.bits .and .u8 (bt a0 x5_1) 15):Int):=ofD;have q39:(Go.bits .and .u8 (bt a0 x5_1) 15)<(16:Int):=ofD;have hx39:=bt_at (⟨#[48,49,50,51,52,53,54,55,56,57,65,66,67,68,69,70]⟩:BA) (Go.bits .and .u8 (bt a0 x5_1) 15);replace p39:=eq_true p39;replace q39:=eq_true q39;refine start_ (n:=10) (S:=fun w'=>True) (ds:=[]) #[yF,yF,yF,yF,yF,yF,yF,yF,yF,yF] (by kernel_rfl) rfl rfl trivial (fun hHeld=>?_);refine with_tabW impl_EscNorm.tab16 impl_EscNorm.bits16 (fun HT_ HW_=>?_);generalize wr.drew=w41 at HO_4 HB hHeld ⊢;refine pureZ 0 (some 40) (yA 1 9) ?_;refine pureZ 1 (some 41) (yA 2 8) ?_;refine pureZ 2 (some 42) (yA 3 7) ?_;refine pureZ 4 (some 44) #[yT,yT,yT,yF,yT,yF,yF,yF,yF,yF] ?_;refine pureZ 5 (some 45) #[yT,yT,yT,yF,yT,yT,yF,yF,yF,yF] ?_;refine take_ (i:=3) (N:=some 43) (v:=?_) (a':=?_) (yA 6 4) rfl rfl (take_ofW HT_.out HW_.out (by kernel_rfl)) (fun _ _ _ h=>h) (Or.inl ⟨by rfl,?_⟩) hHeld ?_ ?_;rotate_left
       ·intro w' _
        go_simp
        with_reducible rfl
       rotate_left
       ·simp only[Act.put,lS_,l0_,lC_,i64_w,i32_w]
        rfl
       refine take_ (i:=6) (N:=some 46) (v:=?_) (a':=?_) (yA 7 3) rfl rfl (take_ofW HT_.out HW_.out (by kernel_rfl)) (fun _ _ _ h=>h) (Or.inl ⟨by rfl,?_⟩) hHeld ?_ ?_;rotate_left
       ·intro w' _
        go_simp
        with_reducible rfl
       rotate_left
       ·simp only[Act.put,lS_,l0_,lC_,i64_w,i32_w]
        rfl
       refine oneZ 7 (some 47) (yA 8 2) (fun K hK=>?_);refine Kd.R_lit_step (Kd.int .u8) _ 5 ?hg (N:=47) ?hd (xs:=([37,bt (⟨#[48,49,50,51,52,53,54,55,56,57,65,66,67,68,69,70]⟩:BA) (ji33),bt (⟨#[48,49,50,51,52,53,54,55,56,57,65,66,67,68,69,70]⟩:BA) (Go.bits .and .u8 (bt a0 x5_1) 15)]:List Int)) (inner:=[.int .u8 37,.int .u8 (bt (⟨#[48,49,50,51,52,53,54,55,56,57,65,66,67,68,69,70]⟩:BA) (ji33)),.int .u8 (bt (⟨#[48,49,50,51,52,53,54,55,56,57,65,66,67,68,69,70]⟩:BA) (Go.bits .and .u8 (bt a0 x5_1) 15))]) (ok:=fun _=>True) (okp:=fun _=>True) ?hr ?hp (fun _ hk=>hk) trivial (Below.refl _ _) (lL_ _) (by simp) ?_;(case hd=>rfl);(case hg=>rfl);(case hr=>exact zz21);(case hp=>exact(Reps.one (show Kd.M (Kd.int .u8) _ _ _ 37 [.int .u8 37]from rfl) (Reps.one (show Kd.M (Kd.int .u8) _ _ _ (bt (⟨#[48,49,50,51,52,53,54,55,56,57,65,66,67,68,69,70]⟩:BA) (ji33)) [.int .u8 (bt (⟨#[48,49,50,51,52,53,54,55,56,57,65,66,67,68,69,70]⟩:BA) (ji33))]from rfl) (Reps.one (show Kd.M (Kd.int .u8) _ _ _ (bt (⟨#[48,49,50,51,52,53,54,55,56,57,65,66,67,68,69,70]⟩:BA) (Go.bits .and .u8 (bt a0 x5_1) 15)) [.int .u8 (bt (⟨#[48,49,50,51,52,53,54,55,56,57,65,66,67,68,69,70]⟩:BA) (Go.bits .and .u8 (bt a0 x5_1) 15))]from rfl) (Reps.none _ _)))));intro v267 w42 ho43 hb hg_ hnew_;clear hg_ hnew_;(first|rw[←Ny266.out]at ho43|(simp only[Int.reduceToNat]at ho43;rw[←Ny266.out]at ho43));have HO268:=A_ (Kd.R_lower (Kd.R_new' ho43 (Kd.R_lt (zz23 HO_4))) (below_size (zz2 HB)));replace HO_4:=A_ (Kd.R_elder' (zz23 HO_4) (Kd.R_base ho43) hb);replace HB:=A_ (bS (zz2 HB) hb);clear hb ho43;obtain⟨Ao45,co45,eo45⟩:=Kd.R_slice HO268.out;(first|subst eo45|(injection eo45 with f1_ f2_ f3_;have f4_:=f1_.symm;have f5_:=f3_.symm;clear f1_ f2_ f3_;subst f4_;subst f5_));refine hK.out _ _ trivial (fun hHeld=>?_);clear hK K;refine nZ 47 ?_;refine oneZ 8 (some 48) (yA 9 1) (fun K hK=>?_);refine Kd.R_append_rows_step (Kd.int .u8) (w0:=w) w.heap.size (by rfl) (.tmp 40) (.tmp 47) 35 5 (.int .u8 0) 1 rfl Tryz.underlying35 info5 rfl (by decide) (by omega) u4 x4_1 y266 _ _ _ (fun k_=>some k_≠(.slice Ao45 y266.length co45:Value).ownBlock) (fun _=>False) rfl rfl ?aO ?aR (fun _ _ h=>h) (fun _ h=>h.elim) ?aF ?aB ?aS ?aL ?_;(case aR=>exact(zz22 HO268))
       (case aB=>exact(zz2 HB))
       (case aF=>exact(fun k_ hk=>Kd.fresh' (Kd.R_lt (zz23 HO268)) k_ hk))
       (case aO=>exact(zz74 HO_4))
       (case aS=>exact(below_size (zz2 HB)))
       (case aL=>exact(zz15 LMc40))
       intro v270 w44 ho hb hg hat;rw[←Ny269.out]at ho;replace HO268:=A_ (Kd.R_after (ok:=(fun _=>True)) (zz23 HO268) hg hat);replace HB:=A_ (hb);have HO271:=A_ (ho);clear HO_4;clear ho hb hg hat;refine hK.out _ _ trivial (fun hHeld=>?_);clear hK K;refine nZ 48 ?_;refine pureZ 9 (some 4) (yA 10 0) ?_;refine done_ (done_of HT_.out (by kernel_rfl)) ?_;try go_wp2
       go_roundg k1
       case measure=>have:=HK1.out;omega
       case rel=>exact⟨(y269),(wrap64 (x5_1+1)),zz5,H',⟨(zz15 HK1)⟩,⟨(zz84 HO271)⟩,⟨(zz2 HB)⟩⟩
    ·simp only[oI_,pI_]at H
     obtain⟨rfl,rfl⟩:=H;have hcv46:=own_string (P:=Tryz.prog) Tryz.underlying35 Tryz.underlying5 Tryz.underlying9 (Kd.own_of_R HO_4.out);go_wp2
     go_ret2
     exact⟨zz11,(zz2 HB)⟩
mutual
def strings_genSplit.j0:Nat→BA→BA→Int→Int→Option (List BA)
 |0,_,_,_,_=>none
 |k+1,x0,x1,x2,x3=>if 0≤(mn x3 (wrap64 ((x0.size:Int)+1)))then(if(mn x3 (wrap64 ((x0.size:Int)+1)):Int).toNat≤17592186044416 then(strings_genSplit.l0 k x0 x1 x2 (wrap64 ((mn x3 (wrap64 ((x0.size:Int)+1)))-1)) (List.replicate (mn x3 (wrap64 ((x0.size:Int)+1)):Int).toNat (⟨#[]⟩:BA)) 0)else(none))else(none)
def strings_genSplit.l0:Nat→BA→BA→Int→Int→List BA→Int→Option (List BA)
 |0,_,_,_,_,_,_=>none
 |k+1,x0,x1,x2,x3,x9,x10=>if x10<x3 then((strings_Index.f x0 x1).bind fun t289=>(if t289<0 then(if 0≤x10 then(if x10<(x9.length:Int)then(if 0≤(wrap64 (x10+1))then(if(wrap64 (x10+1))≤(x9.length:Int)then(some ((x9.set (x10:Int).toNat x0).take ((wrap64 (x10+1)):Int).toNat))else(none))else(none))else(none))else(none))else(if 0≤(wrap64 (t289+x2))then(if(wrap64 (t289+x2))≤(x0.size:Int)then(if 0≤x10 then(if x10<(x9.length:Int)then(if 0≤(wrap64 (t289+(x1.size:Int)))then(if(wrap64 (t289+(x1.size:Int)))≤(x0.size:Int)then(strings_genSplit.l0 k (x0.extract ((wrap64 (t289+(x1.size:Int))):Int).toNat x0.size) x1 x2 x3 (x9.set (x10:Int).toNat (x0.extract 0 ((wrap64 (t289+x2)):Int).toNat)) (wrap64 (x10+1)))else(none))else(none))else(none))else(none))else(none))else(none))))else(if 0≤x10 then(if x10<(x9.length:Int)then(if 0≤(wrap64 (x10+1))then(if(wrap64 (x10+1))≤(x9.length:Int)then(some ((x9.set (x10:Int).toNat x0).take ((wrap64 (x10+1)):Int).toNat))else(none))else(none))else(none))else(none))
end
def strings_genSplit.f (k:Nat)(a0:BA)(a1:BA)(a2:Int)(a3:Int):Option (List BA):=if a3=0 then(some ([]:List BA))else(if a1.toList=([]:List UInt8)then((strings_explode.f a0 a3).bind fun t282=>(some t282))else(if a3<0 then((strings_Count.f a0 a1).bind fun t285=>(strings_genSplit.j0 k a0 a1 a2 (wrap64 (t285+1))))else(strings_genSplit.j0 k a0 a1 a2 a3)))
theorem strings_genSplit.calls (k:Nat)(a0:BA)(a1:BA)(a2:Int)(a3:Int)(r:List BA)(w:World)(h:strings_genSplit.f k a0 a1 a2 a3=some r):
  Calls Tryz.prog 139 #[.string a0,.string a1,.int .i64 a2,.int .i64 a3] w fun e w'=>∃v0_:Value,e=.returned (v0_)∧Kd.R Kd.string 9 w' w.heap.size (fun _=>True) v0_ r∧Below w.heap.size w w':=by
 have HB:=A_ (Below.refl w.heap.size w);unfold strings_genSplit.f at h;have H:=h;clear h;replace H:=iteEq H;rcases H with⟨c5b0,c5b1,H⟩|⟨c5b0,c5b1,c5,H⟩
 ·obtain rfl:=sI H
  go_enter Tryz.func139,Tryz.ntmps139;go_wp2
  go_ret;exact⟨_,zz11,zz25,(zz2 HB)⟩
 ·replace H:=iteEq H
  rcases H with⟨c6b0,c6b1,H⟩|⟨c6b0,c6b1,c6,H⟩
  ·replace H:=bindA H
   obtain⟨t282,A7,H⟩:=H;obtain rfl:=sI H;go_enter Tryz.func139,Tryz.ntmps139;go_wp2_with (first|(refine gV 145 (some 18) Tryz.func145 (strings_explode.calls a0 a3 t282 _ A7.out) ?_;rintro v283 w8 ⟨ho0,hb⟩;have HO284:=A_ (Kd.R_lower ho0 (below_size (zz2 HB)));replace HB:=A_ (bS (zz2 HB) hb);(try clear hb ho0)));go_ret;exact⟨_,zz11,(zz23 HO284),(zz2 HB)⟩
  ·have HC9:=A_ H
   clear H;go_enter Tryz.func139,Tryz.ntmps139;go_upto_if 20 with(fail)
   go_cut [3] (fun v3 wc=>∃(kq:Nat)(x3_8:Int),v3=.int .i64 x3_8∧Aside0 (strings_genSplit.j0 kq a0 a1 a2 x3_8=some r)∧Aside0 (kq≤k)∧Aside0 (Below w.heap.size w wc))
   case first=>
    obtain⟨H⟩:=HC9;replace H:=iteEd H;rcases H with⟨c10b0,H⟩|⟨c10b0,H⟩
    ·(first|rw[c10b0]|(simp only[i64_w,i32_w];rw[c10b0])|skip)
     replace H:=bindA H;obtain⟨t285,A11,H⟩:=H;have H':=A_ H;clear H;go_wp2_with (first|(refine gR 146 (some 23) Tryz.func146 (strings_Count.calls a0 a1 t285 _ A11.out) ?_;rintro w12 hb;replace HB:=A_ (bS (zz2 HB) hb);(try clear hb)))
     go_meet
     case rel=>exact⟨_,(wrap64 (t285+1)),zz5,H',⟨zz6⟩,⟨(zz2 HB)⟩⟩
    ·(first|rw[c10b0]|(simp only[i64_w,i32_w];rw[c10b0])|skip)
     have H':=A_ H;clear H;go_wp2
     go_meet
     case rel=>exact⟨_,(a3),zz5,H',⟨zz6⟩,⟨(zz2 HB)⟩⟩
   case rest=>
    clear HC9;obtain⟨kq,x3_8,rfl,HA,HJ8,HB⟩:=hcut;cases kq with
    |zero=>exact absurd HA.out (by simp[strings_genSplit.j0])
    |succ kj8=>
     obtain⟨H⟩:=HA;simp only[strings_genSplit.j0]at H;obtain⟨ji13,hji13⟩:∃j_:Int,(mn x3_8 (wrap64 ((a0.size:Int)+1)))=j_:=⟨_,rfl⟩;(first|rw[hji13]at H|simp only[hji13]at H);have hji13_:(if(wrap64 ((a0.size:Int)+1))<x3_8 then(wrap64 ((a0.size:Int)+1))else x3_8)=ji13:=hji13;replace H:=iteE H;rcases H with⟨c14,H⟩|⟨c14,H⟩
     ·have c14b0:=eq_true c14
      have c14b1:=dT c14;clear c14;replace H:=iteN H;obtain⟨c15,H⟩:=H;have c15b0:=eq_true c15;have c15b1:=dT c15;clear c15;obtain⟨y286,Ny286⟩:=toY (List.replicate (ji13:Int).toNat (⟨#[]⟩:BA));(first|with_reducible replace H:=bindZ Ny286 H|rw[←Ny286.out]at H|skip);have H':=A_ H;clear H;go_wp2_with (first|((with_reducible refine gD (N:=31) rfl ?_);refine Kd.R_make Kd.string _ 9 rfl (N:=31) rfl 22 _ _ rfl ji13 rfl rfl Tryz.underlying22 (.string ⟨#[]⟩) 16 info9 rfl (by decide) (by omega) (⟨#[]⟩:BA) (ok:=fun _=>True) (okp:=fun _=>True) rfl (fun _ hk=>hk) trivial ofD (nT_ (mR_ _ (ofD:ji13.toNat≤17592186044416)) (by omega)) (Below.refl _ _) (lL_ _) ?_;intro v287 w16 ho17 hb hg_ hnew_;clear hg_ hnew_;(first|rw[←Ny286.out]at ho17|(simp only[Int.reduceToNat]at ho17;rw[←Ny286.out]at ho17));have HO288:=A_ (Kd.R_lower ho17 (below_size (zz2 HB)));replace HB:=A_ (bS (zz2 HB) hb);clear hb ho17))
      go_loopg [0,10] kj8 (fun kq v0 v10 w'=>∃(x0_2:BA)(x9_2:List BA)(x10_2:Int),v0=.string x0_2∧v10=.int .i64 x10_2∧Aside0 (strings_genSplit.l0 kq x0_2 a1 a2 (wrap64 ((ji13)-1)) x9_2 x10_2=some r)∧Aside0 (kq≤kj8)∧Aside0 (Kd.R Kd.string 9 w' w.heap.size (fun _=>True) v287 x9_2)∧Aside0 (Below w.heap.size w w'))
      case atStart=>exact⟨(a0),(y286),(0),zz5,zz5,H',⟨lL_ _⟩,⟨(zz23 HO288)⟩,⟨(zz2 HB)⟩⟩
      case round=>
       clear H';obtain⟨x0_2,x9_2,x10_2,rfl,rfl,HA,HK2,HO_9,HB⟩:=hrel;cases gk with
       |zero=>exact absurd HA.out (by simp[strings_genSplit.l0])
       |succ k2=>
        obtain⟨H⟩:=HA;simp only[strings_genSplit.l0]at H;replace H:=iteEd H;rcases H with⟨c18b0,H⟩|⟨c18b0,H⟩
        ·replace H:=bindA H
         obtain⟨t289,A19,H⟩:=H;have HF20:=A_ H;clear H;go_upto_if 41 with(first|(refine gR 147 (some 39) Tryz.func147 (strings_Index.calls x0_2 a1 t289 _ A19.out) ?_;rintro w21 hb;replace HO_9:=A_ (rB (zz23 HO_9) hb);replace HB:=A_ (bS (zz2 HB) hb);(try clear hb)))
         obtain⟨H⟩:=HF20;replace H:=iteEd H;rcases H with⟨c22b0,H⟩|⟨c22b0,H⟩
         ·(first|rw[c22b0]|(simp only[i64_w,i32_w];rw[c22b0])|skip)
          replace H:=iteNd H;obtain⟨c23b0,H⟩:=H;replace H:=iteNd H;obtain⟨c24b0,H⟩:=H;obtain⟨y290,hy290⟩:∃y_:List BA,y_=(x9_2.set (x10_2:Int).toNat x0_2):=⟨_,rfl⟩;replace H:(if 0≤(wrap64 (x10_2+1))then(if(wrap64 (x10_2+1))≤(x9_2.length:Int)then(some (y290.take ((wrap64 (x10_2+1)):Int).toNat))else(none))else(none))=some r:=by first|(rw[hy290];with_reducible exact H)|(have H2_:=(oB_ _ _).symm.trans H;rw[hy290];with_reducible exact H2_)|(have H2_:=(oB_ _ _).symm.trans H;with_reducible exact H2_)|with_reducible exact H|(rw[hy290];exact H)|exact H
          have Ny290:=A_ hy290;have Ly290:y290.length≤x9_2.length∧x9_2.length≤y290.length:=by rw[hy290,List.length_set];exact⟨lL_ _,lL_ _⟩
          have My290:=Ly290.1;replace Ly290:=Ly290.2;clear hy290;obtain⟨ji26,hji26⟩:∃j_:Int,(wrap64 (x10_2+1))=j_:=⟨_,rfl⟩;(first|rw[hji26]at H|simp only[hji26]at H);have hji26w:(IntKind.i64.wrap (x10_2+1))=ji26:=(i64_w _).trans hji26;replace H:=iteN H;obtain⟨c27,H⟩:=H;have c27b0:=eq_true c27;have c27b1:=dT c27;clear c27;replace H:=iteN H;obtain⟨c28,H⟩:=H;have c28b0:=eq_true c28;have c28b1:=dT c28;clear c28;obtain⟨y291,Ny291⟩:=toY (y290.take ((ji26):Int).toNat);(first|with_reducible replace H:=bindZ Ny291 H|rw[←Ny291.out]at H|skip);obtain rfl:=sI H;have p25:0≤(x10_2:Int):=ofD;have q25:(x10_2:Int)<((x9_2.length:Int):Int):=ofD;obtain⟨go25,co25,eo25,gb25,gl25,cl25,HG25⟩:=Kd.R_form HO_9.out (by omega);(first|cases eo25|(injection eo25 with ea_ en_ ec_;(first|subst ea_|(injection ea_ with ea_;subst ea_));subst ec_;clear en_));have GB25:=A_ gb25;have GG25:=A_ HG25;clear gb25 gl25 HG25;obtain⟨hx25_0,hf25_0⟩:=Kd.R_celln (⟨#[]⟩:BA) HO_9.out (x10_2:Int) p25 q25;replace p25:=eq_true p25;replace q25:=eq_true q25;have HP29:=Kd.R_putg HO_9.out (x10_2:Int) x0_2;go_wp2_with (first|((with_reducible refine gate_store (t:=9) (p:=61) rfl ?_);refine store_event (t:=9) (p:=61) (v:=?vo_w30) (w1:=(w21.setCell ⟨go25,(x10_2:Int).toNat,none⟩ (.string x0_2))) ?hg ?ho ?hn ?hr ?_;(case ho=>rfl);(case hg=>rfl);(case hn=>rfl);(case hr=>exact zz21);intro w30 hw;have hg:w21.grownBy w30 (some go25):=(by rw[hw];exact HP29.2);have hp_:Kd.R Kd.string 9 w30 w.heap.size (fun _=>True) (.slice (some ⟨go25,0,none⟩) x9_2.length co25) y290:=(by rw[hw,Ny290.out];exact HP29.1);clear HP29;replace HO_9:=A_ (hp_);replace HB:=A_ ((by rw[hw];exact below_set (HB.out) GB25.out:Below w.heap.size w w30));clear hg hw hp_;have q31:((ji26):Int)≤((x9_2.length:Int):Int):=ofD;obtain⟨i031,hi031,_,hsz31,_⟩:=info_parts info9;have hcut31:=cut_to (P:=Tryz.prog) 22 9 .i64 Tryz.underlying22 hi031 (some ⟨go25,0,none⟩) x9_2.length co25 (ji26) ofD q31 (Kd.R_reads' HO_9.out).2.1;have hr31:=Kd.R_take (m:=((ji26):Int).toNat) HO_9.out (by omega);have hy31:y291.length=((ji26):Int).toNat:=(by rw[Ny291.out,lT_];omega);rw[←Ny291.out]at hr31;rw[←hy31]at hr31 hcut31;clear hy31 hi031 hsz31 HO_9;have HO293:=A_ hr31;clear hr31;replace q31:=eq_true q31));go_ret;exact⟨_,(by first|rfl|(simp[errW_none,errW_some] <;> rfl)|(simp only[←hji13,←hji26];first|rfl|(simp[errW_none,errW_some] <;> rfl))|(simp[*,errW_none,errW_some] <;> rfl)),(zz23 HO293),(zz2 HB)⟩
         ·(first|rw[c22b0]|(simp only[i64_w,i32_w];rw[c22b0])|skip)
          obtain⟨ji32,hji32⟩:∃j_:Int,(wrap64 (t289+a2))=j_:=⟨_,rfl⟩;(first|rw[hji32]at H|simp only[hji32]at H);have hji32w:(IntKind.i64.wrap (t289+a2))=ji32:=(i64_w _).trans hji32;replace H:=iteN H;obtain⟨c33,H⟩:=H;have c33b0:=eq_true c33;have c33b1:=dT c33;clear c33;replace H:=iteN H;obtain⟨c34,H⟩:=H;have c34b0:=eq_true c34;have c34b1:=dT c34;clear c34;replace H:=iteNd H;obtain⟨c35b0,H⟩:=H;replace H:=iteNd H;obtain⟨c36b0,H⟩:=H;obtain⟨y294,hy294⟩:∃y_:List BA,y_=(x9_2.set (x10_2:Int).toNat (x0_2.extract 0 ((ji32):Int).toNat)):=⟨_,rfl⟩;replace H:(if 0≤(wrap64 (t289+(a1.size:Int)))then(if(wrap64 (t289+(a1.size:Int)))≤(x0_2.size:Int)then(strings_genSplit.l0 k2 (x0_2.extract ((wrap64 (t289+(a1.size:Int))):Int).toNat x0_2.size) a1 a2 (wrap64 ((ji13)-1)) y294 (wrap64 (x10_2+1)))else(none))else(none))=some r:=by first|(rw[hy294];with_reducible exact H)|(have H2_:=(oB_ _ _).symm.trans H;rw[hy294];with_reducible exact H2_)|(have H2_:=(oB_ _ _).symm.trans H;with_reducible exact H2_)|with_reducible exact H|(rw[hy294];exact H)|exact H
          have Ny294:=A_ hy294;have Ly294:y294.length≤x9_2.length∧x9_2.length≤y294.length:=by rw[hy294,List.length_set];exact⟨lL_ _,lL_ _⟩
          have My294:=Ly294.1;replace Ly294:=Ly294.2;clear hy294;obtain⟨ji38,hji38⟩:∃j_:Int,(wrap64 (t289+(a1.size:Int)))=j_:=⟨_,rfl⟩;(first|rw[hji38]at H|simp only[hji38]at H);have hji38w:(IntKind.i64.wrap (t289+(a1.size:Int)))=ji38:=(i64_w _).trans hji38;replace H:=iteN H;obtain⟨c39,H⟩:=H;have c39b0:=eq_true c39;have c39b1:=dT c39;clear c39;replace H:=iteN H;obtain⟨c40,H⟩:=H;have c40b0:=eq_true c40;have c40b1:=dT c40;clear c40;have H':=A_ H;clear H;have p37:0≤(x10_2:Int):=ofD;have q37:(x10_2:Int)<((x9_2.length:Int):Int):=ofD;obtain⟨go37,co37,eo37,gb37,gl37,cl37,HG37⟩:=Kd.R_form HO_9.out (by omega);(first|cases eo37|(injection eo37 with ea_ en_ ec_;(first|subst ea_|(injection ea_ with ea_;subst ea_));subst ec_;clear en_));have GB37:=A_ gb37;have GG37:=A_ HG37;clear gb37 gl37 HG37;obtain⟨hx37_0,hf37_0⟩:=Kd.R_celln (⟨#[]⟩:BA) HO_9.out (x10_2:Int) p37 q37;replace p37:=eq_true p37;replace q37:=eq_true q37;have HP41:=Kd.R_putg HO_9.out (x10_2:Int) (x0_2.extract 0 ((ji32):Int).toNat);go_wp2_with (first|((with_reducible refine gate_store (t:=9) (p:=49) rfl ?_);refine store_event (t:=9) (p:=49) (v:=?vo_w42) (w1:=(w21.setCell ⟨go37,(x10_2:Int).toNat,none⟩ (.string (x0_2.extract 0 ((ji32):Int).toNat)))) ?hg ?ho ?hn ?hr ?_;(case ho=>rfl);(case hg=>rfl);(case hn=>rfl);(case hr=>exact zz21);intro w42 hw;have hg:w21.grownBy w42 (some go37):=(by rw[hw];exact HP41.2);have hp_:Kd.R Kd.string 9 w42 w.heap.size (fun _=>True) (.slice (some ⟨go37,0,none⟩) x9_2.length co37) y294:=(by rw[hw,Ny294.out];exact HP41.1);clear HP41;replace HO_9:=A_ (hp_);replace HB:=A_ ((by rw[hw];exact below_set (HB.out) GB37.out:Below w.heap.size w w42));clear hg hw hp_))
          go_roundg k2
          case measure=>have:=HJ8.out;have:=HK2.out;omega
          case rel=>exact⟨(x0_2.extract ((ji38):Int).toNat x0_2.size),(y294),(wrap64 (x10_2+1)),(by first|rfl|(simp only[i64_w,i32_w];done)|(simp only[aid_isEmpty,aid_isEmpty2];done)|(simp;done)|((simp only[←hji38] <;> (first|rfl|simp));done)|(simp[*];done)),zz5,H',⟨(zz28 HJ8 HK2)⟩,⟨(zz23 HO_9)⟩,⟨(zz2 HB)⟩⟩
        ·replace H:=iteNd H
         obtain⟨c43b0,H⟩:=H;replace H:=iteNd H;obtain⟨c44b0,H⟩:=H;obtain⟨y295,hy295⟩:∃y_:List BA,y_=(x9_2.set (x10_2:Int).toNat x0_2):=⟨_,rfl⟩;replace H:(if 0≤(wrap64 (x10_2+1))then(if(wrap64 (x10_2+1))≤(x9_2.length:Int)then(some (y295.take ((wrap64 (x10_2+1)):Int).toNat))else(none))else(none))=some r:=by first|(rw[hy295];with_reducible exact H)|(have H2_:=(oB_ _ _).symm.trans H;rw[hy295];with_reducible exact H2_)|(have H2_:=(oB_ _ _).symm.trans H;with_reducible exact H2_)|with_reducible exact H|(rw[hy295];exact H)|exact H
         have Ny295:=A_ hy295;have Ly295:y295.length≤x9_2.length∧x9_2.length≤y295.length:=by rw[hy295,List.length_set];exact⟨lL_ _,lL_ _⟩
         have My295:=Ly295.1;replace Ly295:=Ly295.2;clear hy295;obtain⟨ji46,hji46⟩:∃j_:Int,(wrap64 (x10_2+1))=j_:=⟨_,rfl⟩;(first|rw[hji46]at H|simp only[hji46]at H);have hji46w:(IntKind.i64.wrap (x10_2+1))=ji46:=(i64_w _).trans hji46;replace H:=iteN H;obtain⟨c47,H⟩:=H;have c47b0:=eq_true c47;have c47b1:=dT c47;clear c47;replace H:=iteN H;obtain⟨c48,H⟩:=H;have c48b0:=eq_true c48;have c48b1:=dT c48;clear c48;obtain⟨y296,Ny296⟩:=toY (y295.take ((ji46):Int).toNat);(first|with_reducible replace H:=bindZ Ny296 H|rw[←Ny296.out]at H|skip);obtain rfl:=sI H;have p45:0≤(x10_2:Int):=ofD;have q45:(x10_2:Int)<((x9_2.length:Int):Int):=ofD;obtain⟨go45,co45,eo45,gb45,gl45,cl45,HG45⟩:=Kd.R_form HO_9.out (by omega);(first|cases eo45|(injection eo45 with ea_ en_ ec_;(first|subst ea_|(injection ea_ with ea_;subst ea_));subst ec_;clear en_));have GB45:=A_ gb45;have GG45:=A_ HG45;clear gb45 gl45 HG45;obtain⟨hx45_0,hf45_0⟩:=Kd.R_celln (⟨#[]⟩:BA) HO_9.out (x10_2:Int) p45 q45;replace p45:=eq_true p45;replace q45:=eq_true q45;have HP49:=Kd.R_putg HO_9.out (x10_2:Int) x0_2;go_wp2_with (first|((with_reducible refine gate_store (t:=9) (p:=61) rfl ?_);refine store_event (t:=9) (p:=61) (v:=?vo_w50) (w1:=(wr.setCell ⟨go45,(x10_2:Int).toNat,none⟩ (.string x0_2))) ?hg ?ho ?hn ?hr ?_;(case ho=>rfl);(case hg=>rfl);(case hn=>rfl);(case hr=>exact zz21);intro w50 hw;have hg:wr.grownBy w50 (some go45):=(by rw[hw];exact HP49.2);have hp_:Kd.R Kd.string 9 w50 w.heap.size (fun _=>True) (.slice (some ⟨go45,0,none⟩) x9_2.length co45) y295:=(by rw[hw,Ny295.out];exact HP49.1);clear HP49;replace HO_9:=A_ (hp_);replace HB:=A_ ((by rw[hw];exact below_set (HB.out) GB45.out:Below w.heap.size w w50));clear hg hw hp_;have q51:((ji46):Int)≤((x9_2.length:Int):Int):=ofD;obtain⟨i051,hi051,_,hsz51,_⟩:=info_parts info9;have hcut51:=cut_to (P:=Tryz.prog) 22 9 .i64 Tryz.underlying22 hi051 (some ⟨go45,0,none⟩) x9_2.length co45 (ji46) ofD q51 (Kd.R_reads' HO_9.out).2.1;have hr51:=Kd.R_take (m:=((ji46):Int).toNat) HO_9.out (by omega);have hy51:y296.length=((ji46):Int).toNat:=(by rw[Ny296.out,lT_];omega);rw[←Ny296.out]at hr51;rw[←hy51]at hr51 hcut51;clear hy51 hi051 hsz51 HO_9;have HO298:=A_ hr51;clear hr51;replace q51:=eq_true q51));go_ret;exact⟨_,(by first|rfl|(simp[errW_none,errW_some] <;> rfl)|(simp only[←hji13,←hji46];first|rfl|(simp[errW_none,errW_some] <;> rfl))|(simp[*,errW_none,errW_some] <;> rfl)),(zz23 HO298),(zz2 HB)⟩
     ·exact absurd H (by simp)
def impl_isNormal.f (k:Nat)(a0:BA):Option (Bool):=(impl_EscNorm.f k a0).bind fun bt272=>(if bt272.2=true then(some (bt272.1.toList==a0.toList))else(some false))
theorem impl_isNormal.calls (k:Nat)(a0:BA)(r:Bool)(w:World)(h:impl_isNormal.f k a0=some r):
  Calls Tryz.prog 92 #[.string a0] w fun e w'=>e=.returned (.bool r)∧Below w.heap.size w w':=by
 have HB:=A_ (Below.refl w.heap.size w);unfold impl_isNormal.f at h;have H:=h;clear h;replace H:=bindA H;obtain⟨⟨t272,t273⟩,A2,H⟩:=H;try dsimp only at H;have HF3:=A_ H;clear H;go_enter Tryz.func92,Tryz.ntmps92;go_wp2_with (first|(refine gR 109 (some 7) Tryz.func109 (impl_EscNorm.calls k a0 t272 t273 _ A2.out) ?_;rintro w4 hb;replace HB:=A_ (bS (zz2 HB) hb);(try clear hb))|((with_reducible refine atG ?_ ?_ fun K_ hK_=>?_);rfl;exact undecG)|((with_reducible refine atI ?_ fun K_ hK_=>?_);exact undecI));refine unG hK_ ?_;clear hK_ K_;obtain⟨H⟩:=HF3;replace H:=iteB H;rcases H with⟨rfl,H⟩|⟨rfl,H⟩
 ·(first|refine iteT ?_|refine iteF ?_|skip)
  obtain rfl:=sI H;(try((with_reducible refine upS ?_);go_simp));go_wp2;go_ret;exact⟨zz11,(zz2 HB)⟩
 ·(first|refine iteT ?_|refine iteF ?_|skip)
  obtain rfl:=sI H;(try((with_reducible refine upS ?_);go_simp));go_wp2;go_ret;exact⟨zz11,(zz2 HB)⟩
def strings_Split.f (k:Nat)(a0:BA)(a1:BA):Option (List BA):=(strings_genSplit.f k a0 a1 0 (-1)).bind fun t299=>(some t299)
theorem strings_Split.calls (k:Nat)(a0:BA)(a1:BA)(r:List BA)(w:World)(h:strings_Split.f k a0 a1=some r):
  Calls Tryz.prog 126 #[.string a0,.string a1] w fun e w'=>∃v0_:Value,e=.returned (v0_)∧Kd.R Kd.string 9 w' w.heap.size (fun _=>True) v0_ r∧Below w.heap.size w w':=by
 have HB:=A_ (Below.refl w.heap.size w);unfold strings_Split.f at h;have H:=h;clear h;replace H:=bindA H;obtain⟨t299,A3,H⟩:=H;obtain rfl:=sI H;go_enter Tryz.func126,Tryz.ntmps126;go_wp2_with (first|(refine gV 139 (some 7) Tryz.func139 (strings_genSplit.calls k a0 a1 0 (-1) t299 _ A3.out) ?_;rintro v300 w4 ⟨ho0,hb⟩;have HO301:=A_ (Kd.R_lower ho0 (below_size (zz2 HB)));replace HB:=A_ (bS (zz2 HB) hb);(try clear hb ho0)));go_ret;exact⟨_,zz11,(zz23 HO301),(zz2 HB)⟩
end Go.Proofs.YtalfefmnlnkcaaaGreatDoor.P
end
section
namespace Go.Proofs.YtalfefmnlnkcaaaGreatDoor.P
open Go.RowKit Go.Proofs.YtalfefmnlnkcaaaGreatDoorW PrintWords PrintLast PrintMore Go.Proofs.YtalfefmnlnkcaaaGreatDoor.B Go.Proofs.YtalfefmnlnkcaaaGreatDoor.Ad
set_option maxHeartbeats 8000000
set_option maxRecDepth 100000
def impl_smallLetters.f (a0:BA):Option (BA):=if a0.size≤140737488351232 then some (smallB a0)else none
theorem impl_smallLetters.calls (a0 r:BA)(w:World)(h:impl_smallLetters.f a0=some r):
  Calls Tryz.prog 106 #[.string a0] w fun e w'=>e=.returned (.string r)∧Below w.heap.size w w':=by
 unfold impl_smallLetters.f at h
 by_cases hs:a0.size≤140737488351232
 ·rw[if_pos hs]at h
  obtain rfl:=sI h;clear h;have hcv:=Lib.run_convert_string_bytes (P:=Tryz.prog) w 9 35 5 a0 Tryz.underlying9 Tryz.underlying35 Tryz.underlying5;go_enter Tryz.func106,Tryz.ntmps106;go_wp2_with fail;clear hcv;go_loopw [10] (fun i wr=>∃k:Nat,k≤a0.size∧i=.int .i64 k∧Aside0 (SmRow w.heap.size a0 k wr)∧Aside0 (Below w.heap.size w wr))
   (fun i _=>a0.size-(intOf i).toNat)
  case atStart=>
   refine⟨0,Nat.zero_le _,rfl,⟨sm_start w 5 a0⟩,⟨?_⟩⟩;exact sm_below w 5 a0
  case round=>
   obtain⟨k,hk,rfl,hI,hB⟩:=hrel;by_cases hlt:k<a0.size
   ·have hc:=(hI.out.2 k hlt).1
    have hf:=(hI.out.2 k hlt).2;rw[if_neg (by omega)]at hc;have hset:=A_ (sm_set hI.out hlt);have hskip:=A_ (sm_skip hI.out hlt);clear hI;generalize (L a0).getD k 0=b at hc hset hskip;have hb:=b.toNat_lt;by_cases h1:65≤b.toNat
    ·by_cases h2:b.toNat≤90
     ·have e1:(sm b).toNat=b.toNat+32:=by
       unfold sm;rw[if_pos ⟨h1,h2⟩,UInt8.toNat_add];have:(32:UInt8).toNat=32:=rfl;omega
      rw[e1,show((b.toNat+32:Nat):Int)=(b.toNat:Int)+32 from by omega]at hset;clear hskip e1;go_wp2;exact⟨⟨k+1,by omega,by go_num,hset,⟨hB.out.setCell (lL_ _) _⟩⟩,zz135⟩
     ·have e1:sm b=b:=by unfold sm;rw[if_neg (by omega)]
      have hS:Aside0 (SmRow w.heap.size a0 (k+1) wr):=⟨hskip.out e1⟩;clear e1 hset hskip;go_wp2;exact⟨⟨k+1,by omega,by go_num,hS,hB⟩,zz135⟩
    ·have e1:sm b=b:=by unfold sm;rw[if_neg (by omega)]
     have hS:Aside0 (SmRow w.heap.size a0 (k+1) wr):=⟨hskip.out e1⟩;clear e1 hset hskip;go_wp2;exact⟨⟨k+1,by omega,by go_num,hS,hB⟩,zz135⟩
   ·have ek:k=a0.size:=by omega
    have hcells:∀j (hj:j<(L (smallB a0)).length),wr.cell? ((⟨w.heap.size,0,none⟩:Addr).add j)=some (.int .u8 ((L (smallB a0))[j].toNat:Int)):=by
     intro j hj;have hj':j<a0.size:=by rw[L_size,smallB,ofL_size,List.length_map,L_size]at hj;exact hj
     rw[add_plain,(hI.out.2 j hj').1,if_pos (by omega)];simp[smallB,L_of,gD_,gE_ (show j<(L a0).length by rw[L_size];exact hj')]
    have hcv:=run_convert_bytes_back (P:=Tryz.prog) wr 35 9 5 ⟨w.heap.size,0,none⟩ (grownCap w a0.size 0 5) (L (smallB a0)) Tryz.underlying35 Tryz.underlying5 Tryz.underlying9 hcells;have hl:(L (smallB a0)).length=a0.size:=by rw[L_size,smallB,ofL_size,List.length_map,L_size]
    rw[hl,show(⟨(L (smallB a0)).toArray⟩:BA)=smallB a0 from of_L _]at hcv;have Hk:=A_ ek;clear ek hcells hl;go_wp2;go_ret;exact⟨rfl,hB.out⟩
 ·rw[if_neg hs]at h;cases h
def spec_l1Small.f (a0:BA):Option (BA):=if a0.size≤140737488351232 then some (smallB a0)else none
theorem spec_l1Small.calls (a0 r:BA)(w:World)(h:spec_l1Small.f a0=some r):
  Calls Tryz.prog 84 #[.string a0] w fun e w'=>e=.returned (.string r)∧Below w.heap.size w w':=by
 unfold spec_l1Small.f at h
 by_cases hs:a0.size≤140737488351232
 ·rw[if_pos hs]at h
  obtain rfl:=sI h;clear h;have hcv:=Lib.run_convert_string_bytes (P:=Tryz.prog) w 9 35 5 a0 Tryz.underlying9 Tryz.underlying35 Tryz.underlying5;go_enter Tryz.func84,Tryz.ntmps84;go_wp2_with fail;clear hcv;go_loopw [4] (fun i wr=>∃k:Nat,k≤a0.size∧i=.int .i64 k∧Aside0 (SmRow w.heap.size a0 k wr)∧Aside0 (Below w.heap.size w wr))
   (fun i _=>a0.size-(intOf i).toNat)
  case atStart=>
   refine⟨0,Nat.zero_le _,rfl,⟨sm_start w 5 a0⟩,⟨?_⟩⟩;exact sm_below w 5 a0
  case round=>
   obtain⟨k,hk,rfl,hI,hB⟩:=hrel;by_cases hlt:k<a0.size
   ·have hc:=(hI.out.2 k hlt).1
    have hf:=(hI.out.2 k hlt).2;rw[if_neg (by omega)]at hc;have hset:=A_ (sm_set hI.out hlt);have hskip:=A_ (sm_skip hI.out hlt);clear hI;generalize (L a0).getD k 0=b at hc hset hskip;have hb:=b.toNat_lt;by_cases h1:65≤b.toNat
    ·by_cases h2:b.toNat≤90
     ·have e1:(sm b).toNat=b.toNat+32:=by
       unfold sm;rw[if_pos ⟨h1,h2⟩,UInt8.toNat_add];have:(32:UInt8).toNat=32:=rfl;omega
      rw[e1,show((b.toNat+32:Nat):Int)=(b.toNat:Int)+32 from by omega]at hset;clear hskip e1;go_wp2;exact⟨⟨k+1,by omega,by go_num,hset,⟨hB.out.setCell (lL_ _) _⟩⟩,zz135⟩
     ·have e1:sm b=b:=by unfold sm;rw[if_neg (by omega)]
      have hS:Aside0 (SmRow w.heap.size a0 (k+1) wr):=⟨hskip.out e1⟩;clear e1 hset hskip;go_wp2;exact⟨⟨k+1,by omega,by go_num,hS,hB⟩,zz135⟩
    ·have e1:sm b=b:=by unfold sm;rw[if_neg (by omega)]
     have hS:Aside0 (SmRow w.heap.size a0 (k+1) wr):=⟨hskip.out e1⟩;clear e1 hset hskip;go_wp2;exact⟨⟨k+1,by omega,by go_num,hS,hB⟩,zz135⟩
   ·have ek:k=a0.size:=by omega
    have hcells:∀j (hj:j<(L (smallB a0)).length),wr.cell? ((⟨w.heap.size,0,none⟩:Addr).add j)=some (.int .u8 ((L (smallB a0))[j].toNat:Int)):=by
     intro j hj;have hj':j<a0.size:=by rw[L_size,smallB,ofL_size,List.length_map,L_size]at hj;exact hj
     rw[add_plain,(hI.out.2 j hj').1,if_pos (by omega)];simp[smallB,L_of,gD_,gE_ (show j<(L a0).length by rw[L_size];exact hj')]
    have hcv:=run_convert_bytes_back (P:=Tryz.prog) wr 35 9 5 ⟨w.heap.size,0,none⟩ (grownCap w a0.size 0 5) (L (smallB a0)) Tryz.underlying35 Tryz.underlying5 Tryz.underlying9 hcells;have hl:(L (smallB a0)).length=a0.size:=by rw[L_size,smallB,ofL_size,List.length_map,L_size]
    rw[hl,show(⟨(L (smallB a0)).toArray⟩:BA)=smallB a0 from of_L _]at hcv;have Hk:=A_ ek;clear ek hcells hl;go_wp2;go_ret;exact⟨rfl,hB.out⟩
 ·rw[if_neg hs]at h;cases h
end Go.Proofs.YtalfefmnlnkcaaaGreatDoor.P
end
section
namespace Go.Proofs.YtalfefmnlnkcaaaGreatDoor.P
open Go.RowKit Go.Proofs.YtalfefmnlnkcaaaGreatDoorW PrintWords PrintLast PrintMore
attribute [local go_sem] max2_int min2_int max_two min_two max_three min_three max_four min_four
set_option maxHeartbeats 8000000
set_option maxRecDepth 100000
mutual
def impl_AddrOk.j0:Nat→Bool→BA→List BA→Bool→BA→Option (Bool)
 |0,_,_,_,_,_=>none
 |k+1,x14,x275000,x275001,x275002,x275003=>if x14=true then(some false)else(impl_AddrOk.l0 k x275001 (x275001.length:Int) 0 x275000 x275001 x275002 x275003)
def impl_AddrOk.l0:Nat→List BA→Int→Int→BA→List BA→Bool→BA→Option (Bool)
 |0,_,_,_,_,_,_,_=>none
 |k+1,x16,x17,x18,x275000,x275001,x275002,x275003=>if x18<x17 then(if 0≤x18 then(if x18<(x16.length:Int)then(if(rdOf bE_ x16 x18).toList=([]:List UInt8)then(some false)else(if(rdOf bE_ x16 x18).toList=([46]:List UInt8)then(some false)else(if(rdOf bE_ x16 x18).toList=([46,46]:List UInt8)then(some false)else((impl_isNormal.f k (rdOf bE_ x16 x18)).bind fun t277=>(if t277=true then(impl_AddrOk.l0 k x16 x17 (wrap64 (x18+1)) x275000 x275001 x275002 x275003)else(some false))))))else(none))else(none))else((impl_isNormal.f k x275003).bind fun t278=>(if t278=true then(if x275002=true then((impl_writeAddr.f x275000 x275001 x275002 x275003).bind fun t279=>(some (decide ((t279.size:Int)≤60))))else(if x275003.toList=([]:List UInt8)then((impl_writeAddr.f x275000 x275001 x275002 x275003).bind fun t280=>(some (decide ((t280.size:Int)≤60))))else(some false)))else(some false)))
end
def impl_AddrOk.f (k:Nat)(a0_0:BA)(l0_1:List BA)(a0_2:Bool)(a0_3:BA):Option (Bool):=(impl_isHouse.f k a0_0).bind fun t275=>(if t275=true then(impl_AddrOk.j0 k (decide ((l0_1.length:Int)>5)) a0_0 l0_1 a0_2 a0_3)else(impl_AddrOk.j0 k true a0_0 l0_1 a0_2 a0_3))
theorem impl_AddrOk.calls (k:Nat)(a0_0:BA)(A0_1:Option Addr)(c0_1:Nat)(l0_1:List BA)(a0_2:Bool)(a0_3:BA)(r:Bool)(w:World)(hr0_1:Kd.C Kd.string w A0_1 l0_1.length l0_1)(hc0_1:l0_1.length≤c0_1)(h:impl_AddrOk.f k a0_0 l0_1 a0_2 a0_3=some r):
  Calls Tryz.prog 77 #[.agg #[.string a0_0,.slice A0_1 l0_1.length c0_1,.bool a0_2,.string a0_3]] w fun e w'=>e=.returned (.bool r)∧Below w.heap.size w w':=by
 have hu70:=Tryz.underlying70;have HR0_1:=A_ hr0_1;have HC0_1:=A_ hc0_1;clear hr0_1 hc0_1;have HB:=A_ (Below.refl w.heap.size w);unfold impl_AddrOk.f at h;have H:=h;clear h;have HC2:=A_ H;clear H;go_enter Tryz.func77,Tryz.ntmps77;go_upto_region 1 with(first|((with_reducible refine gD (N:=1) rfl ?_);(try(refine gate_guard (by rfl) ?_;dsimp only));refine boxE 1 #[.string a0_0,.slice A0_1 l0_1.length c0_1,.bool a0_2,.string a0_3] 70 ?_;intro gb274 hg w3 hbox hb;have BK274:=A_ (hbox);have GE274:=geB hg (zz2 HB);replace HB:=A_ (bS (zz2 HB) hb);clear hb hbox hg))
 (try simp only[Act.put,lS_,l0_,lC_])
 go_cut [14] (fun v14 wc=>∃(kq:Nat)(x14_1:Bool),v14=.bool x14_1∧Aside0 (impl_AddrOk.j0 kq x14_1 a0_0 l0_1 a0_2 a0_3=some r)∧Aside0 (kq≤k)∧Aside0 (wc.heap[gb274]?=some (.cells #[.string a0_0,(.slice A0_1 l0_1.length c0_1),.bool a0_2,.string a0_3] 70 (0,0)))∧Aside0 (Below w.heap.size w wc))
 case first=>
  obtain⟨H⟩:=HC2;replace H:=bindA H;obtain⟨t275,A4,H⟩:=H;have HF5:=A_ H;clear H;obtain⟨_,_,_,_,_,_,_,_⟩:=cf4 BK274;go_wp2_with (first|(refine gR 67 (some 7) Tryz.func67 (impl_isHouse.calls k a0_0 t275 _ A4.out) ?_;rintro w' ⟨nd,rfl⟩)|((with_reducible refine atG ?_ ?_ fun K_ hK_=>?_);rfl;exact undecG)|((with_reducible refine atI ?_ fun K_ hK_=>?_);exact undecI));refine unG hK_ ?_;clear hK_ K_;obtain⟨H⟩:=HF5;replace H:=iteB H;rcases H with⟨rfl,H⟩|⟨rfl,H⟩
  ·(first|refine iteT ?_|refine iteF ?_|skip)
   have H':=A_ H;clear H;obtain⟨_,_,_,_,_,_,_,_⟩:=cf4 BK274;(try((with_reducible refine upS ?_);go_simp));go_wp2
   go_meet
   case rel=>exact⟨_,(decide ((l0_1.length:Int)>5)),zz5,H',⟨zz6⟩,⟨(zz3 BK274)⟩,⟨(zz4 HB GE274)⟩⟩
  ·(first|refine iteT ?_|refine iteF ?_|skip)
   have H':=A_ H;clear H;(try((with_reducible refine upS ?_);go_simp));go_wp2
   go_meet
   case rel=>exact⟨_,(true),zz5,H',⟨zz6⟩,⟨(zz3 BK274)⟩,⟨(zz4 HB GE274)⟩⟩
 case rest=>
  clear HC2;obtain⟨kq,x14_1,rfl,HA,HJ1,BK274,HB⟩:=hcut;cases kq with
  |zero=>exact absurd HA.out (by simp[impl_AddrOk.j0])
  |succ kj1=>
   obtain⟨H⟩:=HA;simp only[impl_AddrOk.j0]at H;replace H:=iteB H;rcases H with⟨rfl,H⟩|⟨rfl,H⟩
   ·obtain rfl:=sI H
    go_wp2;go_ret;exact⟨zz11,(zz4 HB GE274)⟩
   ·have H':=A_ H
    clear H;obtain⟨_,_,_,_,_,_,_,_⟩:=cf4 BK274;go_wp2
    go_loopg [18] kj1 (fun kq v18 w'=>∃(x18_2:Int),v18=.int .i64 x18_2∧Aside0 (impl_AddrOk.l0 kq l0_1 (l0_1.length:Int) x18_2 a0_0 l0_1 a0_2 a0_3=some r)∧Aside0 (kq≤kj1)∧Aside0 (w'.heap[gb274]?=some (.cells #[.string a0_0,(.slice A0_1 l0_1.length c0_1),.bool a0_2,.string a0_3] 70 (0,0)))∧Aside0 (Below w.heap.size w w'))
    case atStart=>exact⟨(0),zz5,H',⟨lL_ _⟩,⟨(zz3 BK274)⟩,⟨(zz4 HB GE274)⟩⟩
    case round=>
     clear H';obtain⟨x18_2,rfl,HA,HK2,BK274,HB⟩:=hrel;cases gk with
     |zero=>exact absurd HA.out (by simp[impl_AddrOk.l0])
     |succ k2=>
      obtain⟨H⟩:=HA;simp only[impl_AddrOk.l0]at H;replace H:=iteEd H;rcases H with⟨c11b0,H⟩|⟨c11b0,H⟩
      ·replace H:=iteNd H
       obtain⟨c12b0,H⟩:=H;replace H:=iteNd H;obtain⟨c13b0,H⟩:=H;replace H:=iteEq H;rcases H with⟨c14b0,c14b1,H⟩|⟨c14b0,c14b1,c14,H⟩
       ·obtain rfl:=sI H
        obtain⟨⟨ad276,e276,hx276_0⟩,p276,q276⟩:=atB (Kd.at_string HR0_1.out x18_2);cases e276;replace hx276_0:=cbl HB hx276_0;go_wp2;go_ret;exact⟨zz11,(zz4 HB GE274)⟩
       ·replace H:=iteEq H
        rcases H with⟨c15b0,c15b1,H⟩|⟨c15b0,c15b1,c15,H⟩
        ·obtain rfl:=sI H
         obtain⟨⟨ad276,e276,hx276_0⟩,p276,q276⟩:=atB (Kd.at_string HR0_1.out x18_2);cases e276;replace hx276_0:=cbl HB hx276_0;go_wp2;go_ret;exact⟨zz11,(zz4 HB GE274)⟩
        ·replace H:=iteEq H
         rcases H with⟨c16b0,c16b1,H⟩|⟨c16b0,c16b1,c16,H⟩
         ·obtain rfl:=sI H
          obtain⟨⟨ad276,e276,hx276_0⟩,p276,q276⟩:=atB (Kd.at_string HR0_1.out x18_2);cases e276;replace hx276_0:=cbl HB hx276_0;go_wp2;go_ret;exact⟨zz11,(zz4 HB GE274)⟩
         ·replace H:=bindA H
          obtain⟨t277,A17,H⟩:=H;have HF18:=A_ H;clear H;obtain⟨⟨ad276,e276,hx276_0⟩,p276,q276⟩:=atB (Kd.at_string HR0_1.out x18_2);cases e276;replace hx276_0:=cbl HB hx276_0;go_upto_if 36 with(first|(go_at_call 92;(with_reducible refine(impl_isNormal.calls k2 (rdOf bE_ l0_1 x18_2) t277 _ A17.out).mono ?_);rintro e w19 ⟨rfl,hb⟩;replace BK274:=A_ (bB (zz3 BK274) hb);replace HB:=A_ (bS (zz4 HB GE274) hb);(try clear hb)))
          obtain⟨H⟩:=HF18;replace H:=iteB H;rcases H with⟨rfl,H⟩|⟨rfl,H⟩
          ·have H':=A_ H
           clear H;go_wp2
           go_roundg k2
           case measure=>have:=HJ1.out;have:=HK2.out;omega
           case rel=>exact⟨(wrap64 (x18_2+1)),zz5,H',⟨(zz28 HJ1 HK2)⟩,⟨(zz3 BK274)⟩,⟨(zz4 HB GE274)⟩⟩
          ·obtain rfl:=sI H
           go_wp2;go_ret;exact⟨zz11,(zz4 HB GE274)⟩
      ·replace H:=bindA H
       obtain⟨t278,A21,H⟩:=H;have HF22:=A_ H;clear H;obtain⟨_,_,_,_,_,_,_,_⟩:=cf4 BK274;go_wp2_with (first|(refine gR 92 (some 40) Tryz.func92 (impl_isNormal.calls k2 a0_3 t278 _ A21.out) ?_;rintro w24 hb;replace BK274:=A_ (bB (zz3 BK274) hb);replace HB:=A_ (bS (zz4 HB GE274) hb);(try clear hb))|((with_reducible refine atG ?_ ?_ fun K_ hK_=>?_);rfl;exact undecG)|((with_reducible refine atI ?_ fun K_ hK_=>?_);exact undecI));refine unG hK_ ?_;clear hK_ K_;obtain⟨H⟩:=HF22;replace H:=iteB H;rcases H with⟨rfl,H⟩|⟨rfl,H⟩
       ·(first|refine iteT ?_|refine iteF ?_|skip)
        replace H:=iteB H;rcases H with⟨rfl,H⟩|⟨rfl,H⟩
        ·replace H:=bindA H
         obtain⟨t279,A27,H⟩:=H;obtain rfl:=sI H;obtain⟨_,_,_,_,_,_,_,_⟩:=cf4 BK274;go_wp2_with (first|(refine gR 74 (some 53) Tryz.func74 (impl_writeAddr.calls a0_0 _ _ l0_1 true a0_3 t279 _ ?side1 ?side2 A27.out) ?_;(case side1=>exact(zz62 HR0_1 HB));(case side2=>exact HC0_1.out);rintro w29 hb;replace BK274:=A_ (bB (zz3 BK274) hb);replace HB:=A_ (bS (zz4 HB GE274) hb);(try clear hb)));go_ret;exact⟨zz11,(zz4 HB GE274)⟩
        ·replace H:=iteE H
         rcases H with⟨c30,H⟩|⟨c30,H⟩
         ·obtain⟨c30b0,c30b1⟩:=eqT c30
          clear c30;replace H:=bindA H;obtain⟨t280,A31,H⟩:=H;obtain rfl:=sI H;obtain⟨_,_,_,_,_,_,_,_⟩:=cf4 BK274;go_wp2_with (first|(refine gR 74 (some 53) Tryz.func74 (impl_writeAddr.calls a0_0 _ _ l0_1 false a0_3 t280 _ ?side1 ?side2 A31.out) ?_;(case side1=>exact(zz62 HR0_1 HB));(case side2=>exact HC0_1.out);rintro w33 hb;replace BK274:=A_ (bB (zz3 BK274) hb);replace HB:=A_ (bS (zz4 HB GE274) hb);(try clear hb)));go_ret;exact⟨zz11,(zz4 HB GE274)⟩
         ·obtain⟨c30b0,c30b1⟩:=eqF c30
          obtain rfl:=sI H;obtain⟨_,_,_,_,_,_,_,_⟩:=cf4 BK274;go_wp2;go_ret;exact⟨zz11,(zz4 HB GE274)⟩
       ·(first|refine iteT ?_|refine iteF ?_|skip)
        obtain rfl:=sI H;(try((with_reducible refine upS ?_);go_simp));go_wp2;go_ret;exact⟨zz11,(zz4 HB GE274)⟩
def impl_readWay.l0:Nat→BA→BA→Bool→List BA→List BA→Int→Int→Option (BA×List BA×Bool×BA×Bool)
 |0,_,_,_,_,_,_,_=>none
 |k+1,x0,x9,x10,x12,x35,x36,x37=>if x37<x36 then(if 0≤x37 then(if x37<(x35.length:Int)then((impl_EscNorm.f k (rdOf bE_ x35 x37)).bind fun bt322=>(if bt322.2=true then(if x12.length<8796093022208 then(impl_readWay.l0 k x0 x9 x10 (x12++[bt322.1]) x35 x36 (wrap64 (x37+1)))else(none))else(some ((⟨#[]⟩:BA),([]:List BA),false,(⟨#[]⟩:BA),false))))else(none))else(none))else((impl_PathClean.f k x12).bind fun t327=>((impl_AddrOk.f k x0 t327 x10 x9).bind fun t331=>(if t331=true then(some (x0,t327,x10,x9,true))else(some ((⟨#[]⟩:BA),([]:List BA),false,(⟨#[]⟩:BA),false)))))
def impl_readWay.f (k:Nat)(a0:BA)(l1:List BA)(a2:BA):Option (BA×List BA×Bool×BA×Bool):=(strings_Cut.f a2 (⟨#[63]⟩:BA)).bind fun bt310=>((impl_EscNorm.f k bt310.2.1).bind fun bt313=>(if bt313.2=true then((slices_Clone_string_string.f l1).bind fun t315=>((strings_Split.f k bt310.1 (⟨#[47]⟩:BA)).bind fun t318=>(impl_readWay.l0 k a0 bt313.1 bt310.2.2 t315 t318 (t318.length:Int) 0)))else(some ((⟨#[]⟩:BA),([]:List BA),false,(⟨#[]⟩:BA),false))))
theorem impl_readWay.calls (k:Nat)(a0:BA)(A1:Option Addr)(c1:Nat)(l1:List BA)(a2:BA)(r1:BA)(r2:List BA)(r3:Bool)(r4:BA)(r5:Bool)(w:World)(hr1:Kd.C Kd.string w A1 l1.length l1)(hc1:l1.length≤c1)(h:impl_readWay.f k a0 l1 a2=some (r1,r2,r3,r4,r5)):
  Calls Tryz.prog 105 #[.string a0,.slice A1 l1.length c1,.string a2] w fun e w'=>∃v1_:Value,e=.returned (.tuple #[.agg #[.string r1,v1_,.bool r3,.string r4],.bool r5])∧Kd.R Kd.string 9 w' w.heap.size (fun _=>True) v1_ r2∧Below w.heap.size w w':=by
 have hu70:=Tryz.underlying70;have HR1:=A_ hr1;have HC1:=A_ hc1;clear hr1 hc1;have HB:=A_ (Below.refl w.heap.size w);unfold impl_readWay.f at h;have H:=h;clear h;replace H:=bindA H;obtain⟨⟨t310,t311,t312⟩,A4,H⟩:=H;try dsimp only at H;replace H:=bindA H;obtain⟨⟨t313,t314⟩,A5,H⟩:=H;try dsimp only at H;have HF6:=A_ H;clear H;go_enter Tryz.func105,Tryz.ntmps105;go_upto_if 30 with(first|(refine boxF 6 #[.string (⟨#[]⟩:BA),.slice none 0 0,.bool false,.string (⟨#[]⟩:BA)] 70 ?_;intro gb309 hg w7 BK309 hb;have GE309:=geB hg (zz2 HB);replace HB:=A_ (bS (zz2 HB) hb);clear hb hg)|(refine gR 88 (some 20) Tryz.func88 (strings_Cut.calls a2 (⟨#[63]⟩:BA) t310 t311 t312 _ A4.out) ?_;rintro w8 hb;replace BK309:=A_ (bB (zz3 BK309) hb);replace HB:=A_ (bS (zz4 HB GE309) hb);(try clear hb))|(refine gR 109 (some 26) Tryz.func109 (impl_EscNorm.calls k t311 t313 t314 _ A5.out) ?_;rintro w9 hb;replace BK309:=A_ (bB (zz3 BK309) hb);replace HB:=A_ (bS (zz4 HB GE309) hb);(try clear hb)))
 obtain⟨H⟩:=HF6;replace H:=iteB H;rcases H with⟨rfl,H⟩|⟨rfl,H⟩
 ·replace H:=bindA H
  obtain⟨t315,A11,H⟩:=H;replace H:=bindA H;obtain⟨t318,A12,H⟩:=H;have H':=A_ H;clear H;go_wp2_with (first|(refine gV 125 (some 33) Tryz.func125 (slices_Clone_string_string.calls _ _ l1 t315 _ ?side1 ?side2 A11.out) ?_;(case side1=>exact(zz62 HR1 HB));(case side2=>exact HC1.out);rintro v316 w13 ⟨ho0,hb⟩;have HO317:=A_ (Kd.R_lower ho0 (below_size (zz4 HB GE309)));replace BK309:=A_ (bB (zz3 BK309) hb);replace HB:=A_ (bS (zz4 HB GE309) hb);(try clear hb ho0))|(refine gV 126 (some 35) Tryz.func126 (strings_Split.calls k t310 (⟨#[47]⟩:BA) t318 _ A12.out) ?_;rintro v319 w14 ⟨ho0,hb⟩;have HO320:=A_ (Kd.R_lower (Kd.R_new' ho0 (Kd.R_lt (zz23 HO317))) (below_size (zz4 HB GE309)));replace HO317:=A_ (Kd.R_elder' (zz23 HO317) (Kd.R_base ho0) hb);replace BK309:=A_ (bB (zz3 BK309) hb);replace HB:=A_ (bS (zz4 HB GE309) hb);(try clear hb ho0);obtain⟨Ao15,co15,eo15⟩:=Kd.R_slice HO320.out;subst eo15))
  go_loopg [12,37] k (fun kq v12 v37 w'=>∃(x12_1:List BA)(x37_1:Int)(x310000_1:BA)(x310002_1:Bool)(x310003_1:BA),v37=.int .i64 x37_1∧Aside0 (impl_readWay.l0 kq a0 t313 t312 x12_1 t318 (t318.length:Int) x37_1=some (r1,r2,r3,r4,r5))∧Aside0 (kq≤k)∧Aside0 (Kd.R Kd.string 9 w' w.heap.size (fun k_=>some k_≠((.slice Ao15 t318.length co15):Value).ownBlock) v12 x12_1)∧Aside0 (Kd.R Kd.string 9 w' w.heap.size (fun k_=>some k_≠(v12:Value).ownBlock) (.slice Ao15 t318.length co15) t318)∧Aside0 (w'.heap[gb309]?=some (.cells #[.string x310000_1,(.slice none 0 0),.bool x310002_1,.string x310003_1] 70 (0,0)))∧Aside0 (Below w.heap.size w w'))
  case atStart=>exact⟨(t315),(0),((⟨#[]⟩:BA)),(false),((⟨#[]⟩:BA)),zz5,H',⟨lL_ _⟩,⟨(zz74 HO317)⟩,⟨(zz74 HO320)⟩,⟨(zz3 BK309)⟩,⟨(zz4 HB GE309)⟩⟩
  case round=>
   clear H';obtain⟨x12_1,x37_1,x310000_1,x310002_1,x310003_1,rfl,HA,HK1,HO_12,HO_35,BK309,HB⟩:=hrel;cases gk with
   |zero=>exact absurd HA.out (by simp[impl_readWay.l0])
   |succ k1=>
    obtain⟨H⟩:=HA;simp only[impl_readWay.l0]at H;replace H:=iteEd H;rcases H with⟨c16b0,H⟩|⟨c16b0,H⟩
    ·(first|rw[c16b0]|(simp only[i64_w,i32_w];rw[c16b0])|skip)
     replace H:=iteNd H;obtain⟨c17b0,H⟩:=H;replace H:=iteNd H;obtain⟨c18b0,H⟩:=H;replace H:=bindA H;obtain⟨⟨t322,t323⟩,A19,H⟩:=H;try dsimp only at H;have HF20:=A_ H;clear H;obtain⟨⟨ad321,e321,hx321_0⟩,p321,q321⟩:=atB (Kd.at_string (Kd.R_reads' HO_35.out).2.2 x37_1);cases e321
     go_upto_if 47 with(first|(refine gR 109 (some 43) Tryz.func109 (impl_EscNorm.calls k1 (rdOf bE_ t318 x37_1) t322 t323 _ A19.out) ?_;rintro w21 hb;replace HO_12:=A_ (rB (zz23 HO_12) hb);replace HO_35:=A_ (rB (zz23 HO_35) hb);replace BK309:=A_ (bB (zz3 BK309) hb);replace HB:=A_ (bS (zz4 HB GE309) hb);(try clear hb)))
     obtain⟨H⟩:=HF20;replace H:=iteB H;rcases H with⟨rfl,H⟩|⟨rfl,H⟩
     ·replace H:=iteN H
      obtain⟨c23,H⟩:=H;have LMc23:=A_ c23;clear c23;obtain⟨y324,Ny324⟩:=toY (x12_1++[t322]);(first|with_reducible replace H:=bindZ Ny324 H|rw[←Ny324.out]at H|skip);have H':=A_ H;clear H;go_wp2_with (first|((with_reducible refine gate_builtin (b:=.append) (xs:=#[.tmp 49,.tmp 51]) rfl ?_);at_builtin;refine Kd.R_append Kd.string (w0:=w) w.heap.size rfl (.tmp 49) (.tmp 51) 22 9 (.string ⟨#[]⟩) 16 rfl Tryz.underlying22 info9 rfl (by decide) (by omega) u12 x12_1 t322 [.string t322] (fun k_=>some k_≠(.slice (some ad321) t318.length co15:Value).ownBlock) (fun _=>False) rfl rfl ?aP (fun _ hk=>hk.elim) ?aF ?aO ?aB ?aS ?aL ?_;(case aP=>exact rfl);(case aB=>exact(zz4 HB GE309));(case aF=>exact(fun k_ hk=>Kd.fresh' (Kd.R_lt (zz23 HO_35)) k_ hk));(case aO=>exact(zz23 HO_12));(case aS=>exact(below_size (zz4 HB GE309)));(case aL=>exact(zz15 LMc23));intro v325 w24 ho hb hg hat;rw[←Ny324.out]at ho;replace HO_35:=A_ (Kd.R_after (ok:=(fun _=>True)) (zz94 HO_35) hg hat);replace BK309:=A_ (blk_grown (zz3 BK309) hg (Kd.R_ne HO_12.out BK309.out (by decide)));replace HB:=A_ (hb);have HO326:=A_ (ho);clear HO_12;clear ho hb hg hat))
      go_roundg k1
      case measure=>have:=HK1.out;omega
      case rel=>exact⟨(y324),(wrap64 (x37_1+1)),(x310000_1),(x310002_1),(x310003_1),zz5,H',⟨(zz15 HK1)⟩,⟨(zz23 HO326)⟩,⟨(zz74 HO_35)⟩,⟨(zz3 BK309)⟩,⟨(zz4 HB GE309)⟩⟩
     ·simp only[oI_,pI_]at H
      obtain⟨rfl,rfl,rfl,rfl,rfl⟩:=H;obtain⟨_,_,_,_,_,_,_,_⟩:=cf4 BK309;go_wp2;refine pR (results_ct rfl _ _ gb309 70 #[.string (⟨#[]⟩:BA),.slice none 0 0,.bool false,.string (⟨#[]⟩:BA)] (0,0) _ rfl (zz71 BK309) Tryz.underlying70 rfl (by kernel_rfl)) rfl ?_;exact⟨_,zz11,zz25,(zz4 HB GE309)⟩
    ·(first|rw[c16b0]|(simp only[i64_w,i32_w];rw[c16b0])|skip)
     replace H:=bindA H;obtain⟨t327,A26,H⟩:=H;replace H:=bindA H;obtain⟨t331,A27,H⟩:=H;have HF28:=A_ H;clear H;obtain⟨Ao29,co29,eo29⟩:=Kd.R_slice HO_12.out;subst eo29;go_upto_if 62 with(first|(refine gV 127 (some 56) Tryz.func127 (impl_PathClean.calls k1 _ _ x12_1 t327 _ ?side1 ?side2 A26.out) ?_;(case side1=>exact(zz22 HO_12));(case side2=>exact(Kd.R_reads' HO_12.out).2.1);rintro v328 w30 ⟨ho0,hb⟩;have HO329:=A_ (Kd.R_lower (Kd.R_new' (Kd.R_new' ho0 (Kd.R_lt (zz23 HO_12))) (Kd.R_lt (zz23 HO_35))) (below_size (zz4 HB GE309)));replace HO_12:=A_ (Kd.R_elder' (zz23 HO_12) (Kd.R_base ho0) hb);replace HO_35:=A_ (Kd.R_elder' (zz23 HO_35) (Kd.R_base ho0) hb);replace BK309:=A_ (bB (zz3 BK309) hb);replace HB:=A_ (bS (zz4 HB GE309) hb);(try clear hb ho0);obtain⟨Ao31,co31,eo31⟩:=Kd.R_slice HO329.out;subst eo31)|(refine boxF 17 #[.string (⟨#[]⟩:BA),.slice none 0 0,.bool false,.string (⟨#[]⟩:BA)] 70 ?_;intro gb330 hg w32 BK330 hb;replace HO_12:=A_ (rB (zz23 HO_12) hb);replace HO_35:=A_ (rB (zz23 HO_35) hb);replace HO329:=A_ (rB (zz23 HO329) hb);have GE330:=geB hg (zz4 HB GE309);replace HB:=A_ (bS (zz4 HB GE309) hb);have NB309_330:=A_ ((by rw[hg];exact Nat.ne_of_lt (blk_lt (zz3 BK309)):gb309≠gb330));have NB330_309:=A_ ((by rw[hg];exact Nat.ne_of_gt (blk_lt (zz3 BK309)):gb330≠gb309));replace BK309:=A_ (bB (zz3 BK309) hb);clear hb hg;have hnb33:=NB330_309.out;have hnc33:=NB309_330.out;obtain⟨_,_,_,_,_,_,_,_⟩:=cf4 BK330)|((with_reducible refine gC (f:=77) rfl ?_);refine gsL (some 61) Tryz.func77 #[.agg #[.string a0,.slice Ao31 t327.length co31,.bool t312,.string t313]] ?_;(with_reducible refine(impl_AddrOk.calls k1 a0 _ _ t327 t312 t313 t331 _ ?side1 ?side2 A27.out).mono ?_);(case side1=>exact(by refine(Kd.R_reads' (e:=9) (base:=w.heap.size) (ok:=fun k_=>((True∧some k_≠(.slice Ao29 x12_1.length co29:Value).ownBlock)∧some k_≠(.slice Ao15 t318.length co15:Value).ownBlock)) (n:=t327.length) (c:=co31) ?_).2.2;exact(zz139 HO329 BK330)));(case side2=>exact(Kd.R_reads' HO329.out).2.1);rintro e w35 ⟨rfl,hb⟩;refine⟨_,rfl,?_⟩;replace HO_12:=A_ (rB (zz139 HO_12 BK330) hb);replace HO_35:=A_ (rB (zz139 HO_35 BK330) hb);replace HO329:=A_ (rB (zz139 HO329 BK330) hb);replace BK309:=A_ (bB (g:=gb309) (o:=.cells #[.string x310000_1,.slice none 0 0,.bool x310002_1,.string x310003_1] 70 (0,0)) (zz90 BK309 NB309_330) hb);replace BK330:=A_ (bB (g:=gb330) (o:=.cells #[.string a0,.slice Ao31 t327.length co31,.bool t312,.string t313] 70 (0,0)) (zz71 BK330) hb);replace HB:=A_ (bS (zz46 HB GE309 GE330) hb);(try clear hb)))
     obtain⟨H⟩:=HF28;replace H:=iteB H;rcases H with⟨rfl,H⟩|⟨rfl,H⟩
     ·simp only[oI_,pI_]at H
      obtain⟨rfl,rfl,rfl,rfl,rfl⟩:=H;have hnb37:=NB330_309.out;have hnc37:=NB309_330.out;obtain⟨_,_,_,_,_,_,_,_⟩:=cf4 BK330;obtain⟨_,_,_,_,_,_,_,_⟩:=cf4 BK309;go_wp2;refine pR (results_ct rfl _ _ gb309 70 #[.string a0,.slice Ao31 t327.length co31,.bool t312,.string t313] (0,0) _ rfl (zz71 BK309) Tryz.underlying70 rfl (by kernel_rfl)) rfl ?_;exact⟨_,zz11,(zz75 (rt HO329 BK309)),(zz46 HB GE309 GE330)⟩
     ·simp only[oI_,pI_]at H
      obtain⟨rfl,rfl,rfl,rfl,rfl⟩:=H;have hnb40:=NB309_330.out;have hnc40:=NB330_309.out;obtain⟨_,_,_,_,_,_,_,_⟩:=cf4 BK309;go_wp2;refine pR (results_ct rfl _ _ gb309 70 #[.string (⟨#[]⟩:BA),.slice none 0 0,.bool false,.string (⟨#[]⟩:BA)] (0,0) _ rfl (zz71 BK309) Tryz.underlying70 rfl (by kernel_rfl)) rfl ?_;exact⟨_,zz11,zz25,(zz46 HB GE309 GE330)⟩
 ·simp only[oI_,pI_]at H
  obtain⟨rfl,rfl,rfl,rfl,rfl⟩:=H;obtain⟨_,_,_,_,_,_,_,_⟩:=cf4 BK309;go_wp2;refine pR (results_ct rfl _ _ gb309 70 #[.string (⟨#[]⟩:BA),.slice none 0 0,.bool false,.string (⟨#[]⟩:BA)] (0,0) _ rfl (zz71 BK309) Tryz.underlying70 rfl (by kernel_rfl)) rfl ?_;exact⟨_,zz11,zz25,(zz4 HB GE309)⟩
def impl_readWhole.f (k:Nat)(a0:BA):Option (BA×List BA×Bool×BA×Bool):=(strings_CutPrefix.f a0 (⟨#[47,47]⟩:BA)).bind fun bt333=>(if bt333.2=true then((strings_IndexAny.f bt333.1 (⟨#[47,63]⟩:BA)).bind fun t335=>(if t335<0 then(if 0≤(bt333.1.size:Int)then(if(bt333.1.size:Int)≤(bt333.1.size:Int)then((impl_smallLetters.f (bt333.1.extract 0 ((bt333.1.size:Int):Int).toNat)).bind fun t336=>((impl_readWay.f k t336 ([]:List BA) (bt333.1.extract ((bt333.1.size:Int):Int).toNat bt333.1.size)).bind fun bt337=>(some (bt337.1,bt337.2.1,bt337.2.2.1,bt337.2.2.2.1,bt337.2.2.2.2))))else(none))else(none))else(if 0≤t335 then(if t335≤(bt333.1.size:Int)then((impl_smallLetters.f (bt333.1.extract 0 (t335:Int).toNat)).bind fun t344=>((impl_readWay.f k t344 ([]:List BA) (bt333.1.extract (t335:Int).toNat bt333.1.size)).bind fun bt345=>(some (bt345.1,bt345.2.1,bt345.2.2.1,bt345.2.2.2.1,bt345.2.2.2.2))))else(none))else(none))))else(some ((⟨#[]⟩:BA),([]:List BA),false,(⟨#[]⟩:BA),false)))
def impl_readWhole.T7:Bool×List (List Nat×List Nat):=(true,[([],[]),([],[]),([0,1],[0,1]),([2],[2]),([],[]),([],[]),([4,5],[4,5]),([3,6,3],[3,6]),([7],[7]),([7],[7]),([8,7,0,1,2,3,4,5,6,7,8,9],[8]),([9,10,0,1,2,3,4,5,6,7,8,9,10],[9])])
def impl_readWhole.B7:List Nat:=[0,0,3,7,0,0,48,127,255,255,1023,2047]
theorem impl_readWhole.tab7:rtab .any (opsOf Tryz.f89 7)=impl_readWhole.T7:=by kernel_rfl
theorem impl_readWhole.bits7:waitsOk impl_readWhole.T7.2 impl_readWhole.B7=true:=by kernel_rfl
theorem impl_readWhole.calls (k:Nat)(a0:BA)(r1:BA)(r2:List BA)(r3:Bool)(r4:BA)(r5:Bool)(w:World)(h:impl_readWhole.f k a0=some (r1,r2,r3,r4,r5)):
  Calls Tryz.prog 89 #[.string a0] w fun e w'=>∃v1_:Value,e=.returned (.tuple #[.agg #[.string r1,v1_,.bool r3,.string r4],.bool r5])∧Kd.R Kd.string 9 w' w.heap.size (fun _=>True) v1_ r2∧Below w.heap.size w w':=by
 have hu70:=Tryz.underlying70;have HB:=A_ (Below.refl w.heap.size w);unfold impl_readWhole.f at h;have H:=h;clear h;replace H:=bindA H;obtain⟨⟨t333,t334⟩,A2,H⟩:=H;try dsimp only at H;have HF3:=A_ H;clear H;go_enter Tryz.func89,Tryz.ntmps89;go_upto_if 13 with(first|(refine boxF 2 #[.string (⟨#[]⟩:BA),.slice none 0 0,.bool false,.string (⟨#[]⟩:BA)] 70 ?_;intro gb332 hg w4 BK332 hb;have GE332:=geB hg (zz2 HB);replace HB:=A_ (bS (zz2 HB) hb);clear hb hg)|((with_reducible refine gC (f:=103) rfl ?_);refine goesL_ (some 9) rfl rfl Tryz.func103 (by kernel_rfl) rfl #[.string a0,.string (⟨#[47,47]⟩:BA)] rfl zz141 ?_;(with_reducible refine(strings_CutPrefix.calls a0 (⟨#[47,47]⟩:BA) t333 t334 _ A2.out).mono ?_);rintro e w' ⟨rfl,⟨nd,rfl⟩⟩;refine⟨_,rfl,?_⟩))
 obtain⟨H⟩:=HF3;replace H:=iteB H;rcases H with⟨rfl,H⟩|⟨rfl,H⟩
 ·replace H:=bindA H
  obtain⟨t335,A6,H⟩:=H;have HF7:=A_ H;clear H;go_upto_if 18 with(first|((with_reducible refine gC (f:=104) rfl ?_);refine goesL_ (some 16) rfl rfl Tryz.func104 (by kernel_rfl) rfl #[.string t333,.string (⟨#[47,63]⟩:BA)] rfl zz141 ?_;(with_reducible refine mR (strings_IndexAny.calls t333 (⟨#[47,63]⟩:BA) t335 _ A6.out) ?_);rintro w8 hb;replace BK332:=A_ (bB (zz3 BK332) hb);replace HB:=A_ (bS (zz4 HB GE332) hb);(try clear hb)))
  obtain⟨H⟩:=HF7;replace H:=iteEd H;rcases H with⟨c9b0,H⟩|⟨c9b0,H⟩
  ·(first|rw[c9b0]|(simp only[i64_w,i32_w];rw[c9b0])|skip)
   replace H:=iteN H;obtain⟨c10,H⟩:=H;have c10b0:=eq_true c10;have c10b1:=dT c10;clear c10;replace H:=iteN H;obtain⟨c11,H⟩:=H;have c11b0:=eq_true c11;have c11b1:=dT c11;clear c11;replace H:=bindA H;obtain⟨t336,A12,H⟩:=H;have c13b0:=eq_true (ofD:0≤(t333.size:Int));have c14b0:=eq_true (ofD:(t333.size:Int)≤(t333.size:Int));replace H:=bindA H;obtain⟨⟨t337,t338,t341,t342,t343⟩,A15,H⟩:=H;try dsimp only at H;simp only[oI_,pI_]at H;obtain⟨rfl,rfl,rfl,rfl,rfl⟩:=H;try go_wp2;replace BK332:=A_ (blk_drew BK332.out);replace HB:=A_ (below_drew1 HB.out);refine start_ (n:=12) (S:=fun w'=>True) (ds:=[]) #[yF,yF,yF,yF,yF,yF,yF,yF,yF,yF,yF,yF] (by kernel_rfl) rfl rfl trivial (fun hHeld=>?_);refine with_tabW impl_readWhole.tab7 impl_readWhole.bits7 (fun HT_ HW_=>?_);generalize w8.drew=w16 at BK332 HB hHeld ⊢;refine pureZ 0 (some 21) (yA 1 11) ?_;refine pureZ 1 (some 22) (yA 2 10) ?_;refine pureZ 2 (some 23) (yA 3 9) ?_;refine pureZ 4 (some 25) #[yT,yT,yT,yF,yT,yF,yF,yF,yF,yF,yF,yF] ?_;refine pureZ 5 (some 26) #[yT,yT,yT,yF,yT,yT,yF,yF,yF,yF,yF,yF] ?_;refine pureZ 6 (some 27) #[yT,yT,yT,yF,yT,yT,yT,yF,yF,yF,yF,yF] ?_;refine oneZ 3 (some 24) (yA 7 5) (fun K hK=>?_);refine goes_ Tryz.func106 (by kernel_rfl) rfl #[.string (t333.extract 0 ((t333.size:Int):Int).toNat)] (by rfl) rfl rfl zz141 ?_;with_reducible refine(impl_smallLetters.calls (t333.extract 0 ((t333.size:Int):Int).toNat) t336 _ A12.out).mono ?_;rintro e w17 ⟨rfl,hb⟩;refine⟨_,rfl,?_⟩;replace BK332:=A_ (bB (zz3 BK332) hb);replace HB:=A_ (bS (zz4 HB GE332) hb);(try clear hb)
   (try clear hb2)
   (try clear hk)
   (try clear hi)
   refine hK.out _ _ trivial (fun hHeld=>?_);clear hK K;refine nZ 24 ?_;refine oneZ 7 (some 28) (yA 8 4) (fun K hK=>?_);refine goes_ Tryz.func105 (by kernel_rfl) rfl #[.string t336,.slice none 0 0,.string (t333.extract ((t333.size:Int):Int).toNat t333.size)] (by rfl) rfl rfl zz141 ?_;refine(impl_readWay.calls k t336 _ _ ([]:List BA) (t333.extract ((t333.size:Int):Int).toNat t333.size) t337 t338 t341 t342 t343 _ ?side1 ?side2 A15.out).mono ?_;(case side1=>exact Kd.C_nil _ _)
   (case side2=>exact lL_ _)
   rintro e w18 ⟨v339,rfl,ho0,hb⟩;refine⟨_,rfl,?_⟩;have HO340:=A_ (Kd.R_lower ho0 (below_size (zz4 HB GE332)));replace BK332:=A_ (bB (zz3 BK332) hb);replace HB:=A_ (bS (zz4 HB GE332) hb);(try clear hb)
   (try clear hb2)
   (try clear hk)
   (try clear hi)
   (try clear ho0)
   obtain⟨Ao20,co20,eo20⟩:=Kd.R_slice HO340.out;(first|subst eo20|(injection eo20 with f1_ f2_ f3_;have f4_:=f1_.symm;have f5_:=f3_.symm;clear f1_ f2_ f3_;subst f4_;subst f5_));refine hK.out _ _ trivial (fun hHeld=>?_);clear hK K;refine nZ 28 ?_;refine pureZ 8 (some 29) (yA 9 3) ?_;refine pureZ 9 (some 30) (yA 10 2) ?_;refine oneZ 10 (none) (yA 11 1) (fun K hK=>?_);have hs19:w18.cell? ⟨gb332,0,none⟩=some (.string (⟨#[]⟩:BA)):=(blk_cell BK332.out 0).trans rfl;have hfs19:=blk_frozen BK332.out 0;have hs21:w18.cell? ⟨gb332,1,none⟩=some (.slice none 0 0):=(blk_cell BK332.out 1).trans rfl;have hfs21:=blk_frozen BK332.out 1;have hs22:w18.cell? ⟨gb332,2,none⟩=some (.bool false):=(blk_cell BK332.out 2).trans rfl;have hfs22:=blk_frozen BK332.out 2;have hs23:w18.cell? ⟨gb332,3,none⟩=some (.string (⟨#[]⟩:BA)):=(blk_cell BK332.out 3).trans rfl;have hfs23:=blk_frozen BK332.out 3;refine skip_ (w1:=?_) (by rfl) rfl ?_ ?_;rotate_left
   ·go_simp
    rfl
   refine hK.out _ _ trivial (fun hHeld=>?_);clear hK K;refine pureZ 11 (some 3) (yA 12 0) ?_;refine done_ (done_of HT_.out (by kernel_rfl)) ?_;try go_wp2;refine pR (results_ct rfl _ _ gb332 70 #[.string t337,.slice Ao20 t338.length co20,.bool t341,.string t342] (0,0) _ rfl (zz71 BK332) Tryz.underlying70 rfl (by kernel_rfl)) rfl ?_;exact⟨_,zz11,(zz75 (rt HO340 BK332)),(zz4 HB GE332)⟩
  ·(first|rw[c9b0]|(simp only[i64_w,i32_w];rw[c9b0])|skip)
   replace H:=iteN H;obtain⟨c24,H⟩:=H;have c24b0:=eq_true c24;have c24b1:=dT c24;clear c24;replace H:=iteN H;obtain⟨c25,H⟩:=H;have c25b0:=eq_true c25;have c25b1:=dT c25;clear c25;replace H:=bindA H;obtain⟨t344,A26,H⟩:=H;have c27b0:=eq_true (ofD:0≤t335);have c28b0:=eq_true (ofD:t335≤(t333.size:Int));replace H:=bindA H;obtain⟨⟨t345,t346,t349,t350,t351⟩,A29,H⟩:=H;try dsimp only at H;simp only[oI_,pI_]at H;obtain⟨rfl,rfl,rfl,rfl,rfl⟩:=H;try go_wp2;replace BK332:=A_ (blk_drew BK332.out);replace HB:=A_ (below_drew1 HB.out);refine start_ (n:=12) (S:=fun w'=>True) (ds:=[]) #[yF,yF,yF,yF,yF,yF,yF,yF,yF,yF,yF,yF] (by kernel_rfl) rfl rfl trivial (fun hHeld=>?_);refine with_tabW impl_readWhole.tab7 impl_readWhole.bits7 (fun HT_ HW_=>?_);generalize w8.drew=w30 at BK332 HB hHeld ⊢;refine pureZ 0 (some 21) (yA 1 11) ?_;refine pureZ 1 (some 22) (yA 2 10) ?_;refine pureZ 2 (some 23) (yA 3 9) ?_;refine pureZ 4 (some 25) #[yT,yT,yT,yF,yT,yF,yF,yF,yF,yF,yF,yF] ?_;refine pureZ 5 (some 26) #[yT,yT,yT,yF,yT,yT,yF,yF,yF,yF,yF,yF] ?_;refine pureZ 6 (some 27) #[yT,yT,yT,yF,yT,yT,yT,yF,yF,yF,yF,yF] ?_;refine oneZ 3 (some 24) (yA 7 5) (fun K hK=>?_);refine goes_ Tryz.func106 (by kernel_rfl) rfl #[.string (t333.extract 0 (t335:Int).toNat)] (by rfl) rfl rfl zz141 ?_;with_reducible refine(impl_smallLetters.calls (t333.extract 0 (t335:Int).toNat) t344 _ A26.out).mono ?_;rintro e w31 ⟨rfl,hb⟩;refine⟨_,rfl,?_⟩;replace BK332:=A_ (bB (zz3 BK332) hb);replace HB:=A_ (bS (zz4 HB GE332) hb);(try clear hb)
   (try clear hb2)
   (try clear hk)
   (try clear hi)
   refine hK.out _ _ trivial (fun hHeld=>?_);clear hK K;refine nZ 24 ?_;refine oneZ 7 (some 28) (yA 8 4) (fun K hK=>?_);refine goes_ Tryz.func105 (by kernel_rfl) rfl #[.string t344,.slice none 0 0,.string (t333.extract (t335:Int).toNat t333.size)] (by rfl) rfl rfl zz141 ?_;refine(impl_readWay.calls k t344 _ _ ([]:List BA) (t333.extract (t335:Int).toNat t333.size) t345 t346 t349 t350 t351 _ ?side1 ?side2 A29.out).mono ?_;(case side1=>exact Kd.C_nil _ _)
   (case side2=>exact lL_ _)
   rintro e w32 ⟨v347,rfl,ho0,hb⟩;refine⟨_,rfl,?_⟩;have HO348:=A_ (Kd.R_lower ho0 (below_size (zz4 HB GE332)));replace BK332:=A_ (bB (zz3 BK332) hb);replace HB:=A_ (bS (zz4 HB GE332) hb);(try clear hb)
   (try clear hb2)
   (try clear hk)
   (try clear hi)
   (try clear ho0)
   obtain⟨Ao34,co34,eo34⟩:=Kd.R_slice HO348.out;(first|subst eo34|(injection eo34 with f1_ f2_ f3_;have f4_:=f1_.symm;have f5_:=f3_.symm;clear f1_ f2_ f3_;subst f4_;subst f5_));refine hK.out _ _ trivial (fun hHeld=>?_);clear hK K;refine nZ 28 ?_;refine pureZ 8 (some 29) (yA 9 3) ?_;refine pureZ 9 (some 30) (yA 10 2) ?_;refine oneZ 10 (none) (yA 11 1) (fun K hK=>?_);have hs33:w32.cell? ⟨gb332,0,none⟩=some (.string (⟨#[]⟩:BA)):=(blk_cell BK332.out 0).trans rfl;have hfs33:=blk_frozen BK332.out 0;have hs35:w32.cell? ⟨gb332,1,none⟩=some (.slice none 0 0):=(blk_cell BK332.out 1).trans rfl;have hfs35:=blk_frozen BK332.out 1;have hs36:w32.cell? ⟨gb332,2,none⟩=some (.bool false):=(blk_cell BK332.out 2).trans rfl;have hfs36:=blk_frozen BK332.out 2;have hs37:w32.cell? ⟨gb332,3,none⟩=some (.string (⟨#[]⟩:BA)):=(blk_cell BK332.out 3).trans rfl;have hfs37:=blk_frozen BK332.out 3;refine skip_ (w1:=?_) (by rfl) rfl ?_ ?_;rotate_left
   ·go_simp
    rfl
   refine hK.out _ _ trivial (fun hHeld=>?_);clear hK K;refine pureZ 11 (some 3) (yA 12 0) ?_;refine done_ (done_of HT_.out (by kernel_rfl)) ?_;try go_wp2;refine pR (results_ct rfl _ _ gb332 70 #[.string t345,.slice Ao34 t346.length co34,.bool t349,.string t350] (0,0) _ rfl (zz71 BK332) Tryz.underlying70 rfl (by kernel_rfl)) rfl ?_;exact⟨_,zz11,(zz75 (rt HO348 BK332)),(zz4 HB GE332)⟩
 ·simp only[oI_,pI_]at H
  obtain⟨rfl,rfl,rfl,rfl,rfl⟩:=H;obtain⟨_,_,_,_,_,_,_,_⟩:=cf4 BK332;go_wp2;refine pR (results_ct rfl _ _ gb332 70 #[.string (⟨#[]⟩:BA),.slice none 0 0,.bool false,.string (⟨#[]⟩:BA)] (0,0) _ rfl (zz71 BK332) Tryz.underlying70 rfl (by kernel_rfl)) rfl ?_;exact⟨_,zz11,zz25,(zz4 HB GE332)⟩
def impl_AddrRead.f (k:Nat)(a0:BA):Option (BA×List BA×Bool×BA×Bool):=if(a0.size:Int)>60 then(some ((⟨#[]⟩:BA),([]:List BA),false,(⟨#[]⟩:BA),false))else((strings_Cut.f a0 (⟨#[35]⟩:BA)).bind fun bt353=>((impl_readWhole.f k bt353.1).bind fun bt356=>(some (bt356.1,bt356.2.1,bt356.2.2.1,bt356.2.2.2.1,bt356.2.2.2.2))))
theorem impl_AddrRead.calls (k:Nat)(a0:BA)(r1:BA)(r2:List BA)(r3:Bool)(r4:BA)(r5:Bool)(w:World)(h:impl_AddrRead.f k a0=some (r1,r2,r3,r4,r5)):
  Calls Tryz.prog 73 #[.string a0] w fun e w'=>∃v1_:Value,e=.returned (.tuple #[.agg #[.string r1,v1_,.bool r3,.string r4],.bool r5])∧Kd.R Kd.string 9 w' w.heap.size (fun _=>True) v1_ r2∧Below w.heap.size w w':=by
 have hu70:=Tryz.underlying70;have HB:=A_ (Below.refl w.heap.size w);unfold impl_AddrRead.f at h;have H:=h;clear h;have HF2:=A_ H;clear H;go_enter Tryz.func73,Tryz.ntmps73;go_upto_if 9 with(first|(refine boxF 2 #[.string (⟨#[]⟩:BA),.slice none 0 0,.bool false,.string (⟨#[]⟩:BA)] 70 ?_;intro gb352 hg w3 BK352 hb;have GE352:=geB hg (zz2 HB);replace HB:=A_ (bS (zz2 HB) hb);clear hb hg))
 obtain⟨H⟩:=HF2;replace H:=iteE H;rcases H with⟨c4,H⟩|⟨c4,H⟩
 ·have c4b0:=gtT c4
  have c4b1:decide (60<a0.size)=true:=dT (by omega);clear c4;(first|rw[c4b0]|(simp only[i64_w,i32_w];rw[c4b0])|skip);simp only[oI_,pI_]at H;obtain⟨rfl,rfl,rfl,rfl,rfl⟩:=H;obtain⟨_,_,_,_,_,_,_,_⟩:=cf4 BK352;go_wp2;refine pR (results_ct rfl _ _ gb352 70 #[.string (⟨#[]⟩:BA),.slice none 0 0,.bool false,.string (⟨#[]⟩:BA)] (0,0) _ rfl (zz71 BK352) Tryz.underlying70 rfl (by kernel_rfl)) rfl ?_;exact⟨_,zz11,zz25,(zz4 HB GE352)⟩
 ·have c4b0:=gtF c4
  have c4b1:decide (60<a0.size)=false:=dF (by omega);clear c4;(first|rw[c4b0]|(simp only[i64_w,i32_w];rw[c4b0])|skip);replace H:=bindA H;obtain⟨⟨t353,t354,t355⟩,A6,H⟩:=H;try dsimp only at H;replace H:=bindA H;obtain⟨⟨t356,t357,t360,t361,t362⟩,A7,H⟩:=H;try dsimp only at H;simp only[oI_,pI_]at H;obtain⟨rfl,rfl,rfl,rfl,rfl⟩:=H;go_wp2_with (first|(refine gR 88 (some 13) Tryz.func88 (strings_Cut.calls a0 (⟨#[35]⟩:BA) t353 t354 t355 _ A6.out) ?_;rintro w8 hb;replace BK352:=A_ (bB (zz3 BK352) hb);replace HB:=A_ (bS (zz4 HB GE352) hb);(try clear hb))|(refine gV 89 (some 18) Tryz.func89 (impl_readWhole.calls k t353 t356 t357 t360 t361 t362 _ A7.out) ?_;rintro v358 w9 ⟨ho0,hb⟩;have HO359:=A_ (Kd.R_lower ho0 (below_size (zz4 HB GE352)));replace BK352:=A_ (bB (zz3 BK352) hb);replace HB:=A_ (bS (zz4 HB GE352) hb);(try clear hb ho0);obtain⟨_,_,_,_,_,_,_,_⟩:=cf4 BK352;obtain⟨Ao11,co11,eo11⟩:=Kd.R_slice HO359.out;subst eo11));refine pR (results_ct rfl _ _ gb352 70 #[.string t356,.slice Ao11 t357.length co11,.bool t360,.string t361] (0,0) _ rfl (zz71 BK352) Tryz.underlying70 rfl (by kernel_rfl)) rfl ?_;exact⟨_,zz11,(zz75 (rt HO359 BK352)),(zz4 HB GE352)⟩
def impl_readAddress.f (k:Nat)(a0:BA):Option (BA×List BA×Bool×BA×Bool):=(impl_AddrRead.f k a0).bind fun bt364=>(if bt364.2.2.2.2=true then((impl_writeAddr.f bt364.1 bt364.2.1 bt364.2.2.1 bt364.2.2.2.1).bind fun t372=>(if t372.toList=a0.toList then(some (bt364.1,bt364.2.1,bt364.2.2.1,bt364.2.2.2.1,true))else(some ((⟨#[]⟩:BA),([]:List BA),false,(⟨#[]⟩:BA),false))))else(some ((⟨#[]⟩:BA),([]:List BA),false,(⟨#[]⟩:BA),false)))
theorem impl_readAddress.calls (k:Nat)(a0:BA)(r1:BA)(r2:List BA)(r3:Bool)(r4:BA)(r5:Bool)(w:World)(h:impl_readAddress.f k a0=some (r1,r2,r3,r4,r5)):
  Calls Tryz.prog 52 #[.string a0] w fun e w'=>∃v1_:Value,e=.returned (.tuple #[.agg #[.string r1,v1_,.bool r3,.string r4],.bool r5])∧Kd.R Kd.string 9 w' w.heap.size (fun _=>True) v1_ r2∧Below w.heap.size w w':=by
 have hu70:=Tryz.underlying70;have HB:=A_ (Below.refl w.heap.size w);unfold impl_readAddress.f at h;have H:=h;clear h;replace H:=bindA H;obtain⟨⟨t364,t365,t368,t369,t370⟩,A2,H⟩:=H;try dsimp only at H;have HF3:=A_ H;clear H;go_enter Tryz.func52,Tryz.ntmps52;go_wp2_with (first|(refine boxF 2 #[.string (⟨#[]⟩:BA),.slice none 0 0,.bool false,.string (⟨#[]⟩:BA)] 70 ?_;intro gb363 hg w4 BK363 hb;have GE363:=geB hg (zz2 HB);replace HB:=A_ (bS (zz2 HB) hb);clear hb hg)|(refine gV 73 (some 8) Tryz.func73 (impl_AddrRead.calls k a0 t364 t365 t368 t369 t370 _ A2.out) ?_;rintro v366 w5 ⟨ho0,hb⟩;have HO367:=A_ (Kd.R_lower ho0 (below_size (zz4 HB GE363)));replace BK363:=A_ (bB (zz3 BK363) hb);replace HB:=A_ (bS (zz4 HB GE363) hb);(try clear hb ho0))|(refine boxF 4 #[.string (⟨#[]⟩:BA),.slice none 0 0,.bool false,.string (⟨#[]⟩:BA)] 70 ?_;intro gb371 hg w6 BK371 hb;replace HO367:=A_ (rB (zz23 HO367) hb);have GE371:=geB hg (zz4 HB GE363);replace HB:=A_ (bS (zz4 HB GE363) hb);have NB363_371:=A_ ((by rw[hg];exact Nat.ne_of_lt (blk_lt (zz3 BK363)):gb363≠gb371));have NB371_363:=A_ ((by rw[hg];exact Nat.ne_of_gt (blk_lt (zz3 BK363)):gb371≠gb363));replace BK363:=A_ (bB (zz3 BK363) hb);clear hb hg;have hnb7:=NB371_363.out;have hnc7:=NB363_371.out;obtain⟨_,_,_,_,_,_,_,_⟩:=cf4 BK371;obtain⟨Ao9,co9,eo9⟩:=Kd.R_slice HO367.out;subst eo9)|((with_reducible refine gate_store (t:=70) (p:=4) rfl ?_);refine store_event (t:=70) (p:=4) (v:=?vo_w10) (w1:=((((w6.setCell ⟨gb371,0,none⟩ (.string t364)).setCell ⟨gb371,1,none⟩ (.slice Ao9 t365.length co9)).setCell ⟨gb371,2,none⟩ (.bool t368)).setCell ⟨gb371,3,none⟩ (.string t369))) ?hg ?ho ?hn ?hr ?_;(case ho=>rfl);(case hg=>rfl);(case hn=>rfl);(case hr=>exact zz21);intro w10 hw;have n0_:Aside0 (Kd.R Kd.string 9 w10 w.heap.size (fun _=>True) (.slice Ao9 t365.length co9) t365):=⟨(by rw[hw];exact(zz75 (rt HO367 BK371)))⟩;have n1_:Aside0 (w10.heap[gb363]?=some (.cells #[.string (⟨#[]⟩:BA),.slice none 0 0,.bool false,.string (⟨#[]⟩:BA)] 70 (0,0))):=⟨(by rw[hw];exact(zz90 BK363 NB363_371))⟩;have n2_:Aside0 (w10.heap[gb371]?=some (.cells #[.string t364,.slice Ao9 t365.length co9,.bool t368,.string t369] 70 (0,0))):=⟨(by rw[hw];exact(zz71 BK371))⟩;have n3_:Aside0 (Below w.heap.size w w10):=⟨(by rw[hw];exact(zz46 HB GE363 GE371))⟩;clear hw;clear HO367;clear BK363;clear BK371;clear HB;have HO367:=n0_;have BK363:=n1_;have BK371:=n2_;have HB:=n3_;clear n0_ n1_ n2_ n3_)|((with_reducible refine atG ?_ ?_ fun K_ hK_=>?_);rfl;exact undecG)|((with_reducible refine atI ?_ fun K_ hK_=>?_);exact undecI));refine unG hK_ ?_;clear hK_ K_;obtain⟨H⟩:=HF3;replace H:=iteB H;rcases H with⟨rfl,H⟩|⟨rfl,H⟩
 ·(first|refine iteT ?_|refine iteF ?_|skip)
  replace H:=bindA H;obtain⟨t372,A12,H⟩:=H;have HF13:=A_ H;clear H;have hnb14:=NB371_363.out;have hnc14:=NB363_371.out;obtain⟨_,_,_,_,_,_,_,_⟩:=cf4 BK371;(try((with_reducible refine upS ?_);go_simp))
  go_upto_if 18 with(first|(go_at_call 74;(with_reducible refine(impl_writeAddr.calls t364 _ _ t365 t368 t369 t372 _ ?side1 ?side2 A12.out).mono ?_);(case side1=>exact(zz22 HO367));(case side2=>exact(Kd.R_reads' HO367.out).2.1);rintro e w16 ⟨rfl,hb⟩;replace HO367:=A_ (rB (zz23 HO367) hb);replace BK363:=A_ (bB (zz3 BK363) hb);replace BK371:=A_ (bB (zz3 BK371) hb);replace HB:=A_ (bS (zz46 HB GE363 GE371) hb);(try clear hb)))
  obtain⟨H⟩:=HF13;replace H:=iteEq H;rcases H with⟨c17b0,c17b1,H⟩|⟨c17b0,c17b1,c17,H⟩
  ·(first|rw[c17b0]|(simp only[i64_w,i32_w];rw[c17b0])|skip)
   simp only[oI_,pI_]at H;obtain⟨rfl,rfl,rfl,rfl,rfl⟩:=H;have hnb18:=NB371_363.out;have hnc18:=NB363_371.out;obtain⟨_,_,_,_,_,_,_,_⟩:=cf4 BK371;obtain⟨_,_,_,_,_,_,_,_⟩:=cf4 BK363;go_wp2;refine pR (results_ct rfl _ _ gb363 70 #[.string t364,.slice Ao9 t365.length co9,.bool t368,.string t369] (0,0) _ rfl (zz71 BK363) Tryz.underlying70 rfl (by kernel_rfl)) rfl ?_;exact⟨_,zz11,(zz75 (rt HO367 BK363)),(zz46 HB GE363 GE371)⟩
  ·(first|rw[c17b0]|(simp only[i64_w,i32_w];rw[c17b0])|skip)
   simp only[oI_,pI_]at H;obtain⟨rfl,rfl,rfl,rfl,rfl⟩:=H;have hnb21:=NB363_371.out;have hnc21:=NB371_363.out;obtain⟨_,_,_,_,_,_,_,_⟩:=cf4 BK363;go_wp2;refine pR (results_ct rfl _ _ gb363 70 #[.string (⟨#[]⟩:BA),.slice none 0 0,.bool false,.string (⟨#[]⟩:BA)] (0,0) _ rfl (zz71 BK363) Tryz.underlying70 rfl (by kernel_rfl)) rfl ?_;exact⟨_,zz11,zz25,(zz46 HB GE363 GE371)⟩
 ·(first|refine iteT ?_|refine iteF ?_|skip)
  simp only[oI_,pI_]at H;obtain⟨rfl,rfl,rfl,rfl,rfl⟩:=H;have hnb23:=NB363_371.out;have hnc23:=NB371_363.out;obtain⟨_,_,_,_,_,_,_,_⟩:=cf4 BK363;(try((with_reducible refine upS ?_);go_simp));go_wp2;refine pR (results_ct rfl _ _ gb363 70 #[.string (⟨#[]⟩:BA),.slice none 0 0,.bool false,.string (⟨#[]⟩:BA)] (0,0) _ rfl (zz71 BK363) Tryz.underlying70 rfl (by kernel_rfl)) rfl ?_;exact⟨_,zz11,zz25,(zz46 HB GE363 GE371)⟩
def spec_l1Whole.l0:Nat→BA→BA→BA→Int→Option (BA×List BA×Bool×BA×Bool)
 |0,_,_,_,_=>none
 |k+1,x0,x4,x5,x6=>if x6<(x0.size:Int)then(if 0≤x6 then(if(bt x0 x6)=47 then(if x6≤(x0.size:Int)then((spec_l1Small.f (x0.extract 0 (x6:Int).toNat)).bind fun t179=>((spec_l1Way.f k t179 ([]:List BA) false (⟨#[]⟩:BA) (x0.extract (x6:Int).toNat x0.size)).bind fun bt180=>(some (bt180.1,bt180.2.1,bt180.2.2.1,bt180.2.2.2.1,bt180.2.2.2.2))))else(none))else(if(bt x0 x6)=63 then(if x6≤(x0.size:Int)then((spec_l1Small.f (x0.extract 0 (x6:Int).toNat)).bind fun t187=>((spec_l1Way.f k t187 ([]:List BA) false (⟨#[]⟩:BA) (x0.extract (x6:Int).toNat x0.size)).bind fun bt188=>(some (bt188.1,bt188.2.1,bt188.2.2.1,bt188.2.2.2.1,bt188.2.2.2.2))))else(none))else(spec_l1Whole.l0 k x0 x4 x5 (wrap64 (x6+1)))))else(none))else((spec_l1Small.f x4).bind fun t195=>((spec_l1Way.f k t195 ([]:List BA) false (⟨#[]⟩:BA) x5).bind fun bt196=>(some (bt196.1,bt196.2.1,bt196.2.2.1,bt196.2.2.2.1,bt196.2.2.2.2))))
def spec_l1Whole.f (k:Nat)(a0:BA):Option (BA×List BA×Bool×BA×Bool):=spec_l1Whole.l0 k a0 a0 (⟨#[]⟩:BA) 0
theorem spec_l1Whole.calls (k:Nat)(a0:BA)(r1:BA)(r2:List BA)(r3:Bool)(r4:BA)(r5:Bool)(w:World)(h:spec_l1Whole.f k a0=some (r1,r2,r3,r4,r5)):
  Calls Tryz.prog 70 #[.string a0] w fun e w'=>∃v1_:Value,e=.returned (.tuple #[.agg #[.string r1,v1_,.bool r3,.string r4],.bool r5])∧Kd.R Kd.string 9 w' w.heap.size (fun _=>True) v1_ r2∧Below w.heap.size w w':=by
 have hu70:=Tryz.underlying70;have HB:=A_ (Below.refl w.heap.size w);unfold spec_l1Whole.f at h;have H:=h;clear h;have H':=A_ H;clear H;go_enter Tryz.func70,Tryz.ntmps70;go_wp2_with (first|(refine boxF 2 #[.string (⟨#[]⟩:BA),.slice none 0 0,.bool false,.string (⟨#[]⟩:BA)] 70 ?_;intro gb178 hg w2 BK178 hb;have GE178:=geB hg (zz2 HB);replace HB:=A_ (bS (zz2 HB) hb);clear hb hg))
 go_loopg [4,5,6] k (fun kq v4 v5 v6 w'=>∃(x4_1:BA)(x5_1:BA)(x6_1:Int),v4=.string x4_1∧v5=.string x5_1∧v6=.int .i64 x6_1∧Aside0 (spec_l1Whole.l0 kq a0 x4_1 x5_1 x6_1=some (r1,r2,r3,r4,r5))∧Aside0 (kq≤k)∧Aside0 (w'.heap[gb178]?=some (.cells #[.string (⟨#[]⟩:BA),(.slice none 0 0),.bool false,.string (⟨#[]⟩:BA)] 70 (0,0)))∧Aside0 (Below w.heap.size w w'))
 case atStart=>exact⟨(a0),((⟨#[]⟩:BA)),(0),zz5,zz5,zz5,H',⟨lL_ _⟩,⟨(zz3 BK178)⟩,⟨(zz4 HB GE178)⟩⟩
 case round=>
  clear H';obtain⟨x4_1,x5_1,x6_1,rfl,rfl,rfl,HA,HK1,BK178,HB⟩:=hrel;cases gk with
  |zero=>exact absurd HA.out (by simp[spec_l1Whole.l0])
  |succ k1=>
   obtain⟨H⟩:=HA;simp only[spec_l1Whole.l0]at H;replace H:=iteEd H;rcases H with⟨c3b0,H⟩|⟨c3b0,H⟩
   ·replace H:=iteNd H
    obtain⟨c4b0,H⟩:=H;replace H:=iteEq H;rcases H with⟨c6b0,c6b1,H⟩|⟨c6b0,c6b1,c6,H⟩
    ·have c7b0:=eq_true (ofD:0≤x6_1)
     replace H:=iteN H;obtain⟨c8,H⟩:=H;have c8b0:=eq_true c8;have c8b1:=dT c8;clear c8;have c9b0:=eq_true (ofD:0≤x6_1);have c10b0:=eq_true (ofD:x6_1≤(a0.size:Int));replace H:=bindA H;obtain⟨t179,A11,H⟩:=H;replace H:=bindA H;obtain⟨⟨t180,t181,t184,t185,t186⟩,A12,H⟩:=H;try dsimp only at H;simp only[oI_,pI_]at H;obtain⟨rfl,rfl,rfl,rfl,rfl⟩:=H;have p5:0≤(x6_1:Int):=ofD;have q5:x6_1<(a0.size:Int):=ofD;have hx5:=bt_at a0 x6_1;replace p5:=eq_true p5;replace q5:=eq_true q5;go_wp2_with (first|(refine gR 84 (some 31) Tryz.func84 (spec_l1Small.calls (a0.extract 0 (x6_1:Int).toNat) t179 _ A11.out) ?_;rintro w13 hb;replace BK178:=A_ (bB (zz3 BK178) hb);replace HB:=A_ (bS (zz4 HB GE178) hb);(try clear hb))|((with_reducible refine gC (f:=83) rfl ?_);refine gsL (some 34) Tryz.func83 #[.agg #[.string t179,.slice none 0 0,.bool false,.string (⟨#[]⟩:BA)],.string (a0.extract (x6_1:Int).toNat a0.size)] ?_;(refine(spec_l1Way.calls k1 t179 _ _ ([]:List BA) false (⟨#[]⟩:BA) (a0.extract (x6_1:Int).toNat a0.size) t180 t181 t184 t185 t186 _ ?side1 ?side2 A12.out).mono ?_);(case side1=>exact Kd.C_nil _ _);(case side2=>exact lL_ _);rintro e w14 ⟨v182,rfl,ho0,hb⟩;refine⟨_,rfl,?_⟩;have HO183:=A_ (Kd.R_lower ho0 (below_size (zz4 HB GE178)));replace BK178:=A_ (bB (zz3 BK178) hb);replace HB:=A_ (bS (zz4 HB GE178) hb);(try clear hb ho0);obtain⟨_,_,_,_,_,_,_,_⟩:=cf4 BK178;obtain⟨Ao16,co16,eo16⟩:=Kd.R_slice HO183.out;subst eo16));refine pR (results_ct rfl _ _ gb178 70 #[.string t180,.slice Ao16 t181.length co16,.bool t184,.string t185] (0,0) _ rfl (zz71 BK178) Tryz.underlying70 rfl (by kernel_rfl)) rfl ?_;exact⟨_,zz11,(zz75 (rt HO183 BK178)),(zz4 HB GE178)⟩
    ·replace H:=iteEq H
     rcases H with⟨c18b0,c18b1,H⟩|⟨c18b0,c18b1,c18,H⟩
     ·have c19b0:=eq_true (ofD:0≤x6_1)
      replace H:=iteN H;obtain⟨c20,H⟩:=H;have c20b0:=eq_true c20;have c20b1:=dT c20;clear c20;have c21b0:=eq_true (ofD:0≤x6_1);have c22b0:=eq_true (ofD:x6_1≤(a0.size:Int));replace H:=bindA H;obtain⟨t187,A23,H⟩:=H;replace H:=bindA H;obtain⟨⟨t188,t189,t192,t193,t194⟩,A24,H⟩:=H;try dsimp only at H;simp only[oI_,pI_]at H;obtain⟨rfl,rfl,rfl,rfl,rfl⟩:=H;have p5:0≤(x6_1:Int):=ofD;have q5:x6_1<(a0.size:Int):=ofD;have hx5:=bt_at a0 x6_1;replace p5:=eq_true p5;replace q5:=eq_true q5;have p17:0≤(x6_1:Int):=ofD;have q17:x6_1<(a0.size:Int):=ofD;have hx17:=bt_at a0 x6_1;replace p17:=eq_true p17;replace q17:=eq_true q17;go_wp2_with (first|(refine gR 84 (some 31) Tryz.func84 (spec_l1Small.calls (a0.extract 0 (x6_1:Int).toNat) t187 _ A23.out) ?_;rintro w25 hb;replace BK178:=A_ (bB (zz3 BK178) hb);replace HB:=A_ (bS (zz4 HB GE178) hb);(try clear hb))|((with_reducible refine gC (f:=83) rfl ?_);refine gsL (some 34) Tryz.func83 #[.agg #[.string t187,.slice none 0 0,.bool false,.string (⟨#[]⟩:BA)],.string (a0.extract (x6_1:Int).toNat a0.size)] ?_;(refine(spec_l1Way.calls k1 t187 _ _ ([]:List BA) false (⟨#[]⟩:BA) (a0.extract (x6_1:Int).toNat a0.size) t188 t189 t192 t193 t194 _ ?side1 ?side2 A24.out).mono ?_);(case side1=>exact Kd.C_nil _ _);(case side2=>exact lL_ _);rintro e w26 ⟨v190,rfl,ho0,hb⟩;refine⟨_,rfl,?_⟩;have HO191:=A_ (Kd.R_lower ho0 (below_size (zz4 HB GE178)));replace BK178:=A_ (bB (zz3 BK178) hb);replace HB:=A_ (bS (zz4 HB GE178) hb);(try clear hb ho0);obtain⟨_,_,_,_,_,_,_,_⟩:=cf4 BK178;obtain⟨Ao28,co28,eo28⟩:=Kd.R_slice HO191.out;subst eo28));refine pR (results_ct rfl _ _ gb178 70 #[.string t188,.slice Ao28 t189.length co28,.bool t192,.string t193] (0,0) _ rfl (zz71 BK178) Tryz.underlying70 rfl (by kernel_rfl)) rfl ?_;exact⟨_,zz11,(zz75 (rt HO191 BK178)),(zz4 HB GE178)⟩
     ·have H':=A_ H
      clear H;have p5:0≤(x6_1:Int):=ofD;have q5:x6_1<(a0.size:Int):=ofD;have hx5:=bt_at a0 x6_1;replace p5:=eq_true p5;replace q5:=eq_true q5;have p17:0≤(x6_1:Int):=ofD;have q17:x6_1<(a0.size:Int):=ofD;have hx17:=bt_at a0 x6_1;replace p17:=eq_true p17;replace q17:=eq_true q17;go_wp2
      go_roundg k1
      case measure=>have:=HK1.out;omega
      case rel=>exact⟨(x4_1),(x5_1),(wrap64 (x6_1+1)),zz5,zz5,zz5,H',⟨(zz15 HK1)⟩,⟨(zz3 BK178)⟩,⟨(zz4 HB GE178)⟩⟩
   ·replace H:=bindA H
    obtain⟨t195,A29,H⟩:=H;replace H:=bindA H;obtain⟨⟨t196,t197,t200,t201,t202⟩,A30,H⟩:=H;try dsimp only at H;simp only[oI_,pI_]at H;obtain⟨rfl,rfl,rfl,rfl,rfl⟩:=H;go_wp2_with (first|(refine gR 84 (some 31) Tryz.func84 (spec_l1Small.calls x4_1 t195 _ A29.out) ?_;rintro w31 hb;replace BK178:=A_ (bB (zz3 BK178) hb);replace HB:=A_ (bS (zz4 HB GE178) hb);(try clear hb))|((with_reducible refine gC (f:=83) rfl ?_);refine gsL (some 34) Tryz.func83 #[.agg #[.string t195,.slice none 0 0,.bool false,.string (⟨#[]⟩:BA)],.string x5_1] ?_;(refine(spec_l1Way.calls k1 t195 _ _ ([]:List BA) false (⟨#[]⟩:BA) x5_1 t196 t197 t200 t201 t202 _ ?side1 ?side2 A30.out).mono ?_);(case side1=>exact Kd.C_nil _ _);(case side2=>exact lL_ _);rintro e w32 ⟨v198,rfl,ho0,hb⟩;refine⟨_,rfl,?_⟩;have HO199:=A_ (Kd.R_lower ho0 (below_size (zz4 HB GE178)));replace BK178:=A_ (bB (zz3 BK178) hb);replace HB:=A_ (bS (zz4 HB GE178) hb);(try clear hb ho0);obtain⟨_,_,_,_,_,_,_,_⟩:=cf4 BK178;obtain⟨Ao34,co34,eo34⟩:=Kd.R_slice HO199.out;subst eo34));refine pR (results_ct rfl _ _ gb178 70 #[.string t196,.slice Ao34 t197.length co34,.bool t200,.string t201] (0,0) _ rfl (zz71 BK178) Tryz.underlying70 rfl (by kernel_rfl)) rfl ?_;exact⟨_,zz11,(zz75 (rt HO199 BK178)),(zz4 HB GE178)⟩
def spec_AddrRead.f (k:Nat)(a0:BA):Option (BA×List BA×Bool×BA×Bool):=(spec_l1Cut.f k a0 35).bind fun bt204=>(if(a0.size:Int)>60 then(some ((⟨#[]⟩:BA),([]:List BA),false,(⟨#[]⟩:BA),false))else(if(bt204.1.size:Int)<2 then(some ((⟨#[]⟩:BA),([]:List BA),false,(⟨#[]⟩:BA),false))else(if 0≤2 then(if 2≤(bt204.1.size:Int)then(if(bt204.1.extract 0 2).toList=([47,47]:List UInt8)then((spec_l1Whole.f k (bt204.1.extract 2 bt204.1.size)).bind fun bt207=>(some (bt207.1,bt207.2.1,bt207.2.2.1,bt207.2.2.2.1,bt207.2.2.2.2)))else(some ((⟨#[]⟩:BA),([]:List BA),false,(⟨#[]⟩:BA),false)))else(none))else(none))))
theorem spec_AddrRead.calls (k:Nat)(a0:BA)(r1:BA)(r2:List BA)(r3:Bool)(r4:BA)(r5:Bool)(w:World)(h:spec_AddrRead.f k a0=some (r1,r2,r3,r4,r5)):
  Calls Tryz.prog 48 #[.string a0] w fun e w'=>∃v1_:Value,e=.returned (.tuple #[.agg #[.string r1,v1_,.bool r3,.string r4],.bool r5])∧Kd.R Kd.string 9 w' w.heap.size (fun _=>True) v1_ r2∧Below w.heap.size w w':=by
 have hu70:=Tryz.underlying70;have HB:=A_ (Below.refl w.heap.size w);unfold spec_AddrRead.f at h;have H:=h;clear h;replace H:=bindA H;obtain⟨⟨t204,t205,t206⟩,A2,H⟩:=H;try dsimp only at H;have HF3:=A_ H;clear H;go_enter Tryz.func48,Tryz.ntmps48;go_wp2_with (first|((with_reducible refine gD (N:=2) rfl ?_);(try(refine gate_guard (by rfl) ?_;dsimp only));refine boxE 2 #[.string (⟨#[]⟩:BA),.slice none 0 0,.bool false,.string (⟨#[]⟩:BA)] 70 ?_;intro gb203 hg w4 hbox hb;have BK203:=A_ (hbox);have GE203:=geB hg (zz2 HB);replace HB:=A_ (bS (zz2 HB) hb);clear hb hbox hg)|(refine gR 69 (some 9) Tryz.func69 (spec_l1Cut.calls k a0 35 t204 t205 t206 _ A2.out) ?_;rintro w' ⟨nd,rfl⟩)|((with_reducible refine atG ?_ ?_ fun K_ hK_=>?_);rfl;exact undecG)|((with_reducible refine atI ?_ fun K_ hK_=>?_);exact undecI));refine unG hK_ ?_;clear hK_ K_;obtain⟨H⟩:=HF3;replace H:=iteE H;rcases H with⟨c5,H⟩|⟨c5,H⟩
 ·have c5b0:=gtT c5
  have c5b1:decide (60<a0.size)=true:=dT (by omega);(first|refine iteT ?_|refine iteF ?_|skip);clear c5;(first|rw[c5b0]|(simp only[i64_w,i32_w];rw[c5b0])|skip);simp only[oI_,pI_]at H;obtain⟨rfl,rfl,rfl,rfl,rfl⟩:=H;obtain⟨_,_,_,_,_,_,_,_⟩:=cf4 BK203;(try((with_reducible refine upS ?_);go_simp));go_wp2;refine pR (results_ct rfl _ _ gb203 70 #[.string (⟨#[]⟩:BA),.slice none 0 0,.bool false,.string (⟨#[]⟩:BA)] (0,0) _ rfl (zz71 BK203) Tryz.underlying70 rfl (by kernel_rfl)) rfl ?_;exact⟨_,zz11,zz25,(zz4 HB GE203)⟩
 ·have c5b0:=gtF c5
  have c5b1:decide (60<a0.size)=false:=dF (by omega);(first|refine iteT ?_|refine iteF ?_|skip);clear c5;(first|rw[c5b0]|(simp only[i64_w,i32_w];rw[c5b0])|skip);replace H:=iteE H;rcases H with⟨c7,H⟩|⟨c7,H⟩
  ·have c7b0:=dT c7
   have c7b1:decide (t204.size<2)=true:=dT (by omega);clear c7;simp only[oI_,pI_]at H;obtain⟨rfl,rfl,rfl,rfl,rfl⟩:=H;obtain⟨_,_,_,_,_,_,_,_⟩:=cf4 BK203;go_wp2;refine pR (results_ct rfl _ _ gb203 70 #[.string (⟨#[]⟩:BA),.slice none 0 0,.bool false,.string (⟨#[]⟩:BA)] (0,0) _ rfl (zz71 BK203) Tryz.underlying70 rfl (by kernel_rfl)) rfl ?_;exact⟨_,zz11,zz25,(zz4 HB GE203)⟩
  ·have c7b0:=dF c7
   have c7b1:decide (t204.size<2)=false:=dF (by omega);clear c7;replace H:=iteE H;rcases H with⟨c9,H⟩|⟨c9,H⟩
   ·have c9b0:=eq_true c9
    have c9b1:=dT c9;clear c9;replace H:=iteN H;obtain⟨c10,H⟩:=H;have c10b0:=eq_true c10;have c10b1:=dT c10;clear c10;replace H:=iteEq H;rcases H with⟨c11b0,c11b1,H⟩|⟨c11b0,c11b1,c11,H⟩
    ·have c12b0:=eq_true (ofD:2≤(t204.size:Int))
     replace H:=bindA H;obtain⟨⟨t207,t208,t211,t212,t213⟩,A13,H⟩:=H;try dsimp only at H;simp only[oI_,pI_]at H;obtain⟨rfl,rfl,rfl,rfl,rfl⟩:=H;go_wp2_with (first|(refine gV 70 (some 29) Tryz.func70 (spec_l1Whole.calls k (t204.extract 2 t204.size) t207 t208 t211 t212 t213 _ A13.out) ?_;rintro v209 w14 ⟨ho0,hb⟩;have HO210:=A_ (Kd.R_lower ho0 (below_size (zz4 HB GE203)));replace BK203:=A_ (bB (zz3 BK203) hb);replace HB:=A_ (bS (zz4 HB GE203) hb);(try clear hb ho0);obtain⟨_,_,_,_,_,_,_,_⟩:=cf4 BK203;obtain⟨Ao16,co16,eo16⟩:=Kd.R_slice HO210.out;subst eo16));refine pR (results_ct rfl _ _ gb203 70 #[.string t207,.slice Ao16 t208.length co16,.bool t211,.string t212] (0,0) _ rfl (zz71 BK203) Tryz.underlying70 rfl (by kernel_rfl)) rfl ?_;exact⟨_,zz11,(zz75 (rt HO210 BK203)),(zz4 HB GE203)⟩
    ·simp only[oI_,pI_]at H
     obtain⟨rfl,rfl,rfl,rfl,rfl⟩:=H;obtain⟨_,_,_,_,_,_,_,_⟩:=cf4 BK203;go_wp2;refine pR (results_ct rfl _ _ gb203 70 #[.string (⟨#[]⟩:BA),.slice none 0 0,.bool false,.string (⟨#[]⟩:BA)] (0,0) _ rfl (zz71 BK203) Tryz.underlying70 rfl (by kernel_rfl)) rfl ?_;exact⟨_,zz11,zz25,(zz4 HB GE203)⟩
   ·exact absurd H (by simp)
def spec_l11Norm.f (k:Nat)(a0:BA):Option (Bool):=(spec_AddrRead.f k a0).bind fun bt217=>(if bt217.2.2.2.2=true then((spec_AddrText.f k bt217.1 bt217.2.1 bt217.2.2.1 bt217.2.2.2.1).bind fun t225=>(some (t225.toList==a0.toList)))else(some false))
theorem spec_l11Norm.calls (k:Nat)(a0:BA)(r:Bool)(w:World)(h:spec_l11Norm.f k a0=some r):
  Calls Tryz.prog 20 #[.string a0] w fun e w'=>e=.returned (.bool r)∧Below w.heap.size w w':=by
 have hu70:=Tryz.underlying70;have HB:=A_ (Below.refl w.heap.size w);unfold spec_l11Norm.f at h;have H:=h;clear h;replace H:=bindA H;obtain⟨⟨t217,t218,t221,t222,t223⟩,A2,H⟩:=H;try dsimp only at H;have HF3:=A_ H;clear H;go_enter Tryz.func20,Tryz.ntmps20;go_wp2_with (first|(refine gV 48 (some 7) Tryz.func48 (spec_AddrRead.calls k a0 t217 t218 t221 t222 t223 _ A2.out) ?_;rintro v219 w4 ⟨ho0,hb⟩;have HO220:=A_ (Kd.R_lower ho0 (below_size (zz2 HB)));replace HB:=A_ (bS (zz2 HB) hb);(try clear hb ho0))|(refine boxF 3 #[.string (⟨#[]⟩:BA),.slice none 0 0,.bool false,.string (⟨#[]⟩:BA)] 70 ?_;intro gb224 hg w5 BK224 hb;replace HO220:=A_ (rB (zz23 HO220) hb);have GE224:=geB hg (zz2 HB);replace HB:=A_ (bS (zz2 HB) hb);clear hb hg;obtain⟨_,_,_,_,_,_,_,_⟩:=cf4 BK224;obtain⟨Ao7,co7,eo7⟩:=Kd.R_slice HO220.out;subst eo7)|((with_reducible refine gate_store (t:=70) (p:=3) rfl ?_);refine store_event (t:=70) (p:=3) (v:=?vo_w8) (w1:=((((w5.setCell ⟨gb224,0,none⟩ (.string t217)).setCell ⟨gb224,1,none⟩ (.slice Ao7 t218.length co7)).setCell ⟨gb224,2,none⟩ (.bool t221)).setCell ⟨gb224,3,none⟩ (.string t222))) ?hg ?ho ?hn ?hr ?_;(case ho=>rfl);(case hg=>rfl);(case hn=>rfl);(case hr=>exact zz21);intro w8 hw;have n0_:Aside0 (Kd.R Kd.string 9 w8 w.heap.size (fun _=>True) (.slice Ao7 t218.length co7) t218):=⟨(by rw[hw];exact(zz75 (rt HO220 BK224)))⟩;have n1_:Aside0 (w8.heap[gb224]?=some (.cells #[.string t217,.slice Ao7 t218.length co7,.bool t221,.string t222] 70 (0,0))):=⟨(by rw[hw];exact(zz71 BK224))⟩;have n2_:Aside0 (Below w.heap.size w w8):=⟨(by rw[hw];exact(zz4 HB GE224))⟩;clear hw;clear HO220;clear BK224;clear HB;have HO220:=n0_;have BK224:=n1_;have HB:=n2_;clear n0_ n1_ n2_)|((with_reducible refine atG ?_ ?_ fun K_ hK_=>?_);rfl;exact undecG)|((with_reducible refine atI ?_ fun K_ hK_=>?_);exact undecI));refine unG hK_ ?_;clear hK_ K_;obtain⟨H⟩:=HF3;replace H:=iteB H;rcases H with⟨rfl,H⟩|⟨rfl,H⟩
 ·(first|refine iteT ?_|refine iteF ?_|skip)
  replace H:=bindA H;obtain⟨t225,A10,H⟩:=H;obtain rfl:=sI H;obtain⟨_,_,_,_,_,_,_,_⟩:=cf4 BK224;(try((with_reducible refine upS ?_);go_simp))
  go_wp2_with (first|(go_at_call 49;(with_reducible refine(spec_AddrText.calls k t217 _ _ t218 t221 t222 t225 _ ?side1 ?side2 A10.out).mono ?_);(case side1=>exact(zz22 HO220));(case side2=>exact(Kd.R_reads' HO220.out).2.1);rintro e w12 ⟨rfl,hb⟩;replace HO220:=A_ (rB (zz23 HO220) hb);replace BK224:=A_ (bB (zz3 BK224) hb);replace HB:=A_ (bS (zz4 HB GE224) hb);(try clear hb)))
  go_ret;exact⟨zz11,(zz4 HB GE224)⟩
 ·(first|refine iteT ?_|refine iteF ?_|skip)
  obtain rfl:=sI H;(try((with_reducible refine upS ?_);go_simp));go_wp2;go_ret;exact⟨zz11,(zz4 HB GE224)⟩
def impl_isAddress.f (k:Nat)(a0:BA):Option (Bool):=(impl_readAddress.f k a0).bind fun bt576=>(some bt576.2.2.2.2)
theorem impl_isAddress.calls (k:Nat)(a0:BA)(r:Bool)(w:World)(h:impl_isAddress.f k a0=some r):
  Calls Tryz.prog 66 #[.string a0] w fun e w'=>e=.returned (.bool r)∧Below w.heap.size w w':=by
 have hu70:=Tryz.underlying70;have HB:=A_ (Below.refl w.heap.size w);unfold impl_isAddress.f at h;have H:=h;clear h;replace H:=bindA H;obtain⟨⟨t576,t577,t580,t581,t582⟩,A2,H⟩:=H;try dsimp only at H;obtain rfl:=sI H;go_enter Tryz.func66,Tryz.ntmps66;go_wp2_with (first|(refine gV 52 (some 7) Tryz.func52 (impl_readAddress.calls k a0 t576 t577 t580 t581 t582 _ A2.out) ?_;rintro v578 w3 ⟨ho0,hb⟩;have HO579:=A_ (Kd.R_lower ho0 (below_size (zz2 HB)));replace HB:=A_ (bS (zz2 HB) hb);(try clear hb ho0))|(refine boxF 3 #[.string (⟨#[]⟩:BA),.slice none 0 0,.bool false,.string (⟨#[]⟩:BA)] 70 ?_;intro gb583 hg w4 BK583 hb;replace HO579:=A_ (rB (zz23 HO579) hb);have GE583:=geB hg (zz2 HB);replace HB:=A_ (bS (zz2 HB) hb);clear hb hg;obtain⟨_,_,_,_,_,_,_,_⟩:=cf4 BK583;obtain⟨Ao6,co6,eo6⟩:=Kd.R_slice HO579.out;subst eo6));go_ret;exact⟨zz11,(zz4 HB GE583)⟩
end Go.Proofs.YtalfefmnlnkcaaaGreatDoor.P
end
section
namespace Go.Proofs.YtalfefmnlnkcaaaGreatDoor.P
open Go.RowKit Go.Proofs.YtalfefmnlnkcaaaGreatDoorW PrintWords PrintLast PrintMore Go.Maps Go.ChangeMaps
def keyT (s:BA):Lit:=.string s.data.toList
theorem keyT_lit (a:BA):WideAt.IsKeyLit (keyT a):=trivial
theorem keyT_inj {a b:BA}(h:keyT a=keyT b):a=b:=by
 obtain⟨⟨a⟩⟩:=a;obtain⟨⟨b⟩⟩:=b;simp[keyT]at h;rw[h]
inductive Cnt:List BA→DataW Unit→Prop
 |nil:Cnt [] (.map [])
 |put {r:List BA} {D:DataW Unit} {s:BA} {c:DataW Unit} (h:Cnt r D):Cnt (s::r) (D.put (keyT s) c)
theorem Cnt.facts {l:List BA}{D:DataW Unit}(h:Cnt l D):IsMap D∧Tidy D∧(∀a,has D (keyT a)=l.any fun s=>decide (s=a))∧size D≤l.length∧(size D=l.length↔l.Nodup):=by
 induction h with
 |nil=>exact⟨isMap_empty,tidy_empty,fun a=>rfl,lL_ _,by simp[Maps.size]⟩
 | @put r D s c h ih=>
  obtain⟨h1,h2,h3,h4,h5⟩:=ih;refine⟨h1.put _ _,h2.put (keyT_lit _) _,fun a=>?_,?_,?_⟩
  ·rw[List.any_cons]
   by_cases e:s=a
   ·rw[e,has_put_same h1 (keyT_lit _)];simp
   ·rw[has_put_other (fun e2=>e (keyT_inj e2).symm),h3 a];simp[e]
  ·rw[size_put h2,h3 s,List.length_cons]
   split <;> omega
  ·rw[size_put h2,h3 s,List.length_cons,List.nodup_cons]
   have hm:(r.any fun q=>decide (q=s))=true↔s∈r:=by simp
   by_cases e:s∈r
   ·rw[if_pos (hm.2 e)]
    exact⟨fun x=>by omega,fun x=>absurd e x.1⟩
   ·rw[if_neg (fun x=>e (hm.1 x)),←h5]
    exact⟨fun x=>⟨e,by omega⟩,fun x=>by omega⟩
def impl_allOnce.f (k:Nat)(l0:List BA):Option Bool:=if l0.length≤4611686018427387904∧∀s∈l0,s.size≤9223372036854775807 then some (decide l0.Nodup)else none
theorem nodup_rev {α:Type}(l:List α):l.reverse.Nodup↔l.Nodup:=by
 unfold List.Nodup;rw[List.pairwise_reverse];exact⟨fun h=>h.imp fun e=>e.symm,fun h=>h.imp fun e=>e.symm⟩
theorem grown_below1 {w W W':World}(h:Below w.heap.size w W)(g:W.grownBy W' (some w.heap.size)):Below w.heap.size w W':=
 ⟨g.os.trans h.os,g.tape.trans h.tape,g.output.trans h.output,nT_ h.size g.size,fun i hi=>(g.block i (Nat.lt_of_lt_of_le hi h.size) (by intro e;injection e with e;omega)).trans (h.block i hi)⟩
theorem zeroInt (w:World):(zeroValue 3).run Tryz.prog w=.ok (.int .i64 0) w:=by kernel_rfl
set_option maxHeartbeats 4000000 in
set_option maxRecDepth 100000 in
theorem impl_allOnce.calls (k:Nat)(A0:Option Addr)(c0:Nat)(l0:List BA)(r:Bool)(w:World)(hr0:Kd.C Kd.string w A0 l0.length l0)(hc0:l0.length≤c0)(h:impl_allOnce.f k l0=some r):
  Calls Tryz.prog 45 #[.slice A0 l0.length c0] w fun e w'=>e=.returned (.bool r)∧Below w.heap.size w w':=by
 unfold impl_allOnce.f at h
 split at h
 case isFalse=>cases h
 rename_i hz;obtain⟨h1,h2⟩:=hz;have hR:=oJ_ h;clear h;have hmm:=@run_makeMap Tryz.prog;have HR0:=A_ hr0;have HN:=A_ h2;have HR:=A_ hR;clear hr0 h2 hR
 go_enter Tryz.func45,Tryz.ntmps45
 go_wp2
 go_loopg [9] l0.length (fun g v wx=>∃(i:Nat)(D:DataW Unit),v=.int .i64 i∧i+g=l0.length∧Aside0 (Cnt (l0.take i).reverse D)∧Aside0 (wx.ownsMap Tryz.prog 9 (plainElem Tryz.prog 3) w.heap.size i D)∧Aside0 (Below w.heap.size w wx))
 case atStart=>exact⟨0,.map [],rfl,by omega,⟨Cnt.nil⟩,⟨World.ownsMap_made w Tryz.prog 9 _⟩,⟨(Below.refl _ _).alloc (lL_ _) _⟩⟩
 case round=>
  clear hmm;obtain⟨i,D,rfl,hig,HC,HM,HB⟩:=hrel;cases gk with
  |zero=>
   obtain rfl:i=l0.length:=by omega
   have hlt:decide ((l0.length:Int)<(l0.length:Int))=false:=decide_eq_false (by omega);have hlen:=fun ty=>HM.out.len Tryz.underlying92 ty
   have e:((Maps.size D:Int)==(l0.length:Int))=r:=by
    have hf:=HC.out.facts.2.2.2.2;rw[List.take_length,List.length_reverse,nodup_rev]at hf;rw[←HR.out]
    by_cases hd:l0.Nodup
    ·rw[hf.2 hd];simp[hd]
    ·have:Maps.size D≠l0.length:=fun e=>hd (hf.1 e)
     simp only[hd,decide_false];exact bN_.2 (by omega)
   have HE:=A_ e;clear e;go_wp2;go_ret;exact⟨by rw[←HE.out];rfl,HB.out⟩
  |succ g=>
   have hi:i<l0.length:=by omega
   have hlt:decide ((i:Int)<(l0.length:Int))=true:=decide_eq_true (by omega);obtain⟨bk,o,ea,hb0,hcells⟩:=row_at HR0.out (by omega);subst ea;have hx:=hcells i _ (gE_ hi);have hxs:=HN.out _ (List.getElem_mem hi);have ht:(l0.take (i+1)).reverse=l0[i]::(l0.take i).reverse:=by rw[List.take_succ_eq_append_getElem hi,List.reverse_append];rfl
   generalize l0[i]=s at hx hxs ht;replace hx:=(HB.out.cell hb0).trans hx;have p0:(0≤(i:Int))=True:=eq_true (by omega);have q0:((i:Int)<(l0.length:Int))=True:=eq_true (by omega);have hkey:=Go.WideMaps.keyOf_string_mk (P:=Tryz.prog) Tryz.underlying9 (s:=s) (by have:maxLen=2^63-1:=rfl;omega);obtain⟨c,hrun,hat,_⟩:=HM.out.lookup_int (string_keyed Tryz.underlying9) Tryz.underlying92 Tryz.underlying3 (zeroInt _) hkey;have HK:=A_ hkey;have HT:=A_ ht;clear hkey hat ht hxs hcells hb0
   go_wp2_with (first|(at_mapUpdate;refine wpList_mapUpdate_own _ rfl _ _ _ 92 rfl 9 3 (string_keyed Tryz.underlying9) Tryz.underlying92 _ w.heap.size i D rfl HM.out (by have:maxLen=2^63-1:=rfl;omega) _ _ (keyT s) rfl rfl HK.out _ [] (plainElem_int Tryz.underlying3 (wrap64_wf _)) ?_;intro w9 hown hgrow))
   go_roundg g
   case measure=>omega
   case rel=>exact⟨i+1,_,by simp,by omega,⟨by rw[HT.out];exact HC.out.put⟩,⟨hown⟩,⟨grown_below1 HB.out hgrow⟩⟩
end Go.Proofs.YtalfefmnlnkcaaaGreatDoor.P
end
section
namespace Go.Proofs.YtalfefmnlnkcaaaGreatDoor.P
open Go.RowKit Go.Proofs.YtalfefmnlnkcaaaGreatDoorW PrintWords PrintLast PrintMore
attribute [local go_sem] max2_int min2_int max_two min_two max_three min_three max_four min_four
set_option maxHeartbeats 8000000
set_option maxRecDepth 100000
mutual
def impl_seenOk.j0:Nat→List BA→Bool→Option (Bool)
 |0,_,_=>none
 |k+1,x0,x12=>if x12=true then(some false)else(impl_seenOk.l0 k x0 (x0.length:Int) 0)
def impl_seenOk.l0:Nat→List BA→Int→Int→Option (Bool)
 |0,_,_,_=>none
 |k+1,x13,x14,x15=>if x15<x14 then(if 0≤x15 then(if x15<(x13.length:Int)then((impl_isAddress.f k (rdOf bE_ x13 x15)).bind fun t586=>(if t586=true then(impl_seenOk.l0 k x13 x14 (wrap64 (x15+1)))else(some false)))else(none))else(none))else(some true)
end
def impl_seenOk.f (k:Nat)(l0:List BA):Option (Bool):=if(l0.length:Int)>60 then(impl_seenOk.j0 k l0 true)else((impl_allOnce.f k l0).bind fun t584=>(impl_seenOk.j0 k l0 (!t584)))
theorem impl_seenOk.calls (k:Nat)(A0:Option Addr)(c0:Nat)(l0:List BA)(r:Bool)(w:World)(hr0:Kd.C Kd.string w A0 l0.length l0)(hc0:l0.length≤c0)(h:impl_seenOk.f k l0=some r):
  Calls Tryz.prog 41 #[.slice A0 l0.length c0] w fun e w'=>e=.returned (.bool r)∧Below w.heap.size w w':=by
 have HR0:=A_ hr0;have HC0:=A_ hc0;clear hr0 hc0;have HB:=A_ (Below.refl w.heap.size w);unfold impl_seenOk.f at h;have H:=h;clear h;have HC2:=A_ H;clear H;go_enter Tryz.func41,Tryz.ntmps41;go_upto_region 1 with(fail)
 go_cut [12] (fun v12 wc=>∃(kq:Nat)(x12_1:Bool),v12=.bool x12_1∧Aside0 (impl_seenOk.j0 kq l0 x12_1=some r)∧Aside0 (kq≤k)∧Aside0 (Below w.heap.size w wc))
 case first=>
  obtain⟨H⟩:=HC2;replace H:=iteE H;rcases H with⟨c3,H⟩|⟨c3,H⟩
  ·have c3b0:=gtT c3
   have c3b1:decide (60<l0.length)=true:=dT (by omega);clear c3;(first|rw[c3b0]|(simp only[i64_w,i32_w];rw[c3b0])|skip);have H':=A_ H;clear H;go_wp2
   go_meet
   case rel=>exact⟨_,(true),zz5,H',⟨zz6⟩,⟨(zz2 HB)⟩⟩
  ·have c3b0:=gtF c3
   have c3b1:decide (60<l0.length)=false:=dF (by omega);clear c3;(first|rw[c3b0]|(simp only[i64_w,i32_w];rw[c3b0])|skip);replace H:=bindA H;obtain⟨t584,A4,H⟩:=H;have H':=A_ H;clear H;go_wp2_with (first|(go_at_call 45;(with_reducible refine(impl_allOnce.calls k _ _ l0 t584 _ ?side1 ?side2 A4.out).mono ?_);(case side1=>exact(zz62 HR0 HB));(case side2=>exact HC0.out);rintro e w5 ⟨rfl,hb⟩;replace HB:=A_ (bS (zz2 HB) hb);(try clear hb)))
   go_meet
   case rel=>exact⟨_,(!t584),zz5,H',⟨zz6⟩,⟨(zz2 HB)⟩⟩
 case rest=>
  clear HC2;obtain⟨kq,x12_1,rfl,HA,HJ1,HB⟩:=hcut;cases kq with
  |zero=>exact absurd HA.out (by simp[impl_seenOk.j0])
  |succ kj1=>
   obtain⟨H⟩:=HA;simp only[impl_seenOk.j0]at H;replace H:=iteB H;rcases H with⟨rfl,H⟩|⟨rfl,H⟩
   ·obtain rfl:=sI H
    go_wp2;go_ret;exact⟨zz11,(zz2 HB)⟩
   ·have H':=A_ H
    clear H;go_wp2
    go_loopg [15] kj1 (fun kq v15 w'=>∃(x15_2:Int),v15=.int .i64 x15_2∧Aside0 (impl_seenOk.l0 kq l0 (l0.length:Int) x15_2=some r)∧Aside0 (kq≤kj1)∧Aside0 (Below w.heap.size w w'))
    case atStart=>exact⟨(0),zz5,H',⟨lL_ _⟩,⟨(zz2 HB)⟩⟩
    case round=>
     clear H';obtain⟨x15_2,rfl,HA,HK2,HB⟩:=hrel;cases gk with
     |zero=>exact absurd HA.out (by simp[impl_seenOk.l0])
     |succ k2=>
      obtain⟨H⟩:=HA;simp only[impl_seenOk.l0]at H;replace H:=iteEd H;rcases H with⟨c7b0,H⟩|⟨c7b0,H⟩
      ·replace H:=iteNd H
       obtain⟨c8b0,H⟩:=H;replace H:=iteNd H;obtain⟨c9b0,H⟩:=H;replace H:=bindA H;obtain⟨t586,A10,H⟩:=H;have HF11:=A_ H;clear H;obtain⟨⟨ad585,e585,hx585_0⟩,p585,q585⟩:=atB (Kd.at_string HR0.out x15_2);cases e585;replace hx585_0:=cbl HB hx585_0;go_upto_if 21 with(first|(refine gR 66 (some 20) Tryz.func66 (impl_isAddress.calls k2 (rdOf bE_ l0 x15_2) t586 _ A10.out) ?_;rintro w12 hb;replace HB:=A_ (bS (zz2 HB) hb);(try clear hb)))
       obtain⟨H⟩:=HF11;replace H:=iteB H;rcases H with⟨rfl,H⟩|⟨rfl,H⟩
       ·have H':=A_ H
        clear H;go_wp2
        go_roundg k2
        case measure=>have:=HJ1.out;have:=HK2.out;omega
        case rel=>exact⟨(wrap64 (x15_2+1)),zz5,H',⟨(zz28 HJ1 HK2)⟩,⟨(zz2 HB)⟩⟩
       ·obtain rfl:=sI H
        go_wp2;go_ret;exact⟨zz11,(zz2 HB)⟩
      ·obtain rfl:=sI H
       go_wp2;go_ret;exact⟨zz11,(zz2 HB)⟩
mutual
def impl_looksOk.l0:Nat→Int→Int→List (S83)→Int→Int→Option (Bool)
 |0,_,_,_,_,_=>none
 |k+1,x1,x5,x11,x12,x13=>if x13<x12 then(if 0≤x13 then(if x13<(x11.length:Int)then((impl_between.f x5 ((rd_T83 x11 x13).f0) x1).bind fun t589=>(if t589=true then((impl_between.f 0 ((rd_T83 x11 x13).f2) 3).bind fun t590=>(impl_looksOk.j1 k x1 x11 x12 x13 (!t590) ((rd_T83 x11 x13).f0) ((rd_T83 x11 x13).f1) ((rd_T83 x11 x13).f2)))else(impl_looksOk.j1 k x1 x11 x12 x13 true ((rd_T83 x11 x13).f0) ((rd_T83 x11 x13).f1) ((rd_T83 x11 x13).f2))))else(none))else(none))else(some true)
def impl_looksOk.j1:Nat→Int→List (S83)→Int→Int→Bool→Int→BA→Int→Option (Bool)
 |0,_,_,_,_,_,_,_,_=>none
 |k+1,x1,x11,x12,x13,x28,x589000,x589001,x589002=>if x28=true then(some false)else((impl_isAddress.f k x589001).bind fun t591=>(if t591=true then(impl_looksOk.l0 k x1 x589000 x11 x12 (wrap64 (x13+1)))else(some false)))
end
def impl_looksOk.f (k:Nat)(l0:List (S83))(a1:Int):Option (Bool):=if(l0.length:Int)>400 then(some false)else(impl_looksOk.l0 k a1 0 l0 (l0.length:Int) 0)
theorem impl_looksOk.calls (k:Nat)(A0:Option Addr)(c0:Nat)(l0:List (S83))(a1:Int)(r:Bool)(w:World)(hr0:Kd.C k83 w A0 l0.length l0)(hc0:l0.length≤c0)(h:impl_looksOk.f k l0 a1=some r):
  Calls Tryz.prog 42 #[.slice A0 l0.length c0,.int .i64 a1] w fun e w'=>e=.returned (.bool r)∧Below w.heap.size w w':=by
 have hu83:=Tryz.underlying83;have HR0:=A_ hr0;have HC0:=A_ hc0;clear hr0 hc0;have HB:=A_ (Below.refl w.heap.size w);unfold impl_looksOk.f at h;have H:=h;clear h;replace H:=iteE H;rcases H with⟨c3,H⟩|⟨c3,H⟩
 ·have c3b0:=gtT c3
  have c3b1:decide (400<l0.length)=true:=dT (by omega);clear c3;obtain rfl:=sI H;go_enter Tryz.func42,Tryz.ntmps42;go_wp2;go_ret;exact⟨zz11,(zz2 HB)⟩
 ·have c3b0:=gtF c3
  have c3b1:decide (400<l0.length)=false:=dF (by omega);clear c3;have H':=A_ H;clear H;go_enter Tryz.func42,Tryz.ntmps42;go_wp2
  go_loopg [5,13] k (fun kq v5 v13 w'=>∃(x5_1:Int)(x13_1:Int),v5=.int .i64 x5_1∧v13=.int .i64 x13_1∧Aside0 (impl_looksOk.l0 kq a1 x5_1 l0 (l0.length:Int) x13_1=some r)∧Aside0 (kq≤k)∧Aside0 (Below w.heap.size w w'))
  case atStart=>exact⟨(0),(0),zz5,zz5,H',⟨lL_ _⟩,⟨(zz2 HB)⟩⟩
  case round=>
   clear H';obtain⟨x5_1,x13_1,rfl,rfl,HA,HK1,HB⟩:=hrel;cases gk with
   |zero=>exact absurd HA.out (by simp[impl_looksOk.l0])
   |succ k1=>
    obtain⟨H⟩:=HA;simp only[impl_looksOk.l0]at H;replace H:=iteEd H;rcases H with⟨c4b0,H⟩|⟨c4b0,H⟩
    ·replace H:=iteNd H
     obtain⟨c5b0,H⟩:=H;replace H:=iteNd H;obtain⟨c6b0,H⟩:=H;have HC7:=A_ H;clear H;obtain⟨⟨ad587,e587,hx587_0,hx587_1,hx587_2⟩,p587,q587⟩:=atB (at_T83 HR0.out x13_1);cases e587;obtain⟨hx587_0,hx587_1,hx587_2⟩:=cb3 HB hx587_0 hx587_1 hx587_2;go_upto_region 7 with(first|(refine boxF 7 #[.int .i64 0,.string (⟨#[]⟩:BA),.int .i64 0] 83 ?_;intro gb588 hg w8 BK588 hb;have GE588:=geB hg (zz2 HB);replace HB:=A_ (bS (zz2 HB) hb);clear hb hg;obtain⟨_,_,_,_,_,_⟩:=cf3 BK588))
     (try simp only[Act.put,lS_,l0_,lC_])
     go_cut [28] (fun v28 wc=>∃(kq:Nat)(x28_6:Bool),v28=.bool x28_6∧Aside0 (impl_looksOk.j1 kq a1 l0 (l0.length:Int) x13_1 x28_6 ((rd_T83 l0 x13_1).f0) ((rd_T83 l0 x13_1).f1) ((rd_T83 l0 x13_1).f2)=some r)∧Aside0 (kq≤k1)∧Aside0 (wc.heap[gb588]?=some (.cells #[.int .i64 ((rd_T83 l0 x13_1).f0),.string ((rd_T83 l0 x13_1).f1),.int .i64 ((rd_T83 l0 x13_1).f2)] 83 (0,0)))∧Aside0 (Below w.heap.size w wc))
     case first=>
      obtain⟨H⟩:=HC7;replace H:=bindA H;obtain⟨t589,A10,H⟩:=H;have HF11:=A_ H;clear H;obtain⟨_,_,_,_,_,_⟩:=cf3 BK588;go_wp2_with (first|(refine gR 40 (some 21) Tryz.func40 (impl_between.calls x5_1 ((rd_T83 l0 x13_1).f0) a1 t589 _ A10.out) ?_;rintro w' ⟨nd,rfl⟩)|((with_reducible refine atG ?_ ?_ fun K_ hK_=>?_);rfl;exact undecG)|((with_reducible refine atI ?_ fun K_ hK_=>?_);exact undecI));refine unG hK_ ?_;clear hK_ K_;obtain⟨H⟩:=HF11;replace H:=iteB H;rcases H with⟨rfl,H⟩|⟨rfl,H⟩
      ·(first|refine iteT ?_|refine iteF ?_|skip)
       replace H:=bindA H;obtain⟨t590,A14,H⟩:=H;have H':=A_ H;clear H;obtain⟨_,_,_,_,_,_⟩:=cf3 BK588;(try((with_reducible refine upS ?_);go_simp))
       go_wp2_with (first|(go_at_call 40;(with_reducible refine(impl_between.calls 0 ((rd_T83 l0 x13_1).f2) 3 t590 _ A14.out).mono ?_);rintro e w' ⟨rfl,⟨nd,rfl⟩⟩))
       go_meet
       case rel=>exact⟨_,(!t590),zz5,H',⟨(zz18 HK1)⟩,⟨(zz91 BK588)⟩,⟨(zz4 HB GE588)⟩⟩
      ·(first|refine iteT ?_|refine iteF ?_|skip)
       have H':=A_ H;clear H;(try((with_reducible refine upS ?_);go_simp));go_wp2
       go_meet
       case rel=>exact⟨_,(true),zz5,H',⟨(zz18 HK1)⟩,⟨(zz91 BK588)⟩,⟨(zz4 HB GE588)⟩⟩
     case rest=>
      clear HC7;obtain⟨kq,x28_6,rfl,HA,HJ6,BK588,HB⟩:=hcut;cases kq with
      |zero=>exact absurd HA.out (by simp[impl_looksOk.j1])
      |succ kj6=>
       obtain⟨H⟩:=HA;simp only[impl_looksOk.j1]at H;replace H:=iteB H;rcases H with⟨rfl,H⟩|⟨rfl,H⟩
       ·obtain rfl:=sI H
        go_wp2;go_ret;exact⟨zz11,(zz4 HB GE588)⟩
       ·replace H:=bindA H
        obtain⟨t591,A17,H⟩:=H;have HF18:=A_ H;clear H;obtain⟨_,_,_,_,_,_⟩:=cf3 BK588;go_upto_if 32 with(first|(refine gR 66 (some 31) Tryz.func66 (impl_isAddress.calls kj6 ((rd_T83 l0 x13_1).f1) t591 _ A17.out) ?_;rintro w20 hb;replace BK588:=A_ (bB (zz3 BK588) hb);replace HB:=A_ (bS (zz4 HB GE588) hb);(try clear hb)))
        obtain⟨H⟩:=HF18;replace H:=iteB H;rcases H with⟨rfl,H⟩|⟨rfl,H⟩
        ·have H':=A_ H
         clear H;obtain⟨_,_,_,_,_,_⟩:=cf3 BK588;go_wp2
         go_roundg kj6
         case measure=>have:=HK1.out;have:=HJ6.out;omega
         case rel=>exact⟨(((rd_T83 l0 x13_1).f0)),(wrap64 (x13_1+1)),zz5,zz5,H',⟨(zz28 HK1 HJ6)⟩,⟨(zz4 HB GE588)⟩⟩
        ·obtain rfl:=sI H
         go_wp2;go_ret;exact⟨zz11,(zz4 HB GE588)⟩
    ·obtain rfl:=sI H
     go_wp2;go_ret;exact⟨zz11,(zz2 HB)⟩
mutual
def impl_todoOk.l0:Nat→List BA→List BA→List (S76)→Int→Int→BA→Int→Bool→List BA→List (S98)→Int→Int→List (S76)→Option (Bool)
 |0,_,_,_,_,_,_,_,_,_,_,_,_,_=>none
 |k+1,x1,x5,x17,x18,x19,x609000,x609001,x609002,x609003,x609004,x609005,x609006,x609007=>if x19<x18 then(if 0≤x19 then(if x19<(x17.length:Int)then((impl_readAddress.f k ((rd_T76 x17 x19).f0)).bind fun bt612=>(if bt612.2.2.2.2=true then(if bt612.1.toList=x609000.toList then((slices_Contains_string_string.f k x1 ((rd_T76 x17 x19).f0)).bind fun t620=>(impl_todoOk.j1 k x1 x5 x17 x18 x19 (!t620) x609000 x609001 x609002 x609003 x609004 x609005 x609006 x609007 ((rd_T76 x17 x19).f0) ((rd_T76 x17 x19).f1)))else(impl_todoOk.j1 k x1 x5 x17 x18 x19 true x609000 x609001 x609002 x609003 x609004 x609005 x609006 x609007 ((rd_T76 x17 x19).f0) ((rd_T76 x17 x19).f1)))else(impl_todoOk.j1 k x1 x5 x17 x18 x19 true x609000 x609001 x609002 x609003 x609004 x609005 x609006 x609007 ((rd_T76 x17 x19).f0) ((rd_T76 x17 x19).f1))))else(none))else(none))else((impl_allOnce.f k x5).bind fun t609=>(some t609))
def impl_todoOk.j1:Nat→List BA→List BA→List (S76)→Int→Int→Bool→BA→Int→Bool→List BA→List (S98)→Int→Int→List (S76)→BA→Int→Option (Bool)
 |0,_,_,_,_,_,_,_,_,_,_,_,_,_,_,_,_=>none
 |k+1,x1,x5,x17,x18,x19,x44,x609000,x609001,x609002,x609003,x609004,x609005,x609006,x609007,x612000,x612001=>if x44=true then(some false)else((impl_between.f 0 x612001 2).bind fun t621=>(if t621=true then(if x5.length<8796093022208 then(impl_todoOk.l0 k x1 (x5++[x612000]) x17 x18 (wrap64 (x19+1)) x609000 x609001 x609002 x609003 x609004 x609005 x609006 x609007)else(none))else(some false)))
end
def impl_todoOk.f (k:Nat)(a0_0:BA)(a0_1:Int)(a0_2:Bool)(l0_3:List BA)(l0_4:List (S98))(a0_5:Int)(a0_6:Int)(l0_7:List (S76))(l1:List BA):Option (Bool):=if(l0_7.length:Int)>(l1.length:Int)then(some false)else(impl_todoOk.l0 k l1 ([]:List BA) l0_7 (l0_7.length:Int) 0 a0_0 a0_1 a0_2 l0_3 l0_4 a0_5 a0_6 l0_7)
theorem impl_todoOk.calls (k:Nat)(a0_0:BA)(a0_1:Int)(a0_2:Bool)(A0_3:Option Addr)(c0_3:Nat)(l0_3:List BA)(A0_4:Option Addr)(c0_4:Nat)(l0_4:List (S98))(a0_5:Int)(a0_6:Int)(A0_7:Option Addr)(c0_7:Nat)(l0_7:List (S76))(A1:Option Addr)(c1:Nat)(l1:List BA)(r:Bool)(w:World)(hr0_3:Kd.C Kd.string w A0_3 l0_3.length l0_3)(hc0_3:l0_3.length≤c0_3)(hr0_4:Kd.C k98 w A0_4 l0_4.length l0_4)(hc0_4:l0_4.length≤c0_4)(hr0_7:Kd.C k76 w A0_7 l0_7.length l0_7)(hc0_7:l0_7.length≤c0_7)(hr1:Kd.C Kd.string w A1 l1.length l1)(hc1:l1.length≤c1)(h:impl_todoOk.f k a0_0 a0_1 a0_2 l0_3 l0_4 a0_5 a0_6 l0_7 l1=some r):
  Calls Tryz.prog 44 #[.agg #[.string a0_0,.int .i64 a0_1,.bool a0_2,.slice A0_3 l0_3.length c0_3,.slice A0_4 l0_4.length c0_4,.int .i64 a0_5,.int .i64 a0_6,.slice A0_7 l0_7.length c0_7],.slice A1 l1.length c1] w fun e w'=>e=.returned (.bool r)∧Below w.heap.size w w':=by
 have hu43:=Tryz.underlying43;have hu76:=Tryz.underlying76;have hu70:=Tryz.underlying70;have HR0_3:=A_ hr0_3;have HC0_3:=A_ hc0_3;clear hr0_3 hc0_3;have HR0_4:=A_ hr0_4;have HC0_4:=A_ hc0_4;clear hr0_4 hc0_4;have HR0_7:=A_ hr0_7;have HC0_7:=A_ hc0_7;clear hr0_7 hc0_7;have HR1:=A_ hr1;have HC1:=A_ hc1;clear hr1 hc1;have HB:=A_ (Below.refl w.heap.size w);unfold impl_todoOk.f at h;have H:=h;clear h;replace H:=iteE H;rcases H with⟨c3,H⟩|⟨c3,H⟩
 ·have c3b0:=gtT c3
  have c3b1:decide (l1.length<l0_7.length)=true:=dT (Int.ofNat_lt.mp c3);clear c3;obtain rfl:=sI H;go_enter Tryz.func44,Tryz.ntmps44;go_wp2_with (first|(refine boxF 2 #[.string a0_0,.int .i64 a0_1,.bool a0_2,.slice A0_3 l0_3.length c0_3,.slice A0_4 l0_4.length c0_4,.int .i64 a0_5,.int .i64 a0_6,.slice A0_7 l0_7.length c0_7] 43 ?_;intro gb608 hg w4 BK608 hb;have GE608:=geB hg (zz2 HB);replace HB:=A_ (bS (zz2 HB) hb);clear hb hg;have hcz5_0:w4.cell? ⟨gb608,0,none⟩=some (.string a0_0):=(blk_cell BK608.out 0).trans rfl;have hcz5_1:w4.cell? ⟨gb608,1,none⟩=some (.int .i64 a0_1):=(blk_cell BK608.out 1).trans rfl;have hcz5_2:w4.cell? ⟨gb608,2,none⟩=some (.bool a0_2):=(blk_cell BK608.out 2).trans rfl;have hcz5_3:w4.cell? ⟨gb608,3,none⟩=some (.slice A0_3 l0_3.length c0_3):=(blk_cell BK608.out 3).trans rfl;have hcz5_4:w4.cell? ⟨gb608,4,none⟩=some (.slice A0_4 l0_4.length c0_4):=(blk_cell BK608.out 4).trans rfl;have hcz5_5:w4.cell? ⟨gb608,5,none⟩=some (.int .i64 a0_5):=(blk_cell BK608.out 5).trans rfl;have hcz5_6:w4.cell? ⟨gb608,6,none⟩=some (.int .i64 a0_6):=(blk_cell BK608.out 6).trans rfl;have hcz5_7:w4.cell? ⟨gb608,7,none⟩=some (.slice A0_7 l0_7.length c0_7):=(blk_cell BK608.out 7).trans rfl;have hfz5_0:=blk_frozen BK608.out 0;have hfz5_1:=blk_frozen BK608.out 1;have hfz5_2:=blk_frozen BK608.out 2;have hfz5_3:=blk_frozen BK608.out 3;have hfz5_4:=blk_frozen BK608.out 4;have hfz5_5:=blk_frozen BK608.out 5;have hfz5_6:=blk_frozen BK608.out 6;have hfz5_7:=blk_frozen BK608.out 7));go_ret;exact⟨zz11,(zz4 HB GE608)⟩
 ·have c3b0:=gtF c3
  have c3b1:decide (l1.length<l0_7.length)=false:=dF (fun h=>c3 (Int.ofNat_lt.mpr h));clear c3;have H':=A_ H;clear H;go_enter Tryz.func44,Tryz.ntmps44;go_wp2_with (first|(refine boxF 2 #[.string a0_0,.int .i64 a0_1,.bool a0_2,.slice A0_3 l0_3.length c0_3,.slice A0_4 l0_4.length c0_4,.int .i64 a0_5,.int .i64 a0_6,.slice A0_7 l0_7.length c0_7] 43 ?_;intro gb608 hg w6 BK608 hb;have GE608:=geB hg (zz2 HB);replace HB:=A_ (bS (zz2 HB) hb);clear hb hg;have hcz7_0:w6.cell? ⟨gb608,0,none⟩=some (.string a0_0):=(blk_cell BK608.out 0).trans rfl;have hcz7_1:w6.cell? ⟨gb608,1,none⟩=some (.int .i64 a0_1):=(blk_cell BK608.out 1).trans rfl;have hcz7_2:w6.cell? ⟨gb608,2,none⟩=some (.bool a0_2):=(blk_cell BK608.out 2).trans rfl;have hcz7_3:w6.cell? ⟨gb608,3,none⟩=some (.slice A0_3 l0_3.length c0_3):=(blk_cell BK608.out 3).trans rfl;have hcz7_4:w6.cell? ⟨gb608,4,none⟩=some (.slice A0_4 l0_4.length c0_4):=(blk_cell BK608.out 4).trans rfl;have hcz7_5:w6.cell? ⟨gb608,5,none⟩=some (.int .i64 a0_5):=(blk_cell BK608.out 5).trans rfl;have hcz7_6:w6.cell? ⟨gb608,6,none⟩=some (.int .i64 a0_6):=(blk_cell BK608.out 6).trans rfl;have hcz7_7:w6.cell? ⟨gb608,7,none⟩=some (.slice A0_7 l0_7.length c0_7):=(blk_cell BK608.out 7).trans rfl;have hfz7_0:=blk_frozen BK608.out 0;have hfz7_1:=blk_frozen BK608.out 1;have hfz7_2:=blk_frozen BK608.out 2;have hfz7_3:=blk_frozen BK608.out 3;have hfz7_4:=blk_frozen BK608.out 4;have hfz7_5:=blk_frozen BK608.out 5;have hfz7_6:=blk_frozen BK608.out 6;have hfz7_7:=blk_frozen BK608.out 7))
  go_loopg [5,19] k (fun kq v5 v19 w'=>∃(x5_1:List BA)(x19_1:Int),v19=.int .i64 x19_1∧Aside0 (impl_todoOk.l0 kq l1 x5_1 l0_7 (l0_7.length:Int) x19_1 a0_0 a0_1 a0_2 l0_3 l0_4 a0_5 a0_6 l0_7=some r)∧Aside0 (kq≤k)∧Aside0 (Kd.R Kd.string 9 w' w.heap.size (fun _=>True) v5 x5_1)∧Aside0 (w'.heap[gb608]?=some (.cells #[.string a0_0,.int .i64 a0_1,.bool a0_2,(.slice A0_3 l0_3.length c0_3),(.slice A0_4 l0_4.length c0_4),.int .i64 a0_5,.int .i64 a0_6,(.slice A0_7 l0_7.length c0_7)] 43 (0,0)))∧Aside0 (Below w.heap.size w w'))
  case atStart=>exact⟨(([]:List BA)),(0),zz5,H',⟨lL_ _⟩,⟨zz25⟩,⟨(zz3 BK608)⟩,⟨(zz4 HB GE608)⟩⟩
  case round=>
   clear H';obtain⟨x5_1,x19_1,rfl,HA,HK1,HO_5,BK608,HB⟩:=hrel;cases gk with
   |zero=>exact absurd HA.out (by simp[impl_todoOk.l0])
   |succ k1=>
    obtain⟨H⟩:=HA;simp only[impl_todoOk.l0]at H;replace H:=iteEd H;rcases H with⟨c8b0,H⟩|⟨c8b0,H⟩
    ·replace H:=iteNd H
     obtain⟨c9b0,H⟩:=H;replace H:=iteNd H;obtain⟨c10b0,H⟩:=H;replace H:=bindA H;obtain⟨⟨t612,t613,t616,t617,t618⟩,A11,H⟩:=H;try dsimp only at H;have HC12:=A_ H;clear H;obtain⟨⟨ad610,e610,hx610_0,hx610_1⟩,p610,q610⟩:=atB (at_T76 HR0_7.out x19_1);cases e610;obtain⟨hx610_0,hx610_1⟩:=cb2 HB hx610_0 hx610_1;go_upto_region 8 with(first|(refine boxF 7 #[.string (⟨#[]⟩:BA),.int .i64 0] 76 ?_;intro gb611 hg w13 BK611 hb;replace HO_5:=A_ (rB (zz23 HO_5) hb);have GE611:=geB hg (zz4 HB GE608);replace HB:=A_ (bS (zz4 HB GE608) hb);have NB608_611:=A_ ((by rw[hg];exact Nat.ne_of_lt (blk_lt (zz3 BK608)):gb608≠gb611));have NB611_608:=A_ ((by rw[hg];exact Nat.ne_of_gt (blk_lt (zz3 BK608)):gb611≠gb608));replace BK608:=A_ (bB (zz3 BK608) hb);clear hb hg;have hnb14:=NB611_608.out;have hnc14:=NB608_611.out;obtain⟨_,_,_,_⟩:=cf2 BK611)|(refine gV 52 (some 26) Tryz.func52 (impl_readAddress.calls k1 ((rd_T76 l0_7 x19_1).f0) t612 t613 t616 t617 t618 _ A11.out) ?_;rintro v614 w16 ⟨ho0,hb⟩;have HO615:=A_ (Kd.R_lower (Kd.R_new' ho0 (Kd.R_lt (zz155 HO_5 BK611))) (below_size (zz46 HB GE608 GE611)));replace HO_5:=A_ (Kd.R_elder' (zz155 HO_5 BK611) (Kd.R_base ho0) hb);replace BK608:=A_ (bB (g:=gb608) (o:=.cells #[.string a0_0,.int .i64 a0_1,.bool a0_2,.slice A0_3 l0_3.length c0_3,.slice A0_4 l0_4.length c0_4,.int .i64 a0_5,.int .i64 a0_6,.slice (some ad610) l0_7.length c0_7] 43 (0,0)) (zz90 BK608 NB608_611) hb);replace BK611:=A_ (bB (g:=gb611) (o:=.cells #[.string ((rd_T76 l0_7 x19_1).f0),.int .i64 ((rd_T76 l0_7 x19_1).f1)] 76 (0,0)) (zz56 BK611) hb);replace HB:=A_ (bS (zz46 HB GE608 GE611) hb);(try clear hb ho0))|(refine boxF 8 #[.string (⟨#[]⟩:BA),.slice none 0 0,.bool false,.string (⟨#[]⟩:BA)] 70 ?_;intro gb619 hg w17 BK619 hb;replace HO_5:=A_ (rB (zz23 HO_5) hb);replace HO615:=A_ (rB (zz23 HO615) hb);have GE619:=geB hg (zz46 HB GE608 GE611);replace HB:=A_ (bS (zz46 HB GE608 GE611) hb);have NB608_619:=A_ ((by rw[hg];exact Nat.ne_of_lt (blk_lt (zz3 BK608)):gb608≠gb619));have NB619_608:=A_ ((by rw[hg];exact Nat.ne_of_gt (blk_lt (zz3 BK608)):gb619≠gb608));replace BK608:=A_ (bB (zz3 BK608) hb);have NB611_619:=A_ ((by rw[hg];exact Nat.ne_of_lt (blk_lt (zz3 BK611)):gb611≠gb619));have NB619_611:=A_ ((by rw[hg];exact Nat.ne_of_gt (blk_lt (zz3 BK611)):gb619≠gb611));replace BK611:=A_ (bB (zz3 BK611) hb);clear hb hg;have hnb18:=NB619_608.out;have hnc18:=NB608_619.out;have hnb19:=NB619_611.out;have hnc19:=NB611_619.out;obtain⟨_,_,_,_,_,_,_,_⟩:=cf4 BK619;obtain⟨Ao21,co21,eo21⟩:=Kd.R_slice HO615.out;subst eo21))
     (try simp only[Act.put,lS_,l0_,lC_])
     go_cut [44] (fun v44 wc=>∃(kq:Nat)(x44_11:Bool),v44=.bool x44_11∧Aside0 (impl_todoOk.j1 kq l1 x5_1 l0_7 (l0_7.length:Int) x19_1 x44_11 a0_0 a0_1 a0_2 l0_3 l0_4 a0_5 a0_6 l0_7 ((rd_T76 l0_7 x19_1).f0) ((rd_T76 l0_7 x19_1).f1)=some r)∧Aside0 (kq≤k1)∧Aside0 (Kd.R Kd.string 9 wc w.heap.size (fun k_=>some k_≠((.slice Ao21 t613.length co21):Value).ownBlock) u5 x5_1)∧Aside0 (Kd.R Kd.string 9 wc w.heap.size (fun k_=>some k_≠(u5:Value).ownBlock) (.slice Ao21 t613.length co21) t613)∧Aside0 (wc.heap[gb608]?=some (.cells #[.string a0_0,.int .i64 a0_1,.bool a0_2,(.slice A0_3 l0_3.length c0_3),(.slice A0_4 l0_4.length c0_4),.int .i64 a0_5,.int .i64 a0_6,(.slice (some ad610) l0_7.length c0_7)] 43 (0,0)))∧Aside0 (wc.heap[gb611]?=some (.cells #[.string ((rd_T76 l0_7 x19_1).f0),.int .i64 ((rd_T76 l0_7 x19_1).f1)] 76 (0,0)))∧Aside0 (wc.heap[gb619]?=some (.cells #[.string t612,(.slice Ao21 t613.length co21),.bool t616,.string t617] 70 (0,0)))∧Aside0 (Below w.heap.size w wc))
     case first=>
      obtain⟨H⟩:=HC12;replace H:=iteB H;rcases H with⟨rfl,H⟩|⟨rfl,H⟩
      ·replace H:=iteE H
       rcases H with⟨c23,H⟩|⟨c23,H⟩
       ·obtain⟨c23b0,c23b1⟩:=eqT c23
        clear c23;(first|rw[c23b0]|(simp only[i64_w,i32_w];rw[c23b0])|skip);replace H:=bindA H;obtain⟨t620,A24,H⟩:=H;have H':=A_ H;clear H;have hnb25:=NB619_608.out;have hnc25:=NB608_619.out;have hnb26:=NB619_611.out;have hnc26:=NB611_619.out;obtain⟨_,_,_,_,_,_,_,_⟩:=cf4 BK619;have hnb28:=NB608_611.out;have hnc28:=NB611_608.out;have hcz29_0:w17.cell? ⟨gb608,0,none⟩=some (.string a0_0):=(blk_cell BK608.out 0).trans rfl;have hcz29_1:w17.cell? ⟨gb608,1,none⟩=some (.int .i64 a0_1):=(blk_cell BK608.out 1).trans rfl;have hcz29_2:w17.cell? ⟨gb608,2,none⟩=some (.bool a0_2):=(blk_cell BK608.out 2).trans rfl;have hcz29_3:w17.cell? ⟨gb608,3,none⟩=some (.slice A0_3 l0_3.length c0_3):=(blk_cell BK608.out 3).trans rfl;have hcz29_4:w17.cell? ⟨gb608,4,none⟩=some (.slice A0_4 l0_4.length c0_4):=(blk_cell BK608.out 4).trans rfl;have hcz29_5:w17.cell? ⟨gb608,5,none⟩=some (.int .i64 a0_5):=(blk_cell BK608.out 5).trans rfl;have hcz29_6:w17.cell? ⟨gb608,6,none⟩=some (.int .i64 a0_6):=(blk_cell BK608.out 6).trans rfl;have hcz29_7:w17.cell? ⟨gb608,7,none⟩=some (.slice (some ad610) l0_7.length c0_7):=(blk_cell BK608.out 7).trans rfl;have hfz29_0:=blk_frozen BK608.out 0;have hfz29_1:=blk_frozen BK608.out 1;have hfz29_2:=blk_frozen BK608.out 2;have hfz29_3:=blk_frozen BK608.out 3;have hfz29_4:=blk_frozen BK608.out 4;have hfz29_5:=blk_frozen BK608.out 5;have hfz29_6:=blk_frozen BK608.out 6;have hfz29_7:=blk_frozen BK608.out 7;obtain⟨_,_,_,_⟩:=cf2 BK611;go_wp2_with (first|(go_at_call 53;(with_reducible refine(slices_Contains_string_string.calls k1 _ _ l1 ((rd_T76 l0_7 x19_1).f0) t620 _ ?side1 ?side2 A24.out).mono ?_);(case side1=>exact Kd.C_below HR1.out (zz97 HB GE608 GE611 GE619));(case side2=>exact HC1.out);rintro e w' ⟨rfl,⟨nd,rfl⟩⟩))
        go_meet
        case rel=>exact⟨_,(!t620),zz5,H',⟨(zz18 HK1)⟩,⟨(zz75 (rt HO_5 BK619))⟩,⟨(zz75 (rt HO615 BK619))⟩,⟨(zz90 BK608 NB608_619)⟩,⟨(zz90 BK611 NB611_619)⟩,⟨(zz71 BK619)⟩,⟨(zz97 HB GE608 GE611 GE619)⟩⟩
       ·obtain⟨c23b0,c23b1⟩:=eqF c23
        (first|rw[c23b0]|(simp only[i64_w,i32_w];rw[c23b0])|skip)
        have H':=A_ H;clear H;have hnb31:=NB619_608.out;have hnc31:=NB608_619.out;have hnb32:=NB619_611.out;have hnc32:=NB611_619.out;obtain⟨_,_,_,_,_,_,_,_⟩:=cf4 BK619;have hnb34:=NB608_611.out;have hnc34:=NB611_608.out;have hcz35_0:w17.cell? ⟨gb608,0,none⟩=some (.string a0_0):=(blk_cell BK608.out 0).trans rfl;have hcz35_1:w17.cell? ⟨gb608,1,none⟩=some (.int .i64 a0_1):=(blk_cell BK608.out 1).trans rfl;have hcz35_2:w17.cell? ⟨gb608,2,none⟩=some (.bool a0_2):=(blk_cell BK608.out 2).trans rfl;have hcz35_3:w17.cell? ⟨gb608,3,none⟩=some (.slice A0_3 l0_3.length c0_3):=(blk_cell BK608.out 3).trans rfl;have hcz35_4:w17.cell? ⟨gb608,4,none⟩=some (.slice A0_4 l0_4.length c0_4):=(blk_cell BK608.out 4).trans rfl;have hcz35_5:w17.cell? ⟨gb608,5,none⟩=some (.int .i64 a0_5):=(blk_cell BK608.out 5).trans rfl;have hcz35_6:w17.cell? ⟨gb608,6,none⟩=some (.int .i64 a0_6):=(blk_cell BK608.out 6).trans rfl;have hcz35_7:w17.cell? ⟨gb608,7,none⟩=some (.slice (some ad610) l0_7.length c0_7):=(blk_cell BK608.out 7).trans rfl;have hfz35_0:=blk_frozen BK608.out 0;have hfz35_1:=blk_frozen BK608.out 1;have hfz35_2:=blk_frozen BK608.out 2;have hfz35_3:=blk_frozen BK608.out 3;have hfz35_4:=blk_frozen BK608.out 4;have hfz35_5:=blk_frozen BK608.out 5;have hfz35_6:=blk_frozen BK608.out 6;have hfz35_7:=blk_frozen BK608.out 7;go_wp2
        go_meet
        case rel=>exact⟨_,(true),zz5,H',⟨(zz18 HK1)⟩,⟨(zz75 (rt HO_5 BK619))⟩,⟨(zz75 (rt HO615 BK619))⟩,⟨(zz90 BK608 NB608_619)⟩,⟨(zz90 BK611 NB611_619)⟩,⟨(zz71 BK619)⟩,⟨(zz97 HB GE608 GE611 GE619)⟩⟩
      ·have H':=A_ H
       clear H;go_wp2
       go_meet
       case rel=>exact⟨_,(true),zz5,H',⟨(zz18 HK1)⟩,⟨(zz75 (rt HO_5 BK619))⟩,⟨(zz75 (rt HO615 BK619))⟩,⟨(zz90 BK608 NB608_619)⟩,⟨(zz90 BK611 NB611_619)⟩,⟨(zz71 BK619)⟩,⟨(zz97 HB GE608 GE611 GE619)⟩⟩
     case rest=>
      clear HC12;obtain⟨kq,x44_11,rfl,HA,HJ11,HO_5,HO_620001,BK608,BK611,BK619,HB⟩:=hcut;cases kq with
      |zero=>exact absurd HA.out (by simp[impl_todoOk.j1])
      |succ kj11=>
       obtain⟨H⟩:=HA;simp only[impl_todoOk.j1]at H;replace H:=iteB H;rcases H with⟨rfl,H⟩|⟨rfl,H⟩
       ·obtain rfl:=sI H
        go_wp2;go_ret;exact⟨zz11,(zz97 HB GE608 GE611 GE619)⟩
       ·replace H:=bindA H
        obtain⟨t621,A37,H⟩:=H;replace H:=iteB H;rcases H with⟨rfl,H⟩|⟨rfl,H⟩
        ·replace H:=iteN H
         obtain⟨c39,H⟩:=H;have LMc39:=A_ c39;clear c39;obtain⟨y622,Ny622⟩:=toY (x5_1++[((rd_T76 l0_7 x19_1).f0)]);(first|with_reducible replace H:=bindZ Ny622 H|rw[←Ny622.out]at H|skip);have H':=A_ H;clear H;have hnb40:=NB611_608.out;have hnc40:=NB608_611.out;have hnb41:=NB611_619.out;have hnc41:=NB619_611.out;obtain⟨_,_,_,_⟩:=cf2 BK611;go_wp2_with (first|(refine gR 40 (some 47) Tryz.func40 (impl_between.calls 0 ((rd_T76 l0_7 x19_1).f1) 2 true _ A37.out) ?_;rintro w' ⟨nd,rfl⟩)|((with_reducible refine gate_builtin (b:=.append) (xs:=#[.tmp 49,.tmp 52]) rfl ?_);at_builtin;refine Kd.R_append Kd.string (w0:=w) w.heap.size rfl (.tmp 49) (.tmp 52) 22 9 (.string ⟨#[]⟩) 16 rfl Tryz.underlying22 info9 rfl (by decide) (by omega) u5 x5_1 ((rd_T76 l0_7 x19_1).f0) [.string ((rd_T76 l0_7 x19_1).f0)] (fun k_=>some k_≠(.slice Ao21 t613.length co21:Value).ownBlock) (fun _=>False) rfl rfl ?aP (fun _ hk=>hk.elim) ?aF ?aO ?aB ?aS ?aL ?_;(case aP=>exact rfl);(case aB=>exact(zz97 HB GE608 GE611 GE619));(case aF=>exact(fun k_ hk=>Kd.fresh' (Kd.R_lt (zz23 HO_620001)) k_ hk));(case aO=>exact(zz23 HO_5));(case aS=>exact(below_size (zz97 HB GE608 GE611 GE619)));(case aL=>exact(zz15 LMc39));intro v623 w43 ho hb hg hat;rw[←Ny622.out]at ho;replace HO_620001:=A_ (Kd.R_after (ok:=(fun _=>True)) (zz94 HO_620001) hg hat);replace BK608:=A_ (blk_grown (zz3 BK608) hg (Kd.R_ne HO_5.out BK608.out (by decide)));replace BK611:=A_ (blk_grown (zz3 BK611) hg (Kd.R_ne HO_5.out BK611.out (by decide)));replace BK619:=A_ (blk_grown (zz3 BK619) hg (Kd.R_ne HO_5.out BK619.out (by decide)));replace HB:=A_ (hb);have HO624:=A_ (ho);clear HO_5;clear ho hb hg hat))
         go_roundg kj11
         case measure=>have:=HK1.out;have:=HJ11.out;omega
         case rel=>exact⟨(y622),(wrap64 (x19_1+1)),zz5,H',⟨(zz28 HK1 HJ11)⟩,⟨(zz84 HO624)⟩,⟨(zz3 BK608)⟩,⟨(zz97 HB GE608 GE611 GE619)⟩⟩
        ·obtain rfl:=sI H
         have hnb44:=NB611_608.out;have hnc44:=NB608_611.out;have hnb45:=NB611_619.out;have hnc45:=NB619_611.out;obtain⟨_,_,_,_⟩:=cf2 BK611;go_wp2_with (first|(refine gR 40 (some 47) Tryz.func40 (impl_between.calls 0 ((rd_T76 l0_7 x19_1).f1) 2 false _ A37.out) ?_;rintro w' ⟨nd,rfl⟩));go_ret;exact⟨zz11,(zz97 HB GE608 GE611 GE619)⟩
    ·replace H:=bindA H
     obtain⟨t609,A47,H⟩:=H;obtain rfl:=sI H;obtain⟨Ao48,co48,eo48⟩:=Kd.R_slice HO_5.out;subst eo48;go_wp2_with (first|(refine gR 45 (some 56) Tryz.func45 (impl_allOnce.calls k1 _ _ x5_1 t609 _ ?side1 ?side2 A47.out) ?_;(case side1=>exact(zz22 HO_5));(case side2=>exact(Kd.R_reads' HO_5.out).2.1);rintro w49 hb;replace HO_5:=A_ (rB (zz23 HO_5) hb);replace BK608:=A_ (bB (zz3 BK608) hb);replace HB:=A_ (bS (zz4 HB GE608) hb);(try clear hb)));go_ret;exact⟨zz11,(zz4 HB GE608)⟩
mutual
def impl_TripOk.j0:Nat→Bool→BA→Int→List (S43)→List BA→List (S83)→Option (Bool)
 |0,_,_,_,_,_,_=>none
 |k+1,x15,x626000,x626001,x626002,x626003,x626004=>if x15=true then(some false)else((impl_seenOk.f k x626003).bind fun t628=>(if t628=true then((impl_looksOk.f k x626004 x626001).bind fun t629=>(impl_TripOk.j1 k (!t629) x626000 x626001 x626002 x626003 x626004))else(impl_TripOk.j1 k true x626000 x626001 x626002 x626003 x626004)))
def impl_TripOk.j1:Nat→Bool→BA→Int→List (S43)→List BA→List (S83)→Option (Bool)
 |0,_,_,_,_,_,_=>none
 |k+1,x27,x626000,x626001,x626002,x626003,x626004=>if x27=true then(some false)else(impl_TripOk.l0 k ([]:List BA) x626002 (x626002.length:Int) 0 x626000 x626001 x626002 x626003 x626004)
def impl_TripOk.l0:Nat→List BA→List (S43)→Int→Int→BA→Int→List (S43)→List BA→List (S83)→Option (Bool)
 |0,_,_,_,_,_,_,_,_,_=>none
 |k+1,x3,x29,x30,x31,x626000,x626001,x626002,x626003,x626004=>if x31<x30 then(if 0≤x31 then(if x31<(x29.length:Int)then((impl_houseOk.f k ((rd_T43 x29 x31).f0) ((rd_T43 x29 x31).f1) ((rd_T43 x29 x31).f2) ((rd_T43 x29 x31).f3.f0) ((rd_T43 x29 x31).f3.f1) ((rd_T43 x29 x31).f3.f2) ((rd_T43 x29 x31).f4) ((rd_T43 x29 x31).f5) x626000).bind fun t633=>(if t633=true then((impl_todoOk.f k ((rd_T43 x29 x31).f0) ((rd_T43 x29 x31).f1) ((rd_T43 x29 x31).f2) ((rd_T43 x29 x31).f3.f0) ((rd_T43 x29 x31).f3.f1) ((rd_T43 x29 x31).f3.f2) ((rd_T43 x29 x31).f4) ((rd_T43 x29 x31).f5) x626003).bind fun t634=>(if t634=true then(if x3.length<8796093022208 then(impl_TripOk.l0 k (x3++[(rd_T43 x29 x31).f0]) x29 x30 (wrap64 (x31+1)) x626000 x626001 x626002 x626003 x626004)else(none))else(some false)))else(some false)))else(none))else(none))else((impl_allOnce.f k x3).bind fun t630=>(some t630))
end
def impl_TripOk.f (k:Nat)(a0_0:BA)(a0_1:Int)(l0_2:List (S43))(l0_3:List BA)(l0_4:List (S83)):Option (Bool):=(impl_isName.f k a0_0).bind fun t626=>(if t626=true then((impl_between.f 0 a0_1 5000).bind fun t627=>(impl_TripOk.j0 k (!t627) a0_0 a0_1 l0_2 l0_3 l0_4))else(impl_TripOk.j0 k true a0_0 a0_1 l0_2 l0_3 l0_4))
theorem impl_TripOk.calls (k:Nat)(a0_0:BA)(a0_1:Int)(A0_2:Option Addr)(c0_2:Nat)(l0_2:List (S43))(A0_3:Option Addr)(c0_3:Nat)(l0_3:List BA)(A0_4:Option Addr)(c0_4:Nat)(l0_4:List (S83))(r:Bool)(w:World)(hr0_2:Kd.C k43 w A0_2 l0_2.length l0_2)(hc0_2:l0_2.length≤c0_2)(hr0_3:Kd.C Kd.string w A0_3 l0_3.length l0_3)(hc0_3:l0_3.length≤c0_3)(hr0_4:Kd.C k83 w A0_4 l0_4.length l0_4)(hc0_4:l0_4.length≤c0_4)(h:impl_TripOk.f k a0_0 a0_1 l0_2 l0_3 l0_4=some r):
  Calls Tryz.prog 16 #[.agg #[.string a0_0,.int .i64 a0_1,.slice A0_2 l0_2.length c0_2,.slice A0_3 l0_3.length c0_3,.slice A0_4 l0_4.length c0_4]] w fun e w'=>e=.returned (.bool r)∧Below w.heap.size w w':=by
 have hu27:=Tryz.underlying27;have hu43:=Tryz.underlying43;have HR0_2:=A_ hr0_2;have HC0_2:=A_ hc0_2;clear hr0_2 hc0_2;have HR0_3:=A_ hr0_3;have HC0_3:=A_ hc0_3;clear hr0_3 hc0_3;have HR0_4:=A_ hr0_4;have HC0_4:=A_ hc0_4;clear hr0_4 hc0_4;have HB:=A_ (Below.refl w.heap.size w);unfold impl_TripOk.f at h;have H:=h;clear h;have HC2:=A_ H;clear H;go_enter Tryz.func16,Tryz.ntmps16;go_upto_region 1 with(first|(refine boxF 1 #[.string a0_0,.int .i64 a0_1,.slice A0_2 l0_2.length c0_2,.slice A0_3 l0_3.length c0_3,.slice A0_4 l0_4.length c0_4] 27 ?_;intro gb625 hg w3 BK625 hb;have GE625:=geB hg (zz2 HB);replace HB:=A_ (bS (zz2 HB) hb);clear hb hg))
 (try simp only[Act.put,lS_,l0_,lC_])
 go_cut [15] (fun v15 wc=>∃(kq:Nat)(x15_1:Bool),v15=.bool x15_1∧Aside0 (impl_TripOk.j0 kq x15_1 a0_0 a0_1 l0_2 l0_3 l0_4=some r)∧Aside0 (kq≤k)∧Aside0 (wc.heap[gb625]?=some (.cells #[.string a0_0,.int .i64 a0_1,(.slice A0_2 l0_2.length c0_2),(.slice A0_3 l0_3.length c0_3),(.slice A0_4 l0_4.length c0_4)] 27 (0,0)))∧Aside0 (Below w.heap.size w wc))
 case first=>
  obtain⟨H⟩:=HC2;replace H:=bindA H;obtain⟨t626,A4,H⟩:=H;have HF5:=A_ H;clear H;obtain⟨_,_,_,_,_,_,_,_,_,_⟩:=cf5 BK625;go_wp2_with (first|(refine gR 22 (some 8) Tryz.func22 (impl_isName.calls k a0_0 t626 _ A4.out) ?_;rintro w' ⟨nd,rfl⟩)|((with_reducible refine atG ?_ ?_ fun K_ hK_=>?_);rfl;exact undecG)|((with_reducible refine atI ?_ fun K_ hK_=>?_);exact undecI));refine unG hK_ ?_;clear hK_ K_;obtain⟨H⟩:=HF5;replace H:=iteB H;rcases H with⟨rfl,H⟩|⟨rfl,H⟩
  ·(first|refine iteT ?_|refine iteF ?_|skip)
   replace H:=bindA H;obtain⟨t627,A8,H⟩:=H;have H':=A_ H;clear H;obtain⟨_,_,_,_,_,_,_,_,_,_⟩:=cf5 BK625;(try((with_reducible refine upS ?_);go_simp))
   go_wp2_with (first|(go_at_call 40;(with_reducible refine(impl_between.calls 0 a0_1 5000 t627 _ A8.out).mono ?_);rintro e w' ⟨rfl,⟨nd,rfl⟩⟩))
   go_meet
   case rel=>exact⟨_,(!t627),zz5,H',⟨zz6⟩,⟨(zz3 BK625)⟩,⟨(zz4 HB GE625)⟩⟩
  ·(first|refine iteT ?_|refine iteF ?_|skip)
   have H':=A_ H;clear H;(try((with_reducible refine upS ?_);go_simp));go_wp2
   go_meet
   case rel=>exact⟨_,(true),zz5,H',⟨zz6⟩,⟨(zz3 BK625)⟩,⟨(zz4 HB GE625)⟩⟩
 case rest=>
  clear HC2;obtain⟨kq,x15_1,rfl,HA,HJ1,BK625,HB⟩:=hcut;cases kq with
  |zero=>exact absurd HA.out (by simp[impl_TripOk.j0])
  |succ kj1=>
   obtain⟨H⟩:=HA;simp only[impl_TripOk.j0]at H;replace H:=iteB H;rcases H with⟨rfl,H⟩|⟨rfl,H⟩
   ·obtain rfl:=sI H
    go_wp2;go_ret;exact⟨zz11,(zz4 HB GE625)⟩
   ·have HC11:=A_ H
    clear H;go_upto_region 3 with(fail)
    go_cut [27] (fun v27 wc=>∃(kq:Nat)(x27_10:Bool),v27=.bool x27_10∧Aside0 (impl_TripOk.j1 kq x27_10 a0_0 a0_1 l0_2 l0_3 l0_4=some r)∧Aside0 (kq≤kj1)∧Aside0 (wc.heap[gb625]?=some (.cells #[.string a0_0,.int .i64 a0_1,(.slice A0_2 l0_2.length c0_2),(.slice A0_3 l0_3.length c0_3),(.slice A0_4 l0_4.length c0_4)] 27 (0,0)))∧Aside0 (Below w.heap.size w wc))
    case first=>
     obtain⟨H⟩:=HC11;replace H:=bindA H;obtain⟨t628,A12,H⟩:=H;have HF13:=A_ H;clear H;obtain⟨_,_,_,_,_,_,_,_,_,_⟩:=cf5 BK625;go_wp2_with (first|(refine gR 41 (some 18) Tryz.func41 (impl_seenOk.calls kj1 _ _ l0_3 t628 _ ?side1 ?side2 A12.out) ?_;(case side1=>exact(zz62 HR0_3 HB));(case side2=>exact HC0_3.out);rintro w15 hb;replace BK625:=A_ (bB (zz3 BK625) hb);replace HB:=A_ (bS (zz4 HB GE625) hb);(try clear hb))|((with_reducible refine atG ?_ ?_ fun K_ hK_=>?_);rfl;exact undecG)|((with_reducible refine atI ?_ fun K_ hK_=>?_);exact undecI));refine unG hK_ ?_;clear hK_ K_;obtain⟨H⟩:=HF13;replace H:=iteB H;rcases H with⟨rfl,H⟩|⟨rfl,H⟩
     ·(first|refine iteT ?_|refine iteF ?_|skip)
      replace H:=bindA H;obtain⟨t629,A17,H⟩:=H;have H':=A_ H;clear H;obtain⟨_,_,_,_,_,_,_,_,_,_⟩:=cf5 BK625;(try((with_reducible refine upS ?_);go_simp))
      go_wp2_with (first|(go_at_call 42;(with_reducible refine(impl_looksOk.calls kj1 _ _ l0_4 a0_1 t629 _ ?side1 ?side2 A17.out).mono ?_);(case side1=>exact(zz62 HR0_4 HB));(case side2=>exact HC0_4.out);rintro e w19 ⟨rfl,hb⟩;replace BK625:=A_ (bB (zz3 BK625) hb);replace HB:=A_ (bS (zz4 HB GE625) hb);(try clear hb)))
      go_meet
      case rel=>exact⟨_,(!t629),zz5,H',⟨(zz18 HJ1)⟩,⟨(zz3 BK625)⟩,⟨(zz4 HB GE625)⟩⟩
     ·(first|refine iteT ?_|refine iteF ?_|skip)
      have H':=A_ H;clear H;(try((with_reducible refine upS ?_);go_simp));go_wp2
      go_meet
      case rel=>exact⟨_,(true),zz5,H',⟨(zz18 HJ1)⟩,⟨(zz3 BK625)⟩,⟨(zz4 HB GE625)⟩⟩
    case rest=>
     clear HC11;obtain⟨kq,x27_10,rfl,HA,HJ10,BK625,HB⟩:=hcut;cases kq with
     |zero=>exact absurd HA.out (by simp[impl_TripOk.j1])
     |succ kj10=>
      obtain⟨H⟩:=HA;simp only[impl_TripOk.j1]at H;replace H:=iteB H;rcases H with⟨rfl,H⟩|⟨rfl,H⟩
      ·obtain rfl:=sI H
       go_wp2;go_ret;exact⟨zz11,(zz4 HB GE625)⟩
      ·have H':=A_ H
       clear H;obtain⟨_,_,_,_,_,_,_,_,_,_⟩:=cf5 BK625;go_wp2
       go_loopg [3,31] kj10 (fun kq v3 v31 w'=>∃(x3_3:List BA)(x31_3:Int),v31=.int .i64 x31_3∧Aside0 (impl_TripOk.l0 kq x3_3 l0_2 (l0_2.length:Int) x31_3 a0_0 a0_1 l0_2 l0_3 l0_4=some r)∧Aside0 (kq≤kj10)∧Aside0 (Kd.R Kd.string 9 w' w.heap.size (fun _=>True) v3 x3_3)∧Aside0 (w'.heap[gb625]?=some (.cells #[.string a0_0,.int .i64 a0_1,(.slice A0_2 l0_2.length c0_2),(.slice A0_3 l0_3.length c0_3),(.slice A0_4 l0_4.length c0_4)] 27 (0,0)))∧Aside0 (Below w.heap.size w w'))
       case atStart=>exact⟨(([]:List BA)),(0),zz5,H',⟨lL_ _⟩,⟨zz25⟩,⟨(zz3 BK625)⟩,⟨(zz4 HB GE625)⟩⟩
       case round=>
        clear H';obtain⟨x3_3,x31_3,rfl,HA,HK3,HO_3,BK625,HB⟩:=hrel;cases gk with
        |zero=>exact absurd HA.out (by simp[impl_TripOk.l0])
        |succ k3=>
         obtain⟨H⟩:=HA;simp only[impl_TripOk.l0]at H;replace H:=iteEd H;rcases H with⟨c22b0,H⟩|⟨c22b0,H⟩
         ·replace H:=iteNd H
          obtain⟨c23b0,H⟩:=H;replace H:=iteNd H;obtain⟨c24b0,H⟩:=H;replace H:=bindA H;obtain⟨t633,A25,H⟩:=H;have HF26:=A_ H;clear H;obtain⟨⟨ad631,A631_3,c631_3,A631_4,c631_4,A631_7,c631_7,e631,hx631_0,hx631_1,hx631_2,hx631_3,hx631_4,hx631_5,hx631_6,hx631_7,hl631_3,hi631_3,hl631_4,hi631_4,hl631_7,hi631_7⟩,p631,q631⟩:=atB (at_T43 HR0_2.out x31_3);cases e631;obtain⟨hx631_0,hx631_1,hx631_2,hx631_3⟩:=cb4 HB hx631_0 hx631_1 hx631_2 hx631_3;obtain⟨hx631_4,hx631_5,hx631_6,hx631_7⟩:=cb4 HB hx631_4 hx631_5 hx631_6 hx631_7;have HR631_3:=A_ hi631_3;have HC631_3:=A_ hl631_3;clear hi631_3 hl631_3;have HR631_4:=A_ hi631_4;have HC631_4:=A_ hl631_4;clear hi631_4 hl631_4;have HR631_7:=A_ hi631_7;have HC631_7:=A_ hl631_7;clear hi631_7 hl631_7;go_wp2_with (first|(refine boxF 5 #[.string (⟨#[]⟩:BA),.int .i64 0,.bool false,.slice none 0 0,.slice none 0 0,.int .i64 0,.int .i64 0,.slice none 0 0] 43 ?_;intro gb632 hg w27 BK632 hb;replace HO_3:=A_ (rB (zz23 HO_3) hb);have GE632:=geB hg (zz4 HB GE625);replace HB:=A_ (bS (zz4 HB GE625) hb);have NB625_632:=A_ ((by rw[hg];exact Nat.ne_of_lt (blk_lt (zz3 BK625)):gb625≠gb632));have NB632_625:=A_ ((by rw[hg];exact Nat.ne_of_gt (blk_lt (zz3 BK625)):gb632≠gb625));replace BK625:=A_ (bB (zz3 BK625) hb);clear hb hg;have hnb28:=NB632_625.out;have hnc28:=NB625_632.out;have hcz29_0:w27.cell? ⟨gb632,0,none⟩=some (.string (⟨#[]⟩:BA)):=(blk_cell BK632.out 0).trans rfl;have hcz29_1:w27.cell? ⟨gb632,1,none⟩=some (.int .i64 0):=(blk_cell BK632.out 1).trans rfl;have hcz29_2:w27.cell? ⟨gb632,2,none⟩=some (.bool false):=(blk_cell BK632.out 2).trans rfl;have hcz29_3:w27.cell? ⟨gb632,3,none⟩=some (.slice none 0 0):=(blk_cell BK632.out 3).trans rfl;have hcz29_4:w27.cell? ⟨gb632,4,none⟩=some (.slice none 0 0):=(blk_cell BK632.out 4).trans rfl;have hcz29_5:w27.cell? ⟨gb632,5,none⟩=some (.int .i64 0):=(blk_cell BK632.out 5).trans rfl;have hcz29_6:w27.cell? ⟨gb632,6,none⟩=some (.int .i64 0):=(blk_cell BK632.out 6).trans rfl;have hcz29_7:w27.cell? ⟨gb632,7,none⟩=some (.slice none 0 0):=(blk_cell BK632.out 7).trans rfl;have hfz29_0:=blk_frozen BK632.out 0;have hfz29_1:=blk_frozen BK632.out 1;have hfz29_2:=blk_frozen BK632.out 2;have hfz29_3:=blk_frozen BK632.out 3;have hfz29_4:=blk_frozen BK632.out 4;have hfz29_5:=blk_frozen BK632.out 5;have hfz29_6:=blk_frozen BK632.out 6;have hfz29_7:=blk_frozen BK632.out 7;obtain⟨_,_,_,_,_,_,_,_,_,_⟩:=cf5 BK625)|(refine gR 43 (some 38) Tryz.func43 (impl_houseOk.calls k3 ((rd_T43 l0_2 x31_3).f0) ((rd_T43 l0_2 x31_3).f1) ((rd_T43 l0_2 x31_3).f2) _ _ ((rd_T43 l0_2 x31_3).f3.f0) _ _ ((rd_T43 l0_2 x31_3).f3.f1) ((rd_T43 l0_2 x31_3).f3.f2) ((rd_T43 l0_2 x31_3).f4) _ _ ((rd_T43 l0_2 x31_3).f5) a0_0 t633 _ ?side1 ?side2 ?side3 ?side4 ?side5 ?side6 A25.out) ?_;(case side1=>exact Kd.C_below HR631_3.out (zz46 HB GE625 GE632));(case side2=>exact HC631_3.out);(case side3=>exact Kd.C_below HR631_4.out (zz46 HB GE625 GE632));(case side4=>exact HC631_4.out);(case side5=>exact Kd.C_below HR631_7.out (zz46 HB GE625 GE632));(case side6=>exact HC631_7.out);rintro w31 hb;replace HO_3:=A_ (rB (by(with_reducible repeat(first|apply Kd.R_alloc|apply Kd.R_drewN|apply Kd.R_drew));exact(Kd.R_mono (Kd.R_far (p:=⟨gb632,7,none⟩) (Kd.R_far (p:=⟨gb632,6,none⟩) (Kd.R_far (p:=⟨gb632,5,none⟩) (Kd.R_far (p:=⟨gb632,4,none⟩) (Kd.R_far (p:=⟨gb632,3,none⟩) (Kd.R_far (p:=⟨gb632,2,none⟩) (Kd.R_far (p:=⟨gb632,1,none⟩) (Kd.R_far (p:=⟨gb632,0,none⟩) (Kd.R_types HO_3.out BK632.out (by decide)) (fun _ hk=>hk.2) (.string ((rd_T43 l0_2 x31_3).f0))) (fun _ hk=>hk.2) (.int .i64 ((rd_T43 l0_2 x31_3).f1))) (fun _ hk=>hk.2) (.bool ((rd_T43 l0_2 x31_3).f2))) (fun _ hk=>hk.2) (.slice A631_3 ((rd_T43 l0_2 x31_3).f3.f0).length c631_3)) (fun _ hk=>hk.2) (.slice A631_4 ((rd_T43 l0_2 x31_3).f3.f1).length c631_4)) (fun _ hk=>hk.2) (.int .i64 ((rd_T43 l0_2 x31_3).f3.f2))) (fun _ hk=>hk.2) (.int .i64 ((rd_T43 l0_2 x31_3).f4))) (fun _ hk=>hk.2) (.slice A631_7 ((rd_T43 l0_2 x31_3).f5).length c631_7)) (fun _ h_=>h_.1))) hb);replace BK625:=A_ (bB (g:=gb625) (o:=.cells #[.string a0_0,.int .i64 a0_1,.slice (some ad631) l0_2.length c0_2,.slice A0_3 l0_3.length c0_3,.slice A0_4 l0_4.length c0_4] 27 (0,0)) (zz90 BK625 NB625_632) hb);replace BK632:=A_ (bB (g:=gb632) (o:=.cells #[.string ((rd_T43 l0_2 x31_3).f0),.int .i64 ((rd_T43 l0_2 x31_3).f1),.bool ((rd_T43 l0_2 x31_3).f2),.slice A631_3 ((rd_T43 l0_2 x31_3).f3.f0).length c631_3,.slice A631_4 ((rd_T43 l0_2 x31_3).f3.f1).length c631_4,.int .i64 ((rd_T43 l0_2 x31_3).f3.f2),.int .i64 ((rd_T43 l0_2 x31_3).f4),.slice A631_7 ((rd_T43 l0_2 x31_3).f5).length c631_7] 43 (0,0)) (by first|((repeat(first|(with_reducible first|exact BK632.out|refine blk_drewN ?_ _|refine blk_drew ?_|refine blk_alloc ?_ _|apply blk_put)|exact BK632.out));all_goals rfl;done)|(apply blk_put (i:=7);apply blk_put (i:=6);apply blk_put (i:=5);apply blk_put (i:=4);apply blk_put (i:=3);apply blk_put (i:=2);apply blk_put (i:=1);apply blk_put (i:=0);exact BK632.out;all_goals rfl)) hb);replace HB:=A_ (bS (zz46 HB GE625 GE632) hb);(try clear hb))|((with_reducible refine atG ?_ ?_ fun K_ hK_=>?_);rfl;exact undecG)|((with_reducible refine atI ?_ fun K_ hK_=>?_);exact undecI));refine unG hK_ ?_;clear hK_ K_;obtain⟨H⟩:=HF26;replace H:=iteB H;rcases H with⟨rfl,H⟩|⟨rfl,H⟩
          ·(first|refine iteT ?_|refine iteF ?_|skip)
           replace H:=bindA H;obtain⟨t634,A33,H⟩:=H;have HF34:=A_ H;clear H;have hnb35:=NB632_625.out;have hnc35:=NB625_632.out;have hcz36_0:w31.cell? ⟨gb632,0,none⟩=some (.string ((rd_T43 l0_2 x31_3).f0)):=(blk_cell BK632.out 0).trans rfl;have hcz36_1:w31.cell? ⟨gb632,1,none⟩=some (.int .i64 ((rd_T43 l0_2 x31_3).f1)):=(blk_cell BK632.out 1).trans rfl;have hcz36_2:w31.cell? ⟨gb632,2,none⟩=some (.bool ((rd_T43 l0_2 x31_3).f2)):=(blk_cell BK632.out 2).trans rfl;have hcz36_3:w31.cell? ⟨gb632,3,none⟩=some (.slice A631_3 ((rd_T43 l0_2 x31_3).f3.f0).length c631_3):=(blk_cell BK632.out 3).trans rfl;have hcz36_4:w31.cell? ⟨gb632,4,none⟩=some (.slice A631_4 ((rd_T43 l0_2 x31_3).f3.f1).length c631_4):=(blk_cell BK632.out 4).trans rfl;have hcz36_5:w31.cell? ⟨gb632,5,none⟩=some (.int .i64 ((rd_T43 l0_2 x31_3).f3.f2)):=(blk_cell BK632.out 5).trans rfl;have hcz36_6:w31.cell? ⟨gb632,6,none⟩=some (.int .i64 ((rd_T43 l0_2 x31_3).f4)):=(blk_cell BK632.out 6).trans rfl;have hcz36_7:w31.cell? ⟨gb632,7,none⟩=some (.slice A631_7 ((rd_T43 l0_2 x31_3).f5).length c631_7):=(blk_cell BK632.out 7).trans rfl;have hfz36_0:=blk_frozen BK632.out 0;have hfz36_1:=blk_frozen BK632.out 1;have hfz36_2:=blk_frozen BK632.out 2;have hfz36_3:=blk_frozen BK632.out 3;have hfz36_4:=blk_frozen BK632.out 4;have hfz36_5:=blk_frozen BK632.out 5;have hfz36_6:=blk_frozen BK632.out 6;have hfz36_7:=blk_frozen BK632.out 7;obtain⟨_,_,_,_,_,_,_,_,_,_⟩:=cf5 BK625;(try((with_reducible refine upS ?_);go_simp))
           go_upto_if 46 with(first|(go_at_call 44;(with_reducible refine(impl_todoOk.calls k3 ((rd_T43 l0_2 x31_3).f0) ((rd_T43 l0_2 x31_3).f1) ((rd_T43 l0_2 x31_3).f2) _ _ ((rd_T43 l0_2 x31_3).f3.f0) _ _ ((rd_T43 l0_2 x31_3).f3.f1) ((rd_T43 l0_2 x31_3).f3.f2) ((rd_T43 l0_2 x31_3).f4) _ _ ((rd_T43 l0_2 x31_3).f5) _ _ l0_3 t634 _ ?side1 ?side2 ?side3 ?side4 ?side5 ?side6 ?side7 ?side8 A33.out).mono ?_);(case side1=>exact(zz62 HR631_3 HB));(case side2=>exact HC631_3.out);(case side3=>exact(zz62 HR631_4 HB));(case side4=>exact HC631_4.out);(case side5=>exact(zz62 HR631_7 HB));(case side6=>exact HC631_7.out);(case side7=>exact(zz62 HR0_3 HB));(case side8=>exact HC0_3.out);rintro e w38 ⟨rfl,hb⟩;replace HO_3:=A_ (rB (zz23 HO_3) hb);replace BK625:=A_ (bB (zz3 BK625) hb);replace BK632:=A_ (bB (zz3 BK632) hb);replace HB:=A_ (bS (zz46 HB GE625 GE632) hb);(try clear hb)))
           obtain⟨H⟩:=HF34;replace H:=iteB H;rcases H with⟨rfl,H⟩|⟨rfl,H⟩
           ·replace H:=iteN H
            obtain⟨c40,H⟩:=H;have LMc40:=A_ c40;clear c40;obtain⟨y635,Ny635⟩:=toY (x3_3++[(rd_T43 l0_2 x31_3).f0]);(first|with_reducible replace H:=bindZ Ny635 H|rw[←Ny635.out]at H|skip);have H':=A_ H;clear H;have hnb41:=NB632_625.out;have hnc41:=NB625_632.out;have hcz42_0:w38.cell? ⟨gb632,0,none⟩=some (.string ((rd_T43 l0_2 x31_3).f0)):=(blk_cell BK632.out 0).trans rfl;have hcz42_1:w38.cell? ⟨gb632,1,none⟩=some (.int .i64 ((rd_T43 l0_2 x31_3).f1)):=(blk_cell BK632.out 1).trans rfl;have hcz42_2:w38.cell? ⟨gb632,2,none⟩=some (.bool ((rd_T43 l0_2 x31_3).f2)):=(blk_cell BK632.out 2).trans rfl;have hcz42_3:w38.cell? ⟨gb632,3,none⟩=some (.slice A631_3 ((rd_T43 l0_2 x31_3).f3.f0).length c631_3):=(blk_cell BK632.out 3).trans rfl;have hcz42_4:w38.cell? ⟨gb632,4,none⟩=some (.slice A631_4 ((rd_T43 l0_2 x31_3).f3.f1).length c631_4):=(blk_cell BK632.out 4).trans rfl;have hcz42_5:w38.cell? ⟨gb632,5,none⟩=some (.int .i64 ((rd_T43 l0_2 x31_3).f3.f2)):=(blk_cell BK632.out 5).trans rfl;have hcz42_6:w38.cell? ⟨gb632,6,none⟩=some (.int .i64 ((rd_T43 l0_2 x31_3).f4)):=(blk_cell BK632.out 6).trans rfl;have hcz42_7:w38.cell? ⟨gb632,7,none⟩=some (.slice A631_7 ((rd_T43 l0_2 x31_3).f5).length c631_7):=(blk_cell BK632.out 7).trans rfl;have hfz42_0:=blk_frozen BK632.out 0;have hfz42_1:=blk_frozen BK632.out 1;have hfz42_2:=blk_frozen BK632.out 2;have hfz42_3:=blk_frozen BK632.out 3;have hfz42_4:=blk_frozen BK632.out 4;have hfz42_5:=blk_frozen BK632.out 5;have hfz42_6:=blk_frozen BK632.out 6;have hfz42_7:=blk_frozen BK632.out 7;go_wp2_with (first|((with_reducible refine gate_builtin (b:=.append) (xs:=#[.tmp 47,.tmp 50]) rfl ?_);at_builtin;refine Kd.R_append Kd.string (w0:=w) w.heap.size rfl (.tmp 47) (.tmp 50) 22 9 (.string ⟨#[]⟩) 16 rfl Tryz.underlying22 info9 rfl (by decide) (by omega) u3 x3_3 ((rd_T43 l0_2 x31_3).f0) [.string ((rd_T43 l0_2 x31_3).f0)] (fun _=>True) (fun _=>False) rfl rfl ?aP (fun _ hk=>hk.elim) ?aF ?aO ?aB ?aS ?aL ?_;(case aP=>exact rfl);(case aB=>exact(zz46 HB GE625 GE632));(case aF=>exact(fun _ _=>trivial));(case aO=>exact(zz23 HO_3));(case aS=>exact(below_size (zz46 HB GE625 GE632)));(case aL=>exact(zz15 LMc40));intro v636 w43 ho hb hg hat;rw[←Ny635.out]at ho;replace BK625:=A_ (blk_grown (zz3 BK625) hg (Kd.R_ne HO_3.out BK625.out (by decide)));replace BK632:=A_ (blk_grown (zz3 BK632) hg (Kd.R_ne HO_3.out BK632.out (by decide)));replace HB:=A_ (hb);have HO637:=A_ (ho);clear HO_3;clear ho hb hg hat))
            go_roundg k3
            case measure=>have:=HJ1.out;have:=HJ10.out;have:=HK3.out;omega
            case rel=>exact⟨(y635),(wrap64 (x31_3+1)),zz5,H',⟨(by have:=HJ1.out;have:=HJ10.out;have:=HK3.out;omega)⟩,⟨(zz23 HO637)⟩,⟨(zz3 BK625)⟩,⟨(zz46 HB GE625 GE632)⟩⟩
           ·obtain rfl:=sI H
            go_wp2;go_ret;exact⟨zz11,(zz46 HB GE625 GE632)⟩
          ·(first|refine iteT ?_|refine iteF ?_|skip)
           obtain rfl:=sI H;(try((with_reducible refine upS ?_);go_simp));go_wp2;go_ret;exact⟨zz11,(zz46 HB GE625 GE632)⟩
         ·replace H:=bindA H
          obtain⟨t630,A44,H⟩:=H;obtain rfl:=sI H;obtain⟨Ao45,co45,eo45⟩:=Kd.R_slice HO_3.out;subst eo45;go_wp2_with (first|(refine gR 45 (some 54) Tryz.func45 (impl_allOnce.calls k3 _ _ x3_3 t630 _ ?side1 ?side2 A44.out) ?_;(case side1=>exact(zz22 HO_3));(case side2=>exact(Kd.R_reads' HO_3.out).2.1);rintro w46 hb;replace HO_3:=A_ (rB (zz23 HO_3) hb);replace BK625:=A_ (bB (zz3 BK625) hb);replace HB:=A_ (bS (zz4 HB GE625) hb);(try clear hb)));go_ret;exact⟨zz11,(zz4 HB GE625)⟩
end Go.Proofs.YtalfefmnlnkcaaaGreatDoor.P
end
section
namespace Go.Proofs.YtalfefmnlnkcaaaGreatDoor.P
open Go.RowKit Go.Proofs.YtalfefmnlnkcaaaGreatDoorW PrintWords PrintLast PrintMore
section
variable {P:Program}{ops:Array Oper}{o:Oper}{a:Act}{Q:Exit→Act→World→Prop}{md:Region.Mode}{S:World→Prop}{ds:List Nat}{W:World}
theorem rgP (i:Nat)(N:Option Tmp){v:Value}{fuel:Nat}{l:Array Bool}(l':Array Bool){a':Act}
  (h:wpAnyLast P md ops Q S ds fuel l' a' W) (hi:ops[i]?=some o:=by rfl) (hN:o.dst=N:=by rfl) (hc:anyB md ops l l' i=true:=by kernel_rfl)
  (hQ:∀c a w,Q (.panic c) (a.put o.dst v) w→Q (.panic c) a w:=by exact fun _ _ _ h=>h)
  (hy:Yields P ops o v a:=by exact Or.inl ⟨by rfl,by intro w';go_simp;with_reducible rfl⟩)
  (ha:a.put N v=a':=by(simp only[Act.put,lS_,l0_,lC_,i64_w,i32_w];rfl)):wpAnyLast P md ops Q S ds (fuel+1) l a W:=pure_ l' hi hN hc hQ hy ha h
theorem rgU (i:Nat)(N:Option Tmp){fuel:Nat}{l:Array Bool}(l':Array Bool){a':Act}
  (h:wpAnyLast P md ops Q S ds fuel l' a' W) (hi:ops[i]?=some o:=by rfl) (hN:o.dst=N:=by rfl) (hc:anyB md ops l l' i=true:=by kernel_rfl)
  (hQ:∀c a w,Q (.panic c) (a.put o.dst undef) w→Q (.panic c) a w:=by exact fun _ _ _ h=>h)
  (hy:Yields P ops o undef a:=by exact Or.inr ⟨by rfl,rfl⟩)
  (ha:a.put N undef=a':=by(simp only[Act.put,lS_,l0_,lC_,i64_w,i32_w];rfl)):wpAnyLast P md ops Q S ds (fuel+1) l a W:=pure_ l' hi hN hc hQ hy ha h
theorem rgT (i:Nat)(N:Option Tmp){v:Value}{fuel:Nat}{l:Array Bool}(l':Array Bool)(hS:S W){a':Act}
  (h:wpAnyLast P md ops Q S ds fuel l' a' W) (hi:ops[i]?=some o:=by rfl) (hN:o.dst=N:=by rfl) (hc:takeB md ops ds l l' i=true:=by kernel_rfl)
  (hQ:∀c a w,Q (.panic c) (a.put o.dst v) w→Q (.panic c) a w:=by exact fun _ _ _ h=>h)
  (hy:YieldsIf P ops S o v a:=by exact Or.inl ⟨by rfl,by rintro w' ⟨s0,s1⟩;go_simp;with_reducible rfl⟩)
  (ha:a.put N v=a':=by(simp only[Act.put,lS_,l0_,lC_,i64_w,i32_w];rfl)):wpAnyLast P md ops Q S ds (fuel+1) l a W:=take_ l' hi hN hc hQ hy hS ha h
theorem rgN (N:Tmp){fuel:Nat}{l:Array Bool}{b a':Act}{v:Value}(h:wpAnyLast P md ops Q S ds fuel l a' W)(hb:a=b.put (some N) v:=by rfl)(ha:b.put (some N) v=a':=by(simp only[Act.put,lS_,l0_,lC_,i64_w,i32_w];rfl)):wpAnyLast P md ops Q S ds fuel l a W:=norm_ (hb.trans ha) h
theorem rgO (i:Nat)(N:Tmp)(v:Value)(w1:World){fuel:Nat}{l:Array Bool}(l':Array Bool)(hS:S w1){a':Act}(h:S w1→wpAnyLast P md ops Q S ds fuel l' a' w1)(hi:ops[i]?=some o:=by rfl)(hN:o.dst=some N:=by rfl)(hc:readyB md ops l l' i=true:=by kernel_rfl)(hd:i ∉ ds:=by decide)
  (hw:Region.wanted o (yielded ops a.tmps)=true:=by rfl) (hrun:(execOp a.eval o).run P W=.ok (.value v) w1:=by first|(go_simp;done)|(go_simp;rfl))
  (ha:a.put (some N) v=a':=by(simp only[Act.put,lS_,l0_,lC_,i64_w,i32_w];rfl)):wpAnyLast P md ops Q S ds (fuel+1) l a W:=
 one_ l' hi hN hc hd fun K hK=>value_ hw hN hrun (hK.out _ _ hS (fun hs=>ha ▸ h hs))
theorem rgL (i:Nat)(w1:World){fuel:Nat}{l:Array Bool}(l':Array Bool)(h:wpAnyLast P md ops Q S ds fuel l' a w1)(hi:ops[i]?=some o:=by rfl)(hN:o.dst=none:=by rfl)(hc:readyB md ops l l' i=true:=by kernel_rfl)(hd:i∈ds:=by decide)
  (hw:Region.wanted o (yielded ops a.tmps)=true:=by rfl) (hrun:(execOp a.eval o).run P W=.ok .skip w1:=by first|(go_simp;done)|(go_simp;rfl)):wpAnyLast P md ops Q S ds (fuel+1) l a W:=
 last_ l' hi hN hc hd fun K hK=>skip_ hw hN hrun (hK.out _ _ h)
end
end Go.Proofs.YtalfefmnlnkcaaaGreatDoor.P
end
section
namespace Go.Proofs.YtalfefmnlnkcaaaGreatDoor.P
open Go.RowKit Go.Proofs.YtalfefmnlnkcaaaGreatDoorW PrintWords PrintLast PrintMore
abbrev Hz:=S43
abbrev kHz:=k43
def hzAt (l:List Hz)(i:Nat):Hz:=l.getD i z43
structure Row (w0 w wc:World)(ok:Nat→Prop)(g n cap i:Nat)(P R:List Hz)(q:Hz)(l:List Hz):Prop where
 S:Kd.S kHz 43 wc w0.heap.size ok (.slice (some ⟨g,0,none⟩) n cap) l
 B:Below w0.heap.size w0 wc
 K:Kept w wc ok
 len:l.length=n
 lt:i<n
 pre:l.take i=P
 rest:l.drop (i+1)=R
 at_:hzAt l i=q
def At (w0 w wc:World)(ok:Nat→Prop)(g n cap i:Nat)(P R:List Hz)(q:Hz):Prop:=∃l,Row w0 w wc ok g n cap i P R q l
def hzC (q:Hz)(v3 v4 v7:Value):List Value:=[.string q.f0,.int .i64 q.f1,.bool q.f2,v3,v4,.int .i64 q.f3.f2,.int .i64 q.f4,v7]
section
variable {w0 w W:World}{ok:Nat→Prop}{g n cap i:Nat}{P R:List Hz}{q:Hz}
theorem At.below {w1:World}(h:At w0 w W ok g n cap i P R q)(hb:Below W.heap.size W w1):At w0 w w1 ok g n cap i P R q:=by
 obtain⟨l,hr⟩:=h;exact⟨l,Kd.S_below hr.S hb,hr.B.trans (hb.mono hr.B.size),hr.K.below hb,hr.len,hr.lt,hr.pre,hr.rest,hr.at_⟩
theorem At.lend (h:At w0 w W ok g n cap i P R q):∃l v3 v4 v7 oki,Row w0 w W ok g n cap i P R q l∧Kd.string.R 9 W w0.heap.size oki v3 q.f3.f0∧k98.R 98 W w0.heap.size oki v4 q.f3.f1∧k76.R 76 W w0.heap.size oki v7 q.f5 ∧
  (∀j u,(hzC q v3 v4 v7)[j]?=some u→W.cell? ⟨g,i*8+j,none⟩=some u)∧(∀j,W.frozen? ⟨g,i*8+j,none⟩=false)∧(∀k,oki k→ok k∧k≠g) ∧
  Kd.H kHz 43 W w0.heap.size ok (.slice (some ⟨g,0,none⟩) n cap) l (i:Int) oki (hzC q v3 v4 v7):=by
 obtain⟨l,hr⟩:=h;have hlt:=hr.lt;obtain⟨oki,c,hcl,hM,hcc,hfr,hoki,hH⟩:=Kd.S_elem hr.S z43 (i:Int) (by omega) (by omega);rw[tN_]at hM hcc hfr;rw[show l.getD i z43=q from hr.at_]at hM;obtain⟨v3,v4,v7,rfl,g3,g4,g7⟩:=k43_openM hM;exact⟨l,v3,v4,v7,oki,hr,g3,g4,g7,hcc,hfr,hoki,hH⟩
theorem Row.turned {w1:World}{l:List Hz}{x':Hz}(hr:Row w0 w W ok g n cap i P R q l)(hS:Kd.S kHz 43 w1 w0.heap.size ok (.slice (some ⟨g,0,none⟩) n cap) (l.set i x'))(hB:Below w0.heap.size w0 w1)(hK:Kept w w1 ok):At w0 w w1 ok g n cap i P R x':=
 ⟨l.set i x',hS,hB,hK,by rw[List.length_set];exact hr.len,hr.lt,by rw[List.take_set_of_le (lL_ _)];exact hr.pre,by rw[List.drop_set_of_lt (by omega)];exact hr.rest,by unfold hzAt;rw[gD_,List.getElem?_set_self (by rw[hr.len];exact hr.lt)];rfl⟩
theorem At.put {o:Oper}{a:Act}{ops:Array Oper}{rest:List Oper}{Q:Exit→Act→World→Prop}(h:At w0 w W ok g n cap i P R q)(hN:o.dst=none)(hgd:o.guard=none)(t:TypeId)(p x:Operand)(ho:o.op=.store t p x)(j:Nat)(x':Hz)(u:Value)
  (haddr:a.eval p=.pointer (some ⟨g,i*8+j,none⟩)) (hx:a.eval x=u) (hu:u.cells.toList=[u]) (ht:(Tryz.prog.info? t).map (·.size)=some 1) (hone:u.oneCell'=true) (hj:j+1≤8)
  (hM:∀oki v3 v4 v7,Kd.string.R 9 W w0.heap.size oki v3 q.f3.f0→k98.R 98 W w0.heap.size oki v4 q.f3.f1→k76.R 76 W w0.heap.size oki v7 q.f5→kHz.M W w0.heap.size oki x' ((hzC q v3 v4 v7).take j++[u]++(hzC q v3 v4 v7).drop (j+1)))
  (hK:∀w1,At w0 w w1 ok g n cap i P R x'→wpList Tryz.prog ops Q rest a w1):wpList Tryz.prog ops Q (o::rest) a W:=by
 obtain⟨l,v3,v4,v7,oki,hr,g3,g4,g7,hcc,hfr,hoki,hH⟩:=h.lend;have hlt:=hr.lt;refine Kd.H_store kHz (w0:=w0) w0.heap.size hN hgd t p x ho 43 (i:Int) j l x' u [u] (hzC q v3 v4 v7) ok oki oki haddr (by rw[tN_];rfl) hx hu ht (by intro y hy;rw[List.mem_singleton.1 hy];exact hone) hH (by omega) (by omega) (show j+1≤8 from hj) (hM oki v3 v4 v7 g3 g4 g7) (fun _ hk=>hk) hr.B ?_;intro w1 hS hB hg;rw[tN_]at hS;exact hK w1 (hr.turned hS hB (Kept.of_grown hg hr.K (fun k hk=>.inl (by injection hk with hk;subst hk;exact(Kd.S_R hS).1 _ rfl))))
end
end Go.Proofs.YtalfefmnlnkcaaaGreatDoor.P
end
