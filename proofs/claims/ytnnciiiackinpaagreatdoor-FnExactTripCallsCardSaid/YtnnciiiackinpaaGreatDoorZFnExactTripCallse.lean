/- Part 5 of the proof of FnExactTripCalls: the plain functions of what it reaches, that Go comes to just their answers, what they answer, and the words that the walks use; conditions: each theorem's own. -/
import Derived.Test.YtnnciiiackinpaaGreatDoorZFnExactTripCallsb
import Derived.Test.YtnnciiiackinpaaGreatDoorZFnExactTripCallsc
import Derived.Test.YtnnciiiackinpaaGreatDoorZFnExactTripCallsd

section
namespace Go.Proofs.YtnnciiiackinpaaGreatDoor.P
open Go.RowKit Go.Proofs.YtnnciiiackinpaaGreatDoorW.PrintWords Go.Proofs.YtnnciiiackinpaaGreatDoorW.PrintLast Go.Proofs.YtnnciiiackinpaaGreatDoorW.PrintMore
attribute [local go_sem] max2_int min2_int max_two min_two max_three min_three max_four min_four
set_option linter.unusedVariables false
set_option linter.unusedSimpArgs false
set_option maxHeartbeats 8000000
set_option maxRecDepth 100000
mutual
def spec_l12HouseOk.j0:Nat→Bool→ByteArray→Int→List (S82)→List ByteArray→List (S52)→ByteArray→Int→Bool→List ByteArray→List (S104)→Int→Int→List (S111)→Option (Bool)
 | 0,_,_,_,_,_,_,_,_,_,_,_,_,_,_=>none
 | k+1,x66,x268000,x268001,x268002,x268003,x268004,x270000,x270001,x270002,x270003,x270004,x270005,x270006,x270007=>if x66=true then (some false) else (spec_l12HouseOk.l0 k 0 x268000 x268001 x268002 x268003 x268004 x270000 x270001 x270002 x270003 x270004 x270005 x270006 x270007)
def spec_l12HouseOk.l0:Nat→Int→ByteArray→Int→List (S82)→List ByteArray→List (S52)→ByteArray→Int→Bool→List ByteArray→List (S104)→Int→Int→List (S111)→Option (Bool)
 | 0,_,_,_,_,_,_,_,_,_,_,_,_,_,_=>none
 | k+1,x6,x268000,x268001,x268002,x268003,x268004,x270000,x270001,x270002,x270003,x270004,x270005,x270006,x270007=>if x6 < (x270004.length:Int) then (if 0≤x6 then ((spec_RuleOk.f k ((rd_T104 x270004 x6).f1)).bind fun t277=>(if t277=true then (spec_l12HouseOk.l0 k (wrap64 (x6+1)) x268000 x268001 x268002 x268003 x268004 x270000 x270001 x270002 x270003 x270004 x270005 x270006 x270007) else (some false))) else (none)) else (if x270002=true then ((spec_l12Items.f k x268000 x268001 x268002 x268003 x268004 x270000 x270001 x270002 x270003 x270004 x270005 x270006 x270007).bind fun t278=>(some t278)) else (if (x270004.length:Int)=0 then (if x270005=0 then ((spec_l12Items.f k x268000 x268001 x268002 x268003 x268004 x270000 x270001 x270002 x270003 x270004 x270005 x270006 x270007).bind fun t279=>(some t279)) else (some false)) else (some false)))
end
def spec_l12HouseOk.f (k:Nat) (a0_0:ByteArray) (a0_1:Int) (l0_2:List (S82)) (l0_3:List ByteArray) (l0_4:List (S52)) (a1:Int):Option (Bool):=if 0≤a1 then (if a1 < (l0_2.length:Int) then ((spec_l1House.f k ((rd_T82 l0_2 a1).f0)).bind fun t270=>(if t270=true then ((spec_l12House.f k a0_0 a0_1 l0_2 l0_3 l0_4 ((rd_T82 l0_2 a1).f0)).bind fun t271=>(if t271=a1 then ((spec_l6In.f ((rd_T82 l0_2 a1).f1) 0 5100).bind fun t272=>(if t272=true then ((spec_l6In.f ((rd_T82 l0_2 a1).f4) 0 2).bind fun t273=>(if t273=true then (if (((rd_T82 l0_2 a1).f3.f0).length:Int)=1 then (if 0 < (((rd_T82 l0_2 a1).f3.f0).length:Int) then (if (rdOf ByteArray.empty ((rd_T82 l0_2 a1).f3.f0) 0).toList=a0_0.toList then ((spec_l6In.f ((rd_T82 l0_2 a1).f3.f2) 0 20).bind fun t275=>(if t275=true then (spec_l12HouseOk.j0 k (decide ((((rd_T82 l0_2 a1).f3.f1).length:Int) > 40)) a0_0 a0_1 l0_2 l0_3 l0_4 ((rd_T82 l0_2 a1).f0) ((rd_T82 l0_2 a1).f1) ((rd_T82 l0_2 a1).f2) ((rd_T82 l0_2 a1).f3.f0) ((rd_T82 l0_2 a1).f3.f1) ((rd_T82 l0_2 a1).f3.f2) ((rd_T82 l0_2 a1).f4) ((rd_T82 l0_2 a1).f5)) else (spec_l12HouseOk.j0 k true a0_0 a0_1 l0_2 l0_3 l0_4 ((rd_T82 l0_2 a1).f0) ((rd_T82 l0_2 a1).f1) ((rd_T82 l0_2 a1).f2) ((rd_T82 l0_2 a1).f3.f0) ((rd_T82 l0_2 a1).f3.f1) ((rd_T82 l0_2 a1).f3.f2) ((rd_T82 l0_2 a1).f4) ((rd_T82 l0_2 a1).f5)))) else (spec_l12HouseOk.j0 k true a0_0 a0_1 l0_2 l0_3 l0_4 ((rd_T82 l0_2 a1).f0) ((rd_T82 l0_2 a1).f1) ((rd_T82 l0_2 a1).f2) ((rd_T82 l0_2 a1).f3.f0) ((rd_T82 l0_2 a1).f3.f1) ((rd_T82 l0_2 a1).f3.f2) ((rd_T82 l0_2 a1).f4) ((rd_T82 l0_2 a1).f5))) else (none)) else (spec_l12HouseOk.j0 k true a0_0 a0_1 l0_2 l0_3 l0_4 ((rd_T82 l0_2 a1).f0) ((rd_T82 l0_2 a1).f1) ((rd_T82 l0_2 a1).f2) ((rd_T82 l0_2 a1).f3.f0) ((rd_T82 l0_2 a1).f3.f1) ((rd_T82 l0_2 a1).f3.f2) ((rd_T82 l0_2 a1).f4) ((rd_T82 l0_2 a1).f5))) else (spec_l12HouseOk.j0 k true a0_0 a0_1 l0_2 l0_3 l0_4 ((rd_T82 l0_2 a1).f0) ((rd_T82 l0_2 a1).f1) ((rd_T82 l0_2 a1).f2) ((rd_T82 l0_2 a1).f3.f0) ((rd_T82 l0_2 a1).f3.f1) ((rd_T82 l0_2 a1).f3.f2) ((rd_T82 l0_2 a1).f4) ((rd_T82 l0_2 a1).f5)))) else (spec_l12HouseOk.j0 k true a0_0 a0_1 l0_2 l0_3 l0_4 ((rd_T82 l0_2 a1).f0) ((rd_T82 l0_2 a1).f1) ((rd_T82 l0_2 a1).f2) ((rd_T82 l0_2 a1).f3.f0) ((rd_T82 l0_2 a1).f3.f1) ((rd_T82 l0_2 a1).f3.f2) ((rd_T82 l0_2 a1).f4) ((rd_T82 l0_2 a1).f5)))) else (spec_l12HouseOk.j0 k true a0_0 a0_1 l0_2 l0_3 l0_4 ((rd_T82 l0_2 a1).f0) ((rd_T82 l0_2 a1).f1) ((rd_T82 l0_2 a1).f2) ((rd_T82 l0_2 a1).f3.f0) ((rd_T82 l0_2 a1).f3.f1) ((rd_T82 l0_2 a1).f3.f2) ((rd_T82 l0_2 a1).f4) ((rd_T82 l0_2 a1).f5)))) else (spec_l12HouseOk.j0 k true a0_0 a0_1 l0_2 l0_3 l0_4 ((rd_T82 l0_2 a1).f0) ((rd_T82 l0_2 a1).f1) ((rd_T82 l0_2 a1).f2) ((rd_T82 l0_2 a1).f3.f0) ((rd_T82 l0_2 a1).f3.f1) ((rd_T82 l0_2 a1).f3.f2) ((rd_T82 l0_2 a1).f4) ((rd_T82 l0_2 a1).f5)))) else (none)) else (none)
def spec_l12HouseOk.T2:Bool×List (List Nat×List Nat):=(true,[([],[]),([0],[0]),([1],[1]),([2],[2]),([3,2],[3]),([4],[4]),([4],[4]),([6,4],[4,6]),([5,7,4,4],[4,5,7]),([4],[4]),([8,9,4],[4,8,9]),([4,10],[4,10]),([11,8],[11]),([12],[12]),([13,12],[12,13]),([14,12,12],[12,14]),([15,12],[12,15]),([12,16],[12,16]),([17,15],[17]),([18],[18]),([19,18],[18,19]),([20,18,18],[18,20]),([21,18],[18,21]),([18,22],[18,22]),([23,21],[23]),([24],[24]),([25,24],[24,25]),([26,24],[24,26]),([27,24],[24,27]),([28,24],[24,28]),([24,29],[24,29]),([30,24],[30]),([31],[31]),([32,31],[31,32]),([33,31],[31,33]),([34,31],[31,34]),([35,31],[31,35]),([31],[31]),([37,31],[31,37]),([36,38,31],[31,36,38]),([31,39],[31,39]),([40,31],[40]),([41],[41]),([42,41],[41,42]),([43,41],[41,43]),([44,41,41],[41,44]),([45,41],[41,45]),([41,46],[41,46]),([47,45],[47]),([48],[48]),([49,48],[48,49]),([50,48],[48,50]),([51,48],[48,51]),([52,48],[48,52]),([48,53],[48,53])])
def spec_l12HouseOk.B2:List Nat:=[0,1,3,7,15,31,31,95,255,31,1023,2047,4095,8191,16383,32767,65535,131071,262143,524287,1048575,2097151,4194303,8388607,16777215,33554431,67108863,134217727,268435455,536870911,1073741823,2147483647,4294967295,8589934591,17179869183,34359738367,68719476735,4294967295,141733920767,549755813887,1099511627775,2199023255551,4398046511103,8796093022207,17592186044415,35184372088831,70368744177663,140737488355327,281474976710655,562949953421311,1125899906842623,2251799813685247,4503599627370495,9007199254740991,18014398509481983]
theorem spec_l12HouseOk.tab2:rtab .any (opsOf Tryz.f42 2)=spec_l12HouseOk.T2:=by kernel_rfl
theorem spec_l12HouseOk.bits2:waitsOk spec_l12HouseOk.T2.2 spec_l12HouseOk.B2=true:=by kernel_rfl
theorem spec_l12HouseOk.calls (k:Nat) (a0_0:ByteArray) (a0_1:Int) (A0_2:Option Addr) (c0_2:Nat) (l0_2:List (S82)) (A0_3:Option Addr) (c0_3:Nat) (l0_3:List ByteArray) (A0_4:Option Addr) (c0_4:Nat) (l0_4:List (S52)) (a1:Int) (r:Bool) (w:World) (hr0_2:Kd.C k82 w A0_2 l0_2.length l0_2) (hc0_2:l0_2.length≤c0_2) (hr0_3:Kd.C Kd.string w A0_3 l0_3.length l0_3) (hc0_3:l0_3.length≤c0_3) (hr0_4:Kd.C k52 w A0_4 l0_4.length l0_4) (hc0_4:l0_4.length≤c0_4) (h:spec_l12HouseOk.f k a0_0 a0_1 l0_2 l0_3 l0_4 a1=some r) :
  Calls Tryz.prog 42 #[.agg #[.string a0_0,.int .i64 a0_1,.slice A0_2 l0_2.length c0_2,.slice A0_3 l0_3.length c0_3,.slice A0_4 l0_4.length c0_4],.int .i64 a1] w fun e w'=>e=.returned (.bool r)∧Below w.heap.size w w':=by
 have hu33:=Tryz.underlying33;have hu82:=Tryz.underlying82;have HR0_2:=A_ hr0_2;have HC0_2:=A_ hc0_2;clear hr0_2 hc0_2;have HR0_3:=A_ hr0_3;have HC0_3:=A_ hc0_3;clear hr0_3 hc0_3;have HR0_4:=A_ hr0_4;have HC0_4:=A_ hc0_4;clear hr0_4 hc0_4;have HB:=A_ (Below.refl w.heap.size w);unfold spec_l12HouseOk.f at h
 have H:=h;clear h;replace H:=iteE H;rcases H with ⟨c3,H⟩|⟨c3,H⟩
 ·have c3b0:=dT c3
  clear c3;replace H:=iteNd H;obtain ⟨c4b0,H⟩:=H;have HC5:=A_ H;clear H;go_enter Tryz.func42,Tryz.ntmps42;go_upto_region 2 with (first|((with_reducible refine gD (N:=2) rfl ?_);(try (refine gate_guard (by rfl) ?_;dsimp only));refine boxE 2 #[.string a0_0,.int .i64 a0_1,.slice A0_2 l0_2.length c0_2,.slice A0_3 l0_3.length c0_3,.slice A0_4 l0_4.length c0_4] 33 ?_;intro gb267 hg w6 hbox hb;have BK267:=A_ (hbox);have GE267:=geB hg (zz0 HB);replace HB:=A_ (bS (zz0 HB) hb);clear hb hbox hg;obtain ⟨_,_,_,_,_,_,_,_,_,_⟩:=cf5 BK267;have p268:0≤(a1:Int):=ofD;have q268:a1 < (l0_2.length:Int):=ofD;obtain ⟨ad268,A268_3,c268_3,A268_4,c268_4,A268_7,c268_7,e268,hx268_0,hx268_1,hx268_2,hx268_3,hx268_4,hx268_5,hx268_6,hx268_7,hl268_3,hi268_3,hl268_4,hi268_4,hl268_7,hi268_7⟩:=at_T82 HR0_2.out a1 p268 q268;cases e268;replace hx268_0:=cbl HB hx268_0;replace hx268_1:=cbl HB hx268_1;replace hx268_2:=cbl HB hx268_2;replace hx268_3:=cbl HB hx268_3;replace hx268_4:=cbl HB hx268_4;replace hx268_5:=cbl HB hx268_5;replace hx268_6:=cbl HB hx268_6;replace hx268_7:=cbl HB hx268_7;have HR268_3:=A_ hi268_3;have HC268_3:=A_ hl268_3;clear hi268_3 hl268_3;have HR268_4:=A_ hi268_4;have HC268_4:=A_ hl268_4;clear hi268_4 hl268_4;have HR268_7:=A_ hi268_7;have HC268_7:=A_ hl268_7;clear hi268_7 hl268_7;replace p268:=eq_true p268;replace q268:=eq_true q268)|((with_reducible refine gD (N:=5) rfl ?_);(try (refine gate_guard (by rfl) ?_;dsimp only));refine boxE 5 #[.string (⟨#[]⟩:ByteArray),.int .i64 0,.bool false,.slice none 0 0,.slice none 0 0,.int .i64 0,.int .i64 0,.slice none 0 0] 82 ?_;intro gb269 hg w8 hbox hb;have BK269:=A_ (hbox);have GE269:=geB hg (zz1 HB GE267);replace HB:=A_ (bS (zz1 HB GE267) hb);have NB267_269:=A_ ((by rw [hg];exact Nat.ne_of_lt (blk_lt (zz2 BK267)):gb267≠gb269));have NB269_267:=A_ ((by rw [hg];exact Nat.ne_of_gt (blk_lt (zz2 BK267)):gb269≠gb267));replace BK267:=A_ (bB (zz2 BK267) hb);clear hb hbox hg;have hnb9:=NB269_267.out;have hnc9:=NB267_269.out;have hcz10_0:w8.cell? ⟨gb269,0,none⟩=some (.string (⟨#[]⟩:ByteArray)):=(blk_cell BK269.out 0).trans rfl;have hcz10_1:w8.cell? ⟨gb269,1,none⟩=some (.int .i64 0):=(blk_cell BK269.out 1).trans rfl;have hcz10_2:w8.cell? ⟨gb269,2,none⟩=some (.bool false):=(blk_cell BK269.out 2).trans rfl;have hcz10_3:w8.cell? ⟨gb269,3,none⟩=some (.slice none 0 0):=(blk_cell BK269.out 3).trans rfl;have hcz10_4:w8.cell? ⟨gb269,4,none⟩=some (.slice none 0 0):=(blk_cell BK269.out 4).trans rfl;have hcz10_5:w8.cell? ⟨gb269,5,none⟩=some (.int .i64 0):=(blk_cell BK269.out 5).trans rfl;have hcz10_6:w8.cell? ⟨gb269,6,none⟩=some (.int .i64 0):=(blk_cell BK269.out 6).trans rfl;have hcz10_7:w8.cell? ⟨gb269,7,none⟩=some (.slice none 0 0):=(blk_cell BK269.out 7).trans rfl;have hfz10_0:=blk_frozen BK269.out 0;have hfz10_1:=blk_frozen BK269.out 1;have hfz10_2:=blk_frozen BK269.out 2;have hfz10_3:=blk_frozen BK269.out 3;have hfz10_4:=blk_frozen BK269.out 4;have hfz10_5:=blk_frozen BK269.out 5;have hfz10_6:=blk_frozen BK269.out 6;have hfz10_7:=blk_frozen BK269.out 7))
  (try simp only [Act.put,List.setIfInBounds_toArray,List.set_cons_zero,List.set_cons_succ])
  go_cut [66] (fun v66 wc=>∃ (kq:Nat) (x66_4:Bool),v66=.bool x66_4∧Aside0 (spec_l12HouseOk.j0 kq x66_4 a0_0 a0_1 l0_2 l0_3 l0_4 ((rd_T82 l0_2 a1).f0) ((rd_T82 l0_2 a1).f1) ((rd_T82 l0_2 a1).f2) ((rd_T82 l0_2 a1).f3.f0) ((rd_T82 l0_2 a1).f3.f1) ((rd_T82 l0_2 a1).f3.f2) ((rd_T82 l0_2 a1).f4) ((rd_T82 l0_2 a1).f5)=some r)∧Aside0 (kq≤k)∧Aside0 (wc.heap[gb267]?=some (.cells #[.string a0_0,.int .i64 a0_1,(.slice (some ad268) l0_2.length c0_2),(.slice A0_3 l0_3.length c0_3),(.slice A0_4 l0_4.length c0_4)] 33 (0,0)))∧Aside0 (wc.heap[gb269]?=some (.cells #[.string ((rd_T82 l0_2 a1).f0),.int .i64 ((rd_T82 l0_2 a1).f1),.bool ((rd_T82 l0_2 a1).f2),(.slice A268_3 ((rd_T82 l0_2 a1).f3.f0).length c268_3),(.slice A268_4 ((rd_T82 l0_2 a1).f3.f1).length c268_4),.int .i64 ((rd_T82 l0_2 a1).f3.f2),.int .i64 ((rd_T82 l0_2 a1).f4),(.slice A268_7 ((rd_T82 l0_2 a1).f5).length c268_7)] 82 (0,0)))∧Aside0 (Below w.heap.size w wc))
  case first=>
   obtain ⟨H⟩:=HC5;replace H:=bindA H;obtain ⟨t270,A11,H⟩:=H;replace H:=iteB H;rcases H with ⟨rfl,H⟩|⟨rfl,H⟩
   ·replace H:=bindA H
    obtain ⟨t271,A13,H⟩:=H;replace H:=iteEq H;rcases H with ⟨c14b0,c14b1,H⟩|⟨c14b0,c14b1,c14,H⟩
    ·(first|rw [c14b0]|(simp only [i64_w,i32_w];rw [c14b0])|skip)
     replace H:=bindA H;obtain ⟨t272,A15,H⟩:=H;replace H:=iteB H;rcases H with ⟨rfl,H⟩|⟨rfl,H⟩
     ·replace H:=bindA H
      obtain ⟨t273,A17,H⟩:=H;replace H:=iteB H;rcases H with ⟨rfl,H⟩|⟨rfl,H⟩
      ·replace H:=iteE H
       rcases H with ⟨c19,H⟩|⟨c19,H⟩
       ·obtain ⟨c19b0,c19b1⟩:=eqT c19
        clear c19;replace H:=iteN H;obtain ⟨c20,H⟩:=H;have c20b0:=dT c20;have c20b1:decide (0 < ((rd_T82 l0_2 a1).f3.f0).length)=true:=dT (by omega);clear c20;replace H:=iteEq H;rcases H with ⟨c21b0,c21b1,H⟩|⟨c21b0,c21b1,c21,H⟩
        ·replace H:=bindA H
         obtain ⟨t275,A22,H⟩:=H;replace H:=iteB H;rcases H with ⟨rfl,H⟩|⟨rfl,H⟩
         ·have H':=A_ H
          clear H;try go_wp2
          have n0_:Aside0 (((((((((w8.setCell ⟨gb269,0,none⟩ (.string ((rd_T82 l0_2 a1).f0))).setCell ⟨gb269,1,none⟩ (.int .i64 ((rd_T82 l0_2 a1).f1))).setCell ⟨gb269,2,none⟩ (.bool ((rd_T82 l0_2 a1).f2))).setCell ⟨gb269,3,none⟩ (.slice A268_3 ((rd_T82 l0_2 a1).f3.f0).length c268_3)).setCell ⟨gb269,4,none⟩ (.slice A268_4 ((rd_T82 l0_2 a1).f3.f1).length c268_4)).setCell ⟨gb269,5,none⟩ (.int .i64 ((rd_T82 l0_2 a1).f3.f2))).setCell ⟨gb269,6,none⟩ (.int .i64 ((rd_T82 l0_2 a1).f4))).setCell ⟨gb269,7,none⟩ (.slice A268_7 ((rd_T82 l0_2 a1).f5).length c268_7)).heap[gb267]?=some (.cells #[.string a0_0,.int .i64 a0_1,.slice (some ad268) l0_2.length c0_2,.slice A0_3 l0_3.length c0_3,.slice A0_4 l0_4.length c0_4] 33 (0,0))):=⟨(zz4 BK267 NB267_269)⟩;have n1_:Aside0 (((((((((w8.setCell ⟨gb269,0,none⟩ (.string ((rd_T82 l0_2 a1).f0))).setCell ⟨gb269,1,none⟩ (.int .i64 ((rd_T82 l0_2 a1).f1))).setCell ⟨gb269,2,none⟩ (.bool ((rd_T82 l0_2 a1).f2))).setCell ⟨gb269,3,none⟩ (.slice A268_3 ((rd_T82 l0_2 a1).f3.f0).length c268_3)).setCell ⟨gb269,4,none⟩ (.slice A268_4 ((rd_T82 l0_2 a1).f3.f1).length c268_4)).setCell ⟨gb269,5,none⟩ (.int .i64 ((rd_T82 l0_2 a1).f3.f2))).setCell ⟨gb269,6,none⟩ (.int .i64 ((rd_T82 l0_2 a1).f4))).setCell ⟨gb269,7,none⟩ (.slice A268_7 ((rd_T82 l0_2 a1).f5).length c268_7)).heap[gb269]?=some (.cells #[.string ((rd_T82 l0_2 a1).f0),.int .i64 ((rd_T82 l0_2 a1).f1),.bool ((rd_T82 l0_2 a1).f2),.slice A268_3 ((rd_T82 l0_2 a1).f3.f0).length c268_3,.slice A268_4 ((rd_T82 l0_2 a1).f3.f1).length c268_4,.int .i64 ((rd_T82 l0_2 a1).f3.f2),.int .i64 ((rd_T82 l0_2 a1).f4),.slice A268_7 ((rd_T82 l0_2 a1).f5).length c268_7] 82 (0,0))):=⟨(zz169 BK269)⟩;have n2_:Aside0 (Below w.heap.size w ((((((((w8.setCell ⟨gb269,0,none⟩ (.string ((rd_T82 l0_2 a1).f0))).setCell ⟨gb269,1,none⟩ (.int .i64 ((rd_T82 l0_2 a1).f1))).setCell ⟨gb269,2,none⟩ (.bool ((rd_T82 l0_2 a1).f2))).setCell ⟨gb269,3,none⟩ (.slice A268_3 ((rd_T82 l0_2 a1).f3.f0).length c268_3)).setCell ⟨gb269,4,none⟩ (.slice A268_4 ((rd_T82 l0_2 a1).f3.f1).length c268_4)).setCell ⟨gb269,5,none⟩ (.int .i64 ((rd_T82 l0_2 a1).f3.f2))).setCell ⟨gb269,6,none⟩ (.int .i64 ((rd_T82 l0_2 a1).f4))).setCell ⟨gb269,7,none⟩ (.slice A268_7 ((rd_T82 l0_2 a1).f5).length c268_7))):=⟨(zz3 HB GE267 GE269)⟩;(try clear BK267)
          (try clear BK269)
          (try clear HB)
          generalize ((((((((w8.setCell ⟨gb269,0,none⟩ (.string ((rd_T82 l0_2 a1).f0))).setCell ⟨gb269,1,none⟩ (.int .i64 ((rd_T82 l0_2 a1).f1))).setCell ⟨gb269,2,none⟩ (.bool ((rd_T82 l0_2 a1).f2))).setCell ⟨gb269,3,none⟩ (.slice A268_3 ((rd_T82 l0_2 a1).f3.f0).length c268_3)).setCell ⟨gb269,4,none⟩ (.slice A268_4 ((rd_T82 l0_2 a1).f3.f1).length c268_4)).setCell ⟨gb269,5,none⟩ (.int .i64 ((rd_T82 l0_2 a1).f3.f2))).setCell ⟨gb269,6,none⟩ (.int .i64 ((rd_T82 l0_2 a1).f4))).setCell ⟨gb269,7,none⟩ (.slice A268_7 ((rd_T82 l0_2 a1).f5).length c268_7))=w24 at n0_ n1_ n2_ ⊢;have BK267:=n0_;have BK269:=n1_;have HB:=n2_;clear n0_ n1_ n2_;replace BK267:=A_ (blk_drew BK267.out);replace BK269:=A_ (blk_drew BK269.out);replace HB:=A_ (below_drew1 HB.out);have p274:0≤(0:Int):=(by omega);have q274:0 < (((rd_T82 l0_2 a1).f3.f0).length:Int):=ofD;obtain ⟨ad274,e274,hx274_0⟩:=Kd.at_string HR268_3.out 0 p274 q274;have hw274_0:=hx274_0;(try rw [show ((0:Int)).toNat=0 from rfl] at hw274_0)
          (try rw [show 0 * 1=0 from rfl] at hw274_0)
          (try rw [Addr.add_zero'] at hw274_0)
          cases e274
          have qi274:(0 < ((rd_T82 l0_2 a1).f3.f0).length)=True:=eq_true (by omega);(try rw [show ((0:Int)).toNat=0 from rfl] at hx274_0)
          (try rw [Addr.add_zero'] at hx274_0)
          replace hx274_0:=cbl HB hx274_0;replace p274:=eq_true p274;replace q274:=eq_true q274;refine start_ (n:=55) (S:=fun w'=>w'.cell? ⟨gb269,0,none⟩=some (.string ((rd_T82 l0_2 a1).f0))∧w'.cell? ⟨gb269,1,none⟩=some (.int .i64 ((rd_T82 l0_2 a1).f1))∧w'.cell? ⟨gb269,2,none⟩=some (.bool ((rd_T82 l0_2 a1).f2))∧w'.cell? ⟨gb269,3,none⟩=some (.slice (some ad274) ((rd_T82 l0_2 a1).f3.f0).length c268_3)∧w'.cell? ⟨gb269,4,none⟩=some (.slice A268_4 ((rd_T82 l0_2 a1).f3.f1).length c268_4)∧w'.cell? ⟨gb269,5,none⟩=some (.int .i64 ((rd_T82 l0_2 a1).f3.f2))∧w'.cell? ⟨gb269,6,none⟩=some (.int .i64 ((rd_T82 l0_2 a1).f4))∧w'.cell? ⟨gb269,7,none⟩=some (.slice A268_7 ((rd_T82 l0_2 a1).f5).length c268_7)∧w'.cell? ⟨gb267,0,none⟩=some (.string a0_0)∧w'.cell? ⟨gb267,1,none⟩=some (.int .i64 a0_1)∧w'.cell? ⟨gb267,2,none⟩=some (.slice (some ad268) l0_2.length c0_2)∧w'.cell? ⟨gb267,3,none⟩=some (.slice A0_3 l0_3.length c0_3)∧w'.cell? ⟨gb267,4,none⟩=some (.slice A0_4 l0_4.length c0_4)∧w'.cell? ad274=some (.string (rdOf ByteArray.empty ((rd_T82 l0_2 a1).f3.f0) 0))) (ds:=[]) #[yF,yF,yF,yF,yF,yF,yF,yF,yF,yF,yF,yF,yF,yF,yF,yF,yF,yF,yF,yF,yF,yF,yF,yF,yF,yF,yF,yF,yF,yF,yF,yF,yF,yF,yF,yF,yF,yF,yF,yF,yF,yF,yF,yF,yF,yF,yF,yF,yF,yF,yF,yF,yF,yF,yF] (by kernel_rfl) rfl rfl ⟨(blk_cell BK269.out 0).trans rfl,(blk_cell BK269.out 1).trans rfl,(blk_cell BK269.out 2).trans rfl,(blk_cell BK269.out 3).trans rfl,(blk_cell BK269.out 4).trans rfl,(blk_cell BK269.out 5).trans rfl,(blk_cell BK269.out 6).trans rfl,(blk_cell BK269.out 7).trans rfl,(blk_cell BK267.out 0).trans rfl,(blk_cell BK267.out 1).trans rfl,(blk_cell BK267.out 2).trans rfl,(blk_cell BK267.out 3).trans rfl,(blk_cell BK267.out 4).trans rfl,((HB.out.cell (World.block_lt_of_cell? w _ hw274_0)).trans hw274_0)⟩ (fun hHeld=>?_);refine with_tabW spec_l12HouseOk.tab2 spec_l12HouseOk.bits2 (fun HT_ HW_=>?_);generalize w24.drew=w25 at BK267 BK269 HB hx274_0 hHeld ⊢;refine pureZ 0 (some 12) (yA 1 54) ?_;refine takeZ14 1 (some 13) (yA 2 53) hHeld ?_;refine oneZ 2 (some 14) (yA 3 52) (fun K hK=>?_);refine goes_ Tryz.func66 (by kernel_rfl) rfl #[.string ((rd_T82 l0_2 a1).f0)] (by rfl) rfl rfl zz39 ?_;with_reducible refine (spec_l1House.calls k ((rd_T82 l0_2 a1).f0) true _ A11.out).mono ?_
          rintro e w' ⟨rfl,⟨nd,rfl⟩⟩;refine ⟨_,rfl,?_⟩;refine hK.out _ _ ⟨(blk_cell BK269.out 0).trans rfl,(blk_cell BK269.out 1).trans rfl,(blk_cell BK269.out 2).trans rfl,(blk_cell BK269.out 3).trans rfl,(blk_cell BK269.out 4).trans rfl,(blk_cell BK269.out 5).trans rfl,(blk_cell BK269.out 6).trans rfl,(blk_cell BK269.out 7).trans rfl,(blk_cell BK267.out 0).trans rfl,(blk_cell BK267.out 1).trans rfl,(blk_cell BK267.out 2).trans rfl,(blk_cell BK267.out 3).trans rfl,(blk_cell BK267.out 4).trans rfl,((HB.out.cell (World.block_lt_of_cell? w _ hw274_0)).trans hw274_0)⟩ (fun hHeld=>?_);clear hK K;refine nZ 14 ?_;refine pureZ 3 (some 15) (yA 4 51) ?_;refine pureZ 4 (some 16) (yA 5 50) ?_;refine pureZ 6 (some 18) #[yT,yT,yT,yT,yT,yF,yT,yF,yF,yF,yF,yF,yF,yF,yF,yF,yF,yF,yF,yF,yF,yF,yF,yF,yF,yF,yF,yF,yF,yF,yF,yF,yF,yF,yF,yF,yF,yF,yF,yF,yF,yF,yF,yF,yF,yF,yF,yF,yF,yF,yF,yF,yF,yF,yF] ?_;refine pureZ 9 (some 21) #[yT,yT,yT,yT,yT,yF,yT,yF,yF,yT,yF,yF,yF,yF,yF,yF,yF,yF,yF,yF,yF,yF,yF,yF,yF,yF,yF,yF,yF,yF,yF,yF,yF,yF,yF,yF,yF,yF,yF,yF,yF,yF,yF,yF,yF,yF,yF,yF,yF,yF,yF,yF,yF,yF,yF] ?_;refine takeZ14 5 (some 17) #[yT,yT,yT,yT,yT,yT,yT,yF,yF,yT,yF,yF,yF,yF,yF,yF,yF,yF,yF,yF,yF,yF,yF,yF,yF,yF,yF,yF,yF,yF,yF,yF,yF,yF,yF,yF,yF,yF,yF,yF,yF,yF,yF,yF,yF,yF,yF,yF,yF,yF,yF,yF,yF,yF,yF] hHeld ?_;refine takeZ14 7 (some 19) #[yT,yT,yT,yT,yT,yT,yT,yT,yF,yT,yF,yF,yF,yF,yF,yF,yF,yF,yF,yF,yF,yF,yF,yF,yF,yF,yF,yF,yF,yF,yF,yF,yF,yF,yF,yF,yF,yF,yF,yF,yF,yF,yF,yF,yF,yF,yF,yF,yF,yF,yF,yF,yF,yF,yF] hHeld ?_;refine oneZ 8 (some 20) (yA 10 45) (fun K hK=>?_);refine goes_ Tryz.func67 (by kernel_rfl) rfl #[.agg #[.string a0_0,.int .i64 a0_1,.slice (some ad268) l0_2.length c0_2,.slice A0_3 l0_3.length c0_3,.slice A0_4 l0_4.length c0_4],.string ((rd_T82 l0_2 a1).f0)] (by rfl) rfl rfl zz39 ?_;with_reducible refine (spec_l12House.calls k a0_0 a0_1 _ _ l0_2 _ _ l0_3 _ _ l0_4 ((rd_T82 l0_2 a1).f0) t271 _ ?side1 ?side2 ?side3 ?side4 ?side5 ?side6 A13.out).mono ?_
          (case side1=>exact (zz170 HR0_2))
          (case side2=>exact HC0_2.out)
          (case side3=>exact (zz170 HR0_3))
          (case side4=>exact HC0_3.out)
          (case side5=>exact (zz170 HR0_4))
          (case side6=>exact HC0_4.out)
          rintro e w26 ⟨rfl,hb⟩;refine ⟨_,rfl,?_⟩;replace BK267:=A_ (bB (zz2 BK267) hb);replace BK269:=A_ (bB (zz2 BK269) hb);replace HB:=A_ (bS (zz3 HB GE267 GE269) hb);(try clear hb)
          (try clear hb2)
          (try clear hk)
          (try clear hi)
          refine hK.out _ _ ⟨(blk_cell BK269.out 0).trans rfl,(blk_cell BK269.out 1).trans rfl,(blk_cell BK269.out 2).trans rfl,(blk_cell BK269.out 3).trans rfl,(blk_cell BK269.out 4).trans rfl,(blk_cell BK269.out 5).trans rfl,(blk_cell BK269.out 6).trans rfl,(blk_cell BK269.out 7).trans rfl,(blk_cell BK267.out 0).trans rfl,(blk_cell BK267.out 1).trans rfl,(blk_cell BK267.out 2).trans rfl,(blk_cell BK267.out 3).trans rfl,(blk_cell BK267.out 4).trans rfl,((HB.out.cell (World.block_lt_of_cell? w _ hw274_0)).trans hw274_0)⟩ (fun hHeld=>?_);clear hK K;refine nZ 20 ?_;refine pureZ 10 (some 22) (yA 11 44) ?_;refine pureZ 11 (some 23) (yA 12 43) ?_;refine pureZ 12 (some 24) (yA 13 42) ?_;refine pureZ 13 (some 25) (yA 14 41) ?_;refine takeZ14 14 (some 26) (yA 15 40) hHeld ?_;refine oneZ 15 (some 27) (yA 16 39) (fun K hK=>?_);refine goes_ Tryz.func40 (by kernel_rfl) rfl #[.int .i64 ((rd_T82 l0_2 a1).f1),.int .i64 0,.int .i64 5100] (by rfl) rfl rfl zz39 ?_;with_reducible refine (spec_l6In.calls ((rd_T82 l0_2 a1).f1) 0 5100 true _ A15.out).mono ?_
          rintro e w' ⟨rfl,⟨nd,rfl⟩⟩;refine ⟨_,rfl,?_⟩;refine hK.out _ _ ⟨(blk_cell BK269.out 0).trans rfl,(blk_cell BK269.out 1).trans rfl,(blk_cell BK269.out 2).trans rfl,(blk_cell BK269.out 3).trans rfl,(blk_cell BK269.out 4).trans rfl,(blk_cell BK269.out 5).trans rfl,(blk_cell BK269.out 6).trans rfl,(blk_cell BK269.out 7).trans rfl,(blk_cell BK267.out 0).trans rfl,(blk_cell BK267.out 1).trans rfl,(blk_cell BK267.out 2).trans rfl,(blk_cell BK267.out 3).trans rfl,(blk_cell BK267.out 4).trans rfl,((HB.out.cell (World.block_lt_of_cell? w _ hw274_0)).trans hw274_0)⟩ (fun hHeld=>?_);clear hK K;refine nZ 27 ?_;refine pureZ 16 (some 28) (yA 17 38) ?_;refine pureZ 17 (some 29) (yA 18 37) ?_;refine pureZ 18 (some 30) (yA 19 36) ?_;refine pureZ 19 (some 31) (yA 20 35) ?_;refine takeZ14 20 (some 32) (yA 21 34) hHeld ?_;refine oneZ 21 (some 33) (yA 22 33) (fun K hK=>?_);refine goes_ Tryz.func40 (by kernel_rfl) rfl #[.int .i64 ((rd_T82 l0_2 a1).f4),.int .i64 0,.int .i64 2] (by rfl) rfl rfl zz39 ?_;with_reducible refine (spec_l6In.calls ((rd_T82 l0_2 a1).f4) 0 2 true _ A17.out).mono ?_
          rintro e w' ⟨rfl,⟨nd,rfl⟩⟩;refine ⟨_,rfl,?_⟩;refine hK.out _ _ ⟨(blk_cell BK269.out 0).trans rfl,(blk_cell BK269.out 1).trans rfl,(blk_cell BK269.out 2).trans rfl,(blk_cell BK269.out 3).trans rfl,(blk_cell BK269.out 4).trans rfl,(blk_cell BK269.out 5).trans rfl,(blk_cell BK269.out 6).trans rfl,(blk_cell BK269.out 7).trans rfl,(blk_cell BK267.out 0).trans rfl,(blk_cell BK267.out 1).trans rfl,(blk_cell BK267.out 2).trans rfl,(blk_cell BK267.out 3).trans rfl,(blk_cell BK267.out 4).trans rfl,((HB.out.cell (World.block_lt_of_cell? w _ hw274_0)).trans hw274_0)⟩ (fun hHeld=>?_);clear hK K;refine nZ 33 ?_;refine pureZ 22 (some 34) (yA 23 32) ?_;refine pureZ 23 (some 35) (yA 24 31) ?_;refine pureZ 24 (some 36) (yA 25 30) ?_;refine pureZ 25 (some 37) (yA 26 29) ?_;refine pureZ 26 (some 38) (yA 27 28) ?_;refine takeZ14 27 (some 39) (yA 28 27) hHeld ?_;refine pureZ 28 (some 40) (yA 29 26) ?_;refine pureZ 29 (some 41) (yA 30 25) ?_;refine pureZ 30 (some 42) (yA 31 24) ?_;refine pureZ 31 (some 43) (yA 32 23) ?_;refine pureZ 32 (some 44) (yA 33 22) ?_;refine pureZ 33 (some 45) (yA 34 21) ?_;refine pureZ 37 (some 49) #[yT,yT,yT,yT,yT,yT,yT,yT,yT,yT,yT,yT,yT,yT,yT,yT,yT,yT,yT,yT,yT,yT,yT,yT,yT,yT,yT,yT,yT,yT,yT,yT,yT,yT,yF,yF,yF,yT,yF,yF,yF,yF,yF,yF,yF,yF,yF,yF,yF,yF,yF,yF,yF,yF,yF] ?_;refine takeZ14 34 (some 46) #[yT,yT,yT,yT,yT,yT,yT,yT,yT,yT,yT,yT,yT,yT,yT,yT,yT,yT,yT,yT,yT,yT,yT,yT,yT,yT,yT,yT,yT,yT,yT,yT,yT,yT,yT,yF,yF,yT,yF,yF,yF,yF,yF,yF,yF,yF,yF,yF,yF,yF,yF,yF,yF,yF,yF] hHeld ?_;refine pureZ 35 (some 47) #[yT,yT,yT,yT,yT,yT,yT,yT,yT,yT,yT,yT,yT,yT,yT,yT,yT,yT,yT,yT,yT,yT,yT,yT,yT,yT,yT,yT,yT,yT,yT,yT,yT,yT,yT,yT,yF,yT,yF,yF,yF,yF,yF,yF,yF,yF,yF,yF,yF,yF,yF,yF,yF,yF,yF] ?_;refine takeZ14 36 (some 48) (yA 38 17) hHeld ?_;refine takeZ14 38 (some 50) (yA 39 16) hHeld ?_;refine pureZ 39 (some 51) (yA 40 15) ?_;refine pureZ 40 (some 52) (yA 41 14) ?_;refine pureZ 41 (some 53) (yA 42 13) ?_;refine pureZ 42 (some 54) (yA 43 12) ?_;refine pureZ 43 (some 55) (yA 44 11) ?_;refine takeZ14 44 (some 56) (yA 45 10) hHeld ?_;refine oneZ 45 (some 57) (yA 46 9) (fun K hK=>?_);refine goes_ Tryz.func40 (by kernel_rfl) rfl #[.int .i64 ((rd_T82 l0_2 a1).f3.f2),.int .i64 0,.int .i64 20] (by rfl) rfl rfl zz39 ?_;with_reducible refine (spec_l6In.calls ((rd_T82 l0_2 a1).f3.f2) 0 20 true _ A22.out).mono ?_
          rintro e w' ⟨rfl,⟨nd,rfl⟩⟩;refine ⟨_,rfl,?_⟩;refine hK.out _ _ ⟨(blk_cell BK269.out 0).trans rfl,(blk_cell BK269.out 1).trans rfl,(blk_cell BK269.out 2).trans rfl,(blk_cell BK269.out 3).trans rfl,(blk_cell BK269.out 4).trans rfl,(blk_cell BK269.out 5).trans rfl,(blk_cell BK269.out 6).trans rfl,(blk_cell BK269.out 7).trans rfl,(blk_cell BK267.out 0).trans rfl,(blk_cell BK267.out 1).trans rfl,(blk_cell BK267.out 2).trans rfl,(blk_cell BK267.out 3).trans rfl,(blk_cell BK267.out 4).trans rfl,((HB.out.cell (World.block_lt_of_cell? w _ hw274_0)).trans hw274_0)⟩ (fun hHeld=>?_);clear hK K;refine nZ 57 ?_;refine pureZ 46 (some 58) (yA 47 8) ?_;refine pureZ 47 (some 59) (yA 48 7) ?_;refine pureZ 48 (some 60) (yA 49 6) ?_;refine pureZ 49 (some 61) (yA 50 5) ?_;refine pureZ 50 (some 62) (yA 51 4) ?_;refine takeZ14 51 (some 63) (yA 52 3) hHeld ?_;refine pureZ 52 (some 64) (yA 53 2) ?_;refine pureZ 53 (some 65) (yA 54 1) ?_;refine pureZ 54 (some 66) (yA 55 0) ?_;refine done_ (done_of HT_.out (by kernel_rfl)) ?_;try go_wp2
          go_meet
          case rel=>exact ⟨_,(decide ((((rd_T82 l0_2 a1).f3.f1).length:Int) > 40)),zz7,H',⟨zz62⟩,⟨(zz2 BK267)⟩,⟨(zz2 BK269)⟩,⟨(zz3 HB GE267 GE269)⟩⟩
         ·have H':=A_ H
          clear H;try go_wp2
          have n0_:Aside0 (((((((((w8.setCell ⟨gb269,0,none⟩ (.string ((rd_T82 l0_2 a1).f0))).setCell ⟨gb269,1,none⟩ (.int .i64 ((rd_T82 l0_2 a1).f1))).setCell ⟨gb269,2,none⟩ (.bool ((rd_T82 l0_2 a1).f2))).setCell ⟨gb269,3,none⟩ (.slice A268_3 ((rd_T82 l0_2 a1).f3.f0).length c268_3)).setCell ⟨gb269,4,none⟩ (.slice A268_4 ((rd_T82 l0_2 a1).f3.f1).length c268_4)).setCell ⟨gb269,5,none⟩ (.int .i64 ((rd_T82 l0_2 a1).f3.f2))).setCell ⟨gb269,6,none⟩ (.int .i64 ((rd_T82 l0_2 a1).f4))).setCell ⟨gb269,7,none⟩ (.slice A268_7 ((rd_T82 l0_2 a1).f5).length c268_7)).heap[gb267]?=some (.cells #[.string a0_0,.int .i64 a0_1,.slice (some ad268) l0_2.length c0_2,.slice A0_3 l0_3.length c0_3,.slice A0_4 l0_4.length c0_4] 33 (0,0))):=⟨(zz4 BK267 NB267_269)⟩;have n1_:Aside0 (((((((((w8.setCell ⟨gb269,0,none⟩ (.string ((rd_T82 l0_2 a1).f0))).setCell ⟨gb269,1,none⟩ (.int .i64 ((rd_T82 l0_2 a1).f1))).setCell ⟨gb269,2,none⟩ (.bool ((rd_T82 l0_2 a1).f2))).setCell ⟨gb269,3,none⟩ (.slice A268_3 ((rd_T82 l0_2 a1).f3.f0).length c268_3)).setCell ⟨gb269,4,none⟩ (.slice A268_4 ((rd_T82 l0_2 a1).f3.f1).length c268_4)).setCell ⟨gb269,5,none⟩ (.int .i64 ((rd_T82 l0_2 a1).f3.f2))).setCell ⟨gb269,6,none⟩ (.int .i64 ((rd_T82 l0_2 a1).f4))).setCell ⟨gb269,7,none⟩ (.slice A268_7 ((rd_T82 l0_2 a1).f5).length c268_7)).heap[gb269]?=some (.cells #[.string ((rd_T82 l0_2 a1).f0),.int .i64 ((rd_T82 l0_2 a1).f1),.bool ((rd_T82 l0_2 a1).f2),.slice A268_3 ((rd_T82 l0_2 a1).f3.f0).length c268_3,.slice A268_4 ((rd_T82 l0_2 a1).f3.f1).length c268_4,.int .i64 ((rd_T82 l0_2 a1).f3.f2),.int .i64 ((rd_T82 l0_2 a1).f4),.slice A268_7 ((rd_T82 l0_2 a1).f5).length c268_7] 82 (0,0))):=⟨(zz169 BK269)⟩;have n2_:Aside0 (Below w.heap.size w ((((((((w8.setCell ⟨gb269,0,none⟩ (.string ((rd_T82 l0_2 a1).f0))).setCell ⟨gb269,1,none⟩ (.int .i64 ((rd_T82 l0_2 a1).f1))).setCell ⟨gb269,2,none⟩ (.bool ((rd_T82 l0_2 a1).f2))).setCell ⟨gb269,3,none⟩ (.slice A268_3 ((rd_T82 l0_2 a1).f3.f0).length c268_3)).setCell ⟨gb269,4,none⟩ (.slice A268_4 ((rd_T82 l0_2 a1).f3.f1).length c268_4)).setCell ⟨gb269,5,none⟩ (.int .i64 ((rd_T82 l0_2 a1).f3.f2))).setCell ⟨gb269,6,none⟩ (.int .i64 ((rd_T82 l0_2 a1).f4))).setCell ⟨gb269,7,none⟩ (.slice A268_7 ((rd_T82 l0_2 a1).f5).length c268_7))):=⟨(zz3 HB GE267 GE269)⟩;(try clear BK267)
          (try clear BK269)
          (try clear HB)
          generalize ((((((((w8.setCell ⟨gb269,0,none⟩ (.string ((rd_T82 l0_2 a1).f0))).setCell ⟨gb269,1,none⟩ (.int .i64 ((rd_T82 l0_2 a1).f1))).setCell ⟨gb269,2,none⟩ (.bool ((rd_T82 l0_2 a1).f2))).setCell ⟨gb269,3,none⟩ (.slice A268_3 ((rd_T82 l0_2 a1).f3.f0).length c268_3)).setCell ⟨gb269,4,none⟩ (.slice A268_4 ((rd_T82 l0_2 a1).f3.f1).length c268_4)).setCell ⟨gb269,5,none⟩ (.int .i64 ((rd_T82 l0_2 a1).f3.f2))).setCell ⟨gb269,6,none⟩ (.int .i64 ((rd_T82 l0_2 a1).f4))).setCell ⟨gb269,7,none⟩ (.slice A268_7 ((rd_T82 l0_2 a1).f5).length c268_7))=w27 at n0_ n1_ n2_ ⊢;have BK267:=n0_;have BK269:=n1_;have HB:=n2_;clear n0_ n1_ n2_;replace BK267:=A_ (blk_drew BK267.out);replace BK269:=A_ (blk_drew BK269.out);replace HB:=A_ (below_drew1 HB.out);have p274:0≤(0:Int):=(by omega);have q274:0 < (((rd_T82 l0_2 a1).f3.f0).length:Int):=ofD;obtain ⟨ad274,e274,hx274_0⟩:=Kd.at_string HR268_3.out 0 p274 q274;have hw274_0:=hx274_0;(try rw [show ((0:Int)).toNat=0 from rfl] at hw274_0)
          (try rw [show 0 * 1=0 from rfl] at hw274_0)
          (try rw [Addr.add_zero'] at hw274_0)
          cases e274
          have qi274:(0 < ((rd_T82 l0_2 a1).f3.f0).length)=True:=eq_true (by omega);(try rw [show ((0:Int)).toNat=0 from rfl] at hx274_0)
          (try rw [Addr.add_zero'] at hx274_0)
          replace hx274_0:=cbl HB hx274_0;replace p274:=eq_true p274;replace q274:=eq_true q274;refine start_ (n:=55) (S:=fun w'=>w'.cell? ⟨gb269,0,none⟩=some (.string ((rd_T82 l0_2 a1).f0))∧w'.cell? ⟨gb269,1,none⟩=some (.int .i64 ((rd_T82 l0_2 a1).f1))∧w'.cell? ⟨gb269,2,none⟩=some (.bool ((rd_T82 l0_2 a1).f2))∧w'.cell? ⟨gb269,3,none⟩=some (.slice (some ad274) ((rd_T82 l0_2 a1).f3.f0).length c268_3)∧w'.cell? ⟨gb269,4,none⟩=some (.slice A268_4 ((rd_T82 l0_2 a1).f3.f1).length c268_4)∧w'.cell? ⟨gb269,5,none⟩=some (.int .i64 ((rd_T82 l0_2 a1).f3.f2))∧w'.cell? ⟨gb269,6,none⟩=some (.int .i64 ((rd_T82 l0_2 a1).f4))∧w'.cell? ⟨gb269,7,none⟩=some (.slice A268_7 ((rd_T82 l0_2 a1).f5).length c268_7)∧w'.cell? ⟨gb267,0,none⟩=some (.string a0_0)∧w'.cell? ⟨gb267,1,none⟩=some (.int .i64 a0_1)∧w'.cell? ⟨gb267,2,none⟩=some (.slice (some ad268) l0_2.length c0_2)∧w'.cell? ⟨gb267,3,none⟩=some (.slice A0_3 l0_3.length c0_3)∧w'.cell? ⟨gb267,4,none⟩=some (.slice A0_4 l0_4.length c0_4)∧w'.cell? ad274=some (.string (rdOf ByteArray.empty ((rd_T82 l0_2 a1).f3.f0) 0))) (ds:=[]) #[yF,yF,yF,yF,yF,yF,yF,yF,yF,yF,yF,yF,yF,yF,yF,yF,yF,yF,yF,yF,yF,yF,yF,yF,yF,yF,yF,yF,yF,yF,yF,yF,yF,yF,yF,yF,yF,yF,yF,yF,yF,yF,yF,yF,yF,yF,yF,yF,yF,yF,yF,yF,yF,yF,yF] (by kernel_rfl) rfl rfl ⟨(blk_cell BK269.out 0).trans rfl,(blk_cell BK269.out 1).trans rfl,(blk_cell BK269.out 2).trans rfl,(blk_cell BK269.out 3).trans rfl,(blk_cell BK269.out 4).trans rfl,(blk_cell BK269.out 5).trans rfl,(blk_cell BK269.out 6).trans rfl,(blk_cell BK269.out 7).trans rfl,(blk_cell BK267.out 0).trans rfl,(blk_cell BK267.out 1).trans rfl,(blk_cell BK267.out 2).trans rfl,(blk_cell BK267.out 3).trans rfl,(blk_cell BK267.out 4).trans rfl,((HB.out.cell (World.block_lt_of_cell? w _ hw274_0)).trans hw274_0)⟩ (fun hHeld=>?_);refine with_tabW spec_l12HouseOk.tab2 spec_l12HouseOk.bits2 (fun HT_ HW_=>?_);generalize w27.drew=w28 at BK267 BK269 HB hx274_0 hHeld ⊢;refine pureZ 0 (some 12) (yA 1 54) ?_;refine takeZ14 1 (some 13) (yA 2 53) hHeld ?_;refine oneZ 2 (some 14) (yA 3 52) (fun K hK=>?_);refine goes_ Tryz.func66 (by kernel_rfl) rfl #[.string ((rd_T82 l0_2 a1).f0)] (by rfl) rfl rfl zz39 ?_;with_reducible refine (spec_l1House.calls k ((rd_T82 l0_2 a1).f0) true _ A11.out).mono ?_
          rintro e w' ⟨rfl,⟨nd,rfl⟩⟩;refine ⟨_,rfl,?_⟩;refine hK.out _ _ ⟨(blk_cell BK269.out 0).trans rfl,(blk_cell BK269.out 1).trans rfl,(blk_cell BK269.out 2).trans rfl,(blk_cell BK269.out 3).trans rfl,(blk_cell BK269.out 4).trans rfl,(blk_cell BK269.out 5).trans rfl,(blk_cell BK269.out 6).trans rfl,(blk_cell BK269.out 7).trans rfl,(blk_cell BK267.out 0).trans rfl,(blk_cell BK267.out 1).trans rfl,(blk_cell BK267.out 2).trans rfl,(blk_cell BK267.out 3).trans rfl,(blk_cell BK267.out 4).trans rfl,((HB.out.cell (World.block_lt_of_cell? w _ hw274_0)).trans hw274_0)⟩ (fun hHeld=>?_);clear hK K;refine nZ 14 ?_;refine pureZ 3 (some 15) (yA 4 51) ?_;refine pureZ 4 (some 16) (yA 5 50) ?_;refine pureZ 6 (some 18) #[yT,yT,yT,yT,yT,yF,yT,yF,yF,yF,yF,yF,yF,yF,yF,yF,yF,yF,yF,yF,yF,yF,yF,yF,yF,yF,yF,yF,yF,yF,yF,yF,yF,yF,yF,yF,yF,yF,yF,yF,yF,yF,yF,yF,yF,yF,yF,yF,yF,yF,yF,yF,yF,yF,yF] ?_;refine pureZ 9 (some 21) #[yT,yT,yT,yT,yT,yF,yT,yF,yF,yT,yF,yF,yF,yF,yF,yF,yF,yF,yF,yF,yF,yF,yF,yF,yF,yF,yF,yF,yF,yF,yF,yF,yF,yF,yF,yF,yF,yF,yF,yF,yF,yF,yF,yF,yF,yF,yF,yF,yF,yF,yF,yF,yF,yF,yF] ?_;refine takeZ14 5 (some 17) #[yT,yT,yT,yT,yT,yT,yT,yF,yF,yT,yF,yF,yF,yF,yF,yF,yF,yF,yF,yF,yF,yF,yF,yF,yF,yF,yF,yF,yF,yF,yF,yF,yF,yF,yF,yF,yF,yF,yF,yF,yF,yF,yF,yF,yF,yF,yF,yF,yF,yF,yF,yF,yF,yF,yF] hHeld ?_;refine takeZ14 7 (some 19) #[yT,yT,yT,yT,yT,yT,yT,yT,yF,yT,yF,yF,yF,yF,yF,yF,yF,yF,yF,yF,yF,yF,yF,yF,yF,yF,yF,yF,yF,yF,yF,yF,yF,yF,yF,yF,yF,yF,yF,yF,yF,yF,yF,yF,yF,yF,yF,yF,yF,yF,yF,yF,yF,yF,yF] hHeld ?_;refine oneZ 8 (some 20) (yA 10 45) (fun K hK=>?_);refine goes_ Tryz.func67 (by kernel_rfl) rfl #[.agg #[.string a0_0,.int .i64 a0_1,.slice (some ad268) l0_2.length c0_2,.slice A0_3 l0_3.length c0_3,.slice A0_4 l0_4.length c0_4],.string ((rd_T82 l0_2 a1).f0)] (by rfl) rfl rfl zz39 ?_;with_reducible refine (spec_l12House.calls k a0_0 a0_1 _ _ l0_2 _ _ l0_3 _ _ l0_4 ((rd_T82 l0_2 a1).f0) t271 _ ?side1 ?side2 ?side3 ?side4 ?side5 ?side6 A13.out).mono ?_
          (case side1=>exact (zz170 HR0_2))
          (case side2=>exact HC0_2.out)
          (case side3=>exact (zz170 HR0_3))
          (case side4=>exact HC0_3.out)
          (case side5=>exact (zz170 HR0_4))
          (case side6=>exact HC0_4.out)
          rintro e w29 ⟨rfl,hb⟩;refine ⟨_,rfl,?_⟩;replace BK267:=A_ (bB (zz2 BK267) hb);replace BK269:=A_ (bB (zz2 BK269) hb);replace HB:=A_ (bS (zz3 HB GE267 GE269) hb);(try clear hb)
          (try clear hb2)
          (try clear hk)
          (try clear hi)
          refine hK.out _ _ ⟨(blk_cell BK269.out 0).trans rfl,(blk_cell BK269.out 1).trans rfl,(blk_cell BK269.out 2).trans rfl,(blk_cell BK269.out 3).trans rfl,(blk_cell BK269.out 4).trans rfl,(blk_cell BK269.out 5).trans rfl,(blk_cell BK269.out 6).trans rfl,(blk_cell BK269.out 7).trans rfl,(blk_cell BK267.out 0).trans rfl,(blk_cell BK267.out 1).trans rfl,(blk_cell BK267.out 2).trans rfl,(blk_cell BK267.out 3).trans rfl,(blk_cell BK267.out 4).trans rfl,((HB.out.cell (World.block_lt_of_cell? w _ hw274_0)).trans hw274_0)⟩ (fun hHeld=>?_);clear hK K;refine nZ 20 ?_;refine pureZ 10 (some 22) (yA 11 44) ?_;refine pureZ 11 (some 23) (yA 12 43) ?_;refine pureZ 12 (some 24) (yA 13 42) ?_;refine pureZ 13 (some 25) (yA 14 41) ?_;refine takeZ14 14 (some 26) (yA 15 40) hHeld ?_;refine oneZ 15 (some 27) (yA 16 39) (fun K hK=>?_);refine goes_ Tryz.func40 (by kernel_rfl) rfl #[.int .i64 ((rd_T82 l0_2 a1).f1),.int .i64 0,.int .i64 5100] (by rfl) rfl rfl zz39 ?_;with_reducible refine (spec_l6In.calls ((rd_T82 l0_2 a1).f1) 0 5100 true _ A15.out).mono ?_
          rintro e w' ⟨rfl,⟨nd,rfl⟩⟩;refine ⟨_,rfl,?_⟩;refine hK.out _ _ ⟨(blk_cell BK269.out 0).trans rfl,(blk_cell BK269.out 1).trans rfl,(blk_cell BK269.out 2).trans rfl,(blk_cell BK269.out 3).trans rfl,(blk_cell BK269.out 4).trans rfl,(blk_cell BK269.out 5).trans rfl,(blk_cell BK269.out 6).trans rfl,(blk_cell BK269.out 7).trans rfl,(blk_cell BK267.out 0).trans rfl,(blk_cell BK267.out 1).trans rfl,(blk_cell BK267.out 2).trans rfl,(blk_cell BK267.out 3).trans rfl,(blk_cell BK267.out 4).trans rfl,((HB.out.cell (World.block_lt_of_cell? w _ hw274_0)).trans hw274_0)⟩ (fun hHeld=>?_);clear hK K;refine nZ 27 ?_;refine pureZ 16 (some 28) (yA 17 38) ?_;refine pureZ 17 (some 29) (yA 18 37) ?_;refine pureZ 18 (some 30) (yA 19 36) ?_;refine pureZ 19 (some 31) (yA 20 35) ?_;refine takeZ14 20 (some 32) (yA 21 34) hHeld ?_;refine oneZ 21 (some 33) (yA 22 33) (fun K hK=>?_);refine goes_ Tryz.func40 (by kernel_rfl) rfl #[.int .i64 ((rd_T82 l0_2 a1).f4),.int .i64 0,.int .i64 2] (by rfl) rfl rfl zz39 ?_;with_reducible refine (spec_l6In.calls ((rd_T82 l0_2 a1).f4) 0 2 true _ A17.out).mono ?_
          rintro e w' ⟨rfl,⟨nd,rfl⟩⟩;refine ⟨_,rfl,?_⟩;refine hK.out _ _ ⟨(blk_cell BK269.out 0).trans rfl,(blk_cell BK269.out 1).trans rfl,(blk_cell BK269.out 2).trans rfl,(blk_cell BK269.out 3).trans rfl,(blk_cell BK269.out 4).trans rfl,(blk_cell BK269.out 5).trans rfl,(blk_cell BK269.out 6).trans rfl,(blk_cell BK269.out 7).trans rfl,(blk_cell BK267.out 0).trans rfl,(blk_cell BK267.out 1).trans rfl,(blk_cell BK267.out 2).trans rfl,(blk_cell BK267.out 3).trans rfl,(blk_cell BK267.out 4).trans rfl,((HB.out.cell (World.block_lt_of_cell? w _ hw274_0)).trans hw274_0)⟩ (fun hHeld=>?_);clear hK K;refine nZ 33 ?_;refine pureZ 22 (some 34) (yA 23 32) ?_;refine pureZ 23 (some 35) (yA 24 31) ?_;refine pureZ 24 (some 36) (yA 25 30) ?_;refine pureZ 25 (some 37) (yA 26 29) ?_;refine pureZ 26 (some 38) (yA 27 28) ?_;refine takeZ14 27 (some 39) (yA 28 27) hHeld ?_;refine pureZ 28 (some 40) (yA 29 26) ?_;refine pureZ 29 (some 41) (yA 30 25) ?_;refine pureZ 30 (some 42) (yA 31 24) ?_;refine pureZ 31 (some 43) (yA 32 23) ?_;refine pureZ 32 (some 44) (yA 33 22) ?_;refine pureZ 33 (some 45) (yA 34 21) ?_;refine pureZ 37 (some 49) #[yT,yT,yT,yT,yT,yT,yT,yT,yT,yT,yT,yT,yT,yT,yT,yT,yT,yT,yT,yT,yT,yT,yT,yT,yT,yT,yT,yT,yT,yT,yT,yT,yT,yT,yF,yF,yF,yT,yF,yF,yF,yF,yF,yF,yF,yF,yF,yF,yF,yF,yF,yF,yF,yF,yF] ?_;refine takeZ14 34 (some 46) #[yT,yT,yT,yT,yT,yT,yT,yT,yT,yT,yT,yT,yT,yT,yT,yT,yT,yT,yT,yT,yT,yT,yT,yT,yT,yT,yT,yT,yT,yT,yT,yT,yT,yT,yT,yF,yF,yT,yF,yF,yF,yF,yF,yF,yF,yF,yF,yF,yF,yF,yF,yF,yF,yF,yF] hHeld ?_;refine pureZ 35 (some 47) #[yT,yT,yT,yT,yT,yT,yT,yT,yT,yT,yT,yT,yT,yT,yT,yT,yT,yT,yT,yT,yT,yT,yT,yT,yT,yT,yT,yT,yT,yT,yT,yT,yT,yT,yT,yT,yF,yT,yF,yF,yF,yF,yF,yF,yF,yF,yF,yF,yF,yF,yF,yF,yF,yF,yF] ?_;refine takeZ14 36 (some 48) (yA 38 17) hHeld ?_;refine takeZ14 38 (some 50) (yA 39 16) hHeld ?_;refine pureZ 39 (some 51) (yA 40 15) ?_;refine pureZ 40 (some 52) (yA 41 14) ?_;refine pureZ 41 (some 53) (yA 42 13) ?_;refine pureZ 42 (some 54) (yA 43 12) ?_;refine pureZ 43 (some 55) (yA 44 11) ?_;refine takeZ14 44 (some 56) (yA 45 10) hHeld ?_;refine oneZ 45 (some 57) (yA 46 9) (fun K hK=>?_);refine goes_ Tryz.func40 (by kernel_rfl) rfl #[.int .i64 ((rd_T82 l0_2 a1).f3.f2),.int .i64 0,.int .i64 20] (by rfl) rfl rfl zz39 ?_;with_reducible refine (spec_l6In.calls ((rd_T82 l0_2 a1).f3.f2) 0 20 false _ A22.out).mono ?_
          rintro e w' ⟨rfl,⟨nd,rfl⟩⟩;refine ⟨_,rfl,?_⟩;refine hK.out _ _ ⟨(blk_cell BK269.out 0).trans rfl,(blk_cell BK269.out 1).trans rfl,(blk_cell BK269.out 2).trans rfl,(blk_cell BK269.out 3).trans rfl,(blk_cell BK269.out 4).trans rfl,(blk_cell BK269.out 5).trans rfl,(blk_cell BK269.out 6).trans rfl,(blk_cell BK269.out 7).trans rfl,(blk_cell BK267.out 0).trans rfl,(blk_cell BK267.out 1).trans rfl,(blk_cell BK267.out 2).trans rfl,(blk_cell BK267.out 3).trans rfl,(blk_cell BK267.out 4).trans rfl,((HB.out.cell (World.block_lt_of_cell? w _ hw274_0)).trans hw274_0)⟩ (fun hHeld=>?_);clear hK K;refine nZ 57 ?_;refine pureZ 46 (some 58) (yA 47 8) ?_;refine pureZ 47 (some 59) (yA 48 7) ?_;refine pureZ 48 (some 60) (yA 49 6) ?_;refine pure_ (i:=49) (N:=some 61) (v:=undef) (a':=?_) (yA 50 5) rfl rfl (any_of HT_.out (by kernel_rfl)) (fun _ _ _ h=>h) (Or.inr ⟨by rfl,rfl⟩) ?_ ?_;rotate_left
          ·simp only [Act.put,List.setIfInBounds_toArray,List.set_cons_zero,List.set_cons_succ,i64_w,i32_w]
           rfl
          refine pure_ (i:=50) (N:=some 62) (v:=undef) (a':=?_) (yA 51 4) rfl rfl (any_of HT_.out (by kernel_rfl)) (fun _ _ _ h=>h) (Or.inr ⟨by rfl,rfl⟩) ?_ ?_;rotate_left
          ·simp only [Act.put,List.setIfInBounds_toArray,List.set_cons_zero,List.set_cons_succ,i64_w,i32_w]
           rfl
          refine pure_ (i:=51) (N:=some 63) (v:=undef) (a':=?_) (yA 52 3) rfl rfl (any_of HT_.out (by kernel_rfl)) (fun _ _ _ h=>h) (Or.inr ⟨by rfl,rfl⟩) ?_ ?_;rotate_left
          ·simp only [Act.put,List.setIfInBounds_toArray,List.set_cons_zero,List.set_cons_succ,i64_w,i32_w]
           rfl
          refine pure_ (i:=52) (N:=some 64) (v:=undef) (a':=?_) (yA 53 2) rfl rfl (any_of HT_.out (by kernel_rfl)) (fun _ _ _ h=>h) (Or.inr ⟨by rfl,rfl⟩) ?_ ?_;rotate_left
          ·simp only [Act.put,List.setIfInBounds_toArray,List.set_cons_zero,List.set_cons_succ,i64_w,i32_w]
           rfl
          refine pure_ (i:=53) (N:=some 65) (v:=undef) (a':=?_) (yA 54 1) rfl rfl (any_of HT_.out (by kernel_rfl)) (fun _ _ _ h=>h) (Or.inr ⟨by rfl,rfl⟩) ?_ ?_;rotate_left
          ·simp only [Act.put,List.setIfInBounds_toArray,List.set_cons_zero,List.set_cons_succ,i64_w,i32_w]
           rfl
          refine pureZ 54 (some 66) (yA 55 0) ?_;refine done_ (done_of HT_.out (by kernel_rfl)) ?_;try go_wp2
          go_meet
          case rel=>exact ⟨_,(true),zz7,H',⟨zz62⟩,⟨(zz2 BK267)⟩,⟨(zz2 BK269)⟩,⟨(zz3 HB GE267 GE269)⟩⟩
        ·have H':=A_ H
         clear H;try go_wp2
         have n0_:Aside0 (((((((((w8.setCell ⟨gb269,0,none⟩ (.string ((rd_T82 l0_2 a1).f0))).setCell ⟨gb269,1,none⟩ (.int .i64 ((rd_T82 l0_2 a1).f1))).setCell ⟨gb269,2,none⟩ (.bool ((rd_T82 l0_2 a1).f2))).setCell ⟨gb269,3,none⟩ (.slice A268_3 ((rd_T82 l0_2 a1).f3.f0).length c268_3)).setCell ⟨gb269,4,none⟩ (.slice A268_4 ((rd_T82 l0_2 a1).f3.f1).length c268_4)).setCell ⟨gb269,5,none⟩ (.int .i64 ((rd_T82 l0_2 a1).f3.f2))).setCell ⟨gb269,6,none⟩ (.int .i64 ((rd_T82 l0_2 a1).f4))).setCell ⟨gb269,7,none⟩ (.slice A268_7 ((rd_T82 l0_2 a1).f5).length c268_7)).heap[gb267]?=some (.cells #[.string a0_0,.int .i64 a0_1,.slice (some ad268) l0_2.length c0_2,.slice A0_3 l0_3.length c0_3,.slice A0_4 l0_4.length c0_4] 33 (0,0))):=⟨(zz4 BK267 NB267_269)⟩;have n1_:Aside0 (((((((((w8.setCell ⟨gb269,0,none⟩ (.string ((rd_T82 l0_2 a1).f0))).setCell ⟨gb269,1,none⟩ (.int .i64 ((rd_T82 l0_2 a1).f1))).setCell ⟨gb269,2,none⟩ (.bool ((rd_T82 l0_2 a1).f2))).setCell ⟨gb269,3,none⟩ (.slice A268_3 ((rd_T82 l0_2 a1).f3.f0).length c268_3)).setCell ⟨gb269,4,none⟩ (.slice A268_4 ((rd_T82 l0_2 a1).f3.f1).length c268_4)).setCell ⟨gb269,5,none⟩ (.int .i64 ((rd_T82 l0_2 a1).f3.f2))).setCell ⟨gb269,6,none⟩ (.int .i64 ((rd_T82 l0_2 a1).f4))).setCell ⟨gb269,7,none⟩ (.slice A268_7 ((rd_T82 l0_2 a1).f5).length c268_7)).heap[gb269]?=some (.cells #[.string ((rd_T82 l0_2 a1).f0),.int .i64 ((rd_T82 l0_2 a1).f1),.bool ((rd_T82 l0_2 a1).f2),.slice A268_3 ((rd_T82 l0_2 a1).f3.f0).length c268_3,.slice A268_4 ((rd_T82 l0_2 a1).f3.f1).length c268_4,.int .i64 ((rd_T82 l0_2 a1).f3.f2),.int .i64 ((rd_T82 l0_2 a1).f4),.slice A268_7 ((rd_T82 l0_2 a1).f5).length c268_7] 82 (0,0))):=⟨(zz169 BK269)⟩;have n2_:Aside0 (Below w.heap.size w ((((((((w8.setCell ⟨gb269,0,none⟩ (.string ((rd_T82 l0_2 a1).f0))).setCell ⟨gb269,1,none⟩ (.int .i64 ((rd_T82 l0_2 a1).f1))).setCell ⟨gb269,2,none⟩ (.bool ((rd_T82 l0_2 a1).f2))).setCell ⟨gb269,3,none⟩ (.slice A268_3 ((rd_T82 l0_2 a1).f3.f0).length c268_3)).setCell ⟨gb269,4,none⟩ (.slice A268_4 ((rd_T82 l0_2 a1).f3.f1).length c268_4)).setCell ⟨gb269,5,none⟩ (.int .i64 ((rd_T82 l0_2 a1).f3.f2))).setCell ⟨gb269,6,none⟩ (.int .i64 ((rd_T82 l0_2 a1).f4))).setCell ⟨gb269,7,none⟩ (.slice A268_7 ((rd_T82 l0_2 a1).f5).length c268_7))):=⟨(zz3 HB GE267 GE269)⟩;(try clear BK267)
         (try clear BK269)
         (try clear HB)
         generalize ((((((((w8.setCell ⟨gb269,0,none⟩ (.string ((rd_T82 l0_2 a1).f0))).setCell ⟨gb269,1,none⟩ (.int .i64 ((rd_T82 l0_2 a1).f1))).setCell ⟨gb269,2,none⟩ (.bool ((rd_T82 l0_2 a1).f2))).setCell ⟨gb269,3,none⟩ (.slice A268_3 ((rd_T82 l0_2 a1).f3.f0).length c268_3)).setCell ⟨gb269,4,none⟩ (.slice A268_4 ((rd_T82 l0_2 a1).f3.f1).length c268_4)).setCell ⟨gb269,5,none⟩ (.int .i64 ((rd_T82 l0_2 a1).f3.f2))).setCell ⟨gb269,6,none⟩ (.int .i64 ((rd_T82 l0_2 a1).f4))).setCell ⟨gb269,7,none⟩ (.slice A268_7 ((rd_T82 l0_2 a1).f5).length c268_7))=w30 at n0_ n1_ n2_ ⊢;have BK267:=n0_;have BK269:=n1_;have HB:=n2_;clear n0_ n1_ n2_;replace BK267:=A_ (blk_drew BK267.out);replace BK269:=A_ (blk_drew BK269.out);replace HB:=A_ (below_drew1 HB.out);have p274:0≤(0:Int):=(by omega);have q274:0 < (((rd_T82 l0_2 a1).f3.f0).length:Int):=ofD;obtain ⟨ad274,e274,hx274_0⟩:=Kd.at_string HR268_3.out 0 p274 q274;have hw274_0:=hx274_0;(try rw [show ((0:Int)).toNat=0 from rfl] at hw274_0)
         (try rw [show 0 * 1=0 from rfl] at hw274_0)
         (try rw [Addr.add_zero'] at hw274_0)
         cases e274
         have qi274:(0 < ((rd_T82 l0_2 a1).f3.f0).length)=True:=eq_true (by omega);(try rw [show ((0:Int)).toNat=0 from rfl] at hx274_0)
         (try rw [Addr.add_zero'] at hx274_0)
         replace hx274_0:=cbl HB hx274_0;replace p274:=eq_true p274;replace q274:=eq_true q274;refine start_ (n:=55) (S:=fun w'=>w'.cell? ⟨gb269,0,none⟩=some (.string ((rd_T82 l0_2 a1).f0))∧w'.cell? ⟨gb269,1,none⟩=some (.int .i64 ((rd_T82 l0_2 a1).f1))∧w'.cell? ⟨gb269,2,none⟩=some (.bool ((rd_T82 l0_2 a1).f2))∧w'.cell? ⟨gb269,3,none⟩=some (.slice (some ad274) ((rd_T82 l0_2 a1).f3.f0).length c268_3)∧w'.cell? ⟨gb269,4,none⟩=some (.slice A268_4 ((rd_T82 l0_2 a1).f3.f1).length c268_4)∧w'.cell? ⟨gb269,5,none⟩=some (.int .i64 ((rd_T82 l0_2 a1).f3.f2))∧w'.cell? ⟨gb269,6,none⟩=some (.int .i64 ((rd_T82 l0_2 a1).f4))∧w'.cell? ⟨gb269,7,none⟩=some (.slice A268_7 ((rd_T82 l0_2 a1).f5).length c268_7)∧w'.cell? ⟨gb267,0,none⟩=some (.string a0_0)∧w'.cell? ⟨gb267,1,none⟩=some (.int .i64 a0_1)∧w'.cell? ⟨gb267,2,none⟩=some (.slice (some ad268) l0_2.length c0_2)∧w'.cell? ⟨gb267,3,none⟩=some (.slice A0_3 l0_3.length c0_3)∧w'.cell? ⟨gb267,4,none⟩=some (.slice A0_4 l0_4.length c0_4)∧w'.cell? ad274=some (.string (rdOf ByteArray.empty ((rd_T82 l0_2 a1).f3.f0) 0))) (ds:=[]) #[yF,yF,yF,yF,yF,yF,yF,yF,yF,yF,yF,yF,yF,yF,yF,yF,yF,yF,yF,yF,yF,yF,yF,yF,yF,yF,yF,yF,yF,yF,yF,yF,yF,yF,yF,yF,yF,yF,yF,yF,yF,yF,yF,yF,yF,yF,yF,yF,yF,yF,yF,yF,yF,yF,yF] (by kernel_rfl) rfl rfl ⟨(blk_cell BK269.out 0).trans rfl,(blk_cell BK269.out 1).trans rfl,(blk_cell BK269.out 2).trans rfl,(blk_cell BK269.out 3).trans rfl,(blk_cell BK269.out 4).trans rfl,(blk_cell BK269.out 5).trans rfl,(blk_cell BK269.out 6).trans rfl,(blk_cell BK269.out 7).trans rfl,(blk_cell BK267.out 0).trans rfl,(blk_cell BK267.out 1).trans rfl,(blk_cell BK267.out 2).trans rfl,(blk_cell BK267.out 3).trans rfl,(blk_cell BK267.out 4).trans rfl,((HB.out.cell (World.block_lt_of_cell? w _ hw274_0)).trans hw274_0)⟩ (fun hHeld=>?_);refine with_tabW spec_l12HouseOk.tab2 spec_l12HouseOk.bits2 (fun HT_ HW_=>?_);generalize w30.drew=w31 at BK267 BK269 HB hx274_0 hHeld ⊢;refine pureZ 0 (some 12) (yA 1 54) ?_;refine takeZ14 1 (some 13) (yA 2 53) hHeld ?_;refine oneZ 2 (some 14) (yA 3 52) (fun K hK=>?_);refine goes_ Tryz.func66 (by kernel_rfl) rfl #[.string ((rd_T82 l0_2 a1).f0)] (by rfl) rfl rfl zz39 ?_;with_reducible refine (spec_l1House.calls k ((rd_T82 l0_2 a1).f0) true _ A11.out).mono ?_
         rintro e w' ⟨rfl,⟨nd,rfl⟩⟩;refine ⟨_,rfl,?_⟩;refine hK.out _ _ ⟨(blk_cell BK269.out 0).trans rfl,(blk_cell BK269.out 1).trans rfl,(blk_cell BK269.out 2).trans rfl,(blk_cell BK269.out 3).trans rfl,(blk_cell BK269.out 4).trans rfl,(blk_cell BK269.out 5).trans rfl,(blk_cell BK269.out 6).trans rfl,(blk_cell BK269.out 7).trans rfl,(blk_cell BK267.out 0).trans rfl,(blk_cell BK267.out 1).trans rfl,(blk_cell BK267.out 2).trans rfl,(blk_cell BK267.out 3).trans rfl,(blk_cell BK267.out 4).trans rfl,((HB.out.cell (World.block_lt_of_cell? w _ hw274_0)).trans hw274_0)⟩ (fun hHeld=>?_);clear hK K;refine nZ 14 ?_;refine pureZ 3 (some 15) (yA 4 51) ?_;refine pureZ 4 (some 16) (yA 5 50) ?_;refine pureZ 6 (some 18) #[yT,yT,yT,yT,yT,yF,yT,yF,yF,yF,yF,yF,yF,yF,yF,yF,yF,yF,yF,yF,yF,yF,yF,yF,yF,yF,yF,yF,yF,yF,yF,yF,yF,yF,yF,yF,yF,yF,yF,yF,yF,yF,yF,yF,yF,yF,yF,yF,yF,yF,yF,yF,yF,yF,yF] ?_;refine pureZ 9 (some 21) #[yT,yT,yT,yT,yT,yF,yT,yF,yF,yT,yF,yF,yF,yF,yF,yF,yF,yF,yF,yF,yF,yF,yF,yF,yF,yF,yF,yF,yF,yF,yF,yF,yF,yF,yF,yF,yF,yF,yF,yF,yF,yF,yF,yF,yF,yF,yF,yF,yF,yF,yF,yF,yF,yF,yF] ?_;refine takeZ14 5 (some 17) #[yT,yT,yT,yT,yT,yT,yT,yF,yF,yT,yF,yF,yF,yF,yF,yF,yF,yF,yF,yF,yF,yF,yF,yF,yF,yF,yF,yF,yF,yF,yF,yF,yF,yF,yF,yF,yF,yF,yF,yF,yF,yF,yF,yF,yF,yF,yF,yF,yF,yF,yF,yF,yF,yF,yF] hHeld ?_;refine takeZ14 7 (some 19) #[yT,yT,yT,yT,yT,yT,yT,yT,yF,yT,yF,yF,yF,yF,yF,yF,yF,yF,yF,yF,yF,yF,yF,yF,yF,yF,yF,yF,yF,yF,yF,yF,yF,yF,yF,yF,yF,yF,yF,yF,yF,yF,yF,yF,yF,yF,yF,yF,yF,yF,yF,yF,yF,yF,yF] hHeld ?_;refine oneZ 8 (some 20) (yA 10 45) (fun K hK=>?_);refine goes_ Tryz.func67 (by kernel_rfl) rfl #[.agg #[.string a0_0,.int .i64 a0_1,.slice (some ad268) l0_2.length c0_2,.slice A0_3 l0_3.length c0_3,.slice A0_4 l0_4.length c0_4],.string ((rd_T82 l0_2 a1).f0)] (by rfl) rfl rfl zz39 ?_;with_reducible refine (spec_l12House.calls k a0_0 a0_1 _ _ l0_2 _ _ l0_3 _ _ l0_4 ((rd_T82 l0_2 a1).f0) t271 _ ?side1 ?side2 ?side3 ?side4 ?side5 ?side6 A13.out).mono ?_
         (case side1=>exact (zz170 HR0_2))
         (case side2=>exact HC0_2.out)
         (case side3=>exact (zz170 HR0_3))
         (case side4=>exact HC0_3.out)
         (case side5=>exact (zz170 HR0_4))
         (case side6=>exact HC0_4.out)
         rintro e w32 ⟨rfl,hb⟩;refine ⟨_,rfl,?_⟩;replace BK267:=A_ (bB (zz2 BK267) hb);replace BK269:=A_ (bB (zz2 BK269) hb);replace HB:=A_ (bS (zz3 HB GE267 GE269) hb);(try clear hb)
         (try clear hb2)
         (try clear hk)
         (try clear hi)
         refine hK.out _ _ ⟨(blk_cell BK269.out 0).trans rfl,(blk_cell BK269.out 1).trans rfl,(blk_cell BK269.out 2).trans rfl,(blk_cell BK269.out 3).trans rfl,(blk_cell BK269.out 4).trans rfl,(blk_cell BK269.out 5).trans rfl,(blk_cell BK269.out 6).trans rfl,(blk_cell BK269.out 7).trans rfl,(blk_cell BK267.out 0).trans rfl,(blk_cell BK267.out 1).trans rfl,(blk_cell BK267.out 2).trans rfl,(blk_cell BK267.out 3).trans rfl,(blk_cell BK267.out 4).trans rfl,((HB.out.cell (World.block_lt_of_cell? w _ hw274_0)).trans hw274_0)⟩ (fun hHeld=>?_);clear hK K;refine nZ 20 ?_;refine pureZ 10 (some 22) (yA 11 44) ?_;refine pureZ 11 (some 23) (yA 12 43) ?_;refine pureZ 12 (some 24) (yA 13 42) ?_;refine pureZ 13 (some 25) (yA 14 41) ?_;refine takeZ14 14 (some 26) (yA 15 40) hHeld ?_;refine oneZ 15 (some 27) (yA 16 39) (fun K hK=>?_);refine goes_ Tryz.func40 (by kernel_rfl) rfl #[.int .i64 ((rd_T82 l0_2 a1).f1),.int .i64 0,.int .i64 5100] (by rfl) rfl rfl zz39 ?_;with_reducible refine (spec_l6In.calls ((rd_T82 l0_2 a1).f1) 0 5100 true _ A15.out).mono ?_
         rintro e w' ⟨rfl,⟨nd,rfl⟩⟩;refine ⟨_,rfl,?_⟩;refine hK.out _ _ ⟨(blk_cell BK269.out 0).trans rfl,(blk_cell BK269.out 1).trans rfl,(blk_cell BK269.out 2).trans rfl,(blk_cell BK269.out 3).trans rfl,(blk_cell BK269.out 4).trans rfl,(blk_cell BK269.out 5).trans rfl,(blk_cell BK269.out 6).trans rfl,(blk_cell BK269.out 7).trans rfl,(blk_cell BK267.out 0).trans rfl,(blk_cell BK267.out 1).trans rfl,(blk_cell BK267.out 2).trans rfl,(blk_cell BK267.out 3).trans rfl,(blk_cell BK267.out 4).trans rfl,((HB.out.cell (World.block_lt_of_cell? w _ hw274_0)).trans hw274_0)⟩ (fun hHeld=>?_);clear hK K;refine nZ 27 ?_;refine pureZ 16 (some 28) (yA 17 38) ?_;refine pureZ 17 (some 29) (yA 18 37) ?_;refine pureZ 18 (some 30) (yA 19 36) ?_;refine pureZ 19 (some 31) (yA 20 35) ?_;refine takeZ14 20 (some 32) (yA 21 34) hHeld ?_;refine oneZ 21 (some 33) (yA 22 33) (fun K hK=>?_);refine goes_ Tryz.func40 (by kernel_rfl) rfl #[.int .i64 ((rd_T82 l0_2 a1).f4),.int .i64 0,.int .i64 2] (by rfl) rfl rfl zz39 ?_;with_reducible refine (spec_l6In.calls ((rd_T82 l0_2 a1).f4) 0 2 true _ A17.out).mono ?_
         rintro e w' ⟨rfl,⟨nd,rfl⟩⟩;refine ⟨_,rfl,?_⟩;refine hK.out _ _ ⟨(blk_cell BK269.out 0).trans rfl,(blk_cell BK269.out 1).trans rfl,(blk_cell BK269.out 2).trans rfl,(blk_cell BK269.out 3).trans rfl,(blk_cell BK269.out 4).trans rfl,(blk_cell BK269.out 5).trans rfl,(blk_cell BK269.out 6).trans rfl,(blk_cell BK269.out 7).trans rfl,(blk_cell BK267.out 0).trans rfl,(blk_cell BK267.out 1).trans rfl,(blk_cell BK267.out 2).trans rfl,(blk_cell BK267.out 3).trans rfl,(blk_cell BK267.out 4).trans rfl,((HB.out.cell (World.block_lt_of_cell? w _ hw274_0)).trans hw274_0)⟩ (fun hHeld=>?_);clear hK K;refine nZ 33 ?_;refine pureZ 22 (some 34) (yA 23 32) ?_;refine pureZ 23 (some 35) (yA 24 31) ?_;refine pureZ 24 (some 36) (yA 25 30) ?_;refine pureZ 25 (some 37) (yA 26 29) ?_;refine pureZ 26 (some 38) (yA 27 28) ?_;refine takeZ14 27 (some 39) (yA 28 27) hHeld ?_;refine pureZ 28 (some 40) (yA 29 26) ?_;refine pureZ 29 (some 41) (yA 30 25) ?_;refine pureZ 30 (some 42) (yA 31 24) ?_;refine pureZ 31 (some 43) (yA 32 23) ?_;refine pureZ 32 (some 44) (yA 33 22) ?_;refine pureZ 33 (some 45) (yA 34 21) ?_;refine pureZ 37 (some 49) #[yT,yT,yT,yT,yT,yT,yT,yT,yT,yT,yT,yT,yT,yT,yT,yT,yT,yT,yT,yT,yT,yT,yT,yT,yT,yT,yT,yT,yT,yT,yT,yT,yT,yT,yF,yF,yF,yT,yF,yF,yF,yF,yF,yF,yF,yF,yF,yF,yF,yF,yF,yF,yF,yF,yF] ?_;refine takeZ14 34 (some 46) #[yT,yT,yT,yT,yT,yT,yT,yT,yT,yT,yT,yT,yT,yT,yT,yT,yT,yT,yT,yT,yT,yT,yT,yT,yT,yT,yT,yT,yT,yT,yT,yT,yT,yT,yT,yF,yF,yT,yF,yF,yF,yF,yF,yF,yF,yF,yF,yF,yF,yF,yF,yF,yF,yF,yF] hHeld ?_;refine pureZ 35 (some 47) #[yT,yT,yT,yT,yT,yT,yT,yT,yT,yT,yT,yT,yT,yT,yT,yT,yT,yT,yT,yT,yT,yT,yT,yT,yT,yT,yT,yT,yT,yT,yT,yT,yT,yT,yT,yT,yF,yT,yF,yF,yF,yF,yF,yF,yF,yF,yF,yF,yF,yF,yF,yF,yF,yF,yF] ?_;refine takeZ14 36 (some 48) (yA 38 17) hHeld ?_;refine takeZ14 38 (some 50) (yA 39 16) hHeld ?_;refine pureZ 39 (some 51) (yA 40 15) ?_;refine pureZ 40 (some 52) (yA 41 14) ?_;refine pureZ 41 (some 53) (yA 42 13) ?_;refine pure_ (i:=42) (N:=some 54) (v:=undef) (a':=?_) (yA 43 12) rfl rfl (any_of HT_.out (by kernel_rfl)) (fun _ _ _ h=>h) (Or.inr ⟨by rfl,rfl⟩) ?_ ?_;rotate_left
         ·simp only [Act.put,List.setIfInBounds_toArray,List.set_cons_zero,List.set_cons_succ,i64_w,i32_w]
          rfl
         refine pure_ (i:=43) (N:=some 55) (v:=undef) (a':=?_) (yA 44 11) rfl rfl (any_of HT_.out (by kernel_rfl)) (fun _ _ _ h=>h) (Or.inr ⟨by rfl,rfl⟩) ?_ ?_;rotate_left
         ·simp only [Act.put,List.setIfInBounds_toArray,List.set_cons_zero,List.set_cons_succ,i64_w,i32_w]
          rfl
         refine pure_ (i:=44) (N:=some 56) (v:=undef) (a':=?_) (yA 45 10) rfl rfl (any_of HT_.out (by kernel_rfl)) (fun _ _ _ h=>h) (Or.inr ⟨by rfl,rfl⟩) ?_ ?_;rotate_left
         ·simp only [Act.put,List.setIfInBounds_toArray,List.set_cons_zero,List.set_cons_succ,i64_w,i32_w]
          rfl
         refine pure_ (i:=45) (N:=some 57) (v:=undef) (a':=?_) (yA 46 9) rfl rfl (any_of HT_.out (by kernel_rfl)) (fun _ _ _ h=>h) (Or.inr ⟨by rfl,rfl⟩) ?_ ?_;rotate_left
         ·simp only [Act.put,List.setIfInBounds_toArray,List.set_cons_zero,List.set_cons_succ,i64_w,i32_w]
          rfl
         refine pure_ (i:=46) (N:=some 58) (v:=undef) (a':=?_) (yA 47 8) rfl rfl (any_of HT_.out (by kernel_rfl)) (fun _ _ _ h=>h) (Or.inr ⟨by rfl,rfl⟩) ?_ ?_;rotate_left
         ·simp only [Act.put,List.setIfInBounds_toArray,List.set_cons_zero,List.set_cons_succ,i64_w,i32_w]
          rfl
         refine pureZ 47 (some 59) (yA 48 7) ?_;refine pureZ 48 (some 60) (yA 49 6) ?_;refine pure_ (i:=49) (N:=some 61) (v:=undef) (a':=?_) (yA 50 5) rfl rfl (any_of HT_.out (by kernel_rfl)) (fun _ _ _ h=>h) (Or.inr ⟨by rfl,rfl⟩) ?_ ?_;rotate_left
         ·simp only [Act.put,List.setIfInBounds_toArray,List.set_cons_zero,List.set_cons_succ,i64_w,i32_w]
          rfl
         refine pure_ (i:=50) (N:=some 62) (v:=undef) (a':=?_) (yA 51 4) rfl rfl (any_of HT_.out (by kernel_rfl)) (fun _ _ _ h=>h) (Or.inr ⟨by rfl,rfl⟩) ?_ ?_;rotate_left
         ·simp only [Act.put,List.setIfInBounds_toArray,List.set_cons_zero,List.set_cons_succ,i64_w,i32_w]
          rfl
         refine pure_ (i:=51) (N:=some 63) (v:=undef) (a':=?_) (yA 52 3) rfl rfl (any_of HT_.out (by kernel_rfl)) (fun _ _ _ h=>h) (Or.inr ⟨by rfl,rfl⟩) ?_ ?_;rotate_left
         ·simp only [Act.put,List.setIfInBounds_toArray,List.set_cons_zero,List.set_cons_succ,i64_w,i32_w]
          rfl
         refine pure_ (i:=52) (N:=some 64) (v:=undef) (a':=?_) (yA 53 2) rfl rfl (any_of HT_.out (by kernel_rfl)) (fun _ _ _ h=>h) (Or.inr ⟨by rfl,rfl⟩) ?_ ?_;rotate_left
         ·simp only [Act.put,List.setIfInBounds_toArray,List.set_cons_zero,List.set_cons_succ,i64_w,i32_w]
          rfl
         refine pure_ (i:=53) (N:=some 65) (v:=undef) (a':=?_) (yA 54 1) rfl rfl (any_of HT_.out (by kernel_rfl)) (fun _ _ _ h=>h) (Or.inr ⟨by rfl,rfl⟩) ?_ ?_;rotate_left
         ·simp only [Act.put,List.setIfInBounds_toArray,List.set_cons_zero,List.set_cons_succ,i64_w,i32_w]
          rfl
         refine pureZ 54 (some 66) (yA 55 0) ?_;refine done_ (done_of HT_.out (by kernel_rfl)) ?_;try go_wp2
         go_meet
         case rel=>exact ⟨_,(true),zz7,H',⟨zz62⟩,⟨(zz2 BK267)⟩,⟨(zz2 BK269)⟩,⟨(zz3 HB GE267 GE269)⟩⟩
       ·obtain ⟨c19b0,c19b1⟩:=eqF c19
        have H':=A_ H;clear H;try go_wp2
        have n0_:Aside0 (((((((((w8.setCell ⟨gb269,0,none⟩ (.string ((rd_T82 l0_2 a1).f0))).setCell ⟨gb269,1,none⟩ (.int .i64 ((rd_T82 l0_2 a1).f1))).setCell ⟨gb269,2,none⟩ (.bool ((rd_T82 l0_2 a1).f2))).setCell ⟨gb269,3,none⟩ (.slice A268_3 ((rd_T82 l0_2 a1).f3.f0).length c268_3)).setCell ⟨gb269,4,none⟩ (.slice A268_4 ((rd_T82 l0_2 a1).f3.f1).length c268_4)).setCell ⟨gb269,5,none⟩ (.int .i64 ((rd_T82 l0_2 a1).f3.f2))).setCell ⟨gb269,6,none⟩ (.int .i64 ((rd_T82 l0_2 a1).f4))).setCell ⟨gb269,7,none⟩ (.slice A268_7 ((rd_T82 l0_2 a1).f5).length c268_7)).heap[gb267]?=some (.cells #[.string a0_0,.int .i64 a0_1,.slice (some ad268) l0_2.length c0_2,.slice A0_3 l0_3.length c0_3,.slice A0_4 l0_4.length c0_4] 33 (0,0))):=⟨(zz4 BK267 NB267_269)⟩;have n1_:Aside0 (((((((((w8.setCell ⟨gb269,0,none⟩ (.string ((rd_T82 l0_2 a1).f0))).setCell ⟨gb269,1,none⟩ (.int .i64 ((rd_T82 l0_2 a1).f1))).setCell ⟨gb269,2,none⟩ (.bool ((rd_T82 l0_2 a1).f2))).setCell ⟨gb269,3,none⟩ (.slice A268_3 ((rd_T82 l0_2 a1).f3.f0).length c268_3)).setCell ⟨gb269,4,none⟩ (.slice A268_4 ((rd_T82 l0_2 a1).f3.f1).length c268_4)).setCell ⟨gb269,5,none⟩ (.int .i64 ((rd_T82 l0_2 a1).f3.f2))).setCell ⟨gb269,6,none⟩ (.int .i64 ((rd_T82 l0_2 a1).f4))).setCell ⟨gb269,7,none⟩ (.slice A268_7 ((rd_T82 l0_2 a1).f5).length c268_7)).heap[gb269]?=some (.cells #[.string ((rd_T82 l0_2 a1).f0),.int .i64 ((rd_T82 l0_2 a1).f1),.bool ((rd_T82 l0_2 a1).f2),.slice A268_3 ((rd_T82 l0_2 a1).f3.f0).length c268_3,.slice A268_4 ((rd_T82 l0_2 a1).f3.f1).length c268_4,.int .i64 ((rd_T82 l0_2 a1).f3.f2),.int .i64 ((rd_T82 l0_2 a1).f4),.slice A268_7 ((rd_T82 l0_2 a1).f5).length c268_7] 82 (0,0))):=⟨(zz169 BK269)⟩;have n2_:Aside0 (Below w.heap.size w ((((((((w8.setCell ⟨gb269,0,none⟩ (.string ((rd_T82 l0_2 a1).f0))).setCell ⟨gb269,1,none⟩ (.int .i64 ((rd_T82 l0_2 a1).f1))).setCell ⟨gb269,2,none⟩ (.bool ((rd_T82 l0_2 a1).f2))).setCell ⟨gb269,3,none⟩ (.slice A268_3 ((rd_T82 l0_2 a1).f3.f0).length c268_3)).setCell ⟨gb269,4,none⟩ (.slice A268_4 ((rd_T82 l0_2 a1).f3.f1).length c268_4)).setCell ⟨gb269,5,none⟩ (.int .i64 ((rd_T82 l0_2 a1).f3.f2))).setCell ⟨gb269,6,none⟩ (.int .i64 ((rd_T82 l0_2 a1).f4))).setCell ⟨gb269,7,none⟩ (.slice A268_7 ((rd_T82 l0_2 a1).f5).length c268_7))):=⟨(zz3 HB GE267 GE269)⟩;(try clear BK267)
        (try clear BK269)
        (try clear HB)
        generalize ((((((((w8.setCell ⟨gb269,0,none⟩ (.string ((rd_T82 l0_2 a1).f0))).setCell ⟨gb269,1,none⟩ (.int .i64 ((rd_T82 l0_2 a1).f1))).setCell ⟨gb269,2,none⟩ (.bool ((rd_T82 l0_2 a1).f2))).setCell ⟨gb269,3,none⟩ (.slice A268_3 ((rd_T82 l0_2 a1).f3.f0).length c268_3)).setCell ⟨gb269,4,none⟩ (.slice A268_4 ((rd_T82 l0_2 a1).f3.f1).length c268_4)).setCell ⟨gb269,5,none⟩ (.int .i64 ((rd_T82 l0_2 a1).f3.f2))).setCell ⟨gb269,6,none⟩ (.int .i64 ((rd_T82 l0_2 a1).f4))).setCell ⟨gb269,7,none⟩ (.slice A268_7 ((rd_T82 l0_2 a1).f5).length c268_7))=w33 at n0_ n1_ n2_ ⊢;have BK267:=n0_;have BK269:=n1_;have HB:=n2_;clear n0_ n1_ n2_;replace BK267:=A_ (blk_drew BK267.out);replace BK269:=A_ (blk_drew BK269.out);replace HB:=A_ (below_drew1 HB.out);refine start_ (n:=55) (S:=fun w'=>w'.cell? ⟨gb269,0,none⟩=some (.string ((rd_T82 l0_2 a1).f0))∧w'.cell? ⟨gb269,1,none⟩=some (.int .i64 ((rd_T82 l0_2 a1).f1))∧w'.cell? ⟨gb269,2,none⟩=some (.bool ((rd_T82 l0_2 a1).f2))∧w'.cell? ⟨gb269,3,none⟩=some (.slice A268_3 ((rd_T82 l0_2 a1).f3.f0).length c268_3)∧w'.cell? ⟨gb269,4,none⟩=some (.slice A268_4 ((rd_T82 l0_2 a1).f3.f1).length c268_4)∧w'.cell? ⟨gb269,5,none⟩=some (.int .i64 ((rd_T82 l0_2 a1).f3.f2))∧w'.cell? ⟨gb269,6,none⟩=some (.int .i64 ((rd_T82 l0_2 a1).f4))∧w'.cell? ⟨gb269,7,none⟩=some (.slice A268_7 ((rd_T82 l0_2 a1).f5).length c268_7)∧w'.cell? ⟨gb267,0,none⟩=some (.string a0_0)∧w'.cell? ⟨gb267,1,none⟩=some (.int .i64 a0_1)∧w'.cell? ⟨gb267,2,none⟩=some (.slice (some ad268) l0_2.length c0_2)∧w'.cell? ⟨gb267,3,none⟩=some (.slice A0_3 l0_3.length c0_3)∧w'.cell? ⟨gb267,4,none⟩=some (.slice A0_4 l0_4.length c0_4)) (ds:=[]) #[yF,yF,yF,yF,yF,yF,yF,yF,yF,yF,yF,yF,yF,yF,yF,yF,yF,yF,yF,yF,yF,yF,yF,yF,yF,yF,yF,yF,yF,yF,yF,yF,yF,yF,yF,yF,yF,yF,yF,yF,yF,yF,yF,yF,yF,yF,yF,yF,yF,yF,yF,yF,yF,yF,yF] (by kernel_rfl) rfl rfl ⟨(blk_cell BK269.out 0).trans rfl,(blk_cell BK269.out 1).trans rfl,(blk_cell BK269.out 2).trans rfl,(blk_cell BK269.out 3).trans rfl,(blk_cell BK269.out 4).trans rfl,(blk_cell BK269.out 5).trans rfl,(blk_cell BK269.out 6).trans rfl,(blk_cell BK269.out 7).trans rfl,(blk_cell BK267.out 0).trans rfl,(blk_cell BK267.out 1).trans rfl,(blk_cell BK267.out 2).trans rfl,(blk_cell BK267.out 3).trans rfl,(blk_cell BK267.out 4).trans rfl⟩ (fun hHeld=>?_);refine with_tabW spec_l12HouseOk.tab2 spec_l12HouseOk.bits2 (fun HT_ HW_=>?_);generalize w33.drew=w34 at BK267 BK269 HB hHeld ⊢;refine pureZ 0 (some 12) (yA 1 54) ?_;refine takeZ13 1 (some 13) (yA 2 53) hHeld ?_;refine oneZ 2 (some 14) (yA 3 52) (fun K hK=>?_);refine goes_ Tryz.func66 (by kernel_rfl) rfl #[.string ((rd_T82 l0_2 a1).f0)] (by rfl) rfl rfl zz39 ?_;with_reducible refine (spec_l1House.calls k ((rd_T82 l0_2 a1).f0) true _ A11.out).mono ?_
        rintro e w' ⟨rfl,⟨nd,rfl⟩⟩;refine ⟨_,rfl,?_⟩;refine hK.out _ _ ⟨(blk_cell BK269.out 0).trans rfl,(blk_cell BK269.out 1).trans rfl,(blk_cell BK269.out 2).trans rfl,(blk_cell BK269.out 3).trans rfl,(blk_cell BK269.out 4).trans rfl,(blk_cell BK269.out 5).trans rfl,(blk_cell BK269.out 6).trans rfl,(blk_cell BK269.out 7).trans rfl,(blk_cell BK267.out 0).trans rfl,(blk_cell BK267.out 1).trans rfl,(blk_cell BK267.out 2).trans rfl,(blk_cell BK267.out 3).trans rfl,(blk_cell BK267.out 4).trans rfl⟩ (fun hHeld=>?_);clear hK K;refine nZ 14 ?_;refine pureZ 3 (some 15) (yA 4 51) ?_;refine pureZ 4 (some 16) (yA 5 50) ?_;refine pureZ 6 (some 18) #[yT,yT,yT,yT,yT,yF,yT,yF,yF,yF,yF,yF,yF,yF,yF,yF,yF,yF,yF,yF,yF,yF,yF,yF,yF,yF,yF,yF,yF,yF,yF,yF,yF,yF,yF,yF,yF,yF,yF,yF,yF,yF,yF,yF,yF,yF,yF,yF,yF,yF,yF,yF,yF,yF,yF] ?_;refine pureZ 9 (some 21) #[yT,yT,yT,yT,yT,yF,yT,yF,yF,yT,yF,yF,yF,yF,yF,yF,yF,yF,yF,yF,yF,yF,yF,yF,yF,yF,yF,yF,yF,yF,yF,yF,yF,yF,yF,yF,yF,yF,yF,yF,yF,yF,yF,yF,yF,yF,yF,yF,yF,yF,yF,yF,yF,yF,yF] ?_;refine takeZ13 5 (some 17) #[yT,yT,yT,yT,yT,yT,yT,yF,yF,yT,yF,yF,yF,yF,yF,yF,yF,yF,yF,yF,yF,yF,yF,yF,yF,yF,yF,yF,yF,yF,yF,yF,yF,yF,yF,yF,yF,yF,yF,yF,yF,yF,yF,yF,yF,yF,yF,yF,yF,yF,yF,yF,yF,yF,yF] hHeld ?_;refine takeZ13 7 (some 19) #[yT,yT,yT,yT,yT,yT,yT,yT,yF,yT,yF,yF,yF,yF,yF,yF,yF,yF,yF,yF,yF,yF,yF,yF,yF,yF,yF,yF,yF,yF,yF,yF,yF,yF,yF,yF,yF,yF,yF,yF,yF,yF,yF,yF,yF,yF,yF,yF,yF,yF,yF,yF,yF,yF,yF] hHeld ?_;refine oneZ 8 (some 20) (yA 10 45) (fun K hK=>?_);refine goes_ Tryz.func67 (by kernel_rfl) rfl #[.agg #[.string a0_0,.int .i64 a0_1,.slice (some ad268) l0_2.length c0_2,.slice A0_3 l0_3.length c0_3,.slice A0_4 l0_4.length c0_4],.string ((rd_T82 l0_2 a1).f0)] (by rfl) rfl rfl zz39 ?_;with_reducible refine (spec_l12House.calls k a0_0 a0_1 _ _ l0_2 _ _ l0_3 _ _ l0_4 ((rd_T82 l0_2 a1).f0) t271 _ ?side1 ?side2 ?side3 ?side4 ?side5 ?side6 A13.out).mono ?_
        (case side1=>exact (zz170 HR0_2))
        (case side2=>exact HC0_2.out)
        (case side3=>exact (zz170 HR0_3))
        (case side4=>exact HC0_3.out)
        (case side5=>exact (zz170 HR0_4))
        (case side6=>exact HC0_4.out)
        rintro e w35 ⟨rfl,hb⟩;refine ⟨_,rfl,?_⟩;replace BK267:=A_ (bB (zz2 BK267) hb);replace BK269:=A_ (bB (zz2 BK269) hb);replace HB:=A_ (bS (zz3 HB GE267 GE269) hb);(try clear hb)
        (try clear hb2)
        (try clear hk)
        (try clear hi)
        refine hK.out _ _ ⟨(blk_cell BK269.out 0).trans rfl,(blk_cell BK269.out 1).trans rfl,(blk_cell BK269.out 2).trans rfl,(blk_cell BK269.out 3).trans rfl,(blk_cell BK269.out 4).trans rfl,(blk_cell BK269.out 5).trans rfl,(blk_cell BK269.out 6).trans rfl,(blk_cell BK269.out 7).trans rfl,(blk_cell BK267.out 0).trans rfl,(blk_cell BK267.out 1).trans rfl,(blk_cell BK267.out 2).trans rfl,(blk_cell BK267.out 3).trans rfl,(blk_cell BK267.out 4).trans rfl⟩ (fun hHeld=>?_);clear hK K;refine nZ 20 ?_;refine pureZ 10 (some 22) (yA 11 44) ?_;refine pureZ 11 (some 23) (yA 12 43) ?_;refine pureZ 12 (some 24) (yA 13 42) ?_;refine pureZ 13 (some 25) (yA 14 41) ?_;refine takeZ13 14 (some 26) (yA 15 40) hHeld ?_;refine oneZ 15 (some 27) (yA 16 39) (fun K hK=>?_);refine goes_ Tryz.func40 (by kernel_rfl) rfl #[.int .i64 ((rd_T82 l0_2 a1).f1),.int .i64 0,.int .i64 5100] (by rfl) rfl rfl zz39 ?_;with_reducible refine (spec_l6In.calls ((rd_T82 l0_2 a1).f1) 0 5100 true _ A15.out).mono ?_
        rintro e w' ⟨rfl,⟨nd,rfl⟩⟩;refine ⟨_,rfl,?_⟩;refine hK.out _ _ ⟨(blk_cell BK269.out 0).trans rfl,(blk_cell BK269.out 1).trans rfl,(blk_cell BK269.out 2).trans rfl,(blk_cell BK269.out 3).trans rfl,(blk_cell BK269.out 4).trans rfl,(blk_cell BK269.out 5).trans rfl,(blk_cell BK269.out 6).trans rfl,(blk_cell BK269.out 7).trans rfl,(blk_cell BK267.out 0).trans rfl,(blk_cell BK267.out 1).trans rfl,(blk_cell BK267.out 2).trans rfl,(blk_cell BK267.out 3).trans rfl,(blk_cell BK267.out 4).trans rfl⟩ (fun hHeld=>?_);clear hK K;refine nZ 27 ?_;refine pureZ 16 (some 28) (yA 17 38) ?_;refine pureZ 17 (some 29) (yA 18 37) ?_;refine pureZ 18 (some 30) (yA 19 36) ?_;refine pureZ 19 (some 31) (yA 20 35) ?_;refine takeZ13 20 (some 32) (yA 21 34) hHeld ?_;refine oneZ 21 (some 33) (yA 22 33) (fun K hK=>?_);refine goes_ Tryz.func40 (by kernel_rfl) rfl #[.int .i64 ((rd_T82 l0_2 a1).f4),.int .i64 0,.int .i64 2] (by rfl) rfl rfl zz39 ?_;with_reducible refine (spec_l6In.calls ((rd_T82 l0_2 a1).f4) 0 2 true _ A17.out).mono ?_
        rintro e w' ⟨rfl,⟨nd,rfl⟩⟩;refine ⟨_,rfl,?_⟩;refine hK.out _ _ ⟨(blk_cell BK269.out 0).trans rfl,(blk_cell BK269.out 1).trans rfl,(blk_cell BK269.out 2).trans rfl,(blk_cell BK269.out 3).trans rfl,(blk_cell BK269.out 4).trans rfl,(blk_cell BK269.out 5).trans rfl,(blk_cell BK269.out 6).trans rfl,(blk_cell BK269.out 7).trans rfl,(blk_cell BK267.out 0).trans rfl,(blk_cell BK267.out 1).trans rfl,(blk_cell BK267.out 2).trans rfl,(blk_cell BK267.out 3).trans rfl,(blk_cell BK267.out 4).trans rfl⟩ (fun hHeld=>?_);clear hK K;refine nZ 33 ?_;refine pureZ 22 (some 34) (yA 23 32) ?_;refine pureZ 23 (some 35) (yA 24 31) ?_;refine pureZ 24 (some 36) (yA 25 30) ?_;refine pureZ 25 (some 37) (yA 26 29) ?_;refine pureZ 26 (some 38) (yA 27 28) ?_;refine takeZ13 27 (some 39) (yA 28 27) hHeld ?_;refine pureZ 28 (some 40) (yA 29 26) ?_;refine pureZ 29 (some 41) (yA 30 25) ?_;refine pureZ 30 (some 42) (yA 31 24) ?_;refine pureZ 31 (some 43) (yA 32 23) ?_;refine pure_ (i:=32) (N:=some 44) (v:=undef) (a':=?_) (yA 33 22) rfl rfl (any_of HT_.out (by kernel_rfl)) (fun _ _ _ h=>h) (Or.inr ⟨by rfl,rfl⟩) ?_ ?_;rotate_left
        ·simp only [Act.put,List.setIfInBounds_toArray,List.set_cons_zero,List.set_cons_succ,i64_w,i32_w]
         rfl
        refine pure_ (i:=33) (N:=some 45) (v:=undef) (a':=?_) (yA 34 21) rfl rfl (any_of HT_.out (by kernel_rfl)) (fun _ _ _ h=>h) (Or.inr ⟨by rfl,rfl⟩) ?_ ?_;rotate_left
        ·simp only [Act.put,List.setIfInBounds_toArray,List.set_cons_zero,List.set_cons_succ,i64_w,i32_w]
         rfl
        refine pure_ (i:=34) (N:=some 46) (v:=undef) (a':=?_) (yA 35 20) rfl rfl (any_of HT_.out (by kernel_rfl)) (fun _ _ _ h=>h) (Or.inr ⟨by rfl,rfl⟩) ?_ ?_;rotate_left
        ·simp only [Act.put,List.setIfInBounds_toArray,List.set_cons_zero,List.set_cons_succ,i64_w,i32_w]
         rfl
        refine pure_ (i:=35) (N:=some 47) (v:=undef) (a':=?_) (yA 36 19) rfl rfl (any_of HT_.out (by kernel_rfl)) (fun _ _ _ h=>h) (Or.inr ⟨by rfl,rfl⟩) ?_ ?_;rotate_left
        ·simp only [Act.put,List.setIfInBounds_toArray,List.set_cons_zero,List.set_cons_succ,i64_w,i32_w]
         rfl
        refine pure_ (i:=36) (N:=some 48) (v:=undef) (a':=?_) (yA 37 18) rfl rfl (any_of HT_.out (by kernel_rfl)) (fun _ _ _ h=>h) (Or.inr ⟨by rfl,rfl⟩) ?_ ?_;rotate_left
        ·simp only [Act.put,List.setIfInBounds_toArray,List.set_cons_zero,List.set_cons_succ,i64_w,i32_w]
         rfl
        refine pure_ (i:=37) (N:=some 49) (v:=undef) (a':=?_) (yA 38 17) rfl rfl (any_of HT_.out (by kernel_rfl)) (fun _ _ _ h=>h) (Or.inr ⟨by rfl,rfl⟩) ?_ ?_;rotate_left
        ·simp only [Act.put,List.setIfInBounds_toArray,List.set_cons_zero,List.set_cons_succ,i64_w,i32_w]
         rfl
        refine pure_ (i:=38) (N:=some 50) (v:=undef) (a':=?_) (yA 39 16) rfl rfl (any_of HT_.out (by kernel_rfl)) (fun _ _ _ h=>h) (Or.inr ⟨by rfl,rfl⟩) ?_ ?_;rotate_left
        ·simp only [Act.put,List.setIfInBounds_toArray,List.set_cons_zero,List.set_cons_succ,i64_w,i32_w]
         rfl
        refine pure_ (i:=39) (N:=some 51) (v:=undef) (a':=?_) (yA 40 15) rfl rfl (any_of HT_.out (by kernel_rfl)) (fun _ _ _ h=>h) (Or.inr ⟨by rfl,rfl⟩) ?_ ?_;rotate_left
        ·simp only [Act.put,List.setIfInBounds_toArray,List.set_cons_zero,List.set_cons_succ,i64_w,i32_w]
         rfl
        refine pureZ 40 (some 52) (yA 41 14) ?_;refine pureZ 41 (some 53) (yA 42 13) ?_;refine pure_ (i:=42) (N:=some 54) (v:=undef) (a':=?_) (yA 43 12) rfl rfl (any_of HT_.out (by kernel_rfl)) (fun _ _ _ h=>h) (Or.inr ⟨by rfl,rfl⟩) ?_ ?_;rotate_left
        ·simp only [Act.put,List.setIfInBounds_toArray,List.set_cons_zero,List.set_cons_succ,i64_w,i32_w]
         rfl
        refine pure_ (i:=43) (N:=some 55) (v:=undef) (a':=?_) (yA 44 11) rfl rfl (any_of HT_.out (by kernel_rfl)) (fun _ _ _ h=>h) (Or.inr ⟨by rfl,rfl⟩) ?_ ?_;rotate_left
        ·simp only [Act.put,List.setIfInBounds_toArray,List.set_cons_zero,List.set_cons_succ,i64_w,i32_w]
         rfl
        refine pure_ (i:=44) (N:=some 56) (v:=undef) (a':=?_) (yA 45 10) rfl rfl (any_of HT_.out (by kernel_rfl)) (fun _ _ _ h=>h) (Or.inr ⟨by rfl,rfl⟩) ?_ ?_;rotate_left
        ·simp only [Act.put,List.setIfInBounds_toArray,List.set_cons_zero,List.set_cons_succ,i64_w,i32_w]
         rfl
        refine pure_ (i:=45) (N:=some 57) (v:=undef) (a':=?_) (yA 46 9) rfl rfl (any_of HT_.out (by kernel_rfl)) (fun _ _ _ h=>h) (Or.inr ⟨by rfl,rfl⟩) ?_ ?_;rotate_left
        ·simp only [Act.put,List.setIfInBounds_toArray,List.set_cons_zero,List.set_cons_succ,i64_w,i32_w]
         rfl
        refine pure_ (i:=46) (N:=some 58) (v:=undef) (a':=?_) (yA 47 8) rfl rfl (any_of HT_.out (by kernel_rfl)) (fun _ _ _ h=>h) (Or.inr ⟨by rfl,rfl⟩) ?_ ?_;rotate_left
        ·simp only [Act.put,List.setIfInBounds_toArray,List.set_cons_zero,List.set_cons_succ,i64_w,i32_w]
         rfl
        refine pureZ 47 (some 59) (yA 48 7) ?_;refine pureZ 48 (some 60) (yA 49 6) ?_;refine pure_ (i:=49) (N:=some 61) (v:=undef) (a':=?_) (yA 50 5) rfl rfl (any_of HT_.out (by kernel_rfl)) (fun _ _ _ h=>h) (Or.inr ⟨by rfl,rfl⟩) ?_ ?_;rotate_left
        ·simp only [Act.put,List.setIfInBounds_toArray,List.set_cons_zero,List.set_cons_succ,i64_w,i32_w]
         rfl
        refine pure_ (i:=50) (N:=some 62) (v:=undef) (a':=?_) (yA 51 4) rfl rfl (any_of HT_.out (by kernel_rfl)) (fun _ _ _ h=>h) (Or.inr ⟨by rfl,rfl⟩) ?_ ?_;rotate_left
        ·simp only [Act.put,List.setIfInBounds_toArray,List.set_cons_zero,List.set_cons_succ,i64_w,i32_w]
         rfl
        refine pure_ (i:=51) (N:=some 63) (v:=undef) (a':=?_) (yA 52 3) rfl rfl (any_of HT_.out (by kernel_rfl)) (fun _ _ _ h=>h) (Or.inr ⟨by rfl,rfl⟩) ?_ ?_;rotate_left
        ·simp only [Act.put,List.setIfInBounds_toArray,List.set_cons_zero,List.set_cons_succ,i64_w,i32_w]
         rfl
        refine pure_ (i:=52) (N:=some 64) (v:=undef) (a':=?_) (yA 53 2) rfl rfl (any_of HT_.out (by kernel_rfl)) (fun _ _ _ h=>h) (Or.inr ⟨by rfl,rfl⟩) ?_ ?_;rotate_left
        ·simp only [Act.put,List.setIfInBounds_toArray,List.set_cons_zero,List.set_cons_succ,i64_w,i32_w]
         rfl
        refine pure_ (i:=53) (N:=some 65) (v:=undef) (a':=?_) (yA 54 1) rfl rfl (any_of HT_.out (by kernel_rfl)) (fun _ _ _ h=>h) (Or.inr ⟨by rfl,rfl⟩) ?_ ?_;rotate_left
        ·simp only [Act.put,List.setIfInBounds_toArray,List.set_cons_zero,List.set_cons_succ,i64_w,i32_w]
         rfl
        refine pureZ 54 (some 66) (yA 55 0) ?_;refine done_ (done_of HT_.out (by kernel_rfl)) ?_;try go_wp2
        go_meet
        case rel=>exact ⟨_,(true),zz7,H',⟨zz62⟩,⟨(zz2 BK267)⟩,⟨(zz2 BK269)⟩,⟨(zz3 HB GE267 GE269)⟩⟩
      ·have H':=A_ H
       clear H;try go_wp2
       have n0_:Aside0 (((((((((w8.setCell ⟨gb269,0,none⟩ (.string ((rd_T82 l0_2 a1).f0))).setCell ⟨gb269,1,none⟩ (.int .i64 ((rd_T82 l0_2 a1).f1))).setCell ⟨gb269,2,none⟩ (.bool ((rd_T82 l0_2 a1).f2))).setCell ⟨gb269,3,none⟩ (.slice A268_3 ((rd_T82 l0_2 a1).f3.f0).length c268_3)).setCell ⟨gb269,4,none⟩ (.slice A268_4 ((rd_T82 l0_2 a1).f3.f1).length c268_4)).setCell ⟨gb269,5,none⟩ (.int .i64 ((rd_T82 l0_2 a1).f3.f2))).setCell ⟨gb269,6,none⟩ (.int .i64 ((rd_T82 l0_2 a1).f4))).setCell ⟨gb269,7,none⟩ (.slice A268_7 ((rd_T82 l0_2 a1).f5).length c268_7)).heap[gb267]?=some (.cells #[.string a0_0,.int .i64 a0_1,.slice (some ad268) l0_2.length c0_2,.slice A0_3 l0_3.length c0_3,.slice A0_4 l0_4.length c0_4] 33 (0,0))):=⟨(zz4 BK267 NB267_269)⟩;have n1_:Aside0 (((((((((w8.setCell ⟨gb269,0,none⟩ (.string ((rd_T82 l0_2 a1).f0))).setCell ⟨gb269,1,none⟩ (.int .i64 ((rd_T82 l0_2 a1).f1))).setCell ⟨gb269,2,none⟩ (.bool ((rd_T82 l0_2 a1).f2))).setCell ⟨gb269,3,none⟩ (.slice A268_3 ((rd_T82 l0_2 a1).f3.f0).length c268_3)).setCell ⟨gb269,4,none⟩ (.slice A268_4 ((rd_T82 l0_2 a1).f3.f1).length c268_4)).setCell ⟨gb269,5,none⟩ (.int .i64 ((rd_T82 l0_2 a1).f3.f2))).setCell ⟨gb269,6,none⟩ (.int .i64 ((rd_T82 l0_2 a1).f4))).setCell ⟨gb269,7,none⟩ (.slice A268_7 ((rd_T82 l0_2 a1).f5).length c268_7)).heap[gb269]?=some (.cells #[.string ((rd_T82 l0_2 a1).f0),.int .i64 ((rd_T82 l0_2 a1).f1),.bool ((rd_T82 l0_2 a1).f2),.slice A268_3 ((rd_T82 l0_2 a1).f3.f0).length c268_3,.slice A268_4 ((rd_T82 l0_2 a1).f3.f1).length c268_4,.int .i64 ((rd_T82 l0_2 a1).f3.f2),.int .i64 ((rd_T82 l0_2 a1).f4),.slice A268_7 ((rd_T82 l0_2 a1).f5).length c268_7] 82 (0,0))):=⟨(zz169 BK269)⟩;have n2_:Aside0 (Below w.heap.size w ((((((((w8.setCell ⟨gb269,0,none⟩ (.string ((rd_T82 l0_2 a1).f0))).setCell ⟨gb269,1,none⟩ (.int .i64 ((rd_T82 l0_2 a1).f1))).setCell ⟨gb269,2,none⟩ (.bool ((rd_T82 l0_2 a1).f2))).setCell ⟨gb269,3,none⟩ (.slice A268_3 ((rd_T82 l0_2 a1).f3.f0).length c268_3)).setCell ⟨gb269,4,none⟩ (.slice A268_4 ((rd_T82 l0_2 a1).f3.f1).length c268_4)).setCell ⟨gb269,5,none⟩ (.int .i64 ((rd_T82 l0_2 a1).f3.f2))).setCell ⟨gb269,6,none⟩ (.int .i64 ((rd_T82 l0_2 a1).f4))).setCell ⟨gb269,7,none⟩ (.slice A268_7 ((rd_T82 l0_2 a1).f5).length c268_7))):=⟨(zz3 HB GE267 GE269)⟩;(try clear BK267)
       (try clear BK269)
       (try clear HB)
       generalize ((((((((w8.setCell ⟨gb269,0,none⟩ (.string ((rd_T82 l0_2 a1).f0))).setCell ⟨gb269,1,none⟩ (.int .i64 ((rd_T82 l0_2 a1).f1))).setCell ⟨gb269,2,none⟩ (.bool ((rd_T82 l0_2 a1).f2))).setCell ⟨gb269,3,none⟩ (.slice A268_3 ((rd_T82 l0_2 a1).f3.f0).length c268_3)).setCell ⟨gb269,4,none⟩ (.slice A268_4 ((rd_T82 l0_2 a1).f3.f1).length c268_4)).setCell ⟨gb269,5,none⟩ (.int .i64 ((rd_T82 l0_2 a1).f3.f2))).setCell ⟨gb269,6,none⟩ (.int .i64 ((rd_T82 l0_2 a1).f4))).setCell ⟨gb269,7,none⟩ (.slice A268_7 ((rd_T82 l0_2 a1).f5).length c268_7))=w36 at n0_ n1_ n2_ ⊢;have BK267:=n0_;have BK269:=n1_;have HB:=n2_;clear n0_ n1_ n2_;replace BK267:=A_ (blk_drew BK267.out);replace BK269:=A_ (blk_drew BK269.out);replace HB:=A_ (below_drew1 HB.out);refine start_ (n:=55) (S:=fun w'=>w'.cell? ⟨gb269,0,none⟩=some (.string ((rd_T82 l0_2 a1).f0))∧w'.cell? ⟨gb269,1,none⟩=some (.int .i64 ((rd_T82 l0_2 a1).f1))∧w'.cell? ⟨gb269,2,none⟩=some (.bool ((rd_T82 l0_2 a1).f2))∧w'.cell? ⟨gb269,3,none⟩=some (.slice A268_3 ((rd_T82 l0_2 a1).f3.f0).length c268_3)∧w'.cell? ⟨gb269,4,none⟩=some (.slice A268_4 ((rd_T82 l0_2 a1).f3.f1).length c268_4)∧w'.cell? ⟨gb269,5,none⟩=some (.int .i64 ((rd_T82 l0_2 a1).f3.f2))∧w'.cell? ⟨gb269,6,none⟩=some (.int .i64 ((rd_T82 l0_2 a1).f4))∧w'.cell? ⟨gb269,7,none⟩=some (.slice A268_7 ((rd_T82 l0_2 a1).f5).length c268_7)∧w'.cell? ⟨gb267,0,none⟩=some (.string a0_0)∧w'.cell? ⟨gb267,1,none⟩=some (.int .i64 a0_1)∧w'.cell? ⟨gb267,2,none⟩=some (.slice (some ad268) l0_2.length c0_2)∧w'.cell? ⟨gb267,3,none⟩=some (.slice A0_3 l0_3.length c0_3)∧w'.cell? ⟨gb267,4,none⟩=some (.slice A0_4 l0_4.length c0_4)) (ds:=[]) #[yF,yF,yF,yF,yF,yF,yF,yF,yF,yF,yF,yF,yF,yF,yF,yF,yF,yF,yF,yF,yF,yF,yF,yF,yF,yF,yF,yF,yF,yF,yF,yF,yF,yF,yF,yF,yF,yF,yF,yF,yF,yF,yF,yF,yF,yF,yF,yF,yF,yF,yF,yF,yF,yF,yF] (by kernel_rfl) rfl rfl ⟨(blk_cell BK269.out 0).trans rfl,(blk_cell BK269.out 1).trans rfl,(blk_cell BK269.out 2).trans rfl,(blk_cell BK269.out 3).trans rfl,(blk_cell BK269.out 4).trans rfl,(blk_cell BK269.out 5).trans rfl,(blk_cell BK269.out 6).trans rfl,(blk_cell BK269.out 7).trans rfl,(blk_cell BK267.out 0).trans rfl,(blk_cell BK267.out 1).trans rfl,(blk_cell BK267.out 2).trans rfl,(blk_cell BK267.out 3).trans rfl,(blk_cell BK267.out 4).trans rfl⟩ (fun hHeld=>?_);refine with_tabW spec_l12HouseOk.tab2 spec_l12HouseOk.bits2 (fun HT_ HW_=>?_);generalize w36.drew=w37 at BK267 BK269 HB hHeld ⊢;refine pureZ 0 (some 12) (yA 1 54) ?_;refine takeZ13 1 (some 13) (yA 2 53) hHeld ?_;refine oneZ 2 (some 14) (yA 3 52) (fun K hK=>?_);refine goes_ Tryz.func66 (by kernel_rfl) rfl #[.string ((rd_T82 l0_2 a1).f0)] (by rfl) rfl rfl zz39 ?_;with_reducible refine (spec_l1House.calls k ((rd_T82 l0_2 a1).f0) true _ A11.out).mono ?_
       rintro e w' ⟨rfl,⟨nd,rfl⟩⟩;refine ⟨_,rfl,?_⟩;refine hK.out _ _ ⟨(blk_cell BK269.out 0).trans rfl,(blk_cell BK269.out 1).trans rfl,(blk_cell BK269.out 2).trans rfl,(blk_cell BK269.out 3).trans rfl,(blk_cell BK269.out 4).trans rfl,(blk_cell BK269.out 5).trans rfl,(blk_cell BK269.out 6).trans rfl,(blk_cell BK269.out 7).trans rfl,(blk_cell BK267.out 0).trans rfl,(blk_cell BK267.out 1).trans rfl,(blk_cell BK267.out 2).trans rfl,(blk_cell BK267.out 3).trans rfl,(blk_cell BK267.out 4).trans rfl⟩ (fun hHeld=>?_);clear hK K;refine nZ 14 ?_;refine pureZ 3 (some 15) (yA 4 51) ?_;refine pureZ 4 (some 16) (yA 5 50) ?_;refine pureZ 6 (some 18) #[yT,yT,yT,yT,yT,yF,yT,yF,yF,yF,yF,yF,yF,yF,yF,yF,yF,yF,yF,yF,yF,yF,yF,yF,yF,yF,yF,yF,yF,yF,yF,yF,yF,yF,yF,yF,yF,yF,yF,yF,yF,yF,yF,yF,yF,yF,yF,yF,yF,yF,yF,yF,yF,yF,yF] ?_;refine pureZ 9 (some 21) #[yT,yT,yT,yT,yT,yF,yT,yF,yF,yT,yF,yF,yF,yF,yF,yF,yF,yF,yF,yF,yF,yF,yF,yF,yF,yF,yF,yF,yF,yF,yF,yF,yF,yF,yF,yF,yF,yF,yF,yF,yF,yF,yF,yF,yF,yF,yF,yF,yF,yF,yF,yF,yF,yF,yF] ?_;refine takeZ13 5 (some 17) #[yT,yT,yT,yT,yT,yT,yT,yF,yF,yT,yF,yF,yF,yF,yF,yF,yF,yF,yF,yF,yF,yF,yF,yF,yF,yF,yF,yF,yF,yF,yF,yF,yF,yF,yF,yF,yF,yF,yF,yF,yF,yF,yF,yF,yF,yF,yF,yF,yF,yF,yF,yF,yF,yF,yF] hHeld ?_;refine takeZ13 7 (some 19) #[yT,yT,yT,yT,yT,yT,yT,yT,yF,yT,yF,yF,yF,yF,yF,yF,yF,yF,yF,yF,yF,yF,yF,yF,yF,yF,yF,yF,yF,yF,yF,yF,yF,yF,yF,yF,yF,yF,yF,yF,yF,yF,yF,yF,yF,yF,yF,yF,yF,yF,yF,yF,yF,yF,yF] hHeld ?_;refine oneZ 8 (some 20) (yA 10 45) (fun K hK=>?_);refine goes_ Tryz.func67 (by kernel_rfl) rfl #[.agg #[.string a0_0,.int .i64 a0_1,.slice (some ad268) l0_2.length c0_2,.slice A0_3 l0_3.length c0_3,.slice A0_4 l0_4.length c0_4],.string ((rd_T82 l0_2 a1).f0)] (by rfl) rfl rfl zz39 ?_;with_reducible refine (spec_l12House.calls k a0_0 a0_1 _ _ l0_2 _ _ l0_3 _ _ l0_4 ((rd_T82 l0_2 a1).f0) t271 _ ?side1 ?side2 ?side3 ?side4 ?side5 ?side6 A13.out).mono ?_
       (case side1=>exact (zz170 HR0_2))
       (case side2=>exact HC0_2.out)
       (case side3=>exact (zz170 HR0_3))
       (case side4=>exact HC0_3.out)
       (case side5=>exact (zz170 HR0_4))
       (case side6=>exact HC0_4.out)
       rintro e w38 ⟨rfl,hb⟩;refine ⟨_,rfl,?_⟩;replace BK267:=A_ (bB (zz2 BK267) hb);replace BK269:=A_ (bB (zz2 BK269) hb);replace HB:=A_ (bS (zz3 HB GE267 GE269) hb);(try clear hb)
       (try clear hb2)
       (try clear hk)
       (try clear hi)
       refine hK.out _ _ ⟨(blk_cell BK269.out 0).trans rfl,(blk_cell BK269.out 1).trans rfl,(blk_cell BK269.out 2).trans rfl,(blk_cell BK269.out 3).trans rfl,(blk_cell BK269.out 4).trans rfl,(blk_cell BK269.out 5).trans rfl,(blk_cell BK269.out 6).trans rfl,(blk_cell BK269.out 7).trans rfl,(blk_cell BK267.out 0).trans rfl,(blk_cell BK267.out 1).trans rfl,(blk_cell BK267.out 2).trans rfl,(blk_cell BK267.out 3).trans rfl,(blk_cell BK267.out 4).trans rfl⟩ (fun hHeld=>?_);clear hK K;refine nZ 20 ?_;refine pureZ 10 (some 22) (yA 11 44) ?_;refine pureZ 11 (some 23) (yA 12 43) ?_;refine pureZ 12 (some 24) (yA 13 42) ?_;refine pureZ 13 (some 25) (yA 14 41) ?_;refine takeZ13 14 (some 26) (yA 15 40) hHeld ?_;refine oneZ 15 (some 27) (yA 16 39) (fun K hK=>?_);refine goes_ Tryz.func40 (by kernel_rfl) rfl #[.int .i64 ((rd_T82 l0_2 a1).f1),.int .i64 0,.int .i64 5100] (by rfl) rfl rfl zz39 ?_;with_reducible refine (spec_l6In.calls ((rd_T82 l0_2 a1).f1) 0 5100 true _ A15.out).mono ?_
       rintro e w' ⟨rfl,⟨nd,rfl⟩⟩;refine ⟨_,rfl,?_⟩;refine hK.out _ _ ⟨(blk_cell BK269.out 0).trans rfl,(blk_cell BK269.out 1).trans rfl,(blk_cell BK269.out 2).trans rfl,(blk_cell BK269.out 3).trans rfl,(blk_cell BK269.out 4).trans rfl,(blk_cell BK269.out 5).trans rfl,(blk_cell BK269.out 6).trans rfl,(blk_cell BK269.out 7).trans rfl,(blk_cell BK267.out 0).trans rfl,(blk_cell BK267.out 1).trans rfl,(blk_cell BK267.out 2).trans rfl,(blk_cell BK267.out 3).trans rfl,(blk_cell BK267.out 4).trans rfl⟩ (fun hHeld=>?_);clear hK K;refine nZ 27 ?_;refine pureZ 16 (some 28) (yA 17 38) ?_;refine pureZ 17 (some 29) (yA 18 37) ?_;refine pureZ 18 (some 30) (yA 19 36) ?_;refine pureZ 19 (some 31) (yA 20 35) ?_;refine takeZ13 20 (some 32) (yA 21 34) hHeld ?_;refine oneZ 21 (some 33) (yA 22 33) (fun K hK=>?_);refine goes_ Tryz.func40 (by kernel_rfl) rfl #[.int .i64 ((rd_T82 l0_2 a1).f4),.int .i64 0,.int .i64 2] (by rfl) rfl rfl zz39 ?_;with_reducible refine (spec_l6In.calls ((rd_T82 l0_2 a1).f4) 0 2 false _ A17.out).mono ?_
       rintro e w' ⟨rfl,⟨nd,rfl⟩⟩;refine ⟨_,rfl,?_⟩;refine hK.out _ _ ⟨(blk_cell BK269.out 0).trans rfl,(blk_cell BK269.out 1).trans rfl,(blk_cell BK269.out 2).trans rfl,(blk_cell BK269.out 3).trans rfl,(blk_cell BK269.out 4).trans rfl,(blk_cell BK269.out 5).trans rfl,(blk_cell BK269.out 6).trans rfl,(blk_cell BK269.out 7).trans rfl,(blk_cell BK267.out 0).trans rfl,(blk_cell BK267.out 1).trans rfl,(blk_cell BK267.out 2).trans rfl,(blk_cell BK267.out 3).trans rfl,(blk_cell BK267.out 4).trans rfl⟩ (fun hHeld=>?_);clear hK K;refine nZ 33 ?_;refine pureZ 22 (some 34) (yA 23 32) ?_;refine pureZ 23 (some 35) (yA 24 31) ?_;refine pureZ 24 (some 36) (yA 25 30) ?_;refine pure_ (i:=25) (N:=some 37) (v:=undef) (a':=?_) (yA 26 29) rfl rfl (any_of HT_.out (by kernel_rfl)) (fun _ _ _ h=>h) (Or.inr ⟨by rfl,rfl⟩) ?_ ?_;rotate_left
       ·simp only [Act.put,List.setIfInBounds_toArray,List.set_cons_zero,List.set_cons_succ,i64_w,i32_w]
        rfl
       refine pure_ (i:=26) (N:=some 38) (v:=undef) (a':=?_) (yA 27 28) rfl rfl (any_of HT_.out (by kernel_rfl)) (fun _ _ _ h=>h) (Or.inr ⟨by rfl,rfl⟩) ?_ ?_;rotate_left
       ·simp only [Act.put,List.setIfInBounds_toArray,List.set_cons_zero,List.set_cons_succ,i64_w,i32_w]
        rfl
       refine pure_ (i:=27) (N:=some 39) (v:=undef) (a':=?_) (yA 28 27) rfl rfl (any_of HT_.out (by kernel_rfl)) (fun _ _ _ h=>h) (Or.inr ⟨by rfl,rfl⟩) ?_ ?_;rotate_left
       ·simp only [Act.put,List.setIfInBounds_toArray,List.set_cons_zero,List.set_cons_succ,i64_w,i32_w]
        rfl
       refine pure_ (i:=28) (N:=some 40) (v:=undef) (a':=?_) (yA 29 26) rfl rfl (any_of HT_.out (by kernel_rfl)) (fun _ _ _ h=>h) (Or.inr ⟨by rfl,rfl⟩) ?_ ?_;rotate_left
       ·simp only [Act.put,List.setIfInBounds_toArray,List.set_cons_zero,List.set_cons_succ,i64_w,i32_w]
        rfl
       refine pure_ (i:=29) (N:=some 41) (v:=undef) (a':=?_) (yA 30 25) rfl rfl (any_of HT_.out (by kernel_rfl)) (fun _ _ _ h=>h) (Or.inr ⟨by rfl,rfl⟩) ?_ ?_;rotate_left
       ·simp only [Act.put,List.setIfInBounds_toArray,List.set_cons_zero,List.set_cons_succ,i64_w,i32_w]
        rfl
       refine pureZ 30 (some 42) (yA 31 24) ?_;refine pureZ 31 (some 43) (yA 32 23) ?_;refine pure_ (i:=32) (N:=some 44) (v:=undef) (a':=?_) (yA 33 22) rfl rfl (any_of HT_.out (by kernel_rfl)) (fun _ _ _ h=>h) (Or.inr ⟨by rfl,rfl⟩) ?_ ?_;rotate_left
       ·simp only [Act.put,List.setIfInBounds_toArray,List.set_cons_zero,List.set_cons_succ,i64_w,i32_w]
        rfl
       refine pure_ (i:=33) (N:=some 45) (v:=undef) (a':=?_) (yA 34 21) rfl rfl (any_of HT_.out (by kernel_rfl)) (fun _ _ _ h=>h) (Or.inr ⟨by rfl,rfl⟩) ?_ ?_;rotate_left
       ·simp only [Act.put,List.setIfInBounds_toArray,List.set_cons_zero,List.set_cons_succ,i64_w,i32_w]
        rfl
       refine pure_ (i:=34) (N:=some 46) (v:=undef) (a':=?_) (yA 35 20) rfl rfl (any_of HT_.out (by kernel_rfl)) (fun _ _ _ h=>h) (Or.inr ⟨by rfl,rfl⟩) ?_ ?_;rotate_left
       ·simp only [Act.put,List.setIfInBounds_toArray,List.set_cons_zero,List.set_cons_succ,i64_w,i32_w]
        rfl
       refine pure_ (i:=35) (N:=some 47) (v:=undef) (a':=?_) (yA 36 19) rfl rfl (any_of HT_.out (by kernel_rfl)) (fun _ _ _ h=>h) (Or.inr ⟨by rfl,rfl⟩) ?_ ?_;rotate_left
       ·simp only [Act.put,List.setIfInBounds_toArray,List.set_cons_zero,List.set_cons_succ,i64_w,i32_w]
        rfl
       refine pure_ (i:=36) (N:=some 48) (v:=undef) (a':=?_) (yA 37 18) rfl rfl (any_of HT_.out (by kernel_rfl)) (fun _ _ _ h=>h) (Or.inr ⟨by rfl,rfl⟩) ?_ ?_;rotate_left
       ·simp only [Act.put,List.setIfInBounds_toArray,List.set_cons_zero,List.set_cons_succ,i64_w,i32_w]
        rfl
       refine pure_ (i:=37) (N:=some 49) (v:=undef) (a':=?_) (yA 38 17) rfl rfl (any_of HT_.out (by kernel_rfl)) (fun _ _ _ h=>h) (Or.inr ⟨by rfl,rfl⟩) ?_ ?_;rotate_left
       ·simp only [Act.put,List.setIfInBounds_toArray,List.set_cons_zero,List.set_cons_succ,i64_w,i32_w]
        rfl
       refine pure_ (i:=38) (N:=some 50) (v:=undef) (a':=?_) (yA 39 16) rfl rfl (any_of HT_.out (by kernel_rfl)) (fun _ _ _ h=>h) (Or.inr ⟨by rfl,rfl⟩) ?_ ?_;rotate_left
       ·simp only [Act.put,List.setIfInBounds_toArray,List.set_cons_zero,List.set_cons_succ,i64_w,i32_w]
        rfl
       refine pure_ (i:=39) (N:=some 51) (v:=undef) (a':=?_) (yA 40 15) rfl rfl (any_of HT_.out (by kernel_rfl)) (fun _ _ _ h=>h) (Or.inr ⟨by rfl,rfl⟩) ?_ ?_;rotate_left
       ·simp only [Act.put,List.setIfInBounds_toArray,List.set_cons_zero,List.set_cons_succ,i64_w,i32_w]
        rfl
       refine pureZ 40 (some 52) (yA 41 14) ?_;refine pureZ 41 (some 53) (yA 42 13) ?_;refine pure_ (i:=42) (N:=some 54) (v:=undef) (a':=?_) (yA 43 12) rfl rfl (any_of HT_.out (by kernel_rfl)) (fun _ _ _ h=>h) (Or.inr ⟨by rfl,rfl⟩) ?_ ?_;rotate_left
       ·simp only [Act.put,List.setIfInBounds_toArray,List.set_cons_zero,List.set_cons_succ,i64_w,i32_w]
        rfl
       refine pure_ (i:=43) (N:=some 55) (v:=undef) (a':=?_) (yA 44 11) rfl rfl (any_of HT_.out (by kernel_rfl)) (fun _ _ _ h=>h) (Or.inr ⟨by rfl,rfl⟩) ?_ ?_;rotate_left
       ·simp only [Act.put,List.setIfInBounds_toArray,List.set_cons_zero,List.set_cons_succ,i64_w,i32_w]
        rfl
       refine pure_ (i:=44) (N:=some 56) (v:=undef) (a':=?_) (yA 45 10) rfl rfl (any_of HT_.out (by kernel_rfl)) (fun _ _ _ h=>h) (Or.inr ⟨by rfl,rfl⟩) ?_ ?_;rotate_left
       ·simp only [Act.put,List.setIfInBounds_toArray,List.set_cons_zero,List.set_cons_succ,i64_w,i32_w]
        rfl
       refine pure_ (i:=45) (N:=some 57) (v:=undef) (a':=?_) (yA 46 9) rfl rfl (any_of HT_.out (by kernel_rfl)) (fun _ _ _ h=>h) (Or.inr ⟨by rfl,rfl⟩) ?_ ?_;rotate_left
       ·simp only [Act.put,List.setIfInBounds_toArray,List.set_cons_zero,List.set_cons_succ,i64_w,i32_w]
        rfl
       refine pure_ (i:=46) (N:=some 58) (v:=undef) (a':=?_) (yA 47 8) rfl rfl (any_of HT_.out (by kernel_rfl)) (fun _ _ _ h=>h) (Or.inr ⟨by rfl,rfl⟩) ?_ ?_;rotate_left
       ·simp only [Act.put,List.setIfInBounds_toArray,List.set_cons_zero,List.set_cons_succ,i64_w,i32_w]
        rfl
       refine pureZ 47 (some 59) (yA 48 7) ?_;refine pureZ 48 (some 60) (yA 49 6) ?_;refine pure_ (i:=49) (N:=some 61) (v:=undef) (a':=?_) (yA 50 5) rfl rfl (any_of HT_.out (by kernel_rfl)) (fun _ _ _ h=>h) (Or.inr ⟨by rfl,rfl⟩) ?_ ?_;rotate_left
       ·simp only [Act.put,List.setIfInBounds_toArray,List.set_cons_zero,List.set_cons_succ,i64_w,i32_w]
        rfl
       refine pure_ (i:=50) (N:=some 62) (v:=undef) (a':=?_) (yA 51 4) rfl rfl (any_of HT_.out (by kernel_rfl)) (fun _ _ _ h=>h) (Or.inr ⟨by rfl,rfl⟩) ?_ ?_;rotate_left
       ·simp only [Act.put,List.setIfInBounds_toArray,List.set_cons_zero,List.set_cons_succ,i64_w,i32_w]
        rfl
       refine pure_ (i:=51) (N:=some 63) (v:=undef) (a':=?_) (yA 52 3) rfl rfl (any_of HT_.out (by kernel_rfl)) (fun _ _ _ h=>h) (Or.inr ⟨by rfl,rfl⟩) ?_ ?_;rotate_left
       ·simp only [Act.put,List.setIfInBounds_toArray,List.set_cons_zero,List.set_cons_succ,i64_w,i32_w]
        rfl
       refine pure_ (i:=52) (N:=some 64) (v:=undef) (a':=?_) (yA 53 2) rfl rfl (any_of HT_.out (by kernel_rfl)) (fun _ _ _ h=>h) (Or.inr ⟨by rfl,rfl⟩) ?_ ?_;rotate_left
       ·simp only [Act.put,List.setIfInBounds_toArray,List.set_cons_zero,List.set_cons_succ,i64_w,i32_w]
        rfl
       refine pure_ (i:=53) (N:=some 65) (v:=undef) (a':=?_) (yA 54 1) rfl rfl (any_of HT_.out (by kernel_rfl)) (fun _ _ _ h=>h) (Or.inr ⟨by rfl,rfl⟩) ?_ ?_;rotate_left
       ·simp only [Act.put,List.setIfInBounds_toArray,List.set_cons_zero,List.set_cons_succ,i64_w,i32_w]
        rfl
       refine pureZ 54 (some 66) (yA 55 0) ?_;refine done_ (done_of HT_.out (by kernel_rfl)) ?_;try go_wp2
       go_meet
       case rel=>exact ⟨_,(true),zz7,H',⟨zz62⟩,⟨(zz2 BK267)⟩,⟨(zz2 BK269)⟩,⟨(zz3 HB GE267 GE269)⟩⟩
     ·have H':=A_ H
      clear H;try go_wp2
      have n0_:Aside0 (((((((((w8.setCell ⟨gb269,0,none⟩ (.string ((rd_T82 l0_2 a1).f0))).setCell ⟨gb269,1,none⟩ (.int .i64 ((rd_T82 l0_2 a1).f1))).setCell ⟨gb269,2,none⟩ (.bool ((rd_T82 l0_2 a1).f2))).setCell ⟨gb269,3,none⟩ (.slice A268_3 ((rd_T82 l0_2 a1).f3.f0).length c268_3)).setCell ⟨gb269,4,none⟩ (.slice A268_4 ((rd_T82 l0_2 a1).f3.f1).length c268_4)).setCell ⟨gb269,5,none⟩ (.int .i64 ((rd_T82 l0_2 a1).f3.f2))).setCell ⟨gb269,6,none⟩ (.int .i64 ((rd_T82 l0_2 a1).f4))).setCell ⟨gb269,7,none⟩ (.slice A268_7 ((rd_T82 l0_2 a1).f5).length c268_7)).heap[gb267]?=some (.cells #[.string a0_0,.int .i64 a0_1,.slice (some ad268) l0_2.length c0_2,.slice A0_3 l0_3.length c0_3,.slice A0_4 l0_4.length c0_4] 33 (0,0))):=⟨(zz4 BK267 NB267_269)⟩;have n1_:Aside0 (((((((((w8.setCell ⟨gb269,0,none⟩ (.string ((rd_T82 l0_2 a1).f0))).setCell ⟨gb269,1,none⟩ (.int .i64 ((rd_T82 l0_2 a1).f1))).setCell ⟨gb269,2,none⟩ (.bool ((rd_T82 l0_2 a1).f2))).setCell ⟨gb269,3,none⟩ (.slice A268_3 ((rd_T82 l0_2 a1).f3.f0).length c268_3)).setCell ⟨gb269,4,none⟩ (.slice A268_4 ((rd_T82 l0_2 a1).f3.f1).length c268_4)).setCell ⟨gb269,5,none⟩ (.int .i64 ((rd_T82 l0_2 a1).f3.f2))).setCell ⟨gb269,6,none⟩ (.int .i64 ((rd_T82 l0_2 a1).f4))).setCell ⟨gb269,7,none⟩ (.slice A268_7 ((rd_T82 l0_2 a1).f5).length c268_7)).heap[gb269]?=some (.cells #[.string ((rd_T82 l0_2 a1).f0),.int .i64 ((rd_T82 l0_2 a1).f1),.bool ((rd_T82 l0_2 a1).f2),.slice A268_3 ((rd_T82 l0_2 a1).f3.f0).length c268_3,.slice A268_4 ((rd_T82 l0_2 a1).f3.f1).length c268_4,.int .i64 ((rd_T82 l0_2 a1).f3.f2),.int .i64 ((rd_T82 l0_2 a1).f4),.slice A268_7 ((rd_T82 l0_2 a1).f5).length c268_7] 82 (0,0))):=⟨(zz169 BK269)⟩;have n2_:Aside0 (Below w.heap.size w ((((((((w8.setCell ⟨gb269,0,none⟩ (.string ((rd_T82 l0_2 a1).f0))).setCell ⟨gb269,1,none⟩ (.int .i64 ((rd_T82 l0_2 a1).f1))).setCell ⟨gb269,2,none⟩ (.bool ((rd_T82 l0_2 a1).f2))).setCell ⟨gb269,3,none⟩ (.slice A268_3 ((rd_T82 l0_2 a1).f3.f0).length c268_3)).setCell ⟨gb269,4,none⟩ (.slice A268_4 ((rd_T82 l0_2 a1).f3.f1).length c268_4)).setCell ⟨gb269,5,none⟩ (.int .i64 ((rd_T82 l0_2 a1).f3.f2))).setCell ⟨gb269,6,none⟩ (.int .i64 ((rd_T82 l0_2 a1).f4))).setCell ⟨gb269,7,none⟩ (.slice A268_7 ((rd_T82 l0_2 a1).f5).length c268_7))):=⟨(zz3 HB GE267 GE269)⟩;(try clear BK267)
      (try clear BK269)
      (try clear HB)
      generalize ((((((((w8.setCell ⟨gb269,0,none⟩ (.string ((rd_T82 l0_2 a1).f0))).setCell ⟨gb269,1,none⟩ (.int .i64 ((rd_T82 l0_2 a1).f1))).setCell ⟨gb269,2,none⟩ (.bool ((rd_T82 l0_2 a1).f2))).setCell ⟨gb269,3,none⟩ (.slice A268_3 ((rd_T82 l0_2 a1).f3.f0).length c268_3)).setCell ⟨gb269,4,none⟩ (.slice A268_4 ((rd_T82 l0_2 a1).f3.f1).length c268_4)).setCell ⟨gb269,5,none⟩ (.int .i64 ((rd_T82 l0_2 a1).f3.f2))).setCell ⟨gb269,6,none⟩ (.int .i64 ((rd_T82 l0_2 a1).f4))).setCell ⟨gb269,7,none⟩ (.slice A268_7 ((rd_T82 l0_2 a1).f5).length c268_7))=w39 at n0_ n1_ n2_ ⊢;have BK267:=n0_;have BK269:=n1_;have HB:=n2_;clear n0_ n1_ n2_;replace BK267:=A_ (blk_drew BK267.out);replace BK269:=A_ (blk_drew BK269.out);replace HB:=A_ (below_drew1 HB.out);refine start_ (n:=55) (S:=fun w'=>w'.cell? ⟨gb269,0,none⟩=some (.string ((rd_T82 l0_2 a1).f0))∧w'.cell? ⟨gb269,1,none⟩=some (.int .i64 ((rd_T82 l0_2 a1).f1))∧w'.cell? ⟨gb269,2,none⟩=some (.bool ((rd_T82 l0_2 a1).f2))∧w'.cell? ⟨gb269,3,none⟩=some (.slice A268_3 ((rd_T82 l0_2 a1).f3.f0).length c268_3)∧w'.cell? ⟨gb269,4,none⟩=some (.slice A268_4 ((rd_T82 l0_2 a1).f3.f1).length c268_4)∧w'.cell? ⟨gb269,5,none⟩=some (.int .i64 ((rd_T82 l0_2 a1).f3.f2))∧w'.cell? ⟨gb269,6,none⟩=some (.int .i64 ((rd_T82 l0_2 a1).f4))∧w'.cell? ⟨gb269,7,none⟩=some (.slice A268_7 ((rd_T82 l0_2 a1).f5).length c268_7)∧w'.cell? ⟨gb267,0,none⟩=some (.string a0_0)∧w'.cell? ⟨gb267,1,none⟩=some (.int .i64 a0_1)∧w'.cell? ⟨gb267,2,none⟩=some (.slice (some ad268) l0_2.length c0_2)∧w'.cell? ⟨gb267,3,none⟩=some (.slice A0_3 l0_3.length c0_3)∧w'.cell? ⟨gb267,4,none⟩=some (.slice A0_4 l0_4.length c0_4)) (ds:=[]) #[yF,yF,yF,yF,yF,yF,yF,yF,yF,yF,yF,yF,yF,yF,yF,yF,yF,yF,yF,yF,yF,yF,yF,yF,yF,yF,yF,yF,yF,yF,yF,yF,yF,yF,yF,yF,yF,yF,yF,yF,yF,yF,yF,yF,yF,yF,yF,yF,yF,yF,yF,yF,yF,yF,yF] (by kernel_rfl) rfl rfl ⟨(blk_cell BK269.out 0).trans rfl,(blk_cell BK269.out 1).trans rfl,(blk_cell BK269.out 2).trans rfl,(blk_cell BK269.out 3).trans rfl,(blk_cell BK269.out 4).trans rfl,(blk_cell BK269.out 5).trans rfl,(blk_cell BK269.out 6).trans rfl,(blk_cell BK269.out 7).trans rfl,(blk_cell BK267.out 0).trans rfl,(blk_cell BK267.out 1).trans rfl,(blk_cell BK267.out 2).trans rfl,(blk_cell BK267.out 3).trans rfl,(blk_cell BK267.out 4).trans rfl⟩ (fun hHeld=>?_);refine with_tabW spec_l12HouseOk.tab2 spec_l12HouseOk.bits2 (fun HT_ HW_=>?_);generalize w39.drew=w40 at BK267 BK269 HB hHeld ⊢;refine pureZ 0 (some 12) (yA 1 54) ?_;refine takeZ13 1 (some 13) (yA 2 53) hHeld ?_;refine oneZ 2 (some 14) (yA 3 52) (fun K hK=>?_);refine goes_ Tryz.func66 (by kernel_rfl) rfl #[.string ((rd_T82 l0_2 a1).f0)] (by rfl) rfl rfl zz39 ?_;with_reducible refine (spec_l1House.calls k ((rd_T82 l0_2 a1).f0) true _ A11.out).mono ?_
      rintro e w' ⟨rfl,⟨nd,rfl⟩⟩;refine ⟨_,rfl,?_⟩;refine hK.out _ _ ⟨(blk_cell BK269.out 0).trans rfl,(blk_cell BK269.out 1).trans rfl,(blk_cell BK269.out 2).trans rfl,(blk_cell BK269.out 3).trans rfl,(blk_cell BK269.out 4).trans rfl,(blk_cell BK269.out 5).trans rfl,(blk_cell BK269.out 6).trans rfl,(blk_cell BK269.out 7).trans rfl,(blk_cell BK267.out 0).trans rfl,(blk_cell BK267.out 1).trans rfl,(blk_cell BK267.out 2).trans rfl,(blk_cell BK267.out 3).trans rfl,(blk_cell BK267.out 4).trans rfl⟩ (fun hHeld=>?_);clear hK K;refine nZ 14 ?_;refine pureZ 3 (some 15) (yA 4 51) ?_;refine pureZ 4 (some 16) (yA 5 50) ?_;refine pureZ 6 (some 18) #[yT,yT,yT,yT,yT,yF,yT,yF,yF,yF,yF,yF,yF,yF,yF,yF,yF,yF,yF,yF,yF,yF,yF,yF,yF,yF,yF,yF,yF,yF,yF,yF,yF,yF,yF,yF,yF,yF,yF,yF,yF,yF,yF,yF,yF,yF,yF,yF,yF,yF,yF,yF,yF,yF,yF] ?_;refine pureZ 9 (some 21) #[yT,yT,yT,yT,yT,yF,yT,yF,yF,yT,yF,yF,yF,yF,yF,yF,yF,yF,yF,yF,yF,yF,yF,yF,yF,yF,yF,yF,yF,yF,yF,yF,yF,yF,yF,yF,yF,yF,yF,yF,yF,yF,yF,yF,yF,yF,yF,yF,yF,yF,yF,yF,yF,yF,yF] ?_;refine takeZ13 5 (some 17) #[yT,yT,yT,yT,yT,yT,yT,yF,yF,yT,yF,yF,yF,yF,yF,yF,yF,yF,yF,yF,yF,yF,yF,yF,yF,yF,yF,yF,yF,yF,yF,yF,yF,yF,yF,yF,yF,yF,yF,yF,yF,yF,yF,yF,yF,yF,yF,yF,yF,yF,yF,yF,yF,yF,yF] hHeld ?_;refine takeZ13 7 (some 19) #[yT,yT,yT,yT,yT,yT,yT,yT,yF,yT,yF,yF,yF,yF,yF,yF,yF,yF,yF,yF,yF,yF,yF,yF,yF,yF,yF,yF,yF,yF,yF,yF,yF,yF,yF,yF,yF,yF,yF,yF,yF,yF,yF,yF,yF,yF,yF,yF,yF,yF,yF,yF,yF,yF,yF] hHeld ?_;refine oneZ 8 (some 20) (yA 10 45) (fun K hK=>?_);refine goes_ Tryz.func67 (by kernel_rfl) rfl #[.agg #[.string a0_0,.int .i64 a0_1,.slice (some ad268) l0_2.length c0_2,.slice A0_3 l0_3.length c0_3,.slice A0_4 l0_4.length c0_4],.string ((rd_T82 l0_2 a1).f0)] (by rfl) rfl rfl zz39 ?_;with_reducible refine (spec_l12House.calls k a0_0 a0_1 _ _ l0_2 _ _ l0_3 _ _ l0_4 ((rd_T82 l0_2 a1).f0) t271 _ ?side1 ?side2 ?side3 ?side4 ?side5 ?side6 A13.out).mono ?_
      (case side1=>exact (zz170 HR0_2))
      (case side2=>exact HC0_2.out)
      (case side3=>exact (zz170 HR0_3))
      (case side4=>exact HC0_3.out)
      (case side5=>exact (zz170 HR0_4))
      (case side6=>exact HC0_4.out)
      rintro e w41 ⟨rfl,hb⟩;refine ⟨_,rfl,?_⟩;replace BK267:=A_ (bB (zz2 BK267) hb);replace BK269:=A_ (bB (zz2 BK269) hb);replace HB:=A_ (bS (zz3 HB GE267 GE269) hb);(try clear hb)
      (try clear hb2)
      (try clear hk)
      (try clear hi)
      refine hK.out _ _ ⟨(blk_cell BK269.out 0).trans rfl,(blk_cell BK269.out 1).trans rfl,(blk_cell BK269.out 2).trans rfl,(blk_cell BK269.out 3).trans rfl,(blk_cell BK269.out 4).trans rfl,(blk_cell BK269.out 5).trans rfl,(blk_cell BK269.out 6).trans rfl,(blk_cell BK269.out 7).trans rfl,(blk_cell BK267.out 0).trans rfl,(blk_cell BK267.out 1).trans rfl,(blk_cell BK267.out 2).trans rfl,(blk_cell BK267.out 3).trans rfl,(blk_cell BK267.out 4).trans rfl⟩ (fun hHeld=>?_);clear hK K;refine nZ 20 ?_;refine pureZ 10 (some 22) (yA 11 44) ?_;refine pureZ 11 (some 23) (yA 12 43) ?_;refine pureZ 12 (some 24) (yA 13 42) ?_;refine pureZ 13 (some 25) (yA 14 41) ?_;refine takeZ13 14 (some 26) (yA 15 40) hHeld ?_;refine oneZ 15 (some 27) (yA 16 39) (fun K hK=>?_);refine goes_ Tryz.func40 (by kernel_rfl) rfl #[.int .i64 ((rd_T82 l0_2 a1).f1),.int .i64 0,.int .i64 5100] (by rfl) rfl rfl zz39 ?_;with_reducible refine (spec_l6In.calls ((rd_T82 l0_2 a1).f1) 0 5100 false _ A15.out).mono ?_
      rintro e w' ⟨rfl,⟨nd,rfl⟩⟩;refine ⟨_,rfl,?_⟩;refine hK.out _ _ ⟨(blk_cell BK269.out 0).trans rfl,(blk_cell BK269.out 1).trans rfl,(blk_cell BK269.out 2).trans rfl,(blk_cell BK269.out 3).trans rfl,(blk_cell BK269.out 4).trans rfl,(blk_cell BK269.out 5).trans rfl,(blk_cell BK269.out 6).trans rfl,(blk_cell BK269.out 7).trans rfl,(blk_cell BK267.out 0).trans rfl,(blk_cell BK267.out 1).trans rfl,(blk_cell BK267.out 2).trans rfl,(blk_cell BK267.out 3).trans rfl,(blk_cell BK267.out 4).trans rfl⟩ (fun hHeld=>?_);clear hK K;refine nZ 27 ?_;refine pureZ 16 (some 28) (yA 17 38) ?_;refine pureZ 17 (some 29) (yA 18 37) ?_;refine pureZ 18 (some 30) (yA 19 36) ?_;refine pure_ (i:=19) (N:=some 31) (v:=undef) (a':=?_) (yA 20 35) rfl rfl (any_of HT_.out (by kernel_rfl)) (fun _ _ _ h=>h) (Or.inr ⟨by rfl,rfl⟩) ?_ ?_;rotate_left
      ·simp only [Act.put,List.setIfInBounds_toArray,List.set_cons_zero,List.set_cons_succ,i64_w,i32_w]
       rfl
      refine pure_ (i:=20) (N:=some 32) (v:=undef) (a':=?_) (yA 21 34) rfl rfl (any_of HT_.out (by kernel_rfl)) (fun _ _ _ h=>h) (Or.inr ⟨by rfl,rfl⟩) ?_ ?_;rotate_left
      ·simp only [Act.put,List.setIfInBounds_toArray,List.set_cons_zero,List.set_cons_succ,i64_w,i32_w]
       rfl
      refine pure_ (i:=21) (N:=some 33) (v:=undef) (a':=?_) (yA 22 33) rfl rfl (any_of HT_.out (by kernel_rfl)) (fun _ _ _ h=>h) (Or.inr ⟨by rfl,rfl⟩) ?_ ?_;rotate_left
      ·simp only [Act.put,List.setIfInBounds_toArray,List.set_cons_zero,List.set_cons_succ,i64_w,i32_w]
       rfl
      refine pure_ (i:=22) (N:=some 34) (v:=undef) (a':=?_) (yA 23 32) rfl rfl (any_of HT_.out (by kernel_rfl)) (fun _ _ _ h=>h) (Or.inr ⟨by rfl,rfl⟩) ?_ ?_;rotate_left
      ·simp only [Act.put,List.setIfInBounds_toArray,List.set_cons_zero,List.set_cons_succ,i64_w,i32_w]
       rfl
      refine pureZ 23 (some 35) (yA 24 31) ?_;refine pureZ 24 (some 36) (yA 25 30) ?_;refine pure_ (i:=25) (N:=some 37) (v:=undef) (a':=?_) (yA 26 29) rfl rfl (any_of HT_.out (by kernel_rfl)) (fun _ _ _ h=>h) (Or.inr ⟨by rfl,rfl⟩) ?_ ?_;rotate_left
      ·simp only [Act.put,List.setIfInBounds_toArray,List.set_cons_zero,List.set_cons_succ,i64_w,i32_w]
       rfl
      refine pure_ (i:=26) (N:=some 38) (v:=undef) (a':=?_) (yA 27 28) rfl rfl (any_of HT_.out (by kernel_rfl)) (fun _ _ _ h=>h) (Or.inr ⟨by rfl,rfl⟩) ?_ ?_;rotate_left
      ·simp only [Act.put,List.setIfInBounds_toArray,List.set_cons_zero,List.set_cons_succ,i64_w,i32_w]
       rfl
      refine pure_ (i:=27) (N:=some 39) (v:=undef) (a':=?_) (yA 28 27) rfl rfl (any_of HT_.out (by kernel_rfl)) (fun _ _ _ h=>h) (Or.inr ⟨by rfl,rfl⟩) ?_ ?_;rotate_left
      ·simp only [Act.put,List.setIfInBounds_toArray,List.set_cons_zero,List.set_cons_succ,i64_w,i32_w]
       rfl
      refine pure_ (i:=28) (N:=some 40) (v:=undef) (a':=?_) (yA 29 26) rfl rfl (any_of HT_.out (by kernel_rfl)) (fun _ _ _ h=>h) (Or.inr ⟨by rfl,rfl⟩) ?_ ?_;rotate_left
      ·simp only [Act.put,List.setIfInBounds_toArray,List.set_cons_zero,List.set_cons_succ,i64_w,i32_w]
       rfl
      refine pure_ (i:=29) (N:=some 41) (v:=undef) (a':=?_) (yA 30 25) rfl rfl (any_of HT_.out (by kernel_rfl)) (fun _ _ _ h=>h) (Or.inr ⟨by rfl,rfl⟩) ?_ ?_;rotate_left
      ·simp only [Act.put,List.setIfInBounds_toArray,List.set_cons_zero,List.set_cons_succ,i64_w,i32_w]
       rfl
      refine pureZ 30 (some 42) (yA 31 24) ?_;refine pureZ 31 (some 43) (yA 32 23) ?_;refine pure_ (i:=32) (N:=some 44) (v:=undef) (a':=?_) (yA 33 22) rfl rfl (any_of HT_.out (by kernel_rfl)) (fun _ _ _ h=>h) (Or.inr ⟨by rfl,rfl⟩) ?_ ?_;rotate_left
      ·simp only [Act.put,List.setIfInBounds_toArray,List.set_cons_zero,List.set_cons_succ,i64_w,i32_w]
       rfl
      refine pure_ (i:=33) (N:=some 45) (v:=undef) (a':=?_) (yA 34 21) rfl rfl (any_of HT_.out (by kernel_rfl)) (fun _ _ _ h=>h) (Or.inr ⟨by rfl,rfl⟩) ?_ ?_;rotate_left
      ·simp only [Act.put,List.setIfInBounds_toArray,List.set_cons_zero,List.set_cons_succ,i64_w,i32_w]
       rfl
      refine pure_ (i:=34) (N:=some 46) (v:=undef) (a':=?_) (yA 35 20) rfl rfl (any_of HT_.out (by kernel_rfl)) (fun _ _ _ h=>h) (Or.inr ⟨by rfl,rfl⟩) ?_ ?_;rotate_left
      ·simp only [Act.put,List.setIfInBounds_toArray,List.set_cons_zero,List.set_cons_succ,i64_w,i32_w]
       rfl
      refine pure_ (i:=35) (N:=some 47) (v:=undef) (a':=?_) (yA 36 19) rfl rfl (any_of HT_.out (by kernel_rfl)) (fun _ _ _ h=>h) (Or.inr ⟨by rfl,rfl⟩) ?_ ?_;rotate_left
      ·simp only [Act.put,List.setIfInBounds_toArray,List.set_cons_zero,List.set_cons_succ,i64_w,i32_w]
       rfl
      refine pure_ (i:=36) (N:=some 48) (v:=undef) (a':=?_) (yA 37 18) rfl rfl (any_of HT_.out (by kernel_rfl)) (fun _ _ _ h=>h) (Or.inr ⟨by rfl,rfl⟩) ?_ ?_;rotate_left
      ·simp only [Act.put,List.setIfInBounds_toArray,List.set_cons_zero,List.set_cons_succ,i64_w,i32_w]
       rfl
      refine pure_ (i:=37) (N:=some 49) (v:=undef) (a':=?_) (yA 38 17) rfl rfl (any_of HT_.out (by kernel_rfl)) (fun _ _ _ h=>h) (Or.inr ⟨by rfl,rfl⟩) ?_ ?_;rotate_left
      ·simp only [Act.put,List.setIfInBounds_toArray,List.set_cons_zero,List.set_cons_succ,i64_w,i32_w]
       rfl
      refine pure_ (i:=38) (N:=some 50) (v:=undef) (a':=?_) (yA 39 16) rfl rfl (any_of HT_.out (by kernel_rfl)) (fun _ _ _ h=>h) (Or.inr ⟨by rfl,rfl⟩) ?_ ?_;rotate_left
      ·simp only [Act.put,List.setIfInBounds_toArray,List.set_cons_zero,List.set_cons_succ,i64_w,i32_w]
       rfl
      refine pure_ (i:=39) (N:=some 51) (v:=undef) (a':=?_) (yA 40 15) rfl rfl (any_of HT_.out (by kernel_rfl)) (fun _ _ _ h=>h) (Or.inr ⟨by rfl,rfl⟩) ?_ ?_;rotate_left
      ·simp only [Act.put,List.setIfInBounds_toArray,List.set_cons_zero,List.set_cons_succ,i64_w,i32_w]
       rfl
      refine pureZ 40 (some 52) (yA 41 14) ?_;refine pureZ 41 (some 53) (yA 42 13) ?_;refine pure_ (i:=42) (N:=some 54) (v:=undef) (a':=?_) (yA 43 12) rfl rfl (any_of HT_.out (by kernel_rfl)) (fun _ _ _ h=>h) (Or.inr ⟨by rfl,rfl⟩) ?_ ?_;rotate_left
      ·simp only [Act.put,List.setIfInBounds_toArray,List.set_cons_zero,List.set_cons_succ,i64_w,i32_w]
       rfl
      refine pure_ (i:=43) (N:=some 55) (v:=undef) (a':=?_) (yA 44 11) rfl rfl (any_of HT_.out (by kernel_rfl)) (fun _ _ _ h=>h) (Or.inr ⟨by rfl,rfl⟩) ?_ ?_;rotate_left
      ·simp only [Act.put,List.setIfInBounds_toArray,List.set_cons_zero,List.set_cons_succ,i64_w,i32_w]
       rfl
      refine pure_ (i:=44) (N:=some 56) (v:=undef) (a':=?_) (yA 45 10) rfl rfl (any_of HT_.out (by kernel_rfl)) (fun _ _ _ h=>h) (Or.inr ⟨by rfl,rfl⟩) ?_ ?_;rotate_left
      ·simp only [Act.put,List.setIfInBounds_toArray,List.set_cons_zero,List.set_cons_succ,i64_w,i32_w]
       rfl
      refine pure_ (i:=45) (N:=some 57) (v:=undef) (a':=?_) (yA 46 9) rfl rfl (any_of HT_.out (by kernel_rfl)) (fun _ _ _ h=>h) (Or.inr ⟨by rfl,rfl⟩) ?_ ?_;rotate_left
      ·simp only [Act.put,List.setIfInBounds_toArray,List.set_cons_zero,List.set_cons_succ,i64_w,i32_w]
       rfl
      refine pure_ (i:=46) (N:=some 58) (v:=undef) (a':=?_) (yA 47 8) rfl rfl (any_of HT_.out (by kernel_rfl)) (fun _ _ _ h=>h) (Or.inr ⟨by rfl,rfl⟩) ?_ ?_;rotate_left
      ·simp only [Act.put,List.setIfInBounds_toArray,List.set_cons_zero,List.set_cons_succ,i64_w,i32_w]
       rfl
      refine pureZ 47 (some 59) (yA 48 7) ?_;refine pureZ 48 (some 60) (yA 49 6) ?_;refine pure_ (i:=49) (N:=some 61) (v:=undef) (a':=?_) (yA 50 5) rfl rfl (any_of HT_.out (by kernel_rfl)) (fun _ _ _ h=>h) (Or.inr ⟨by rfl,rfl⟩) ?_ ?_;rotate_left
      ·simp only [Act.put,List.setIfInBounds_toArray,List.set_cons_zero,List.set_cons_succ,i64_w,i32_w]
       rfl
      refine pure_ (i:=50) (N:=some 62) (v:=undef) (a':=?_) (yA 51 4) rfl rfl (any_of HT_.out (by kernel_rfl)) (fun _ _ _ h=>h) (Or.inr ⟨by rfl,rfl⟩) ?_ ?_;rotate_left
      ·simp only [Act.put,List.setIfInBounds_toArray,List.set_cons_zero,List.set_cons_succ,i64_w,i32_w]
       rfl
      refine pure_ (i:=51) (N:=some 63) (v:=undef) (a':=?_) (yA 52 3) rfl rfl (any_of HT_.out (by kernel_rfl)) (fun _ _ _ h=>h) (Or.inr ⟨by rfl,rfl⟩) ?_ ?_;rotate_left
      ·simp only [Act.put,List.setIfInBounds_toArray,List.set_cons_zero,List.set_cons_succ,i64_w,i32_w]
       rfl
      refine pure_ (i:=52) (N:=some 64) (v:=undef) (a':=?_) (yA 53 2) rfl rfl (any_of HT_.out (by kernel_rfl)) (fun _ _ _ h=>h) (Or.inr ⟨by rfl,rfl⟩) ?_ ?_;rotate_left
      ·simp only [Act.put,List.setIfInBounds_toArray,List.set_cons_zero,List.set_cons_succ,i64_w,i32_w]
       rfl
      refine pure_ (i:=53) (N:=some 65) (v:=undef) (a':=?_) (yA 54 1) rfl rfl (any_of HT_.out (by kernel_rfl)) (fun _ _ _ h=>h) (Or.inr ⟨by rfl,rfl⟩) ?_ ?_;rotate_left
      ·simp only [Act.put,List.setIfInBounds_toArray,List.set_cons_zero,List.set_cons_succ,i64_w,i32_w]
       rfl
      refine pureZ 54 (some 66) (yA 55 0) ?_;refine done_ (done_of HT_.out (by kernel_rfl)) ?_;try go_wp2
      go_meet
      case rel=>exact ⟨_,(true),zz7,H',⟨zz62⟩,⟨(zz2 BK267)⟩,⟨(zz2 BK269)⟩,⟨(zz3 HB GE267 GE269)⟩⟩
    ·(first|rw [c14b0]|(simp only [i64_w,i32_w];rw [c14b0])|skip)
     have H':=A_ H;clear H;try go_wp2
     have n0_:Aside0 (((((((((w8.setCell ⟨gb269,0,none⟩ (.string ((rd_T82 l0_2 a1).f0))).setCell ⟨gb269,1,none⟩ (.int .i64 ((rd_T82 l0_2 a1).f1))).setCell ⟨gb269,2,none⟩ (.bool ((rd_T82 l0_2 a1).f2))).setCell ⟨gb269,3,none⟩ (.slice A268_3 ((rd_T82 l0_2 a1).f3.f0).length c268_3)).setCell ⟨gb269,4,none⟩ (.slice A268_4 ((rd_T82 l0_2 a1).f3.f1).length c268_4)).setCell ⟨gb269,5,none⟩ (.int .i64 ((rd_T82 l0_2 a1).f3.f2))).setCell ⟨gb269,6,none⟩ (.int .i64 ((rd_T82 l0_2 a1).f4))).setCell ⟨gb269,7,none⟩ (.slice A268_7 ((rd_T82 l0_2 a1).f5).length c268_7)).heap[gb267]?=some (.cells #[.string a0_0,.int .i64 a0_1,.slice (some ad268) l0_2.length c0_2,.slice A0_3 l0_3.length c0_3,.slice A0_4 l0_4.length c0_4] 33 (0,0))):=⟨(zz4 BK267 NB267_269)⟩;have n1_:Aside0 (((((((((w8.setCell ⟨gb269,0,none⟩ (.string ((rd_T82 l0_2 a1).f0))).setCell ⟨gb269,1,none⟩ (.int .i64 ((rd_T82 l0_2 a1).f1))).setCell ⟨gb269,2,none⟩ (.bool ((rd_T82 l0_2 a1).f2))).setCell ⟨gb269,3,none⟩ (.slice A268_3 ((rd_T82 l0_2 a1).f3.f0).length c268_3)).setCell ⟨gb269,4,none⟩ (.slice A268_4 ((rd_T82 l0_2 a1).f3.f1).length c268_4)).setCell ⟨gb269,5,none⟩ (.int .i64 ((rd_T82 l0_2 a1).f3.f2))).setCell ⟨gb269,6,none⟩ (.int .i64 ((rd_T82 l0_2 a1).f4))).setCell ⟨gb269,7,none⟩ (.slice A268_7 ((rd_T82 l0_2 a1).f5).length c268_7)).heap[gb269]?=some (.cells #[.string ((rd_T82 l0_2 a1).f0),.int .i64 ((rd_T82 l0_2 a1).f1),.bool ((rd_T82 l0_2 a1).f2),.slice A268_3 ((rd_T82 l0_2 a1).f3.f0).length c268_3,.slice A268_4 ((rd_T82 l0_2 a1).f3.f1).length c268_4,.int .i64 ((rd_T82 l0_2 a1).f3.f2),.int .i64 ((rd_T82 l0_2 a1).f4),.slice A268_7 ((rd_T82 l0_2 a1).f5).length c268_7] 82 (0,0))):=⟨(zz169 BK269)⟩;have n2_:Aside0 (Below w.heap.size w ((((((((w8.setCell ⟨gb269,0,none⟩ (.string ((rd_T82 l0_2 a1).f0))).setCell ⟨gb269,1,none⟩ (.int .i64 ((rd_T82 l0_2 a1).f1))).setCell ⟨gb269,2,none⟩ (.bool ((rd_T82 l0_2 a1).f2))).setCell ⟨gb269,3,none⟩ (.slice A268_3 ((rd_T82 l0_2 a1).f3.f0).length c268_3)).setCell ⟨gb269,4,none⟩ (.slice A268_4 ((rd_T82 l0_2 a1).f3.f1).length c268_4)).setCell ⟨gb269,5,none⟩ (.int .i64 ((rd_T82 l0_2 a1).f3.f2))).setCell ⟨gb269,6,none⟩ (.int .i64 ((rd_T82 l0_2 a1).f4))).setCell ⟨gb269,7,none⟩ (.slice A268_7 ((rd_T82 l0_2 a1).f5).length c268_7))):=⟨(zz3 HB GE267 GE269)⟩;(try clear BK267)
     (try clear BK269)
     (try clear HB)
     generalize ((((((((w8.setCell ⟨gb269,0,none⟩ (.string ((rd_T82 l0_2 a1).f0))).setCell ⟨gb269,1,none⟩ (.int .i64 ((rd_T82 l0_2 a1).f1))).setCell ⟨gb269,2,none⟩ (.bool ((rd_T82 l0_2 a1).f2))).setCell ⟨gb269,3,none⟩ (.slice A268_3 ((rd_T82 l0_2 a1).f3.f0).length c268_3)).setCell ⟨gb269,4,none⟩ (.slice A268_4 ((rd_T82 l0_2 a1).f3.f1).length c268_4)).setCell ⟨gb269,5,none⟩ (.int .i64 ((rd_T82 l0_2 a1).f3.f2))).setCell ⟨gb269,6,none⟩ (.int .i64 ((rd_T82 l0_2 a1).f4))).setCell ⟨gb269,7,none⟩ (.slice A268_7 ((rd_T82 l0_2 a1).f5).length c268_7))=w42 at n0_ n1_ n2_ ⊢;have BK267:=n0_;have BK269:=n1_;have HB:=n2_;clear n0_ n1_ n2_;replace BK267:=A_ (blk_drew BK267.out);replace BK269:=A_ (blk_drew BK269.out);replace HB:=A_ (below_drew1 HB.out);refine start_ (n:=55) (S:=fun w'=>w'.cell? ⟨gb269,0,none⟩=some (.string ((rd_T82 l0_2 a1).f0))∧w'.cell? ⟨gb269,1,none⟩=some (.int .i64 ((rd_T82 l0_2 a1).f1))∧w'.cell? ⟨gb269,2,none⟩=some (.bool ((rd_T82 l0_2 a1).f2))∧w'.cell? ⟨gb269,3,none⟩=some (.slice A268_3 ((rd_T82 l0_2 a1).f3.f0).length c268_3)∧w'.cell? ⟨gb269,4,none⟩=some (.slice A268_4 ((rd_T82 l0_2 a1).f3.f1).length c268_4)∧w'.cell? ⟨gb269,5,none⟩=some (.int .i64 ((rd_T82 l0_2 a1).f3.f2))∧w'.cell? ⟨gb269,6,none⟩=some (.int .i64 ((rd_T82 l0_2 a1).f4))∧w'.cell? ⟨gb269,7,none⟩=some (.slice A268_7 ((rd_T82 l0_2 a1).f5).length c268_7)∧w'.cell? ⟨gb267,0,none⟩=some (.string a0_0)∧w'.cell? ⟨gb267,1,none⟩=some (.int .i64 a0_1)∧w'.cell? ⟨gb267,2,none⟩=some (.slice (some ad268) l0_2.length c0_2)∧w'.cell? ⟨gb267,3,none⟩=some (.slice A0_3 l0_3.length c0_3)∧w'.cell? ⟨gb267,4,none⟩=some (.slice A0_4 l0_4.length c0_4)) (ds:=[]) #[yF,yF,yF,yF,yF,yF,yF,yF,yF,yF,yF,yF,yF,yF,yF,yF,yF,yF,yF,yF,yF,yF,yF,yF,yF,yF,yF,yF,yF,yF,yF,yF,yF,yF,yF,yF,yF,yF,yF,yF,yF,yF,yF,yF,yF,yF,yF,yF,yF,yF,yF,yF,yF,yF,yF] (by kernel_rfl) rfl rfl ⟨(blk_cell BK269.out 0).trans rfl,(blk_cell BK269.out 1).trans rfl,(blk_cell BK269.out 2).trans rfl,(blk_cell BK269.out 3).trans rfl,(blk_cell BK269.out 4).trans rfl,(blk_cell BK269.out 5).trans rfl,(blk_cell BK269.out 6).trans rfl,(blk_cell BK269.out 7).trans rfl,(blk_cell BK267.out 0).trans rfl,(blk_cell BK267.out 1).trans rfl,(blk_cell BK267.out 2).trans rfl,(blk_cell BK267.out 3).trans rfl,(blk_cell BK267.out 4).trans rfl⟩ (fun hHeld=>?_);refine with_tabW spec_l12HouseOk.tab2 spec_l12HouseOk.bits2 (fun HT_ HW_=>?_);generalize w42.drew=w43 at BK267 BK269 HB hHeld ⊢;refine pureZ 0 (some 12) (yA 1 54) ?_;refine takeZ13 1 (some 13) (yA 2 53) hHeld ?_;refine oneZ 2 (some 14) (yA 3 52) (fun K hK=>?_);refine goes_ Tryz.func66 (by kernel_rfl) rfl #[.string ((rd_T82 l0_2 a1).f0)] (by rfl) rfl rfl zz39 ?_;with_reducible refine (spec_l1House.calls k ((rd_T82 l0_2 a1).f0) true _ A11.out).mono ?_
     rintro e w' ⟨rfl,⟨nd,rfl⟩⟩;refine ⟨_,rfl,?_⟩;refine hK.out _ _ ⟨(blk_cell BK269.out 0).trans rfl,(blk_cell BK269.out 1).trans rfl,(blk_cell BK269.out 2).trans rfl,(blk_cell BK269.out 3).trans rfl,(blk_cell BK269.out 4).trans rfl,(blk_cell BK269.out 5).trans rfl,(blk_cell BK269.out 6).trans rfl,(blk_cell BK269.out 7).trans rfl,(blk_cell BK267.out 0).trans rfl,(blk_cell BK267.out 1).trans rfl,(blk_cell BK267.out 2).trans rfl,(blk_cell BK267.out 3).trans rfl,(blk_cell BK267.out 4).trans rfl⟩ (fun hHeld=>?_);clear hK K;refine nZ 14 ?_;refine pureZ 3 (some 15) (yA 4 51) ?_;refine pureZ 4 (some 16) (yA 5 50) ?_;refine pureZ 6 (some 18) #[yT,yT,yT,yT,yT,yF,yT,yF,yF,yF,yF,yF,yF,yF,yF,yF,yF,yF,yF,yF,yF,yF,yF,yF,yF,yF,yF,yF,yF,yF,yF,yF,yF,yF,yF,yF,yF,yF,yF,yF,yF,yF,yF,yF,yF,yF,yF,yF,yF,yF,yF,yF,yF,yF,yF] ?_;refine pureZ 9 (some 21) #[yT,yT,yT,yT,yT,yF,yT,yF,yF,yT,yF,yF,yF,yF,yF,yF,yF,yF,yF,yF,yF,yF,yF,yF,yF,yF,yF,yF,yF,yF,yF,yF,yF,yF,yF,yF,yF,yF,yF,yF,yF,yF,yF,yF,yF,yF,yF,yF,yF,yF,yF,yF,yF,yF,yF] ?_;refine takeZ13 5 (some 17) #[yT,yT,yT,yT,yT,yT,yT,yF,yF,yT,yF,yF,yF,yF,yF,yF,yF,yF,yF,yF,yF,yF,yF,yF,yF,yF,yF,yF,yF,yF,yF,yF,yF,yF,yF,yF,yF,yF,yF,yF,yF,yF,yF,yF,yF,yF,yF,yF,yF,yF,yF,yF,yF,yF,yF] hHeld ?_;refine takeZ13 7 (some 19) #[yT,yT,yT,yT,yT,yT,yT,yT,yF,yT,yF,yF,yF,yF,yF,yF,yF,yF,yF,yF,yF,yF,yF,yF,yF,yF,yF,yF,yF,yF,yF,yF,yF,yF,yF,yF,yF,yF,yF,yF,yF,yF,yF,yF,yF,yF,yF,yF,yF,yF,yF,yF,yF,yF,yF] hHeld ?_;refine oneZ 8 (some 20) (yA 10 45) (fun K hK=>?_);refine goes_ Tryz.func67 (by kernel_rfl) rfl #[.agg #[.string a0_0,.int .i64 a0_1,.slice (some ad268) l0_2.length c0_2,.slice A0_3 l0_3.length c0_3,.slice A0_4 l0_4.length c0_4],.string ((rd_T82 l0_2 a1).f0)] (by rfl) rfl rfl zz39 ?_;with_reducible refine (spec_l12House.calls k a0_0 a0_1 _ _ l0_2 _ _ l0_3 _ _ l0_4 ((rd_T82 l0_2 a1).f0) t271 _ ?side1 ?side2 ?side3 ?side4 ?side5 ?side6 A13.out).mono ?_
     (case side1=>exact (zz170 HR0_2))
     (case side2=>exact HC0_2.out)
     (case side3=>exact (zz170 HR0_3))
     (case side4=>exact HC0_3.out)
     (case side5=>exact (zz170 HR0_4))
     (case side6=>exact HC0_4.out)
     rintro e w44 ⟨rfl,hb⟩;refine ⟨_,rfl,?_⟩;replace BK267:=A_ (bB (zz2 BK267) hb);replace BK269:=A_ (bB (zz2 BK269) hb);replace HB:=A_ (bS (zz3 HB GE267 GE269) hb);(try clear hb)
     (try clear hb2)
     (try clear hk)
     (try clear hi)
     refine hK.out _ _ ⟨(blk_cell BK269.out 0).trans rfl,(blk_cell BK269.out 1).trans rfl,(blk_cell BK269.out 2).trans rfl,(blk_cell BK269.out 3).trans rfl,(blk_cell BK269.out 4).trans rfl,(blk_cell BK269.out 5).trans rfl,(blk_cell BK269.out 6).trans rfl,(blk_cell BK269.out 7).trans rfl,(blk_cell BK267.out 0).trans rfl,(blk_cell BK267.out 1).trans rfl,(blk_cell BK267.out 2).trans rfl,(blk_cell BK267.out 3).trans rfl,(blk_cell BK267.out 4).trans rfl⟩ (fun hHeld=>?_);clear hK K;refine nZ 20 ?_;refine pureZ 10 (some 22) (yA 11 44) ?_;refine pureZ 11 (some 23) (yA 12 43) ?_;refine pureZ 12 (some 24) (yA 13 42) ?_;refine pure_ (i:=13) (N:=some 25) (v:=undef) (a':=?_) (yA 14 41) rfl rfl (any_of HT_.out (by kernel_rfl)) (fun _ _ _ h=>h) (Or.inr ⟨by rfl,rfl⟩) ?_ ?_;rotate_left
     ·simp only [Act.put,List.setIfInBounds_toArray,List.set_cons_zero,List.set_cons_succ,i64_w,i32_w]
      rfl
     refine pure_ (i:=14) (N:=some 26) (v:=undef) (a':=?_) (yA 15 40) rfl rfl (any_of HT_.out (by kernel_rfl)) (fun _ _ _ h=>h) (Or.inr ⟨by rfl,rfl⟩) ?_ ?_;rotate_left
     ·simp only [Act.put,List.setIfInBounds_toArray,List.set_cons_zero,List.set_cons_succ,i64_w,i32_w]
      rfl
     refine pure_ (i:=15) (N:=some 27) (v:=undef) (a':=?_) (yA 16 39) rfl rfl (any_of HT_.out (by kernel_rfl)) (fun _ _ _ h=>h) (Or.inr ⟨by rfl,rfl⟩) ?_ ?_;rotate_left
     ·simp only [Act.put,List.setIfInBounds_toArray,List.set_cons_zero,List.set_cons_succ,i64_w,i32_w]
      rfl
     refine pure_ (i:=16) (N:=some 28) (v:=undef) (a':=?_) (yA 17 38) rfl rfl (any_of HT_.out (by kernel_rfl)) (fun _ _ _ h=>h) (Or.inr ⟨by rfl,rfl⟩) ?_ ?_;rotate_left
     ·simp only [Act.put,List.setIfInBounds_toArray,List.set_cons_zero,List.set_cons_succ,i64_w,i32_w]
      rfl
     refine pureZ 17 (some 29) (yA 18 37) ?_;refine pureZ 18 (some 30) (yA 19 36) ?_;refine pure_ (i:=19) (N:=some 31) (v:=undef) (a':=?_) (yA 20 35) rfl rfl (any_of HT_.out (by kernel_rfl)) (fun _ _ _ h=>h) (Or.inr ⟨by rfl,rfl⟩) ?_ ?_;rotate_left
     ·simp only [Act.put,List.setIfInBounds_toArray,List.set_cons_zero,List.set_cons_succ,i64_w,i32_w]
      rfl
     refine pure_ (i:=20) (N:=some 32) (v:=undef) (a':=?_) (yA 21 34) rfl rfl (any_of HT_.out (by kernel_rfl)) (fun _ _ _ h=>h) (Or.inr ⟨by rfl,rfl⟩) ?_ ?_;rotate_left
     ·simp only [Act.put,List.setIfInBounds_toArray,List.set_cons_zero,List.set_cons_succ,i64_w,i32_w]
      rfl
     refine pure_ (i:=21) (N:=some 33) (v:=undef) (a':=?_) (yA 22 33) rfl rfl (any_of HT_.out (by kernel_rfl)) (fun _ _ _ h=>h) (Or.inr ⟨by rfl,rfl⟩) ?_ ?_;rotate_left
     ·simp only [Act.put,List.setIfInBounds_toArray,List.set_cons_zero,List.set_cons_succ,i64_w,i32_w]
      rfl
     refine pure_ (i:=22) (N:=some 34) (v:=undef) (a':=?_) (yA 23 32) rfl rfl (any_of HT_.out (by kernel_rfl)) (fun _ _ _ h=>h) (Or.inr ⟨by rfl,rfl⟩) ?_ ?_;rotate_left
     ·simp only [Act.put,List.setIfInBounds_toArray,List.set_cons_zero,List.set_cons_succ,i64_w,i32_w]
      rfl
     refine pureZ 23 (some 35) (yA 24 31) ?_;refine pureZ 24 (some 36) (yA 25 30) ?_;refine pure_ (i:=25) (N:=some 37) (v:=undef) (a':=?_) (yA 26 29) rfl rfl (any_of HT_.out (by kernel_rfl)) (fun _ _ _ h=>h) (Or.inr ⟨by rfl,rfl⟩) ?_ ?_;rotate_left
     ·simp only [Act.put,List.setIfInBounds_toArray,List.set_cons_zero,List.set_cons_succ,i64_w,i32_w]
      rfl
     refine pure_ (i:=26) (N:=some 38) (v:=undef) (a':=?_) (yA 27 28) rfl rfl (any_of HT_.out (by kernel_rfl)) (fun _ _ _ h=>h) (Or.inr ⟨by rfl,rfl⟩) ?_ ?_;rotate_left
     ·simp only [Act.put,List.setIfInBounds_toArray,List.set_cons_zero,List.set_cons_succ,i64_w,i32_w]
      rfl
     refine pure_ (i:=27) (N:=some 39) (v:=undef) (a':=?_) (yA 28 27) rfl rfl (any_of HT_.out (by kernel_rfl)) (fun _ _ _ h=>h) (Or.inr ⟨by rfl,rfl⟩) ?_ ?_;rotate_left
     ·simp only [Act.put,List.setIfInBounds_toArray,List.set_cons_zero,List.set_cons_succ,i64_w,i32_w]
      rfl
     refine pure_ (i:=28) (N:=some 40) (v:=undef) (a':=?_) (yA 29 26) rfl rfl (any_of HT_.out (by kernel_rfl)) (fun _ _ _ h=>h) (Or.inr ⟨by rfl,rfl⟩) ?_ ?_;rotate_left
     ·simp only [Act.put,List.setIfInBounds_toArray,List.set_cons_zero,List.set_cons_succ,i64_w,i32_w]
      rfl
     refine pure_ (i:=29) (N:=some 41) (v:=undef) (a':=?_) (yA 30 25) rfl rfl (any_of HT_.out (by kernel_rfl)) (fun _ _ _ h=>h) (Or.inr ⟨by rfl,rfl⟩) ?_ ?_;rotate_left
     ·simp only [Act.put,List.setIfInBounds_toArray,List.set_cons_zero,List.set_cons_succ,i64_w,i32_w]
      rfl
     refine pureZ 30 (some 42) (yA 31 24) ?_;refine pureZ 31 (some 43) (yA 32 23) ?_;refine pure_ (i:=32) (N:=some 44) (v:=undef) (a':=?_) (yA 33 22) rfl rfl (any_of HT_.out (by kernel_rfl)) (fun _ _ _ h=>h) (Or.inr ⟨by rfl,rfl⟩) ?_ ?_;rotate_left
     ·simp only [Act.put,List.setIfInBounds_toArray,List.set_cons_zero,List.set_cons_succ,i64_w,i32_w]
      rfl
     refine pure_ (i:=33) (N:=some 45) (v:=undef) (a':=?_) (yA 34 21) rfl rfl (any_of HT_.out (by kernel_rfl)) (fun _ _ _ h=>h) (Or.inr ⟨by rfl,rfl⟩) ?_ ?_;rotate_left
     ·simp only [Act.put,List.setIfInBounds_toArray,List.set_cons_zero,List.set_cons_succ,i64_w,i32_w]
      rfl
     refine pure_ (i:=34) (N:=some 46) (v:=undef) (a':=?_) (yA 35 20) rfl rfl (any_of HT_.out (by kernel_rfl)) (fun _ _ _ h=>h) (Or.inr ⟨by rfl,rfl⟩) ?_ ?_;rotate_left
     ·simp only [Act.put,List.setIfInBounds_toArray,List.set_cons_zero,List.set_cons_succ,i64_w,i32_w]
      rfl
     refine pure_ (i:=35) (N:=some 47) (v:=undef) (a':=?_) (yA 36 19) rfl rfl (any_of HT_.out (by kernel_rfl)) (fun _ _ _ h=>h) (Or.inr ⟨by rfl,rfl⟩) ?_ ?_;rotate_left
     ·simp only [Act.put,List.setIfInBounds_toArray,List.set_cons_zero,List.set_cons_succ,i64_w,i32_w]
      rfl
     refine pure_ (i:=36) (N:=some 48) (v:=undef) (a':=?_) (yA 37 18) rfl rfl (any_of HT_.out (by kernel_rfl)) (fun _ _ _ h=>h) (Or.inr ⟨by rfl,rfl⟩) ?_ ?_;rotate_left
     ·simp only [Act.put,List.setIfInBounds_toArray,List.set_cons_zero,List.set_cons_succ,i64_w,i32_w]
      rfl
     refine pure_ (i:=37) (N:=some 49) (v:=undef) (a':=?_) (yA 38 17) rfl rfl (any_of HT_.out (by kernel_rfl)) (fun _ _ _ h=>h) (Or.inr ⟨by rfl,rfl⟩) ?_ ?_;rotate_left
     ·simp only [Act.put,List.setIfInBounds_toArray,List.set_cons_zero,List.set_cons_succ,i64_w,i32_w]
      rfl
     refine pure_ (i:=38) (N:=some 50) (v:=undef) (a':=?_) (yA 39 16) rfl rfl (any_of HT_.out (by kernel_rfl)) (fun _ _ _ h=>h) (Or.inr ⟨by rfl,rfl⟩) ?_ ?_;rotate_left
     ·simp only [Act.put,List.setIfInBounds_toArray,List.set_cons_zero,List.set_cons_succ,i64_w,i32_w]
      rfl
     refine pure_ (i:=39) (N:=some 51) (v:=undef) (a':=?_) (yA 40 15) rfl rfl (any_of HT_.out (by kernel_rfl)) (fun _ _ _ h=>h) (Or.inr ⟨by rfl,rfl⟩) ?_ ?_;rotate_left
     ·simp only [Act.put,List.setIfInBounds_toArray,List.set_cons_zero,List.set_cons_succ,i64_w,i32_w]
      rfl
     refine pureZ 40 (some 52) (yA 41 14) ?_;refine pureZ 41 (some 53) (yA 42 13) ?_;refine pure_ (i:=42) (N:=some 54) (v:=undef) (a':=?_) (yA 43 12) rfl rfl (any_of HT_.out (by kernel_rfl)) (fun _ _ _ h=>h) (Or.inr ⟨by rfl,rfl⟩) ?_ ?_;rotate_left
     ·simp only [Act.put,List.setIfInBounds_toArray,List.set_cons_zero,List.set_cons_succ,i64_w,i32_w]
      rfl
     refine pure_ (i:=43) (N:=some 55) (v:=undef) (a':=?_) (yA 44 11) rfl rfl (any_of HT_.out (by kernel_rfl)) (fun _ _ _ h=>h) (Or.inr ⟨by rfl,rfl⟩) ?_ ?_;rotate_left
     ·simp only [Act.put,List.setIfInBounds_toArray,List.set_cons_zero,List.set_cons_succ,i64_w,i32_w]
      rfl
     refine pure_ (i:=44) (N:=some 56) (v:=undef) (a':=?_) (yA 45 10) rfl rfl (any_of HT_.out (by kernel_rfl)) (fun _ _ _ h=>h) (Or.inr ⟨by rfl,rfl⟩) ?_ ?_;rotate_left
     ·simp only [Act.put,List.setIfInBounds_toArray,List.set_cons_zero,List.set_cons_succ,i64_w,i32_w]
      rfl
     refine pure_ (i:=45) (N:=some 57) (v:=undef) (a':=?_) (yA 46 9) rfl rfl (any_of HT_.out (by kernel_rfl)) (fun _ _ _ h=>h) (Or.inr ⟨by rfl,rfl⟩) ?_ ?_;rotate_left
     ·simp only [Act.put,List.setIfInBounds_toArray,List.set_cons_zero,List.set_cons_succ,i64_w,i32_w]
      rfl
     refine pure_ (i:=46) (N:=some 58) (v:=undef) (a':=?_) (yA 47 8) rfl rfl (any_of HT_.out (by kernel_rfl)) (fun _ _ _ h=>h) (Or.inr ⟨by rfl,rfl⟩) ?_ ?_;rotate_left
     ·simp only [Act.put,List.setIfInBounds_toArray,List.set_cons_zero,List.set_cons_succ,i64_w,i32_w]
      rfl
     refine pureZ 47 (some 59) (yA 48 7) ?_;refine pureZ 48 (some 60) (yA 49 6) ?_;refine pure_ (i:=49) (N:=some 61) (v:=undef) (a':=?_) (yA 50 5) rfl rfl (any_of HT_.out (by kernel_rfl)) (fun _ _ _ h=>h) (Or.inr ⟨by rfl,rfl⟩) ?_ ?_;rotate_left
     ·simp only [Act.put,List.setIfInBounds_toArray,List.set_cons_zero,List.set_cons_succ,i64_w,i32_w]
      rfl
     refine pure_ (i:=50) (N:=some 62) (v:=undef) (a':=?_) (yA 51 4) rfl rfl (any_of HT_.out (by kernel_rfl)) (fun _ _ _ h=>h) (Or.inr ⟨by rfl,rfl⟩) ?_ ?_;rotate_left
     ·simp only [Act.put,List.setIfInBounds_toArray,List.set_cons_zero,List.set_cons_succ,i64_w,i32_w]
      rfl
     refine pure_ (i:=51) (N:=some 63) (v:=undef) (a':=?_) (yA 52 3) rfl rfl (any_of HT_.out (by kernel_rfl)) (fun _ _ _ h=>h) (Or.inr ⟨by rfl,rfl⟩) ?_ ?_;rotate_left
     ·simp only [Act.put,List.setIfInBounds_toArray,List.set_cons_zero,List.set_cons_succ,i64_w,i32_w]
      rfl
     refine pure_ (i:=52) (N:=some 64) (v:=undef) (a':=?_) (yA 53 2) rfl rfl (any_of HT_.out (by kernel_rfl)) (fun _ _ _ h=>h) (Or.inr ⟨by rfl,rfl⟩) ?_ ?_;rotate_left
     ·simp only [Act.put,List.setIfInBounds_toArray,List.set_cons_zero,List.set_cons_succ,i64_w,i32_w]
      rfl
     refine pure_ (i:=53) (N:=some 65) (v:=undef) (a':=?_) (yA 54 1) rfl rfl (any_of HT_.out (by kernel_rfl)) (fun _ _ _ h=>h) (Or.inr ⟨by rfl,rfl⟩) ?_ ?_;rotate_left
     ·simp only [Act.put,List.setIfInBounds_toArray,List.set_cons_zero,List.set_cons_succ,i64_w,i32_w]
      rfl
     refine pureZ 54 (some 66) (yA 55 0) ?_;refine done_ (done_of HT_.out (by kernel_rfl)) ?_;try go_wp2
     go_meet
     case rel=>exact ⟨_,(true),zz7,H',⟨zz62⟩,⟨(zz2 BK267)⟩,⟨(zz2 BK269)⟩,⟨(zz3 HB GE267 GE269)⟩⟩
   ·have H':=A_ H
    clear H;try go_wp2
    have n0_:Aside0 (((((((((w8.setCell ⟨gb269,0,none⟩ (.string ((rd_T82 l0_2 a1).f0))).setCell ⟨gb269,1,none⟩ (.int .i64 ((rd_T82 l0_2 a1).f1))).setCell ⟨gb269,2,none⟩ (.bool ((rd_T82 l0_2 a1).f2))).setCell ⟨gb269,3,none⟩ (.slice A268_3 ((rd_T82 l0_2 a1).f3.f0).length c268_3)).setCell ⟨gb269,4,none⟩ (.slice A268_4 ((rd_T82 l0_2 a1).f3.f1).length c268_4)).setCell ⟨gb269,5,none⟩ (.int .i64 ((rd_T82 l0_2 a1).f3.f2))).setCell ⟨gb269,6,none⟩ (.int .i64 ((rd_T82 l0_2 a1).f4))).setCell ⟨gb269,7,none⟩ (.slice A268_7 ((rd_T82 l0_2 a1).f5).length c268_7)).heap[gb267]?=some (.cells #[.string a0_0,.int .i64 a0_1,.slice (some ad268) l0_2.length c0_2,.slice A0_3 l0_3.length c0_3,.slice A0_4 l0_4.length c0_4] 33 (0,0))):=⟨(zz4 BK267 NB267_269)⟩;have n1_:Aside0 (((((((((w8.setCell ⟨gb269,0,none⟩ (.string ((rd_T82 l0_2 a1).f0))).setCell ⟨gb269,1,none⟩ (.int .i64 ((rd_T82 l0_2 a1).f1))).setCell ⟨gb269,2,none⟩ (.bool ((rd_T82 l0_2 a1).f2))).setCell ⟨gb269,3,none⟩ (.slice A268_3 ((rd_T82 l0_2 a1).f3.f0).length c268_3)).setCell ⟨gb269,4,none⟩ (.slice A268_4 ((rd_T82 l0_2 a1).f3.f1).length c268_4)).setCell ⟨gb269,5,none⟩ (.int .i64 ((rd_T82 l0_2 a1).f3.f2))).setCell ⟨gb269,6,none⟩ (.int .i64 ((rd_T82 l0_2 a1).f4))).setCell ⟨gb269,7,none⟩ (.slice A268_7 ((rd_T82 l0_2 a1).f5).length c268_7)).heap[gb269]?=some (.cells #[.string ((rd_T82 l0_2 a1).f0),.int .i64 ((rd_T82 l0_2 a1).f1),.bool ((rd_T82 l0_2 a1).f2),.slice A268_3 ((rd_T82 l0_2 a1).f3.f0).length c268_3,.slice A268_4 ((rd_T82 l0_2 a1).f3.f1).length c268_4,.int .i64 ((rd_T82 l0_2 a1).f3.f2),.int .i64 ((rd_T82 l0_2 a1).f4),.slice A268_7 ((rd_T82 l0_2 a1).f5).length c268_7] 82 (0,0))):=⟨(zz169 BK269)⟩;have n2_:Aside0 (Below w.heap.size w ((((((((w8.setCell ⟨gb269,0,none⟩ (.string ((rd_T82 l0_2 a1).f0))).setCell ⟨gb269,1,none⟩ (.int .i64 ((rd_T82 l0_2 a1).f1))).setCell ⟨gb269,2,none⟩ (.bool ((rd_T82 l0_2 a1).f2))).setCell ⟨gb269,3,none⟩ (.slice A268_3 ((rd_T82 l0_2 a1).f3.f0).length c268_3)).setCell ⟨gb269,4,none⟩ (.slice A268_4 ((rd_T82 l0_2 a1).f3.f1).length c268_4)).setCell ⟨gb269,5,none⟩ (.int .i64 ((rd_T82 l0_2 a1).f3.f2))).setCell ⟨gb269,6,none⟩ (.int .i64 ((rd_T82 l0_2 a1).f4))).setCell ⟨gb269,7,none⟩ (.slice A268_7 ((rd_T82 l0_2 a1).f5).length c268_7))):=⟨(zz3 HB GE267 GE269)⟩;(try clear BK267)
    (try clear BK269)
    (try clear HB)
    generalize ((((((((w8.setCell ⟨gb269,0,none⟩ (.string ((rd_T82 l0_2 a1).f0))).setCell ⟨gb269,1,none⟩ (.int .i64 ((rd_T82 l0_2 a1).f1))).setCell ⟨gb269,2,none⟩ (.bool ((rd_T82 l0_2 a1).f2))).setCell ⟨gb269,3,none⟩ (.slice A268_3 ((rd_T82 l0_2 a1).f3.f0).length c268_3)).setCell ⟨gb269,4,none⟩ (.slice A268_4 ((rd_T82 l0_2 a1).f3.f1).length c268_4)).setCell ⟨gb269,5,none⟩ (.int .i64 ((rd_T82 l0_2 a1).f3.f2))).setCell ⟨gb269,6,none⟩ (.int .i64 ((rd_T82 l0_2 a1).f4))).setCell ⟨gb269,7,none⟩ (.slice A268_7 ((rd_T82 l0_2 a1).f5).length c268_7))=w45 at n0_ n1_ n2_ ⊢;have BK267:=n0_;have BK269:=n1_;have HB:=n2_;clear n0_ n1_ n2_;replace BK267:=A_ (blk_drew BK267.out);replace BK269:=A_ (blk_drew BK269.out);replace HB:=A_ (below_drew1 HB.out);refine start_ (n:=55) (S:=fun w'=>w'.cell? ⟨gb269,0,none⟩=some (.string ((rd_T82 l0_2 a1).f0))∧w'.cell? ⟨gb269,1,none⟩=some (.int .i64 ((rd_T82 l0_2 a1).f1))∧w'.cell? ⟨gb269,2,none⟩=some (.bool ((rd_T82 l0_2 a1).f2))∧w'.cell? ⟨gb269,3,none⟩=some (.slice A268_3 ((rd_T82 l0_2 a1).f3.f0).length c268_3)∧w'.cell? ⟨gb269,4,none⟩=some (.slice A268_4 ((rd_T82 l0_2 a1).f3.f1).length c268_4)∧w'.cell? ⟨gb269,5,none⟩=some (.int .i64 ((rd_T82 l0_2 a1).f3.f2))∧w'.cell? ⟨gb269,6,none⟩=some (.int .i64 ((rd_T82 l0_2 a1).f4))∧w'.cell? ⟨gb269,7,none⟩=some (.slice A268_7 ((rd_T82 l0_2 a1).f5).length c268_7)) (ds:=[]) #[yF,yF,yF,yF,yF,yF,yF,yF,yF,yF,yF,yF,yF,yF,yF,yF,yF,yF,yF,yF,yF,yF,yF,yF,yF,yF,yF,yF,yF,yF,yF,yF,yF,yF,yF,yF,yF,yF,yF,yF,yF,yF,yF,yF,yF,yF,yF,yF,yF,yF,yF,yF,yF,yF,yF] (by kernel_rfl) rfl rfl ⟨(blk_cell BK269.out 0).trans rfl,(blk_cell BK269.out 1).trans rfl,(blk_cell BK269.out 2).trans rfl,(blk_cell BK269.out 3).trans rfl,(blk_cell BK269.out 4).trans rfl,(blk_cell BK269.out 5).trans rfl,(blk_cell BK269.out 6).trans rfl,(blk_cell BK269.out 7).trans rfl⟩ (fun hHeld=>?_);refine with_tabW spec_l12HouseOk.tab2 spec_l12HouseOk.bits2 (fun HT_ HW_=>?_);generalize w45.drew=w46 at BK267 BK269 HB hHeld ⊢;refine pureZ 0 (some 12) (yA 1 54) ?_;refine takeZ8 1 (some 13) (yA 2 53) hHeld ?_;refine oneZ 2 (some 14) (yA 3 52) (fun K hK=>?_);refine goes_ Tryz.func66 (by kernel_rfl) rfl #[.string ((rd_T82 l0_2 a1).f0)] (by rfl) rfl rfl zz39 ?_;with_reducible refine (spec_l1House.calls k ((rd_T82 l0_2 a1).f0) false _ A11.out).mono ?_
    rintro e w' ⟨rfl,⟨nd,rfl⟩⟩;refine ⟨_,rfl,?_⟩;refine hK.out _ _ ⟨(blk_cell BK269.out 0).trans rfl,(blk_cell BK269.out 1).trans rfl,(blk_cell BK269.out 2).trans rfl,(blk_cell BK269.out 3).trans rfl,(blk_cell BK269.out 4).trans rfl,(blk_cell BK269.out 5).trans rfl,(blk_cell BK269.out 6).trans rfl,(blk_cell BK269.out 7).trans rfl⟩ (fun hHeld=>?_);clear hK K;refine nZ 14 ?_;refine pureZ 3 (some 15) (yA 4 51) ?_;refine pureZ 4 (some 16) (yA 5 50) ?_;refine pure_ (i:=5) (N:=some 17) (v:=undef) (a':=?_) (yA 6 49) rfl rfl (any_of HT_.out (by kernel_rfl)) (fun _ _ _ h=>h) (Or.inr ⟨by rfl,rfl⟩) ?_ ?_;rotate_left
    ·simp only [Act.put,List.setIfInBounds_toArray,List.set_cons_zero,List.set_cons_succ,i64_w,i32_w]
     rfl
    refine pure_ (i:=6) (N:=some 18) (v:=undef) (a':=?_) (yA 7 48) rfl rfl (any_of HT_.out (by kernel_rfl)) (fun _ _ _ h=>h) (Or.inr ⟨by rfl,rfl⟩) ?_ ?_;rotate_left
    ·simp only [Act.put,List.setIfInBounds_toArray,List.set_cons_zero,List.set_cons_succ,i64_w,i32_w]
     rfl
    refine pure_ (i:=7) (N:=some 19) (v:=undef) (a':=?_) (yA 8 47) rfl rfl (any_of HT_.out (by kernel_rfl)) (fun _ _ _ h=>h) (Or.inr ⟨by rfl,rfl⟩) ?_ ?_;rotate_left
    ·simp only [Act.put,List.setIfInBounds_toArray,List.set_cons_zero,List.set_cons_succ,i64_w,i32_w]
     rfl
    refine pure_ (i:=8) (N:=some 20) (v:=undef) (a':=?_) (yA 9 46) rfl rfl (any_of HT_.out (by kernel_rfl)) (fun _ _ _ h=>h) (Or.inr ⟨by rfl,rfl⟩) ?_ ?_;rotate_left
    ·simp only [Act.put,List.setIfInBounds_toArray,List.set_cons_zero,List.set_cons_succ,i64_w,i32_w]
     rfl
    refine pure_ (i:=9) (N:=some 21) (v:=undef) (a':=?_) (yA 10 45) rfl rfl (any_of HT_.out (by kernel_rfl)) (fun _ _ _ h=>h) (Or.inr ⟨by rfl,rfl⟩) ?_ ?_;rotate_left
    ·simp only [Act.put,List.setIfInBounds_toArray,List.set_cons_zero,List.set_cons_succ,i64_w,i32_w]
     rfl
    refine pure_ (i:=10) (N:=some 22) (v:=undef) (a':=?_) (yA 11 44) rfl rfl (any_of HT_.out (by kernel_rfl)) (fun _ _ _ h=>h) (Or.inr ⟨by rfl,rfl⟩) ?_ ?_;rotate_left
    ·simp only [Act.put,List.setIfInBounds_toArray,List.set_cons_zero,List.set_cons_succ,i64_w,i32_w]
     rfl
    refine pureZ 11 (some 23) (yA 12 43) ?_;refine pureZ 12 (some 24) (yA 13 42) ?_;refine pure_ (i:=13) (N:=some 25) (v:=undef) (a':=?_) (yA 14 41) rfl rfl (any_of HT_.out (by kernel_rfl)) (fun _ _ _ h=>h) (Or.inr ⟨by rfl,rfl⟩) ?_ ?_;rotate_left
    ·simp only [Act.put,List.setIfInBounds_toArray,List.set_cons_zero,List.set_cons_succ,i64_w,i32_w]
     rfl
    refine pure_ (i:=14) (N:=some 26) (v:=undef) (a':=?_) (yA 15 40) rfl rfl (any_of HT_.out (by kernel_rfl)) (fun _ _ _ h=>h) (Or.inr ⟨by rfl,rfl⟩) ?_ ?_;rotate_left
    ·simp only [Act.put,List.setIfInBounds_toArray,List.set_cons_zero,List.set_cons_succ,i64_w,i32_w]
     rfl
    refine pure_ (i:=15) (N:=some 27) (v:=undef) (a':=?_) (yA 16 39) rfl rfl (any_of HT_.out (by kernel_rfl)) (fun _ _ _ h=>h) (Or.inr ⟨by rfl,rfl⟩) ?_ ?_;rotate_left
    ·simp only [Act.put,List.setIfInBounds_toArray,List.set_cons_zero,List.set_cons_succ,i64_w,i32_w]
     rfl
    refine pure_ (i:=16) (N:=some 28) (v:=undef) (a':=?_) (yA 17 38) rfl rfl (any_of HT_.out (by kernel_rfl)) (fun _ _ _ h=>h) (Or.inr ⟨by rfl,rfl⟩) ?_ ?_;rotate_left
    ·simp only [Act.put,List.setIfInBounds_toArray,List.set_cons_zero,List.set_cons_succ,i64_w,i32_w]
     rfl
    refine pureZ 17 (some 29) (yA 18 37) ?_;refine pureZ 18 (some 30) (yA 19 36) ?_;refine pure_ (i:=19) (N:=some 31) (v:=undef) (a':=?_) (yA 20 35) rfl rfl (any_of HT_.out (by kernel_rfl)) (fun _ _ _ h=>h) (Or.inr ⟨by rfl,rfl⟩) ?_ ?_;rotate_left
    ·simp only [Act.put,List.setIfInBounds_toArray,List.set_cons_zero,List.set_cons_succ,i64_w,i32_w]
     rfl
    refine pure_ (i:=20) (N:=some 32) (v:=undef) (a':=?_) (yA 21 34) rfl rfl (any_of HT_.out (by kernel_rfl)) (fun _ _ _ h=>h) (Or.inr ⟨by rfl,rfl⟩) ?_ ?_;rotate_left
    ·simp only [Act.put,List.setIfInBounds_toArray,List.set_cons_zero,List.set_cons_succ,i64_w,i32_w]
     rfl
    refine pure_ (i:=21) (N:=some 33) (v:=undef) (a':=?_) (yA 22 33) rfl rfl (any_of HT_.out (by kernel_rfl)) (fun _ _ _ h=>h) (Or.inr ⟨by rfl,rfl⟩) ?_ ?_;rotate_left
    ·simp only [Act.put,List.setIfInBounds_toArray,List.set_cons_zero,List.set_cons_succ,i64_w,i32_w]
     rfl
    refine pure_ (i:=22) (N:=some 34) (v:=undef) (a':=?_) (yA 23 32) rfl rfl (any_of HT_.out (by kernel_rfl)) (fun _ _ _ h=>h) (Or.inr ⟨by rfl,rfl⟩) ?_ ?_;rotate_left
    ·simp only [Act.put,List.setIfInBounds_toArray,List.set_cons_zero,List.set_cons_succ,i64_w,i32_w]
     rfl
    refine pureZ 23 (some 35) (yA 24 31) ?_;refine pureZ 24 (some 36) (yA 25 30) ?_;refine pure_ (i:=25) (N:=some 37) (v:=undef) (a':=?_) (yA 26 29) rfl rfl (any_of HT_.out (by kernel_rfl)) (fun _ _ _ h=>h) (Or.inr ⟨by rfl,rfl⟩) ?_ ?_;rotate_left
    ·simp only [Act.put,List.setIfInBounds_toArray,List.set_cons_zero,List.set_cons_succ,i64_w,i32_w]
     rfl
    refine pure_ (i:=26) (N:=some 38) (v:=undef) (a':=?_) (yA 27 28) rfl rfl (any_of HT_.out (by kernel_rfl)) (fun _ _ _ h=>h) (Or.inr ⟨by rfl,rfl⟩) ?_ ?_;rotate_left
    ·simp only [Act.put,List.setIfInBounds_toArray,List.set_cons_zero,List.set_cons_succ,i64_w,i32_w]
     rfl
    refine pure_ (i:=27) (N:=some 39) (v:=undef) (a':=?_) (yA 28 27) rfl rfl (any_of HT_.out (by kernel_rfl)) (fun _ _ _ h=>h) (Or.inr ⟨by rfl,rfl⟩) ?_ ?_;rotate_left
    ·simp only [Act.put,List.setIfInBounds_toArray,List.set_cons_zero,List.set_cons_succ,i64_w,i32_w]
     rfl
    refine pure_ (i:=28) (N:=some 40) (v:=undef) (a':=?_) (yA 29 26) rfl rfl (any_of HT_.out (by kernel_rfl)) (fun _ _ _ h=>h) (Or.inr ⟨by rfl,rfl⟩) ?_ ?_;rotate_left
    ·simp only [Act.put,List.setIfInBounds_toArray,List.set_cons_zero,List.set_cons_succ,i64_w,i32_w]
     rfl
    refine pure_ (i:=29) (N:=some 41) (v:=undef) (a':=?_) (yA 30 25) rfl rfl (any_of HT_.out (by kernel_rfl)) (fun _ _ _ h=>h) (Or.inr ⟨by rfl,rfl⟩) ?_ ?_;rotate_left
    ·simp only [Act.put,List.setIfInBounds_toArray,List.set_cons_zero,List.set_cons_succ,i64_w,i32_w]
     rfl
    refine pureZ 30 (some 42) (yA 31 24) ?_;refine pureZ 31 (some 43) (yA 32 23) ?_;refine pure_ (i:=32) (N:=some 44) (v:=undef) (a':=?_) (yA 33 22) rfl rfl (any_of HT_.out (by kernel_rfl)) (fun _ _ _ h=>h) (Or.inr ⟨by rfl,rfl⟩) ?_ ?_;rotate_left
    ·simp only [Act.put,List.setIfInBounds_toArray,List.set_cons_zero,List.set_cons_succ,i64_w,i32_w]
     rfl
    refine pure_ (i:=33) (N:=some 45) (v:=undef) (a':=?_) (yA 34 21) rfl rfl (any_of HT_.out (by kernel_rfl)) (fun _ _ _ h=>h) (Or.inr ⟨by rfl,rfl⟩) ?_ ?_;rotate_left
    ·simp only [Act.put,List.setIfInBounds_toArray,List.set_cons_zero,List.set_cons_succ,i64_w,i32_w]
     rfl
    refine pure_ (i:=34) (N:=some 46) (v:=undef) (a':=?_) (yA 35 20) rfl rfl (any_of HT_.out (by kernel_rfl)) (fun _ _ _ h=>h) (Or.inr ⟨by rfl,rfl⟩) ?_ ?_;rotate_left
    ·simp only [Act.put,List.setIfInBounds_toArray,List.set_cons_zero,List.set_cons_succ,i64_w,i32_w]
     rfl
    refine pure_ (i:=35) (N:=some 47) (v:=undef) (a':=?_) (yA 36 19) rfl rfl (any_of HT_.out (by kernel_rfl)) (fun _ _ _ h=>h) (Or.inr ⟨by rfl,rfl⟩) ?_ ?_;rotate_left
    ·simp only [Act.put,List.setIfInBounds_toArray,List.set_cons_zero,List.set_cons_succ,i64_w,i32_w]
     rfl
    refine pure_ (i:=36) (N:=some 48) (v:=undef) (a':=?_) (yA 37 18) rfl rfl (any_of HT_.out (by kernel_rfl)) (fun _ _ _ h=>h) (Or.inr ⟨by rfl,rfl⟩) ?_ ?_;rotate_left
    ·simp only [Act.put,List.setIfInBounds_toArray,List.set_cons_zero,List.set_cons_succ,i64_w,i32_w]
     rfl
    refine pure_ (i:=37) (N:=some 49) (v:=undef) (a':=?_) (yA 38 17) rfl rfl (any_of HT_.out (by kernel_rfl)) (fun _ _ _ h=>h) (Or.inr ⟨by rfl,rfl⟩) ?_ ?_;rotate_left
    ·simp only [Act.put,List.setIfInBounds_toArray,List.set_cons_zero,List.set_cons_succ,i64_w,i32_w]
     rfl
    refine pure_ (i:=38) (N:=some 50) (v:=undef) (a':=?_) (yA 39 16) rfl rfl (any_of HT_.out (by kernel_rfl)) (fun _ _ _ h=>h) (Or.inr ⟨by rfl,rfl⟩) ?_ ?_;rotate_left
    ·simp only [Act.put,List.setIfInBounds_toArray,List.set_cons_zero,List.set_cons_succ,i64_w,i32_w]
     rfl
    refine pure_ (i:=39) (N:=some 51) (v:=undef) (a':=?_) (yA 40 15) rfl rfl (any_of HT_.out (by kernel_rfl)) (fun _ _ _ h=>h) (Or.inr ⟨by rfl,rfl⟩) ?_ ?_;rotate_left
    ·simp only [Act.put,List.setIfInBounds_toArray,List.set_cons_zero,List.set_cons_succ,i64_w,i32_w]
     rfl
    refine pureZ 40 (some 52) (yA 41 14) ?_;refine pureZ 41 (some 53) (yA 42 13) ?_;refine pure_ (i:=42) (N:=some 54) (v:=undef) (a':=?_) (yA 43 12) rfl rfl (any_of HT_.out (by kernel_rfl)) (fun _ _ _ h=>h) (Or.inr ⟨by rfl,rfl⟩) ?_ ?_;rotate_left
    ·simp only [Act.put,List.setIfInBounds_toArray,List.set_cons_zero,List.set_cons_succ,i64_w,i32_w]
     rfl
    refine pure_ (i:=43) (N:=some 55) (v:=undef) (a':=?_) (yA 44 11) rfl rfl (any_of HT_.out (by kernel_rfl)) (fun _ _ _ h=>h) (Or.inr ⟨by rfl,rfl⟩) ?_ ?_;rotate_left
    ·simp only [Act.put,List.setIfInBounds_toArray,List.set_cons_zero,List.set_cons_succ,i64_w,i32_w]
     rfl
    refine pure_ (i:=44) (N:=some 56) (v:=undef) (a':=?_) (yA 45 10) rfl rfl (any_of HT_.out (by kernel_rfl)) (fun _ _ _ h=>h) (Or.inr ⟨by rfl,rfl⟩) ?_ ?_;rotate_left
    ·simp only [Act.put,List.setIfInBounds_toArray,List.set_cons_zero,List.set_cons_succ,i64_w,i32_w]
     rfl
    refine pure_ (i:=45) (N:=some 57) (v:=undef) (a':=?_) (yA 46 9) rfl rfl (any_of HT_.out (by kernel_rfl)) (fun _ _ _ h=>h) (Or.inr ⟨by rfl,rfl⟩) ?_ ?_;rotate_left
    ·simp only [Act.put,List.setIfInBounds_toArray,List.set_cons_zero,List.set_cons_succ,i64_w,i32_w]
     rfl
    refine pure_ (i:=46) (N:=some 58) (v:=undef) (a':=?_) (yA 47 8) rfl rfl (any_of HT_.out (by kernel_rfl)) (fun _ _ _ h=>h) (Or.inr ⟨by rfl,rfl⟩) ?_ ?_;rotate_left
    ·simp only [Act.put,List.setIfInBounds_toArray,List.set_cons_zero,List.set_cons_succ,i64_w,i32_w]
     rfl
    refine pureZ 47 (some 59) (yA 48 7) ?_;refine pureZ 48 (some 60) (yA 49 6) ?_;refine pure_ (i:=49) (N:=some 61) (v:=undef) (a':=?_) (yA 50 5) rfl rfl (any_of HT_.out (by kernel_rfl)) (fun _ _ _ h=>h) (Or.inr ⟨by rfl,rfl⟩) ?_ ?_;rotate_left
    ·simp only [Act.put,List.setIfInBounds_toArray,List.set_cons_zero,List.set_cons_succ,i64_w,i32_w]
     rfl
    refine pure_ (i:=50) (N:=some 62) (v:=undef) (a':=?_) (yA 51 4) rfl rfl (any_of HT_.out (by kernel_rfl)) (fun _ _ _ h=>h) (Or.inr ⟨by rfl,rfl⟩) ?_ ?_;rotate_left
    ·simp only [Act.put,List.setIfInBounds_toArray,List.set_cons_zero,List.set_cons_succ,i64_w,i32_w]
     rfl
    refine pure_ (i:=51) (N:=some 63) (v:=undef) (a':=?_) (yA 52 3) rfl rfl (any_of HT_.out (by kernel_rfl)) (fun _ _ _ h=>h) (Or.inr ⟨by rfl,rfl⟩) ?_ ?_;rotate_left
    ·simp only [Act.put,List.setIfInBounds_toArray,List.set_cons_zero,List.set_cons_succ,i64_w,i32_w]
     rfl
    refine pure_ (i:=52) (N:=some 64) (v:=undef) (a':=?_) (yA 53 2) rfl rfl (any_of HT_.out (by kernel_rfl)) (fun _ _ _ h=>h) (Or.inr ⟨by rfl,rfl⟩) ?_ ?_;rotate_left
    ·simp only [Act.put,List.setIfInBounds_toArray,List.set_cons_zero,List.set_cons_succ,i64_w,i32_w]
     rfl
    refine pure_ (i:=53) (N:=some 65) (v:=undef) (a':=?_) (yA 54 1) rfl rfl (any_of HT_.out (by kernel_rfl)) (fun _ _ _ h=>h) (Or.inr ⟨by rfl,rfl⟩) ?_ ?_;rotate_left
    ·simp only [Act.put,List.setIfInBounds_toArray,List.set_cons_zero,List.set_cons_succ,i64_w,i32_w]
     rfl
    refine pureZ 54 (some 66) (yA 55 0) ?_;refine done_ (done_of HT_.out (by kernel_rfl)) ?_;try go_wp2
    go_meet
    case rel=>exact ⟨_,(true),zz7,H',⟨zz62⟩,⟨(zz2 BK267)⟩,⟨(zz2 BK269)⟩,⟨(zz3 HB GE267 GE269)⟩⟩
  case rest=>
   clear HC5;obtain ⟨kq,x66_4,rfl,HA,HJ4,BK267,BK269,HB⟩:=hcut;cases kq with
   | zero=>exact absurd HA.out (by simp [spec_l12HouseOk.j0])
   | succ kj4=>
    obtain ⟨H⟩:=HA;simp only [spec_l12HouseOk.j0] at H
    replace H:=iteB H;rcases H with ⟨rfl,H⟩|⟨rfl,H⟩
    ·obtain rfl:=sI H
     go_wp2
     go_ret
     exact ⟨zz5,(zz3 HB GE267 GE269)⟩
    ·have H':=A_ H
     clear H;go_wp2
     go_loopg [6] kj4 (fun kq v6 w'=>∃ (x6_2:Int),v6=.int .i64 x6_2∧Aside0 (spec_l12HouseOk.l0 kq x6_2 a0_0 a0_1 l0_2 l0_3 l0_4 ((rd_T82 l0_2 a1).f0) ((rd_T82 l0_2 a1).f1) ((rd_T82 l0_2 a1).f2) ((rd_T82 l0_2 a1).f3.f0) ((rd_T82 l0_2 a1).f3.f1) ((rd_T82 l0_2 a1).f3.f2) ((rd_T82 l0_2 a1).f4) ((rd_T82 l0_2 a1).f5)=some r)∧Aside0 (kq≤kj4)∧Aside0 (w'.heap[gb267]?=some (.cells #[.string a0_0,.int .i64 a0_1,(.slice (some ad268) l0_2.length c0_2),(.slice A0_3 l0_3.length c0_3),(.slice A0_4 l0_4.length c0_4)] 33 (0,0)))∧Aside0 (w'.heap[gb269]?=some (.cells #[.string ((rd_T82 l0_2 a1).f0),.int .i64 ((rd_T82 l0_2 a1).f1),.bool ((rd_T82 l0_2 a1).f2),(.slice A268_3 ((rd_T82 l0_2 a1).f3.f0).length c268_3),(.slice A268_4 ((rd_T82 l0_2 a1).f3.f1).length c268_4),.int .i64 ((rd_T82 l0_2 a1).f3.f2),.int .i64 ((rd_T82 l0_2 a1).f4),(.slice A268_7 ((rd_T82 l0_2 a1).f5).length c268_7)] 82 (0,0)))∧Aside0 (Below w.heap.size w w'))
     case atStart=>exact ⟨(0),zz7,H',⟨Nat.le_refl _⟩,⟨(zz2 BK267)⟩,⟨(zz2 BK269)⟩,⟨(zz3 HB GE267 GE269)⟩⟩
     case round=>
      clear H';obtain ⟨x6_2,rfl,HA,HK2,BK267,BK269,HB⟩:=hrel;cases gk with
      | zero=>exact absurd HA.out (by simp [spec_l12HouseOk.l0])
      | succ k2=>
       obtain ⟨H⟩:=HA;simp only [spec_l12HouseOk.l0] at H
       replace H:=iteEd H;rcases H with ⟨c48b0,H⟩|⟨c48b0,H⟩
       ·replace H:=iteNd H
        obtain ⟨c49b0,H⟩:=H;replace H:=bindA H;obtain ⟨t277,A50,H⟩:=H;have HF51:=A_ H;clear H;have hnb52:=NB269_267.out;have hnc52:=NB267_269.out;have hcz53_0:wr.cell? ⟨gb269,0,none⟩=some (.string ((rd_T82 l0_2 a1).f0)):=(blk_cell BK269.out 0).trans rfl;have hcz53_1:wr.cell? ⟨gb269,1,none⟩=some (.int .i64 ((rd_T82 l0_2 a1).f1)):=(blk_cell BK269.out 1).trans rfl;have hcz53_2:wr.cell? ⟨gb269,2,none⟩=some (.bool ((rd_T82 l0_2 a1).f2)):=(blk_cell BK269.out 2).trans rfl;have hcz53_3:wr.cell? ⟨gb269,3,none⟩=some (.slice A268_3 ((rd_T82 l0_2 a1).f3.f0).length c268_3):=(blk_cell BK269.out 3).trans rfl;have hcz53_4:wr.cell? ⟨gb269,4,none⟩=some (.slice A268_4 ((rd_T82 l0_2 a1).f3.f1).length c268_4):=(blk_cell BK269.out 4).trans rfl;have hcz53_5:wr.cell? ⟨gb269,5,none⟩=some (.int .i64 ((rd_T82 l0_2 a1).f3.f2)):=(blk_cell BK269.out 5).trans rfl;have hcz53_6:wr.cell? ⟨gb269,6,none⟩=some (.int .i64 ((rd_T82 l0_2 a1).f4)):=(blk_cell BK269.out 6).trans rfl;have hcz53_7:wr.cell? ⟨gb269,7,none⟩=some (.slice A268_7 ((rd_T82 l0_2 a1).f5).length c268_7):=(blk_cell BK269.out 7).trans rfl;have hfz53_0:=blk_frozen BK269.out 0;have hfz53_1:=blk_frozen BK269.out 1;have hfz53_2:=blk_frozen BK269.out 2;have hfz53_3:=blk_frozen BK269.out 3;have hfz53_4:=blk_frozen BK269.out 4;have hfz53_5:=blk_frozen BK269.out 5;have hfz53_6:=blk_frozen BK269.out 6;have hfz53_7:=blk_frozen BK269.out 7;obtain ⟨⟨ad276,e276,hx276_0,hx276_1⟩,p276,q276⟩:=atB (at_T104 HR268_4.out x6_2);cases e276
        obtain ⟨hx276_0,hx276_1⟩:=cb2 HB hx276_0 hx276_1;go_upto_if 83 with (first|(refine gR 68 (some 82) Tryz.func68 (spec_RuleOk.calls k2 ((rd_T104 ((rd_T82 l0_2 a1).f3.f1) x6_2).f1) t277 _ A50.out) ?_;rintro w' ⟨nd,rfl⟩))
        obtain ⟨H⟩:=HF51;replace H:=iteB H;rcases H with ⟨rfl,H⟩|⟨rfl,H⟩
        ·have H':=A_ H
         clear H;go_wp2
         go_roundg k2
         case measure=>have:=HJ4.out;have:=HK2.out;omega
         case rel=>exact ⟨(wrap64 (x6_2+1)),zz7,H',⟨(zz71 HJ4 HK2)⟩,⟨(zz2 BK267)⟩,⟨(zz2 BK269)⟩,⟨(zz3 HB GE267 GE269)⟩⟩
        ·obtain rfl:=sI H
         go_wp2
         go_ret
         exact ⟨zz5,(zz3 HB GE267 GE269)⟩
       ·replace H:=iteE H
        rcases H with ⟨c55,H⟩|⟨c55,H⟩
        ·have c55b0:((rd_T82 l0_2 a1).f2)=true:=c55
         clear c55;replace H:=bindA H;obtain ⟨t278,A56,H⟩:=H;obtain rfl:=sI H;have hnb57:=NB269_267.out;have hnc57:=NB267_269.out;have hcz58_0:wr.cell? ⟨gb269,0,none⟩=some (.string ((rd_T82 l0_2 a1).f0)):=(blk_cell BK269.out 0).trans rfl;have hcz58_1:wr.cell? ⟨gb269,1,none⟩=some (.int .i64 ((rd_T82 l0_2 a1).f1)):=(blk_cell BK269.out 1).trans rfl;have hcz58_2:wr.cell? ⟨gb269,2,none⟩=some (.bool ((rd_T82 l0_2 a1).f2)):=(blk_cell BK269.out 2).trans rfl;have hcz58_3:wr.cell? ⟨gb269,3,none⟩=some (.slice A268_3 ((rd_T82 l0_2 a1).f3.f0).length c268_3):=(blk_cell BK269.out 3).trans rfl;have hcz58_4:wr.cell? ⟨gb269,4,none⟩=some (.slice A268_4 ((rd_T82 l0_2 a1).f3.f1).length c268_4):=(blk_cell BK269.out 4).trans rfl;have hcz58_5:wr.cell? ⟨gb269,5,none⟩=some (.int .i64 ((rd_T82 l0_2 a1).f3.f2)):=(blk_cell BK269.out 5).trans rfl;have hcz58_6:wr.cell? ⟨gb269,6,none⟩=some (.int .i64 ((rd_T82 l0_2 a1).f4)):=(blk_cell BK269.out 6).trans rfl;have hcz58_7:wr.cell? ⟨gb269,7,none⟩=some (.slice A268_7 ((rd_T82 l0_2 a1).f5).length c268_7):=(blk_cell BK269.out 7).trans rfl;have hfz58_0:=blk_frozen BK269.out 0;have hfz58_1:=blk_frozen BK269.out 1;have hfz58_2:=blk_frozen BK269.out 2;have hfz58_3:=blk_frozen BK269.out 3;have hfz58_4:=blk_frozen BK269.out 4;have hfz58_5:=blk_frozen BK269.out 5;have hfz58_6:=blk_frozen BK269.out 6;have hfz58_7:=blk_frozen BK269.out 7;obtain ⟨_,_,_,_,_,_,_,_,_,_⟩:=cf5 BK267;go_wp2_with (first|(go_at_call 69;(try rw [show Value.bool true=Value.bool ((rd_T82 l0_2 a1).f2) from by rw [c55b0]]);(with_reducible refine (spec_l12Items.calls k2 a0_0 a0_1 _ _ l0_2 _ _ l0_3 _ _ l0_4 ((rd_T82 l0_2 a1).f0) ((rd_T82 l0_2 a1).f1) ((rd_T82 l0_2 a1).f2) _ _ ((rd_T82 l0_2 a1).f3.f0) _ _ ((rd_T82 l0_2 a1).f3.f1) ((rd_T82 l0_2 a1).f3.f2) ((rd_T82 l0_2 a1).f4) _ _ ((rd_T82 l0_2 a1).f5) t278 _ ?side1 ?side2 ?side3 ?side4 ?side5 ?side6 ?side7 ?side8 ?side9 ?side10 ?side11 ?side12 A56.out).mono ?_);(case side1=>exact (zz21 HR0_2 HB));(case side2=>exact HC0_2.out);(case side3=>exact (zz21 HR0_3 HB));(case side4=>exact HC0_3.out);(case side5=>exact (zz21 HR0_4 HB));(case side6=>exact HC0_4.out);(case side7=>exact (zz21 HR268_3 HB));(case side8=>exact HC268_3.out);(case side9=>exact (zz21 HR268_4 HB));(case side10=>exact HC268_4.out);(case side11=>exact (zz21 HR268_7 HB));(case side12=>exact HC268_7.out);rintro e w60 ⟨rfl,hb⟩;replace BK267:=A_ (bB (zz2 BK267) hb);replace BK269:=A_ (bB (zz2 BK269) hb);replace HB:=A_ (bS (zz3 HB GE267 GE269) hb);(try clear hb)))
         go_ret
         exact ⟨zz5,(zz3 HB GE267 GE269)⟩
        ·have c55b0:((rd_T82 l0_2 a1).f2)=false:=by simpa using c55
         clear c55;replace H:=iteEq H;rcases H with ⟨c61b0,c61b1,H⟩|⟨c61b0,c61b1,c61,H⟩
         ·replace H:=iteEq H
          rcases H with ⟨c62b0,c62b1,H⟩|⟨c62b0,c62b1,c62,H⟩
          ·replace H:=bindA H
           obtain ⟨t279,A63,H⟩:=H;obtain rfl:=sI H;have hnb64:=NB269_267.out;have hnc64:=NB267_269.out;have hcz65_0:wr.cell? ⟨gb269,0,none⟩=some (.string ((rd_T82 l0_2 a1).f0)):=(blk_cell BK269.out 0).trans rfl;have hcz65_1:wr.cell? ⟨gb269,1,none⟩=some (.int .i64 ((rd_T82 l0_2 a1).f1)):=(blk_cell BK269.out 1).trans rfl;have hcz65_2:wr.cell? ⟨gb269,2,none⟩=some (.bool ((rd_T82 l0_2 a1).f2)):=(blk_cell BK269.out 2).trans rfl;have hcz65_3:wr.cell? ⟨gb269,3,none⟩=some (.slice A268_3 ((rd_T82 l0_2 a1).f3.f0).length c268_3):=(blk_cell BK269.out 3).trans rfl;have hcz65_4:wr.cell? ⟨gb269,4,none⟩=some (.slice A268_4 ((rd_T82 l0_2 a1).f3.f1).length c268_4):=(blk_cell BK269.out 4).trans rfl;have hcz65_5:wr.cell? ⟨gb269,5,none⟩=some (.int .i64 ((rd_T82 l0_2 a1).f3.f2)):=(blk_cell BK269.out 5).trans rfl;have hcz65_6:wr.cell? ⟨gb269,6,none⟩=some (.int .i64 ((rd_T82 l0_2 a1).f4)):=(blk_cell BK269.out 6).trans rfl;have hcz65_7:wr.cell? ⟨gb269,7,none⟩=some (.slice A268_7 ((rd_T82 l0_2 a1).f5).length c268_7):=(blk_cell BK269.out 7).trans rfl;have hfz65_0:=blk_frozen BK269.out 0;have hfz65_1:=blk_frozen BK269.out 1;have hfz65_2:=blk_frozen BK269.out 2;have hfz65_3:=blk_frozen BK269.out 3;have hfz65_4:=blk_frozen BK269.out 4;have hfz65_5:=blk_frozen BK269.out 5;have hfz65_6:=blk_frozen BK269.out 6;have hfz65_7:=blk_frozen BK269.out 7;obtain ⟨_,_,_,_,_,_,_,_,_,_⟩:=cf5 BK267;go_wp2_with (first|(go_at_call 69;(try rw [show Value.bool false=Value.bool ((rd_T82 l0_2 a1).f2) from by rw [c55b0]]);(with_reducible refine (spec_l12Items.calls k2 a0_0 a0_1 _ _ l0_2 _ _ l0_3 _ _ l0_4 ((rd_T82 l0_2 a1).f0) ((rd_T82 l0_2 a1).f1) ((rd_T82 l0_2 a1).f2) _ _ ((rd_T82 l0_2 a1).f3.f0) _ _ ((rd_T82 l0_2 a1).f3.f1) ((rd_T82 l0_2 a1).f3.f2) ((rd_T82 l0_2 a1).f4) _ _ ((rd_T82 l0_2 a1).f5) t279 _ ?side1 ?side2 ?side3 ?side4 ?side5 ?side6 ?side7 ?side8 ?side9 ?side10 ?side11 ?side12 A63.out).mono ?_);(case side1=>exact (zz21 HR0_2 HB));(case side2=>exact HC0_2.out);(case side3=>exact (zz21 HR0_3 HB));(case side4=>exact HC0_3.out);(case side5=>exact (zz21 HR0_4 HB));(case side6=>exact HC0_4.out);(case side7=>exact (zz21 HR268_3 HB));(case side8=>exact HC268_3.out);(case side9=>exact (zz21 HR268_4 HB));(case side10=>exact HC268_4.out);(case side11=>exact (zz21 HR268_7 HB));(case side12=>exact HC268_7.out);rintro e w67 ⟨rfl,hb⟩;replace BK267:=A_ (bB (zz2 BK267) hb);replace BK269:=A_ (bB (zz2 BK269) hb);replace HB:=A_ (bS (zz3 HB GE267 GE269) hb);(try clear hb)))
           go_ret
           exact ⟨zz5,(zz3 HB GE267 GE269)⟩
          ·obtain rfl:=sI H
           have hnb68:=NB269_267.out;have hnc68:=NB267_269.out;have hcz69_0:wr.cell? ⟨gb269,0,none⟩=some (.string ((rd_T82 l0_2 a1).f0)):=(blk_cell BK269.out 0).trans rfl;have hcz69_1:wr.cell? ⟨gb269,1,none⟩=some (.int .i64 ((rd_T82 l0_2 a1).f1)):=(blk_cell BK269.out 1).trans rfl;have hcz69_2:wr.cell? ⟨gb269,2,none⟩=some (.bool ((rd_T82 l0_2 a1).f2)):=(blk_cell BK269.out 2).trans rfl;have hcz69_3:wr.cell? ⟨gb269,3,none⟩=some (.slice A268_3 ((rd_T82 l0_2 a1).f3.f0).length c268_3):=(blk_cell BK269.out 3).trans rfl;have hcz69_4:wr.cell? ⟨gb269,4,none⟩=some (.slice A268_4 ((rd_T82 l0_2 a1).f3.f1).length c268_4):=(blk_cell BK269.out 4).trans rfl;have hcz69_5:wr.cell? ⟨gb269,5,none⟩=some (.int .i64 ((rd_T82 l0_2 a1).f3.f2)):=(blk_cell BK269.out 5).trans rfl;have hcz69_6:wr.cell? ⟨gb269,6,none⟩=some (.int .i64 ((rd_T82 l0_2 a1).f4)):=(blk_cell BK269.out 6).trans rfl;have hcz69_7:wr.cell? ⟨gb269,7,none⟩=some (.slice A268_7 ((rd_T82 l0_2 a1).f5).length c268_7):=(blk_cell BK269.out 7).trans rfl;have hfz69_0:=blk_frozen BK269.out 0;have hfz69_1:=blk_frozen BK269.out 1;have hfz69_2:=blk_frozen BK269.out 2;have hfz69_3:=blk_frozen BK269.out 3;have hfz69_4:=blk_frozen BK269.out 4;have hfz69_5:=blk_frozen BK269.out 5;have hfz69_6:=blk_frozen BK269.out 6;have hfz69_7:=blk_frozen BK269.out 7;go_wp2
           go_ret
           exact ⟨zz5,(zz3 HB GE267 GE269)⟩
         ·have c61b2:¬ (((rd_T82 l0_2 a1).f3.f1)=[]):=fun h_=>c61 (by rw [h_];rfl)
          obtain rfl:=sI H;have hnb70:=NB269_267.out;have hnc70:=NB267_269.out;have hcz71_0:wr.cell? ⟨gb269,0,none⟩=some (.string ((rd_T82 l0_2 a1).f0)):=(blk_cell BK269.out 0).trans rfl;have hcz71_1:wr.cell? ⟨gb269,1,none⟩=some (.int .i64 ((rd_T82 l0_2 a1).f1)):=(blk_cell BK269.out 1).trans rfl;have hcz71_2:wr.cell? ⟨gb269,2,none⟩=some (.bool ((rd_T82 l0_2 a1).f2)):=(blk_cell BK269.out 2).trans rfl;have hcz71_3:wr.cell? ⟨gb269,3,none⟩=some (.slice A268_3 ((rd_T82 l0_2 a1).f3.f0).length c268_3):=(blk_cell BK269.out 3).trans rfl;have hcz71_4:wr.cell? ⟨gb269,4,none⟩=some (.slice A268_4 ((rd_T82 l0_2 a1).f3.f1).length c268_4):=(blk_cell BK269.out 4).trans rfl;have hcz71_5:wr.cell? ⟨gb269,5,none⟩=some (.int .i64 ((rd_T82 l0_2 a1).f3.f2)):=(blk_cell BK269.out 5).trans rfl;have hcz71_6:wr.cell? ⟨gb269,6,none⟩=some (.int .i64 ((rd_T82 l0_2 a1).f4)):=(blk_cell BK269.out 6).trans rfl;have hcz71_7:wr.cell? ⟨gb269,7,none⟩=some (.slice A268_7 ((rd_T82 l0_2 a1).f5).length c268_7):=(blk_cell BK269.out 7).trans rfl;have hfz71_0:=blk_frozen BK269.out 0;have hfz71_1:=blk_frozen BK269.out 1;have hfz71_2:=blk_frozen BK269.out 2;have hfz71_3:=blk_frozen BK269.out 3;have hfz71_4:=blk_frozen BK269.out 4;have hfz71_5:=blk_frozen BK269.out 5;have hfz71_6:=blk_frozen BK269.out 6;have hfz71_7:=blk_frozen BK269.out 7;go_wp2
          go_ret
          exact ⟨zz5,(zz3 HB GE267 GE269)⟩
 ·exact absurd H (by simp)
mutual
def spec_TripOk.j0:Nat→Bool→ByteArray→Int→List (S82)→List ByteArray→List (S52)→Option (Bool)
 | 0,_,_,_,_,_,_=>none
 | k+1,x29,x281000,x281001,x281002,x281003,x281004=>if x29=true then (some false) else (spec_TripOk.l0 k 0 x281000 x281001 x281002 x281003 x281004)
def spec_TripOk.l0:Nat→Int→ByteArray→Int→List (S82)→List ByteArray→List (S52)→Option (Bool)
 | 0,_,_,_,_,_,_=>none
 | k+1,x3,x281000,x281001,x281002,x281003,x281004=>if x3 < (x281003.length:Int) then (if 0≤x3 then ((spec_l11Norm.f k (rdOf ByteArray.empty x281003 x3)).bind fun t284=>(if t284=true then (spec_TripOk.l1 k x3 0 x281000 x281001 x281002 x281003 x281004) else (some false))) else (none)) else (spec_TripOk.l2 k 0 x281000 x281001 x281002 x281003 x281004)
def spec_TripOk.l1:Nat→Int→Int→ByteArray→Int→List (S82)→List ByteArray→List (S52)→Option (Bool)
 | 0,_,_,_,_,_,_,_=>none
 | k+1,x3,x4,x281000,x281001,x281002,x281003,x281004=>if x4 < x3 then (if 0≤x4 then (if x4 < (x281003.length:Int) then (if 0≤x3 then (if x3 < (x281003.length:Int) then (if (rdOf ByteArray.empty x281003 x4).toList=(rdOf ByteArray.empty x281003 x3).toList then (some false) else (spec_TripOk.l1 k x3 (wrap64 (x4+1)) x281000 x281001 x281002 x281003 x281004)) else (none)) else (none)) else (none)) else (none)) else (spec_TripOk.l0 k (wrap64 (x3+1)) x281000 x281001 x281002 x281003 x281004)
def spec_TripOk.l2:Nat→Int→ByteArray→Int→List (S82)→List ByteArray→List (S52)→Option (Bool)
 | 0,_,_,_,_,_,_=>none
 | k+1,x5,x281000,x281001,x281002,x281003,x281004=>if x5 < (x281002.length:Int) then ((spec_l12HouseOk.f k x281000 x281001 x281002 x281003 x281004 x5).bind fun t287=>(if t287=true then (spec_TripOk.l2 k (wrap64 (x5+1)) x281000 x281001 x281002 x281003 x281004) else (some false))) else (spec_TripOk.l3 k 0 x281000 x281001 x281002 x281003 x281004)
def spec_TripOk.l3:Nat→Int→ByteArray→Int→List (S82)→List ByteArray→List (S52)→Option (Bool)
 | 0,_,_,_,_,_,_=>none
 | k+1,x6,x281000,x281001,x281002,x281003,x281004=>if x6 < (x281004.length:Int) then (if 0≤x6 then ((spec_l6In.f ((rd_T52 x281004 x6).f0) 0 x281001).bind fun t290=>(if t290=true then (if x6 > 0 then (if 0≤(wrap64 (x6 - 1)) then (if (wrap64 (x6 - 1)) < (x281004.length:Int) then (if ((rd_T52 x281004 (wrap64 (x6 - 1))).f0) > ((rd_T52 x281004 x6).f0) then (some false) else ((spec_l11Norm.f k ((rd_T52 x281004 x6).f1)).bind fun t292=>(if t292=true then ((spec_l6In.f ((rd_T52 x281004 x6).f2) 0 3).bind fun t293=>(if t293=true then (spec_TripOk.l3 k (wrap64 (x6+1)) x281000 x281001 x281002 x281003 x281004) else (some false))) else (some false)))) else (none)) else (none)) else ((spec_l11Norm.f k ((rd_T52 x281004 x6).f1)).bind fun t294=>(if t294=true then ((spec_l6In.f ((rd_T52 x281004 x6).f2) 0 3).bind fun t295=>(if t295=true then (spec_TripOk.l3 k (wrap64 (x6+1)) x281000 x281001 x281002 x281003 x281004) else (some false))) else (some false)))) else (some false))) else (none)) else (some true)
end
def spec_TripOk.f (k:Nat) (a0_0:ByteArray) (a0_1:Int) (l0_2:List (S82)) (l0_3:List ByteArray) (l0_4:List (S52)):Option (Bool):=(spec_l2Name.f k a0_0).bind fun t281=>(if t281=true then ((spec_l6In.f a0_1 0 5000).bind fun t282=>(if t282=true then (if (l0_3.length:Int) > 60 then (spec_TripOk.j0 k true a0_0 a0_1 l0_2 l0_3 l0_4) else (spec_TripOk.j0 k (decide ((l0_4.length:Int) > 400)) a0_0 a0_1 l0_2 l0_3 l0_4)) else (spec_TripOk.j0 k true a0_0 a0_1 l0_2 l0_3 l0_4))) else (spec_TripOk.j0 k true a0_0 a0_1 l0_2 l0_3 l0_4))
def spec_TripOk.T11:Bool×List (List Nat×List Nat):=(true,[([],[]),([0],[0]),([],[]),([1,2],[1,2]),([3],[3]),([],[]),([5],[5]),([],[]),([6,7],[6,7]),([8],[8]),([4,9],[4,9])])
def spec_TripOk.B11:List Nat:=[0,1,0,7,15,0,32,0,224,480,1023]
theorem spec_TripOk.tab11:rtab .any (opsOf Tryz.f22 11)=spec_TripOk.T11:=by kernel_rfl
theorem spec_TripOk.bits11:waitsOk spec_TripOk.T11.2 spec_TripOk.B11=true:=by kernel_rfl
def spec_TripOk.T22:Bool×List (List Nat×List Nat):=(true,[([],[]),([0],[0]),([],[]),([2],[2]),([1,3],[1,3]),([4],[4]),([5,4],[5]),([6],[6]),([7,6],[6,7]),([8,6,6],[6,8]),([9],[9]),([10,9],[9,10]),([9],[9]),([12,9],[9,12]),([11,13,9],[9,11,13]),([14,9],[9,14]),([15,9],[9,15]),([9],[9]),([17,9],[9,17]),([16,18,9],[9,16,18]),([9,19,6],[6,9,19]),([6,20],[6,20]),([21,9],[21]),([22],[22]),([23,22],[22,23]),([24,22,22],[22,24]),([25,22],[22,25]),([22,26],[22,26]),([27,25],[27]),([28],[28]),([29,28],[28,29]),([30,28,28],[28,30]),([31,28],[28,31]),([28,32],[28,32])])
def spec_TripOk.B22:List Nat:=[0,1,0,4,15,31,63,127,255,511,1023,2047,1023,5119,16383,32767,65535,1023,132095,524287,1048575,2097151,4194303,8388607,16777215,33554431,67108863,134217727,268435455,536870911,1073741823,2147483647,4294967295,8589934591]
theorem spec_TripOk.tab22:rtab .any (opsOf Tryz.f22 22)=spec_TripOk.T22:=by kernel_rfl
theorem spec_TripOk.bits22:waitsOk spec_TripOk.T22.2 spec_TripOk.B22=true:=by kernel_rfl
theorem spec_TripOk.calls (k:Nat) (a0_0:ByteArray) (a0_1:Int) (A0_2:Option Addr) (c0_2:Nat) (l0_2:List (S82)) (A0_3:Option Addr) (c0_3:Nat) (l0_3:List ByteArray) (A0_4:Option Addr) (c0_4:Nat) (l0_4:List (S52)) (r:Bool) (w:World) (hr0_2:Kd.C k82 w A0_2 l0_2.length l0_2) (hc0_2:l0_2.length≤c0_2) (hr0_3:Kd.C Kd.string w A0_3 l0_3.length l0_3) (hc0_3:l0_3.length≤c0_3) (hr0_4:Kd.C k52 w A0_4 l0_4.length l0_4) (hc0_4:l0_4.length≤c0_4) (h:spec_TripOk.f k a0_0 a0_1 l0_2 l0_3 l0_4=some r) :
  Calls Tryz.prog 22 #[.agg #[.string a0_0,.int .i64 a0_1,.slice A0_2 l0_2.length c0_2,.slice A0_3 l0_3.length c0_3,.slice A0_4 l0_4.length c0_4]] w fun e w'=>e=.returned (.bool r)∧Below w.heap.size w w':=by
 have hu33:=Tryz.underlying33;have hu52:=Tryz.underlying52;have HR0_2:=A_ hr0_2;have HC0_2:=A_ hc0_2;clear hr0_2 hc0_2;have HR0_3:=A_ hr0_3;have HC0_3:=A_ hc0_3;clear hr0_3 hc0_3;have HR0_4:=A_ hr0_4;have HC0_4:=A_ hc0_4;clear hr0_4 hc0_4;have HB:=A_ (Below.refl w.heap.size w);unfold spec_TripOk.f at h
 have H:=h;clear h;have HC2:=A_ H;clear H;go_enter Tryz.func22,Tryz.ntmps22;go_upto_region 1 with (first|((with_reducible refine gD (N:=1) rfl ?_);(try (refine gate_guard (by rfl) ?_;dsimp only));refine boxE 1 #[.string a0_0,.int .i64 a0_1,.slice A0_2 l0_2.length c0_2,.slice A0_3 l0_3.length c0_3,.slice A0_4 l0_4.length c0_4] 33 ?_;intro gb280 hg w3 hbox hb;have BK280:=A_ (hbox);have GE280:=geB hg (zz0 HB);replace HB:=A_ (bS (zz0 HB) hb);clear hb hbox hg))
 (try simp only [Act.put,List.setIfInBounds_toArray,List.set_cons_zero,List.set_cons_succ])
 go_cut [29] (fun v29 wc=>∃ (kq:Nat) (x29_1:Bool),v29=.bool x29_1∧Aside0 (spec_TripOk.j0 kq x29_1 a0_0 a0_1 l0_2 l0_3 l0_4=some r)∧Aside0 (kq≤k)∧Aside0 (wc.heap[gb280]?=some (.cells #[.string a0_0,.int .i64 a0_1,(.slice A0_2 l0_2.length c0_2),(.slice A0_3 l0_3.length c0_3),(.slice A0_4 l0_4.length c0_4)] 33 (0,0)))∧Aside0 (Below w.heap.size w wc))
 case first=>
  obtain ⟨H⟩:=HC2;replace H:=bindA H;obtain ⟨t281,A4,H⟩:=H;have HF5:=A_ H;clear H;obtain ⟨_,_,_,_,_,_,_,_,_,_⟩:=cf5 BK280;go_wp2_with (first|(refine gR 39 (some 10) Tryz.func39 (spec_l2Name.calls k a0_0 t281 _ A4.out) ?_;rintro w' ⟨nd,rfl⟩)|((with_reducible refine atG ?_ ?_ fun K_ hK_=>?_);rfl;exact undecG)|((with_reducible refine atI ?_ fun K_ hK_=>?_);exact undecI))
  refine unG hK_ ?_;clear hK_ K_;obtain ⟨H⟩:=HF5;replace H:=iteB H;rcases H with ⟨rfl,H⟩|⟨rfl,H⟩
  ·(first|refine iteT ?_|refine iteF ?_|skip)
   replace H:=bindA H;obtain ⟨t282,A8,H⟩:=H;have HF9:=A_ H;clear H;obtain ⟨_,_,_,_,_,_,_,_,_,_⟩:=cf5 BK280;(try ((with_reducible refine upS ?_);go_simp))
   go_wp2_with (first|(go_at_call 40;(with_reducible refine (spec_l6In.calls a0_1 0 5000 t282 _ A8.out).mono ?_);rintro e w' ⟨rfl,⟨nd,rfl⟩⟩)|((with_reducible refine atG ?_ ?_ fun K_ hK_=>?_);rfl;exact undecG)|((with_reducible refine atI ?_ fun K_ hK_=>?_);exact undecI))
   refine unG hK_ ?_;clear hK_ K_;obtain ⟨H⟩:=HF9;replace H:=iteB H;rcases H with ⟨rfl,H⟩|⟨rfl,H⟩
   ·(first|refine iteT ?_|refine iteF ?_|skip)
    replace H:=iteE H;rcases H with ⟨c12,H⟩|⟨c12,H⟩
    ·have c12b0:=gtT c12
     have c12b1:decide (60 < l0_3.length)=true:=dT (by omega);clear c12;have H':=A_ H;clear H;obtain ⟨_,_,_,_,_,_,_,_,_,_⟩:=cf5 BK280;go_wp2
     go_meet
     case rel=>exact ⟨_,(true),zz7,H',⟨zz62⟩,⟨(zz2 BK280)⟩,⟨(zz1 HB GE280)⟩⟩
    ·have c12b0:=gtF c12
     have c12b1:decide (60 < l0_3.length)=false:=dF (by omega);clear c12;have H':=A_ H;clear H;obtain ⟨_,_,_,_,_,_,_,_,_,_⟩:=cf5 BK280;go_wp2
     go_meet
     case rel=>exact ⟨_,(decide ((l0_4.length:Int) > 400)),zz7,H',⟨zz62⟩,⟨(zz2 BK280)⟩,⟨(zz1 HB GE280)⟩⟩
   ·(first|refine iteT ?_|refine iteF ?_|skip)
    have H':=A_ H;clear H;(try ((with_reducible refine upS ?_);go_simp))
    go_wp2
    go_meet
    case rel=>exact ⟨_,(true),zz7,H',⟨zz62⟩,⟨(zz2 BK280)⟩,⟨(zz1 HB GE280)⟩⟩
  ·(first|refine iteT ?_|refine iteF ?_|skip)
   have H':=A_ H;clear H;(try ((with_reducible refine upS ?_);go_simp))
   go_wp2
   go_meet
   case rel=>exact ⟨_,(true),zz7,H',⟨zz62⟩,⟨(zz2 BK280)⟩,⟨(zz1 HB GE280)⟩⟩
 case rest=>
  clear HC2;obtain ⟨kq,x29_1,rfl,HA,HJ1,BK280,HB⟩:=hcut;cases kq with
  | zero=>exact absurd HA.out (by simp [spec_TripOk.j0])
  | succ kj1=>
   obtain ⟨H⟩:=HA;simp only [spec_TripOk.j0] at H
   replace H:=iteB H;rcases H with ⟨rfl,H⟩|⟨rfl,H⟩
   ·obtain rfl:=sI H
    go_wp2
    go_ret
    exact ⟨zz5,(zz1 HB GE280)⟩
   ·have H':=A_ H
    clear H;go_wp2
    go_loopg [3] kj1 (fun kq v3 w'=>∃ (x3_2:Int),v3=.int .i64 x3_2∧Aside0 (spec_TripOk.l0 kq x3_2 a0_0 a0_1 l0_2 l0_3 l0_4=some r)∧Aside0 (kq≤kj1)∧Aside0 (w'.heap[gb280]?=some (.cells #[.string a0_0,.int .i64 a0_1,(.slice A0_2 l0_2.length c0_2),(.slice A0_3 l0_3.length c0_3),(.slice A0_4 l0_4.length c0_4)] 33 (0,0)))∧Aside0 (Below w.heap.size w w'))
    case atStart=>exact ⟨(0),zz7,H',⟨Nat.le_refl _⟩,⟨(zz2 BK280)⟩,⟨(zz1 HB GE280)⟩⟩
    case round=>
     clear H';obtain ⟨x3_2,rfl,HA,HK2,BK280,HB⟩:=hrel;cases gk with
     | zero=>exact absurd HA.out (by simp [spec_TripOk.l0])
     | succ k2=>
      obtain ⟨H⟩:=HA;simp only [spec_TripOk.l0] at H
      replace H:=iteEd H;rcases H with ⟨c16b0,H⟩|⟨c16b0,H⟩
      ·replace H:=iteNd H
       obtain ⟨c17b0,H⟩:=H;replace H:=bindA H;obtain ⟨t284,A18,H⟩:=H;have HF19:=A_ H;clear H;obtain ⟨_,_,_,_,_,_,_,_,_,_⟩:=cf5 BK280;obtain ⟨⟨ad283,e283,hx283_0⟩,p283,q283⟩:=atB (Kd.at_string HR0_3.out x3_2);cases e283
       replace hx283_0:=cbl HB hx283_0;go_upto_if 43 with (first|(refine gR 41 (some 42) Tryz.func41 (spec_l11Norm.calls k2 (rdOf ByteArray.empty l0_3 x3_2) t284 _ A18.out) ?_;rintro w21 hb;replace BK280:=A_ (bB (zz2 BK280) hb);replace HB:=A_ (bS (zz1 HB GE280) hb);(try clear hb)))
       obtain ⟨H⟩:=HF19;replace H:=iteB H;rcases H with ⟨rfl,H⟩|⟨rfl,H⟩
       ·have H':=A_ H
        clear H;go_wp2
        go_loopg [4] k2 (fun kq v4 w'=>∃ (x4_3:Int),v4=.int .i64 x4_3∧Aside0 (spec_TripOk.l1 kq x3_2 x4_3 a0_0 a0_1 l0_2 l0_3 l0_4=some r)∧Aside0 (kq≤k2)∧Aside0 (w'.heap[gb280]?=some (.cells #[.string a0_0,.int .i64 a0_1,(.slice A0_2 l0_2.length c0_2),(.slice (some ad283) l0_3.length c0_3),(.slice A0_4 l0_4.length c0_4)] 33 (0,0)))∧Aside0 (Below w.heap.size w w'))
        case atStart=>exact ⟨(0),zz7,H',⟨Nat.le_refl _⟩,⟨(zz2 BK280)⟩,⟨(zz1 HB GE280)⟩⟩
        case round=>
         clear H';obtain ⟨x4_3,rfl,HA,HK3,BK280,HB⟩:=hrel;cases gk with
         | zero=>exact absurd HA.out (by simp [spec_TripOk.l1])
         | succ k3=>
          obtain ⟨H⟩:=HA;simp only [spec_TripOk.l1] at H
          replace H:=iteEd H;rcases H with ⟨c23b0,H⟩|⟨c23b0,H⟩
          ·(first|rw [c23b0]|(simp only [i64_w,i32_w];rw [c23b0])|skip)
           replace H:=iteNd H;obtain ⟨c24b0,H⟩:=H;replace H:=iteNd H;obtain ⟨c25b0,H⟩:=H;replace H:=iteNd H;obtain ⟨c26b0,H⟩:=H;replace H:=iteNd H;obtain ⟨c27b0,H⟩:=H;replace H:=iteEq H;rcases H with ⟨c28b0,c28b1,H⟩|⟨c28b0,c28b1,c28,H⟩
           ·obtain rfl:=sI H
            try go_wp2
            replace BK280:=A_ (blk_drew BK280.out);replace HB:=A_ (below_drew1 HB.out);obtain ⟨⟨ad285,e285,hx285_0⟩,p285,q285⟩:=atB (Kd.at_string HR0_3.out x4_3);have hw285_0:=hx285_0;obtain rfl:ad283=ad285:=(by injection e285);replace hx285_0:=cbl HB hx285_0;obtain ⟨⟨ad286,e286,hx286_0⟩,p286,q286⟩:=atB (Kd.at_string HR0_3.out x3_2);have hw286_0:=hx286_0;obtain rfl:ad283=ad286:=(by injection e286);replace hx286_0:=cbl HB hx286_0;refine start_ (n:=11) (S:=fun w'=>w'.cell? ⟨gb280,0,none⟩=some (.string a0_0)∧w'.cell? ⟨gb280,1,none⟩=some (.int .i64 a0_1)∧w'.cell? ⟨gb280,2,none⟩=some (.slice A0_2 l0_2.length c0_2)∧w'.cell? ⟨gb280,3,none⟩=some (.slice (some ad283) l0_3.length c0_3)∧w'.cell? ⟨gb280,4,none⟩=some (.slice A0_4 l0_4.length c0_4)∧w'.cell? (ad283.add (x4_3).toNat)=some (.string (rdOf ByteArray.empty l0_3 x4_3))∧w'.cell? (ad283.add (x3_2).toNat)=some (.string (rdOf ByteArray.empty l0_3 x3_2))) (ds:=[]) #[yF,yF,yF,yF,yF,yF,yF,yF,yF,yF,yF] (by kernel_rfl) rfl rfl ⟨(blk_cell BK280.out 0).trans rfl,(blk_cell BK280.out 1).trans rfl,(blk_cell BK280.out 2).trans rfl,(blk_cell BK280.out 3).trans rfl,(blk_cell BK280.out 4).trans rfl,((HB.out.cell (World.block_lt_of_cell? w _ hw285_0)).trans hw285_0),((HB.out.cell (World.block_lt_of_cell? w _ hw286_0)).trans hw286_0)⟩ (fun hHeld=>?_);refine with_tabW spec_TripOk.tab11 spec_TripOk.bits11 (fun HT_ HW_=>?_);generalize wr.drew=w29 at BK280 HB hx285_0 hx286_0 hHeld ⊢;refine pureZ 0 (some 49) (yA 1 10) ?_;refine pureZ 2 (some 51) #[yT,yF,yT,yF,yF,yF,yF,yF,yF,yF,yF] ?_;refine pureZ 5 (some 54) #[yT,yF,yT,yF,yF,yT,yF,yF,yF,yF,yF] ?_;refine pureZ 7 (some 56) #[yT,yF,yT,yF,yF,yT,yF,yT,yF,yF,yF] ?_;refine takeZ7 1 (some 50) #[yT,yT,yT,yF,yF,yT,yF,yT,yF,yF,yF] hHeld ?_;refine pureZ 3 (some 52) #[yT,yT,yT,yT,yF,yT,yF,yT,yF,yF,yF] ?_;refine takeZ7 4 (some 53) #[yT,yT,yT,yT,yT,yT,yF,yT,yF,yF,yF] hHeld ?_;refine takeZ7 6 (some 55) (yA 8 3) hHeld ?_;refine pureZ 8 (some 57) (yA 9 2) ?_;refine takeZ7 9 (some 58) (yA 10 1) hHeld ?_;refine pureZ 10 (some 59) (yA 11 0) ?_;refine done_ (done_of HT_.out (by kernel_rfl)) ?_;try go_wp2
            go_ret
            exact ⟨zz5,(zz1 HB GE280)⟩
           ·have H':=A_ H
            clear H;try go_wp2
            replace BK280:=A_ (blk_drew BK280.out);replace HB:=A_ (below_drew1 HB.out);obtain ⟨⟨ad285,e285,hx285_0⟩,p285,q285⟩:=atB (Kd.at_string HR0_3.out x4_3);have hw285_0:=hx285_0;obtain rfl:ad283=ad285:=(by injection e285);replace hx285_0:=cbl HB hx285_0;obtain ⟨⟨ad286,e286,hx286_0⟩,p286,q286⟩:=atB (Kd.at_string HR0_3.out x3_2);have hw286_0:=hx286_0;obtain rfl:ad283=ad286:=(by injection e286);replace hx286_0:=cbl HB hx286_0;refine start_ (n:=11) (S:=fun w'=>w'.cell? ⟨gb280,0,none⟩=some (.string a0_0)∧w'.cell? ⟨gb280,1,none⟩=some (.int .i64 a0_1)∧w'.cell? ⟨gb280,2,none⟩=some (.slice A0_2 l0_2.length c0_2)∧w'.cell? ⟨gb280,3,none⟩=some (.slice (some ad283) l0_3.length c0_3)∧w'.cell? ⟨gb280,4,none⟩=some (.slice A0_4 l0_4.length c0_4)∧w'.cell? (ad283.add (x4_3).toNat)=some (.string (rdOf ByteArray.empty l0_3 x4_3))∧w'.cell? (ad283.add (x3_2).toNat)=some (.string (rdOf ByteArray.empty l0_3 x3_2))) (ds:=[]) #[yF,yF,yF,yF,yF,yF,yF,yF,yF,yF,yF] (by kernel_rfl) rfl rfl ⟨(blk_cell BK280.out 0).trans rfl,(blk_cell BK280.out 1).trans rfl,(blk_cell BK280.out 2).trans rfl,(blk_cell BK280.out 3).trans rfl,(blk_cell BK280.out 4).trans rfl,((HB.out.cell (World.block_lt_of_cell? w _ hw285_0)).trans hw285_0),((HB.out.cell (World.block_lt_of_cell? w _ hw286_0)).trans hw286_0)⟩ (fun hHeld=>?_);refine with_tabW spec_TripOk.tab11 spec_TripOk.bits11 (fun HT_ HW_=>?_);generalize wr.drew=w30 at BK280 HB hx285_0 hx286_0 hHeld ⊢;refine pureZ 0 (some 49) (yA 1 10) ?_;refine pureZ 2 (some 51) #[yT,yF,yT,yF,yF,yF,yF,yF,yF,yF,yF] ?_;refine pureZ 5 (some 54) #[yT,yF,yT,yF,yF,yT,yF,yF,yF,yF,yF] ?_;refine pureZ 7 (some 56) #[yT,yF,yT,yF,yF,yT,yF,yT,yF,yF,yF] ?_;refine takeZ7 1 (some 50) #[yT,yT,yT,yF,yF,yT,yF,yT,yF,yF,yF] hHeld ?_;refine pureZ 3 (some 52) #[yT,yT,yT,yT,yF,yT,yF,yT,yF,yF,yF] ?_;refine takeZ7 4 (some 53) #[yT,yT,yT,yT,yT,yT,yF,yT,yF,yF,yF] hHeld ?_;refine takeZ7 6 (some 55) (yA 8 3) hHeld ?_;refine pureZ 8 (some 57) (yA 9 2) ?_;refine takeZ7 9 (some 58) (yA 10 1) hHeld ?_;refine pureZ 10 (some 59) (yA 11 0) ?_;refine done_ (done_of HT_.out (by kernel_rfl)) ?_;try go_wp2
            go_roundg k3
            case measure=>have:=HJ1.out;have:=HK2.out;have:=HK3.out;omega
            case rel=>exact ⟨(wrap64 (x4_3+1)),zz7,H',⟨(by have:=HJ1.out;have:=HK2.out;have:=HK3.out;omega)⟩,⟨(zz2 BK280)⟩,⟨(zz1 HB GE280)⟩⟩
          ·(first|rw [c23b0]|(simp only [i64_w,i32_w];rw [c23b0])|skip)
           have H':=A_ H;clear H;go_wp2
           go_roundg k3
           case measure=>have:=HJ1.out;have:=HK2.out;have:=HK3.out;omega
           case rel=>exact ⟨(wrap64 (x3_2+1)),zz7,H',⟨(by have:=HJ1.out;have:=HK2.out;have:=HK3.out;omega)⟩,⟨(zz2 BK280)⟩,⟨(zz1 HB GE280)⟩⟩
       ·obtain rfl:=sI H
        go_wp2
        go_ret
        exact ⟨zz5,(zz1 HB GE280)⟩
      ·have H':=A_ H
       clear H;obtain ⟨_,_,_,_,_,_,_,_,_,_⟩:=cf5 BK280;go_wp2
       go_loopg [5] k2 (fun kq v5 w'=>∃ (x5_3:Int),v5=.int .i64 x5_3∧Aside0 (spec_TripOk.l2 kq x5_3 a0_0 a0_1 l0_2 l0_3 l0_4=some r)∧Aside0 (kq≤k2)∧Aside0 (w'.heap[gb280]?=some (.cells #[.string a0_0,.int .i64 a0_1,(.slice A0_2 l0_2.length c0_2),(.slice A0_3 l0_3.length c0_3),(.slice A0_4 l0_4.length c0_4)] 33 (0,0)))∧Aside0 (Below w.heap.size w w'))
       case atStart=>exact ⟨(0),zz7,H',⟨Nat.le_refl _⟩,⟨(zz2 BK280)⟩,⟨(zz1 HB GE280)⟩⟩
       case round=>
        clear H';obtain ⟨x5_3,rfl,HA,HK3,BK280,HB⟩:=hrel;cases gk with
        | zero=>exact absurd HA.out (by simp [spec_TripOk.l2])
        | succ k3=>
         obtain ⟨H⟩:=HA;simp only [spec_TripOk.l2] at H
         replace H:=iteEd H;rcases H with ⟨c32b0,H⟩|⟨c32b0,H⟩
         ·replace H:=bindA H
          obtain ⟨t287,A33,H⟩:=H;have HF34:=A_ H;clear H;obtain ⟨_,_,_,_,_,_,_,_,_,_⟩:=cf5 BK280;go_upto_if 70 with (first|(refine gR 42 (some 69) Tryz.func42 (spec_l12HouseOk.calls k3 a0_0 a0_1 _ _ l0_2 _ _ l0_3 _ _ l0_4 x5_3 t287 _ ?side1 ?side2 ?side3 ?side4 ?side5 ?side6 A33.out) ?_;(case side1=>exact (zz21 HR0_2 HB));(case side2=>exact HC0_2.out);(case side3=>exact (zz21 HR0_3 HB));(case side4=>exact HC0_3.out);(case side5=>exact (zz21 HR0_4 HB));(case side6=>exact HC0_4.out);rintro w36 hb;replace BK280:=A_ (bB (zz2 BK280) hb);replace HB:=A_ (bS (zz1 HB GE280) hb);(try clear hb)))
          obtain ⟨H⟩:=HF34;replace H:=iteB H;rcases H with ⟨rfl,H⟩|⟨rfl,H⟩
          ·have H':=A_ H
           clear H;go_wp2
           go_roundg k3
           case measure=>have:=HJ1.out;have:=HK2.out;have:=HK3.out;omega
           case rel=>exact ⟨(wrap64 (x5_3+1)),zz7,H',⟨(by have:=HJ1.out;have:=HK2.out;have:=HK3.out;omega)⟩,⟨(zz2 BK280)⟩,⟨(zz1 HB GE280)⟩⟩
          ·obtain rfl:=sI H
           go_wp2
           go_ret
           exact ⟨zz5,(zz1 HB GE280)⟩
         ·have H':=A_ H
          clear H;obtain ⟨_,_,_,_,_,_,_,_,_,_⟩:=cf5 BK280;go_wp2
          go_loopg [6] k3 (fun kq v6 w'=>∃ (x6_4:Int),v6=.int .i64 x6_4∧Aside0 (spec_TripOk.l3 kq x6_4 a0_0 a0_1 l0_2 l0_3 l0_4=some r)∧Aside0 (kq≤k3)∧Aside0 (w'.heap[gb280]?=some (.cells #[.string a0_0,.int .i64 a0_1,(.slice A0_2 l0_2.length c0_2),(.slice A0_3 l0_3.length c0_3),(.slice A0_4 l0_4.length c0_4)] 33 (0,0)))∧Aside0 (Below w.heap.size w w'))
          case atStart=>exact ⟨(0),zz7,H',⟨Nat.le_refl _⟩,⟨(zz2 BK280)⟩,⟨(zz1 HB GE280)⟩⟩
          case round=>
           clear H';obtain ⟨x6_4,rfl,HA,HK4,BK280,HB⟩:=hrel;cases gk with
           | zero=>exact absurd HA.out (by simp [spec_TripOk.l3])
           | succ k4=>
            obtain ⟨H⟩:=HA;simp only [spec_TripOk.l3] at H
            replace H:=iteEd H;rcases H with ⟨c39b0,H⟩|⟨c39b0,H⟩
            ·replace H:=iteNd H
             obtain ⟨c40b0,H⟩:=H;replace H:=bindA H;obtain ⟨t290,A41,H⟩:=H;replace H:=iteB H;rcases H with ⟨rfl,H⟩|⟨rfl,H⟩
             ·replace H:=iteE H
              rcases H with ⟨c43,H⟩|⟨c43,H⟩
              ·have c43b0:=gtT c43
               clear c43;obtain ⟨ji44,hji44⟩:∃ j_:Int,(wrap64 (x6_4 - 1))=j_:=⟨_,rfl⟩;(first|rw [hji44] at H|simp only [hji44] at H)
               (try rw [hji44] at A41)
               have hji44w:(IntKind.i64.wrap (x6_4 - 1))=ji44:=(i64_w _).trans hji44;replace H:=iteNd H;obtain ⟨c45b0,H⟩:=H;replace H:=iteNd H;obtain ⟨c46b0,H⟩:=H;replace H:=iteEg H;rcases H with ⟨c47b0,H⟩|⟨c47b0,H⟩
               ·obtain rfl:=sI H
                obtain ⟨_,_,_,_,_,_,_,_,_,_⟩:=cf5 BK280;obtain ⟨⟨ad288,e288,hx288_0,hx288_1,hx288_2⟩,p288,q288⟩:=atB (at_T52 HR0_4.out x6_4);cases e288
                obtain ⟨hx288_0,hx288_1,hx288_2⟩:=cb3 HB hx288_0 hx288_1 hx288_2;try go_wp2_with (first|((with_reducible refine gD (N:=7) rfl ?_);(try (refine gate_guard (by rfl) ?_;dsimp only));refine boxE 7 #[.int .i64 0,.string (⟨#[]⟩:ByteArray),.int .i64 0] 52 ?_;intro gb289 hg w49 hbox hb;have BK289:=A_ (hbox);have GE289:=geB hg (zz1 HB GE280);replace HB:=A_ (bS (zz1 HB GE280) hb);have NB280_289:=A_ ((by rw [hg];exact Nat.ne_of_lt (blk_lt (zz2 BK280)):gb280≠gb289));have NB289_280:=A_ ((by rw [hg];exact Nat.ne_of_gt (blk_lt (zz2 BK280)):gb289≠gb280));replace BK280:=A_ (bB (zz2 BK280) hb);clear hb hbox hg;have hnb50:=NB289_280.out;have hnc50:=NB280_289.out;obtain ⟨_,_,_,_,_,_⟩:=cf3 BK289))
                have n0_:Aside0 ((((w49.setCell ⟨gb289,0,none⟩ (.int .i64 ((rd_T52 l0_4 x6_4).f0))).setCell ⟨gb289,1,none⟩ (.string ((rd_T52 l0_4 x6_4).f1))).setCell ⟨gb289,2,none⟩ (.int .i64 ((rd_T52 l0_4 x6_4).f2))).heap[gb280]?=some (.cells #[.string a0_0,.int .i64 a0_1,.slice A0_2 l0_2.length c0_2,.slice A0_3 l0_3.length c0_3,.slice (some ad288) l0_4.length c0_4] 33 (0,0))):=⟨(zz4 BK280 NB280_289)⟩;have n1_:Aside0 ((((w49.setCell ⟨gb289,0,none⟩ (.int .i64 ((rd_T52 l0_4 x6_4).f0))).setCell ⟨gb289,1,none⟩ (.string ((rd_T52 l0_4 x6_4).f1))).setCell ⟨gb289,2,none⟩ (.int .i64 ((rd_T52 l0_4 x6_4).f2))).heap[gb289]?=some (.cells #[.int .i64 ((rd_T52 l0_4 x6_4).f0),.string ((rd_T52 l0_4 x6_4).f1),.int .i64 ((rd_T52 l0_4 x6_4).f2)] 52 (0,0))):=⟨(zz26 BK289)⟩;have n2_:Aside0 (Below w.heap.size w (((w49.setCell ⟨gb289,0,none⟩ (.int .i64 ((rd_T52 l0_4 x6_4).f0))).setCell ⟨gb289,1,none⟩ (.string ((rd_T52 l0_4 x6_4).f1))).setCell ⟨gb289,2,none⟩ (.int .i64 ((rd_T52 l0_4 x6_4).f2)))):=⟨(zz3 HB GE280 GE289)⟩;(try clear BK280)
                (try clear BK289)
                (try clear HB)
                generalize (((w49.setCell ⟨gb289,0,none⟩ (.int .i64 ((rd_T52 l0_4 x6_4).f0))).setCell ⟨gb289,1,none⟩ (.string ((rd_T52 l0_4 x6_4).f1))).setCell ⟨gb289,2,none⟩ (.int .i64 ((rd_T52 l0_4 x6_4).f2)))=w52 at n0_ n1_ n2_ ⊢;have BK280:=n0_;have BK289:=n1_;have HB:=n2_;clear n0_ n1_ n2_;replace BK280:=A_ (blk_drew BK280.out);replace BK289:=A_ (blk_drew BK289.out);replace HB:=A_ (below_drew1 HB.out);obtain ⟨⟨ad291,e291,hx291_0,hx291_1,hx291_2⟩,p291,q291⟩:=atB (at_T52 HR0_4.out (ji44));have hw291_2:=hx291_2;have hw291_1:=hx291_1;have hw291_0:=hx291_0;obtain rfl:ad288=ad291:=(by injection e291);obtain ⟨hx291_0,hx291_1,hx291_2⟩:=cb3 HB hx291_0 hx291_1 hx291_2;refine start_ (n:=34) (S:=fun w'=>w'.cell? ⟨gb289,0,none⟩=some (.int .i64 ((rd_T52 l0_4 x6_4).f0))∧w'.cell? ⟨gb289,1,none⟩=some (.string ((rd_T52 l0_4 x6_4).f1))∧w'.cell? ⟨gb289,2,none⟩=some (.int .i64 ((rd_T52 l0_4 x6_4).f2))∧w'.cell? ⟨gb280,0,none⟩=some (.string a0_0)∧w'.cell? ⟨gb280,1,none⟩=some (.int .i64 a0_1)∧w'.cell? ⟨gb280,2,none⟩=some (.slice A0_2 l0_2.length c0_2)∧w'.cell? ⟨gb280,3,none⟩=some (.slice A0_3 l0_3.length c0_3)∧w'.cell? ⟨gb280,4,none⟩=some (.slice (some ad288) l0_4.length c0_4)∧w'.cell? (ad288.add (((ji44)).toNat * 3))=some (.int .i64 ((rd_T52 l0_4 (ji44)).f0))∧w'.cell? ⟨(ad288.add (((ji44)).toNat * 3)).block,(ad288.add (((ji44)).toNat * 3)).off+1,none⟩=some (.string ((rd_T52 l0_4 (ji44)).f1))∧w'.cell? ⟨(ad288.add (((ji44)).toNat * 3)).block,(ad288.add (((ji44)).toNat * 3)).off+2,none⟩=some (.int .i64 ((rd_T52 l0_4 (ji44)).f2))) (ds:=[]) #[yF,yF,yF,yF,yF,yF,yF,yF,yF,yF,yF,yF,yF,yF,yF,yF,yF,yF,yF,yF,yF,yF,yF,yF,yF,yF,yF,yF,yF,yF,yF,yF,yF,yF] (by kernel_rfl) rfl rfl ⟨(blk_cell BK289.out 0).trans rfl,(blk_cell BK289.out 1).trans rfl,(blk_cell BK289.out 2).trans rfl,(blk_cell BK280.out 0).trans rfl,(blk_cell BK280.out 1).trans rfl,(blk_cell BK280.out 2).trans rfl,(blk_cell BK280.out 3).trans rfl,(blk_cell BK280.out 4).trans rfl,((HB.out.cell (World.block_lt_of_cell? w _ hw291_0)).trans hw291_0),((HB.out.cell (World.block_lt_of_cell? w _ hw291_1)).trans hw291_1),((HB.out.cell (World.block_lt_of_cell? w _ hw291_2)).trans hw291_2)⟩ (fun hHeld=>?_);refine with_tabW spec_TripOk.tab22 spec_TripOk.bits22 (fun HT_ HW_=>?_);generalize w52.drew=w53 at BK280 BK289 HB hx291_0 hx291_1 hx291_2 hHeld ⊢;refine pureZ 0 (some 83) (yA 1 33) ?_;refine pureZ 2 (some 85) #[yT,yF,yT,yF,yF,yF,yF,yF,yF,yF,yF,yF,yF,yF,yF,yF,yF,yF,yF,yF,yF,yF,yF,yF,yF,yF,yF,yF,yF,yF,yF,yF,yF,yF] ?_;refine takeZ11 1 (some 84) (yA 3 31) hHeld ?_;refine takeZ11 3 (some 86) (yA 4 30) hHeld ?_;refine oneZ 4 (some 87) (yA 5 29) (fun K hK=>?_);refine goes_ Tryz.func40 (by kernel_rfl) rfl #[.int .i64 ((rd_T52 l0_4 x6_4).f0),.int .i64 0,.int .i64 a0_1] (by rfl) rfl rfl zz39 ?_;with_reducible refine (spec_l6In.calls ((rd_T52 l0_4 x6_4).f0) 0 a0_1 true _ A41.out).mono ?_
                rintro e w' ⟨rfl,⟨nd,rfl⟩⟩;refine ⟨_,rfl,?_⟩;refine hK.out _ _ ⟨(blk_cell BK289.out 0).trans rfl,(blk_cell BK289.out 1).trans rfl,(blk_cell BK289.out 2).trans rfl,(blk_cell BK280.out 0).trans rfl,(blk_cell BK280.out 1).trans rfl,(blk_cell BK280.out 2).trans rfl,(blk_cell BK280.out 3).trans rfl,(blk_cell BK280.out 4).trans rfl,((HB.out.cell (World.block_lt_of_cell? w _ hw291_0)).trans hw291_0),((HB.out.cell (World.block_lt_of_cell? w _ hw291_1)).trans hw291_1),((HB.out.cell (World.block_lt_of_cell? w _ hw291_2)).trans hw291_2)⟩ (fun hHeld=>?_);clear hK K;refine nZ 87 ?_;refine pureZ 5 (some 88) (yA 6 28) ?_;refine pureZ 6 (some 89) (yA 7 27) ?_;refine pureZ 7 (some 90) (yA 8 26) ?_;refine pureZ 8 (some 91) (yA 9 25) ?_;refine pureZ 9 (some 92) (yA 10 24) ?_;refine pureZ 10 (some 93) (yA 11 23) ?_;refine pureZ 12 (some 95) #[yT,yT,yT,yT,yT,yT,yT,yT,yT,yT,yT,yF,yT,yF,yF,yF,yF,yF,yF,yF,yF,yF,yF,yF,yF,yF,yF,yF,yF,yF,yF,yF,yF,yF] ?_;refine pureZ 13 (some 96) #[yT,yT,yT,yT,yT,yT,yT,yT,yT,yT,yT,yF,yT,yT,yF,yF,yF,yF,yF,yF,yF,yF,yF,yF,yF,yF,yF,yF,yF,yF,yF,yF,yF,yF] ?_;refine pureZ 17 (some 100) #[yT,yT,yT,yT,yT,yT,yT,yT,yT,yT,yT,yF,yT,yT,yF,yF,yF,yT,yF,yF,yF,yF,yF,yF,yF,yF,yF,yF,yF,yF,yF,yF,yF,yF] ?_;refine takeZ11 11 (some 94) #[yT,yT,yT,yT,yT,yT,yT,yT,yT,yT,yT,yT,yT,yT,yF,yF,yF,yT,yF,yF,yF,yF,yF,yF,yF,yF,yF,yF,yF,yF,yF,yF,yF,yF] hHeld ?_;refine pureZ 14 (some 97) #[yT,yT,yT,yT,yT,yT,yT,yT,yT,yT,yT,yT,yT,yT,yT,yF,yF,yT,yF,yF,yF,yF,yF,yF,yF,yF,yF,yF,yF,yF,yF,yF,yF,yF] ?_;refine pureZ 15 (some 98) #[yT,yT,yT,yT,yT,yT,yT,yT,yT,yT,yT,yT,yT,yT,yT,yT,yF,yT,yF,yF,yF,yF,yF,yF,yF,yF,yF,yF,yF,yF,yF,yF,yF,yF] ?_;refine takeZ11 16 (some 99) (yA 18 16) hHeld ?_;refine takeZ11 18 (some 101) (yA 19 15) hHeld ?_;refine pureZ 19 (some 102) (yA 20 14) ?_;refine pureZ 20 (some 103) (yA 21 13) ?_;refine pureZ 21 (some 104) (yA 22 12) ?_;refine pureZ 22 (some 105) (yA 23 11) ?_;refine pure_ (i:=23) (N:=some 106) (v:=undef) (a':=?_) (yA 24 10) rfl rfl (any_of HT_.out (by kernel_rfl)) (fun _ _ _ h=>h) (Or.inr ⟨by rfl,rfl⟩) ?_ ?_;rotate_left
                ·simp only [Act.put,List.setIfInBounds_toArray,List.set_cons_zero,List.set_cons_succ,i64_w,i32_w]
                 rfl
                refine pure_ (i:=24) (N:=some 107) (v:=undef) (a':=?_) (yA 25 9) rfl rfl (any_of HT_.out (by kernel_rfl)) (fun _ _ _ h=>h) (Or.inr ⟨by rfl,rfl⟩) ?_ ?_;rotate_left
                ·simp only [Act.put,List.setIfInBounds_toArray,List.set_cons_zero,List.set_cons_succ,i64_w,i32_w]
                 rfl
                refine pure_ (i:=25) (N:=some 108) (v:=undef) (a':=?_) (yA 26 8) rfl rfl (any_of HT_.out (by kernel_rfl)) (fun _ _ _ h=>h) (Or.inr ⟨by rfl,rfl⟩) ?_ ?_;rotate_left
                ·simp only [Act.put,List.setIfInBounds_toArray,List.set_cons_zero,List.set_cons_succ,i64_w,i32_w]
                 rfl
                refine pure_ (i:=26) (N:=some 109) (v:=undef) (a':=?_) (yA 27 7) rfl rfl (any_of HT_.out (by kernel_rfl)) (fun _ _ _ h=>h) (Or.inr ⟨by rfl,rfl⟩) ?_ ?_;rotate_left
                ·simp only [Act.put,List.setIfInBounds_toArray,List.set_cons_zero,List.set_cons_succ,i64_w,i32_w]
                 rfl
                refine pureZ 27 (some 110) (yA 28 6) ?_;refine pureZ 28 (some 111) (yA 29 5) ?_;refine pure_ (i:=29) (N:=some 112) (v:=undef) (a':=?_) (yA 30 4) rfl rfl (any_of HT_.out (by kernel_rfl)) (fun _ _ _ h=>h) (Or.inr ⟨by rfl,rfl⟩) ?_ ?_;rotate_left
                ·simp only [Act.put,List.setIfInBounds_toArray,List.set_cons_zero,List.set_cons_succ,i64_w,i32_w]
                 rfl
                refine pure_ (i:=30) (N:=some 113) (v:=undef) (a':=?_) (yA 31 3) rfl rfl (any_of HT_.out (by kernel_rfl)) (fun _ _ _ h=>h) (Or.inr ⟨by rfl,rfl⟩) ?_ ?_;rotate_left
                ·simp only [Act.put,List.setIfInBounds_toArray,List.set_cons_zero,List.set_cons_succ,i64_w,i32_w]
                 rfl
                refine pure_ (i:=31) (N:=some 114) (v:=undef) (a':=?_) (yA 32 2) rfl rfl (any_of HT_.out (by kernel_rfl)) (fun _ _ _ h=>h) (Or.inr ⟨by rfl,rfl⟩) ?_ ?_;rotate_left
                ·simp only [Act.put,List.setIfInBounds_toArray,List.set_cons_zero,List.set_cons_succ,i64_w,i32_w]
                 rfl
                refine pure_ (i:=32) (N:=some 115) (v:=undef) (a':=?_) (yA 33 1) rfl rfl (any_of HT_.out (by kernel_rfl)) (fun _ _ _ h=>h) (Or.inr ⟨by rfl,rfl⟩) ?_ ?_;rotate_left
                ·simp only [Act.put,List.setIfInBounds_toArray,List.set_cons_zero,List.set_cons_succ,i64_w,i32_w]
                 rfl
                refine pureZ 33 (some 116) (yA 34 0) ?_;refine done_ (done_of HT_.out (by kernel_rfl)) ?_;try go_wp2
                go_ret
                exact ⟨zz178,(zz3 HB GE280 GE289)⟩
               ·replace H:=bindA H
                obtain ⟨t292,A54,H⟩:=H;replace H:=iteB H;rcases H with ⟨rfl,H⟩|⟨rfl,H⟩
                ·replace H:=bindA H
                 obtain ⟨t293,A56,H⟩:=H;have HF57:=A_ H;clear H;obtain ⟨_,_,_,_,_,_,_,_,_,_⟩:=cf5 BK280;obtain ⟨⟨ad288,e288,hx288_0,hx288_1,hx288_2⟩,p288,q288⟩:=atB (at_T52 HR0_4.out x6_4);cases e288
                 obtain ⟨hx288_0,hx288_1,hx288_2⟩:=cb3 HB hx288_0 hx288_1 hx288_2;try go_wp2_with (first|((with_reducible refine gD (N:=7) rfl ?_);(try (refine gate_guard (by rfl) ?_;dsimp only));refine boxE 7 #[.int .i64 0,.string (⟨#[]⟩:ByteArray),.int .i64 0] 52 ?_;intro gb289 hg w59 hbox hb;have BK289:=A_ (hbox);have GE289:=geB hg (zz1 HB GE280);replace HB:=A_ (bS (zz1 HB GE280) hb);have NB280_289:=A_ ((by rw [hg];exact Nat.ne_of_lt (blk_lt (zz2 BK280)):gb280≠gb289));have NB289_280:=A_ ((by rw [hg];exact Nat.ne_of_gt (blk_lt (zz2 BK280)):gb289≠gb280));replace BK280:=A_ (bB (zz2 BK280) hb);clear hb hbox hg;have hnb60:=NB289_280.out;have hnc60:=NB280_289.out;obtain ⟨_,_,_,_,_,_⟩:=cf3 BK289))
                 have n0_:Aside0 ((((w59.setCell ⟨gb289,0,none⟩ (.int .i64 ((rd_T52 l0_4 x6_4).f0))).setCell ⟨gb289,1,none⟩ (.string ((rd_T52 l0_4 x6_4).f1))).setCell ⟨gb289,2,none⟩ (.int .i64 ((rd_T52 l0_4 x6_4).f2))).heap[gb280]?=some (.cells #[.string a0_0,.int .i64 a0_1,.slice A0_2 l0_2.length c0_2,.slice A0_3 l0_3.length c0_3,.slice (some ad288) l0_4.length c0_4] 33 (0,0))):=⟨(zz4 BK280 NB280_289)⟩;have n1_:Aside0 ((((w59.setCell ⟨gb289,0,none⟩ (.int .i64 ((rd_T52 l0_4 x6_4).f0))).setCell ⟨gb289,1,none⟩ (.string ((rd_T52 l0_4 x6_4).f1))).setCell ⟨gb289,2,none⟩ (.int .i64 ((rd_T52 l0_4 x6_4).f2))).heap[gb289]?=some (.cells #[.int .i64 ((rd_T52 l0_4 x6_4).f0),.string ((rd_T52 l0_4 x6_4).f1),.int .i64 ((rd_T52 l0_4 x6_4).f2)] 52 (0,0))):=⟨(zz26 BK289)⟩;have n2_:Aside0 (Below w.heap.size w (((w59.setCell ⟨gb289,0,none⟩ (.int .i64 ((rd_T52 l0_4 x6_4).f0))).setCell ⟨gb289,1,none⟩ (.string ((rd_T52 l0_4 x6_4).f1))).setCell ⟨gb289,2,none⟩ (.int .i64 ((rd_T52 l0_4 x6_4).f2)))):=⟨(zz3 HB GE280 GE289)⟩;(try clear BK280)
                 (try clear BK289)
                 (try clear HB)
                 generalize (((w59.setCell ⟨gb289,0,none⟩ (.int .i64 ((rd_T52 l0_4 x6_4).f0))).setCell ⟨gb289,1,none⟩ (.string ((rd_T52 l0_4 x6_4).f1))).setCell ⟨gb289,2,none⟩ (.int .i64 ((rd_T52 l0_4 x6_4).f2)))=w62 at n0_ n1_ n2_ ⊢;have BK280:=n0_;have BK289:=n1_;have HB:=n2_;clear n0_ n1_ n2_;replace BK280:=A_ (blk_drew BK280.out);replace BK289:=A_ (blk_drew BK289.out);replace HB:=A_ (below_drew1 HB.out);obtain ⟨⟨ad291,e291,hx291_0,hx291_1,hx291_2⟩,p291,q291⟩:=atB (at_T52 HR0_4.out (ji44));have hw291_2:=hx291_2;have hw291_1:=hx291_1;have hw291_0:=hx291_0;obtain rfl:ad288=ad291:=(by injection e291);obtain ⟨hx291_0,hx291_1,hx291_2⟩:=cb3 HB hx291_0 hx291_1 hx291_2;refine start_ (n:=34) (S:=fun w'=>w'.cell? ⟨gb289,0,none⟩=some (.int .i64 ((rd_T52 l0_4 x6_4).f0))∧w'.cell? ⟨gb289,1,none⟩=some (.string ((rd_T52 l0_4 x6_4).f1))∧w'.cell? ⟨gb289,2,none⟩=some (.int .i64 ((rd_T52 l0_4 x6_4).f2))∧w'.cell? ⟨gb280,0,none⟩=some (.string a0_0)∧w'.cell? ⟨gb280,1,none⟩=some (.int .i64 a0_1)∧w'.cell? ⟨gb280,2,none⟩=some (.slice A0_2 l0_2.length c0_2)∧w'.cell? ⟨gb280,3,none⟩=some (.slice A0_3 l0_3.length c0_3)∧w'.cell? ⟨gb280,4,none⟩=some (.slice (some ad288) l0_4.length c0_4)∧w'.cell? (ad288.add (((ji44)).toNat * 3))=some (.int .i64 ((rd_T52 l0_4 (ji44)).f0))∧w'.cell? ⟨(ad288.add (((ji44)).toNat * 3)).block,(ad288.add (((ji44)).toNat * 3)).off+1,none⟩=some (.string ((rd_T52 l0_4 (ji44)).f1))∧w'.cell? ⟨(ad288.add (((ji44)).toNat * 3)).block,(ad288.add (((ji44)).toNat * 3)).off+2,none⟩=some (.int .i64 ((rd_T52 l0_4 (ji44)).f2))) (ds:=[]) #[yF,yF,yF,yF,yF,yF,yF,yF,yF,yF,yF,yF,yF,yF,yF,yF,yF,yF,yF,yF,yF,yF,yF,yF,yF,yF,yF,yF,yF,yF,yF,yF,yF,yF] (by kernel_rfl) rfl rfl ⟨(blk_cell BK289.out 0).trans rfl,(blk_cell BK289.out 1).trans rfl,(blk_cell BK289.out 2).trans rfl,(blk_cell BK280.out 0).trans rfl,(blk_cell BK280.out 1).trans rfl,(blk_cell BK280.out 2).trans rfl,(blk_cell BK280.out 3).trans rfl,(blk_cell BK280.out 4).trans rfl,((HB.out.cell (World.block_lt_of_cell? w _ hw291_0)).trans hw291_0),((HB.out.cell (World.block_lt_of_cell? w _ hw291_1)).trans hw291_1),((HB.out.cell (World.block_lt_of_cell? w _ hw291_2)).trans hw291_2)⟩ (fun hHeld=>?_);refine with_tabW spec_TripOk.tab22 spec_TripOk.bits22 (fun HT_ HW_=>?_);generalize w62.drew=w63 at BK280 BK289 HB hx291_0 hx291_1 hx291_2 hHeld ⊢;refine pureZ 0 (some 83) (yA 1 33) ?_;refine pureZ 2 (some 85) #[yT,yF,yT,yF,yF,yF,yF,yF,yF,yF,yF,yF,yF,yF,yF,yF,yF,yF,yF,yF,yF,yF,yF,yF,yF,yF,yF,yF,yF,yF,yF,yF,yF,yF] ?_;refine takeZ11 1 (some 84) (yA 3 31) hHeld ?_;refine takeZ11 3 (some 86) (yA 4 30) hHeld ?_;refine oneZ 4 (some 87) (yA 5 29) (fun K hK=>?_);refine goes_ Tryz.func40 (by kernel_rfl) rfl #[.int .i64 ((rd_T52 l0_4 x6_4).f0),.int .i64 0,.int .i64 a0_1] (by rfl) rfl rfl zz39 ?_;with_reducible refine (spec_l6In.calls ((rd_T52 l0_4 x6_4).f0) 0 a0_1 true _ A41.out).mono ?_
                 rintro e w' ⟨rfl,⟨nd,rfl⟩⟩;refine ⟨_,rfl,?_⟩;refine hK.out _ _ ⟨(blk_cell BK289.out 0).trans rfl,(blk_cell BK289.out 1).trans rfl,(blk_cell BK289.out 2).trans rfl,(blk_cell BK280.out 0).trans rfl,(blk_cell BK280.out 1).trans rfl,(blk_cell BK280.out 2).trans rfl,(blk_cell BK280.out 3).trans rfl,(blk_cell BK280.out 4).trans rfl,((HB.out.cell (World.block_lt_of_cell? w _ hw291_0)).trans hw291_0),((HB.out.cell (World.block_lt_of_cell? w _ hw291_1)).trans hw291_1),((HB.out.cell (World.block_lt_of_cell? w _ hw291_2)).trans hw291_2)⟩ (fun hHeld=>?_);clear hK K;refine nZ 87 ?_;refine pureZ 5 (some 88) (yA 6 28) ?_;refine pureZ 6 (some 89) (yA 7 27) ?_;refine pureZ 7 (some 90) (yA 8 26) ?_;refine pureZ 8 (some 91) (yA 9 25) ?_;refine pureZ 9 (some 92) (yA 10 24) ?_;refine pureZ 10 (some 93) (yA 11 23) ?_;refine pureZ 12 (some 95) #[yT,yT,yT,yT,yT,yT,yT,yT,yT,yT,yT,yF,yT,yF,yF,yF,yF,yF,yF,yF,yF,yF,yF,yF,yF,yF,yF,yF,yF,yF,yF,yF,yF,yF] ?_;refine pureZ 13 (some 96) #[yT,yT,yT,yT,yT,yT,yT,yT,yT,yT,yT,yF,yT,yT,yF,yF,yF,yF,yF,yF,yF,yF,yF,yF,yF,yF,yF,yF,yF,yF,yF,yF,yF,yF] ?_;refine pureZ 17 (some 100) #[yT,yT,yT,yT,yT,yT,yT,yT,yT,yT,yT,yF,yT,yT,yF,yF,yF,yT,yF,yF,yF,yF,yF,yF,yF,yF,yF,yF,yF,yF,yF,yF,yF,yF] ?_;refine takeZ11 11 (some 94) #[yT,yT,yT,yT,yT,yT,yT,yT,yT,yT,yT,yT,yT,yT,yF,yF,yF,yT,yF,yF,yF,yF,yF,yF,yF,yF,yF,yF,yF,yF,yF,yF,yF,yF] hHeld ?_;refine pureZ 14 (some 97) #[yT,yT,yT,yT,yT,yT,yT,yT,yT,yT,yT,yT,yT,yT,yT,yF,yF,yT,yF,yF,yF,yF,yF,yF,yF,yF,yF,yF,yF,yF,yF,yF,yF,yF] ?_;refine pureZ 15 (some 98) #[yT,yT,yT,yT,yT,yT,yT,yT,yT,yT,yT,yT,yT,yT,yT,yT,yF,yT,yF,yF,yF,yF,yF,yF,yF,yF,yF,yF,yF,yF,yF,yF,yF,yF] ?_;refine takeZ11 16 (some 99) (yA 18 16) hHeld ?_;refine takeZ11 18 (some 101) (yA 19 15) hHeld ?_;refine pureZ 19 (some 102) (yA 20 14) ?_;refine pureZ 20 (some 103) (yA 21 13) ?_;refine pureZ 21 (some 104) (yA 22 12) ?_;refine pureZ 22 (some 105) (yA 23 11) ?_;refine pureZ 23 (some 106) (yA 24 10) ?_;refine takeZ11 24 (some 107) (yA 25 9) hHeld ?_;refine oneZ 25 (some 108) (yA 26 8) (fun K hK=>?_);refine goes_ Tryz.func41 (by kernel_rfl) rfl #[.string ((rd_T52 l0_4 x6_4).f1)] (by rfl) rfl rfl zz39 ?_;with_reducible refine (spec_l11Norm.calls k4 ((rd_T52 l0_4 x6_4).f1) true _ A54.out).mono ?_
                 rintro e w64 ⟨rfl,hb⟩;refine ⟨_,rfl,?_⟩;replace BK280:=A_ (bB (zz2 BK280) hb);replace BK289:=A_ (bB (zz2 BK289) hb);replace HB:=A_ (bS (zz3 HB GE280 GE289) hb);(try clear hb)
                 (try clear hb2)
                 (try clear hk)
                 (try clear hi)
                 refine hK.out _ _ ⟨(blk_cell BK289.out 0).trans rfl,(blk_cell BK289.out 1).trans rfl,(blk_cell BK289.out 2).trans rfl,(blk_cell BK280.out 0).trans rfl,(blk_cell BK280.out 1).trans rfl,(blk_cell BK280.out 2).trans rfl,(blk_cell BK280.out 3).trans rfl,(blk_cell BK280.out 4).trans rfl,((HB.out.cell (World.block_lt_of_cell? w _ hw291_0)).trans hw291_0),((HB.out.cell (World.block_lt_of_cell? w _ hw291_1)).trans hw291_1),((HB.out.cell (World.block_lt_of_cell? w _ hw291_2)).trans hw291_2)⟩ (fun hHeld=>?_);clear hK K;refine nZ 108 ?_;refine pureZ 26 (some 109) (yA 27 7) ?_;refine pureZ 27 (some 110) (yA 28 6) ?_;refine pureZ 28 (some 111) (yA 29 5) ?_;refine pureZ 29 (some 112) (yA 30 4) ?_;refine takeZ11 30 (some 113) (yA 31 3) hHeld ?_;refine oneZ 31 (some 114) (yA 32 2) (fun K hK=>?_);refine goes_ Tryz.func40 (by kernel_rfl) rfl #[.int .i64 ((rd_T52 l0_4 x6_4).f2),.int .i64 0,.int .i64 3] (by rfl) rfl rfl zz39 ?_;with_reducible refine (spec_l6In.calls ((rd_T52 l0_4 x6_4).f2) 0 3 t293 _ A56.out).mono ?_
                 rintro e w' ⟨rfl,⟨nd,rfl⟩⟩;refine ⟨_,rfl,?_⟩;refine hK.out _ _ ⟨(blk_cell BK289.out 0).trans rfl,(blk_cell BK289.out 1).trans rfl,(blk_cell BK289.out 2).trans rfl,(blk_cell BK280.out 0).trans rfl,(blk_cell BK280.out 1).trans rfl,(blk_cell BK280.out 2).trans rfl,(blk_cell BK280.out 3).trans rfl,(blk_cell BK280.out 4).trans rfl,((HB.out.cell (World.block_lt_of_cell? w _ hw291_0)).trans hw291_0),((HB.out.cell (World.block_lt_of_cell? w _ hw291_1)).trans hw291_1),((HB.out.cell (World.block_lt_of_cell? w _ hw291_2)).trans hw291_2)⟩ (fun hHeld=>?_);clear hK K;refine nZ 114 ?_;refine pureZ 32 (some 115) (yA 33 1) ?_;refine pureZ 33 (some 116) (yA 34 0) ?_;refine done_ (done_of HT_.out (by kernel_rfl)) ?_;go_upto_if 116 with (fail)
                 obtain ⟨H⟩:=HF57;replace H:=iteB H;rcases H with ⟨rfl,H⟩|⟨rfl,H⟩
                 ·have H':=A_ H
                  clear H;go_wp2
                  go_roundg k4
                  case measure=>have:=HJ1.out;have:=HK2.out;have:=HK3.out;have:=HK4.out;omega
                  case rel=>exact ⟨(wrap64 (x6_4+1)),zz7,H',⟨(by have:=HJ1.out;have:=HK2.out;have:=HK3.out;have:=HK4.out;omega)⟩,⟨(zz2 BK280)⟩,⟨(zz3 HB GE280 GE289)⟩⟩
                 ·obtain rfl:=sI H
                  go_wp2
                  go_ret
                  exact ⟨zz178,(zz3 HB GE280 GE289)⟩
                ·obtain rfl:=sI H
                 obtain ⟨_,_,_,_,_,_,_,_,_,_⟩:=cf5 BK280;obtain ⟨⟨ad288,e288,hx288_0,hx288_1,hx288_2⟩,p288,q288⟩:=atB (at_T52 HR0_4.out x6_4);cases e288
                 obtain ⟨hx288_0,hx288_1,hx288_2⟩:=cb3 HB hx288_0 hx288_1 hx288_2;try go_wp2_with (first|((with_reducible refine gD (N:=7) rfl ?_);(try (refine gate_guard (by rfl) ?_;dsimp only));refine boxE 7 #[.int .i64 0,.string (⟨#[]⟩:ByteArray),.int .i64 0] 52 ?_;intro gb289 hg w67 hbox hb;have BK289:=A_ (hbox);have GE289:=geB hg (zz1 HB GE280);replace HB:=A_ (bS (zz1 HB GE280) hb);have NB280_289:=A_ ((by rw [hg];exact Nat.ne_of_lt (blk_lt (zz2 BK280)):gb280≠gb289));have NB289_280:=A_ ((by rw [hg];exact Nat.ne_of_gt (blk_lt (zz2 BK280)):gb289≠gb280));replace BK280:=A_ (bB (zz2 BK280) hb);clear hb hbox hg;have hnb68:=NB289_280.out;have hnc68:=NB280_289.out;obtain ⟨_,_,_,_,_,_⟩:=cf3 BK289))
                 have n0_:Aside0 ((((w67.setCell ⟨gb289,0,none⟩ (.int .i64 ((rd_T52 l0_4 x6_4).f0))).setCell ⟨gb289,1,none⟩ (.string ((rd_T52 l0_4 x6_4).f1))).setCell ⟨gb289,2,none⟩ (.int .i64 ((rd_T52 l0_4 x6_4).f2))).heap[gb280]?=some (.cells #[.string a0_0,.int .i64 a0_1,.slice A0_2 l0_2.length c0_2,.slice A0_3 l0_3.length c0_3,.slice (some ad288) l0_4.length c0_4] 33 (0,0))):=⟨(zz4 BK280 NB280_289)⟩;have n1_:Aside0 ((((w67.setCell ⟨gb289,0,none⟩ (.int .i64 ((rd_T52 l0_4 x6_4).f0))).setCell ⟨gb289,1,none⟩ (.string ((rd_T52 l0_4 x6_4).f1))).setCell ⟨gb289,2,none⟩ (.int .i64 ((rd_T52 l0_4 x6_4).f2))).heap[gb289]?=some (.cells #[.int .i64 ((rd_T52 l0_4 x6_4).f0),.string ((rd_T52 l0_4 x6_4).f1),.int .i64 ((rd_T52 l0_4 x6_4).f2)] 52 (0,0))):=⟨(zz26 BK289)⟩;have n2_:Aside0 (Below w.heap.size w (((w67.setCell ⟨gb289,0,none⟩ (.int .i64 ((rd_T52 l0_4 x6_4).f0))).setCell ⟨gb289,1,none⟩ (.string ((rd_T52 l0_4 x6_4).f1))).setCell ⟨gb289,2,none⟩ (.int .i64 ((rd_T52 l0_4 x6_4).f2)))):=⟨(zz3 HB GE280 GE289)⟩;(try clear BK280)
                 (try clear BK289)
                 (try clear HB)
                 generalize (((w67.setCell ⟨gb289,0,none⟩ (.int .i64 ((rd_T52 l0_4 x6_4).f0))).setCell ⟨gb289,1,none⟩ (.string ((rd_T52 l0_4 x6_4).f1))).setCell ⟨gb289,2,none⟩ (.int .i64 ((rd_T52 l0_4 x6_4).f2)))=w70 at n0_ n1_ n2_ ⊢;have BK280:=n0_;have BK289:=n1_;have HB:=n2_;clear n0_ n1_ n2_;replace BK280:=A_ (blk_drew BK280.out);replace BK289:=A_ (blk_drew BK289.out);replace HB:=A_ (below_drew1 HB.out);obtain ⟨⟨ad291,e291,hx291_0,hx291_1,hx291_2⟩,p291,q291⟩:=atB (at_T52 HR0_4.out (ji44));have hw291_2:=hx291_2;have hw291_1:=hx291_1;have hw291_0:=hx291_0;obtain rfl:ad288=ad291:=(by injection e291);obtain ⟨hx291_0,hx291_1,hx291_2⟩:=cb3 HB hx291_0 hx291_1 hx291_2;refine start_ (n:=34) (S:=fun w'=>w'.cell? ⟨gb289,0,none⟩=some (.int .i64 ((rd_T52 l0_4 x6_4).f0))∧w'.cell? ⟨gb289,1,none⟩=some (.string ((rd_T52 l0_4 x6_4).f1))∧w'.cell? ⟨gb289,2,none⟩=some (.int .i64 ((rd_T52 l0_4 x6_4).f2))∧w'.cell? ⟨gb280,0,none⟩=some (.string a0_0)∧w'.cell? ⟨gb280,1,none⟩=some (.int .i64 a0_1)∧w'.cell? ⟨gb280,2,none⟩=some (.slice A0_2 l0_2.length c0_2)∧w'.cell? ⟨gb280,3,none⟩=some (.slice A0_3 l0_3.length c0_3)∧w'.cell? ⟨gb280,4,none⟩=some (.slice (some ad288) l0_4.length c0_4)∧w'.cell? (ad288.add (((ji44)).toNat * 3))=some (.int .i64 ((rd_T52 l0_4 (ji44)).f0))∧w'.cell? ⟨(ad288.add (((ji44)).toNat * 3)).block,(ad288.add (((ji44)).toNat * 3)).off+1,none⟩=some (.string ((rd_T52 l0_4 (ji44)).f1))∧w'.cell? ⟨(ad288.add (((ji44)).toNat * 3)).block,(ad288.add (((ji44)).toNat * 3)).off+2,none⟩=some (.int .i64 ((rd_T52 l0_4 (ji44)).f2))) (ds:=[]) #[yF,yF,yF,yF,yF,yF,yF,yF,yF,yF,yF,yF,yF,yF,yF,yF,yF,yF,yF,yF,yF,yF,yF,yF,yF,yF,yF,yF,yF,yF,yF,yF,yF,yF] (by kernel_rfl) rfl rfl ⟨(blk_cell BK289.out 0).trans rfl,(blk_cell BK289.out 1).trans rfl,(blk_cell BK289.out 2).trans rfl,(blk_cell BK280.out 0).trans rfl,(blk_cell BK280.out 1).trans rfl,(blk_cell BK280.out 2).trans rfl,(blk_cell BK280.out 3).trans rfl,(blk_cell BK280.out 4).trans rfl,((HB.out.cell (World.block_lt_of_cell? w _ hw291_0)).trans hw291_0),((HB.out.cell (World.block_lt_of_cell? w _ hw291_1)).trans hw291_1),((HB.out.cell (World.block_lt_of_cell? w _ hw291_2)).trans hw291_2)⟩ (fun hHeld=>?_);refine with_tabW spec_TripOk.tab22 spec_TripOk.bits22 (fun HT_ HW_=>?_);generalize w70.drew=w71 at BK280 BK289 HB hx291_0 hx291_1 hx291_2 hHeld ⊢;refine pureZ 0 (some 83) (yA 1 33) ?_;refine pureZ 2 (some 85) #[yT,yF,yT,yF,yF,yF,yF,yF,yF,yF,yF,yF,yF,yF,yF,yF,yF,yF,yF,yF,yF,yF,yF,yF,yF,yF,yF,yF,yF,yF,yF,yF,yF,yF] ?_;refine takeZ11 1 (some 84) (yA 3 31) hHeld ?_;refine takeZ11 3 (some 86) (yA 4 30) hHeld ?_;refine oneZ 4 (some 87) (yA 5 29) (fun K hK=>?_);refine goes_ Tryz.func40 (by kernel_rfl) rfl #[.int .i64 ((rd_T52 l0_4 x6_4).f0),.int .i64 0,.int .i64 a0_1] (by rfl) rfl rfl zz39 ?_;with_reducible refine (spec_l6In.calls ((rd_T52 l0_4 x6_4).f0) 0 a0_1 true _ A41.out).mono ?_
                 rintro e w' ⟨rfl,⟨nd,rfl⟩⟩;refine ⟨_,rfl,?_⟩;refine hK.out _ _ ⟨(blk_cell BK289.out 0).trans rfl,(blk_cell BK289.out 1).trans rfl,(blk_cell BK289.out 2).trans rfl,(blk_cell BK280.out 0).trans rfl,(blk_cell BK280.out 1).trans rfl,(blk_cell BK280.out 2).trans rfl,(blk_cell BK280.out 3).trans rfl,(blk_cell BK280.out 4).trans rfl,((HB.out.cell (World.block_lt_of_cell? w _ hw291_0)).trans hw291_0),((HB.out.cell (World.block_lt_of_cell? w _ hw291_1)).trans hw291_1),((HB.out.cell (World.block_lt_of_cell? w _ hw291_2)).trans hw291_2)⟩ (fun hHeld=>?_);clear hK K;refine nZ 87 ?_;refine pureZ 5 (some 88) (yA 6 28) ?_;refine pureZ 6 (some 89) (yA 7 27) ?_;refine pureZ 7 (some 90) (yA 8 26) ?_;refine pureZ 8 (some 91) (yA 9 25) ?_;refine pureZ 9 (some 92) (yA 10 24) ?_;refine pureZ 10 (some 93) (yA 11 23) ?_;refine pureZ 12 (some 95) #[yT,yT,yT,yT,yT,yT,yT,yT,yT,yT,yT,yF,yT,yF,yF,yF,yF,yF,yF,yF,yF,yF,yF,yF,yF,yF,yF,yF,yF,yF,yF,yF,yF,yF] ?_;refine pureZ 13 (some 96) #[yT,yT,yT,yT,yT,yT,yT,yT,yT,yT,yT,yF,yT,yT,yF,yF,yF,yF,yF,yF,yF,yF,yF,yF,yF,yF,yF,yF,yF,yF,yF,yF,yF,yF] ?_;refine pureZ 17 (some 100) #[yT,yT,yT,yT,yT,yT,yT,yT,yT,yT,yT,yF,yT,yT,yF,yF,yF,yT,yF,yF,yF,yF,yF,yF,yF,yF,yF,yF,yF,yF,yF,yF,yF,yF] ?_;refine takeZ11 11 (some 94) #[yT,yT,yT,yT,yT,yT,yT,yT,yT,yT,yT,yT,yT,yT,yF,yF,yF,yT,yF,yF,yF,yF,yF,yF,yF,yF,yF,yF,yF,yF,yF,yF,yF,yF] hHeld ?_;refine pureZ 14 (some 97) #[yT,yT,yT,yT,yT,yT,yT,yT,yT,yT,yT,yT,yT,yT,yT,yF,yF,yT,yF,yF,yF,yF,yF,yF,yF,yF,yF,yF,yF,yF,yF,yF,yF,yF] ?_;refine pureZ 15 (some 98) #[yT,yT,yT,yT,yT,yT,yT,yT,yT,yT,yT,yT,yT,yT,yT,yT,yF,yT,yF,yF,yF,yF,yF,yF,yF,yF,yF,yF,yF,yF,yF,yF,yF,yF] ?_;refine takeZ11 16 (some 99) (yA 18 16) hHeld ?_;refine takeZ11 18 (some 101) (yA 19 15) hHeld ?_;refine pureZ 19 (some 102) (yA 20 14) ?_;refine pureZ 20 (some 103) (yA 21 13) ?_;refine pureZ 21 (some 104) (yA 22 12) ?_;refine pureZ 22 (some 105) (yA 23 11) ?_;refine pureZ 23 (some 106) (yA 24 10) ?_;refine takeZ11 24 (some 107) (yA 25 9) hHeld ?_;refine oneZ 25 (some 108) (yA 26 8) (fun K hK=>?_);refine goes_ Tryz.func41 (by kernel_rfl) rfl #[.string ((rd_T52 l0_4 x6_4).f1)] (by rfl) rfl rfl zz39 ?_;with_reducible refine (spec_l11Norm.calls k4 ((rd_T52 l0_4 x6_4).f1) false _ A54.out).mono ?_
                 rintro e w72 ⟨rfl,hb⟩;refine ⟨_,rfl,?_⟩;replace BK280:=A_ (bB (zz2 BK280) hb);replace BK289:=A_ (bB (zz2 BK289) hb);replace HB:=A_ (bS (zz3 HB GE280 GE289) hb);(try clear hb)
                 (try clear hb2)
                 (try clear hk)
                 (try clear hi)
                 refine hK.out _ _ ⟨(blk_cell BK289.out 0).trans rfl,(blk_cell BK289.out 1).trans rfl,(blk_cell BK289.out 2).trans rfl,(blk_cell BK280.out 0).trans rfl,(blk_cell BK280.out 1).trans rfl,(blk_cell BK280.out 2).trans rfl,(blk_cell BK280.out 3).trans rfl,(blk_cell BK280.out 4).trans rfl,((HB.out.cell (World.block_lt_of_cell? w _ hw291_0)).trans hw291_0),((HB.out.cell (World.block_lt_of_cell? w _ hw291_1)).trans hw291_1),((HB.out.cell (World.block_lt_of_cell? w _ hw291_2)).trans hw291_2)⟩ (fun hHeld=>?_);clear hK K;refine nZ 108 ?_;refine pureZ 26 (some 109) (yA 27 7) ?_;refine pureZ 27 (some 110) (yA 28 6) ?_;refine pureZ 28 (some 111) (yA 29 5) ?_;refine pure_ (i:=29) (N:=some 112) (v:=undef) (a':=?_) (yA 30 4) rfl rfl (any_of HT_.out (by kernel_rfl)) (fun _ _ _ h=>h) (Or.inr ⟨by rfl,rfl⟩) ?_ ?_;rotate_left
                 ·simp only [Act.put,List.setIfInBounds_toArray,List.set_cons_zero,List.set_cons_succ,i64_w,i32_w]
                  rfl
                 refine pure_ (i:=30) (N:=some 113) (v:=undef) (a':=?_) (yA 31 3) rfl rfl (any_of HT_.out (by kernel_rfl)) (fun _ _ _ h=>h) (Or.inr ⟨by rfl,rfl⟩) ?_ ?_;rotate_left
                 ·simp only [Act.put,List.setIfInBounds_toArray,List.set_cons_zero,List.set_cons_succ,i64_w,i32_w]
                  rfl
                 refine pure_ (i:=31) (N:=some 114) (v:=undef) (a':=?_) (yA 32 2) rfl rfl (any_of HT_.out (by kernel_rfl)) (fun _ _ _ h=>h) (Or.inr ⟨by rfl,rfl⟩) ?_ ?_;rotate_left
                 ·simp only [Act.put,List.setIfInBounds_toArray,List.set_cons_zero,List.set_cons_succ,i64_w,i32_w]
                  rfl
                 refine pure_ (i:=32) (N:=some 115) (v:=undef) (a':=?_) (yA 33 1) rfl rfl (any_of HT_.out (by kernel_rfl)) (fun _ _ _ h=>h) (Or.inr ⟨by rfl,rfl⟩) ?_ ?_;rotate_left
                 ·simp only [Act.put,List.setIfInBounds_toArray,List.set_cons_zero,List.set_cons_succ,i64_w,i32_w]
                  rfl
                 refine pureZ 33 (some 116) (yA 34 0) ?_;refine done_ (done_of HT_.out (by kernel_rfl)) ?_;try go_wp2
                 go_ret
                 exact ⟨zz178,(zz3 HB GE280 GE289)⟩
              ·have c43b0:=gtF c43
               clear c43;replace H:=bindA H;obtain ⟨t294,A73,H⟩:=H;replace H:=iteB H;rcases H with ⟨rfl,H⟩|⟨rfl,H⟩
               ·replace H:=bindA H
                obtain ⟨t295,A75,H⟩:=H;have HF76:=A_ H;clear H;obtain ⟨_,_,_,_,_,_,_,_,_,_⟩:=cf5 BK280;obtain ⟨⟨ad288,e288,hx288_0,hx288_1,hx288_2⟩,p288,q288⟩:=atB (at_T52 HR0_4.out x6_4);cases e288
                obtain ⟨hx288_0,hx288_1,hx288_2⟩:=cb3 HB hx288_0 hx288_1 hx288_2;try go_wp2_with (first|((with_reducible refine gD (N:=7) rfl ?_);(try (refine gate_guard (by rfl) ?_;dsimp only));refine boxE 7 #[.int .i64 0,.string (⟨#[]⟩:ByteArray),.int .i64 0] 52 ?_;intro gb289 hg w78 hbox hb;have BK289:=A_ (hbox);have GE289:=geB hg (zz1 HB GE280);replace HB:=A_ (bS (zz1 HB GE280) hb);have NB280_289:=A_ ((by rw [hg];exact Nat.ne_of_lt (blk_lt (zz2 BK280)):gb280≠gb289));have NB289_280:=A_ ((by rw [hg];exact Nat.ne_of_gt (blk_lt (zz2 BK280)):gb289≠gb280));replace BK280:=A_ (bB (zz2 BK280) hb);clear hb hbox hg;have hnb79:=NB289_280.out;have hnc79:=NB280_289.out;obtain ⟨_,_,_,_,_,_⟩:=cf3 BK289))
                have n0_:Aside0 ((((w78.setCell ⟨gb289,0,none⟩ (.int .i64 ((rd_T52 l0_4 x6_4).f0))).setCell ⟨gb289,1,none⟩ (.string ((rd_T52 l0_4 x6_4).f1))).setCell ⟨gb289,2,none⟩ (.int .i64 ((rd_T52 l0_4 x6_4).f2))).heap[gb280]?=some (.cells #[.string a0_0,.int .i64 a0_1,.slice A0_2 l0_2.length c0_2,.slice A0_3 l0_3.length c0_3,.slice (some ad288) l0_4.length c0_4] 33 (0,0))):=⟨(zz4 BK280 NB280_289)⟩;have n1_:Aside0 ((((w78.setCell ⟨gb289,0,none⟩ (.int .i64 ((rd_T52 l0_4 x6_4).f0))).setCell ⟨gb289,1,none⟩ (.string ((rd_T52 l0_4 x6_4).f1))).setCell ⟨gb289,2,none⟩ (.int .i64 ((rd_T52 l0_4 x6_4).f2))).heap[gb289]?=some (.cells #[.int .i64 ((rd_T52 l0_4 x6_4).f0),.string ((rd_T52 l0_4 x6_4).f1),.int .i64 ((rd_T52 l0_4 x6_4).f2)] 52 (0,0))):=⟨(zz26 BK289)⟩;have n2_:Aside0 (Below w.heap.size w (((w78.setCell ⟨gb289,0,none⟩ (.int .i64 ((rd_T52 l0_4 x6_4).f0))).setCell ⟨gb289,1,none⟩ (.string ((rd_T52 l0_4 x6_4).f1))).setCell ⟨gb289,2,none⟩ (.int .i64 ((rd_T52 l0_4 x6_4).f2)))):=⟨(zz3 HB GE280 GE289)⟩;(try clear BK280)
                (try clear BK289)
                (try clear HB)
                generalize (((w78.setCell ⟨gb289,0,none⟩ (.int .i64 ((rd_T52 l0_4 x6_4).f0))).setCell ⟨gb289,1,none⟩ (.string ((rd_T52 l0_4 x6_4).f1))).setCell ⟨gb289,2,none⟩ (.int .i64 ((rd_T52 l0_4 x6_4).f2)))=w81 at n0_ n1_ n2_ ⊢;have BK280:=n0_;have BK289:=n1_;have HB:=n2_;clear n0_ n1_ n2_;replace BK280:=A_ (blk_drew BK280.out);replace BK289:=A_ (blk_drew BK289.out);replace HB:=A_ (below_drew1 HB.out);refine start_ (n:=34) (S:=fun w'=>w'.cell? ⟨gb289,0,none⟩=some (.int .i64 ((rd_T52 l0_4 x6_4).f0))∧w'.cell? ⟨gb289,1,none⟩=some (.string ((rd_T52 l0_4 x6_4).f1))∧w'.cell? ⟨gb289,2,none⟩=some (.int .i64 ((rd_T52 l0_4 x6_4).f2))∧w'.cell? ⟨gb280,0,none⟩=some (.string a0_0)∧w'.cell? ⟨gb280,1,none⟩=some (.int .i64 a0_1)∧w'.cell? ⟨gb280,2,none⟩=some (.slice A0_2 l0_2.length c0_2)∧w'.cell? ⟨gb280,3,none⟩=some (.slice A0_3 l0_3.length c0_3)∧w'.cell? ⟨gb280,4,none⟩=some (.slice (some ad288) l0_4.length c0_4)) (ds:=[]) #[yF,yF,yF,yF,yF,yF,yF,yF,yF,yF,yF,yF,yF,yF,yF,yF,yF,yF,yF,yF,yF,yF,yF,yF,yF,yF,yF,yF,yF,yF,yF,yF,yF,yF] (by kernel_rfl) rfl rfl ⟨(blk_cell BK289.out 0).trans rfl,(blk_cell BK289.out 1).trans rfl,(blk_cell BK289.out 2).trans rfl,(blk_cell BK280.out 0).trans rfl,(blk_cell BK280.out 1).trans rfl,(blk_cell BK280.out 2).trans rfl,(blk_cell BK280.out 3).trans rfl,(blk_cell BK280.out 4).trans rfl⟩ (fun hHeld=>?_);refine with_tabW spec_TripOk.tab22 spec_TripOk.bits22 (fun HT_ HW_=>?_);generalize w81.drew=w82 at BK280 BK289 HB hHeld ⊢;refine pureZ 0 (some 83) (yA 1 33) ?_;refine pureZ 2 (some 85) #[yT,yF,yT,yF,yF,yF,yF,yF,yF,yF,yF,yF,yF,yF,yF,yF,yF,yF,yF,yF,yF,yF,yF,yF,yF,yF,yF,yF,yF,yF,yF,yF,yF,yF] ?_;refine takeZ8 1 (some 84) (yA 3 31) hHeld ?_;refine takeZ8 3 (some 86) (yA 4 30) hHeld ?_;refine oneZ 4 (some 87) (yA 5 29) (fun K hK=>?_);refine goes_ Tryz.func40 (by kernel_rfl) rfl #[.int .i64 ((rd_T52 l0_4 x6_4).f0),.int .i64 0,.int .i64 a0_1] (by rfl) rfl rfl zz39 ?_;with_reducible refine (spec_l6In.calls ((rd_T52 l0_4 x6_4).f0) 0 a0_1 true _ A41.out).mono ?_
                rintro e w' ⟨rfl,⟨nd,rfl⟩⟩;refine ⟨_,rfl,?_⟩;refine hK.out _ _ ⟨(blk_cell BK289.out 0).trans rfl,(blk_cell BK289.out 1).trans rfl,(blk_cell BK289.out 2).trans rfl,(blk_cell BK280.out 0).trans rfl,(blk_cell BK280.out 1).trans rfl,(blk_cell BK280.out 2).trans rfl,(blk_cell BK280.out 3).trans rfl,(blk_cell BK280.out 4).trans rfl⟩ (fun hHeld=>?_);clear hK K;refine nZ 87 ?_;refine pureZ 5 (some 88) (yA 6 28) ?_;refine pureZ 6 (some 89) (yA 7 27) ?_;refine pureZ 7 (some 90) (yA 8 26) ?_;refine pureZ 8 (some 91) (yA 9 25) ?_;refine pureZ 9 (some 92) (yA 10 24) ?_;refine pure_ (i:=10) (N:=some 93) (v:=undef) (a':=?_) (yA 11 23) rfl rfl (any_of HT_.out (by kernel_rfl)) (fun _ _ _ h=>h) (Or.inr ⟨by rfl,rfl⟩) ?_ ?_;rotate_left
                ·simp only [Act.put,List.setIfInBounds_toArray,List.set_cons_zero,List.set_cons_succ,i64_w,i32_w]
                 rfl
                refine pure_ (i:=11) (N:=some 94) (v:=undef) (a':=?_) (yA 12 22) rfl rfl (any_of HT_.out (by kernel_rfl)) (fun _ _ _ h=>h) (Or.inr ⟨by rfl,rfl⟩) ?_ ?_;rotate_left
                ·simp only [Act.put,List.setIfInBounds_toArray,List.set_cons_zero,List.set_cons_succ,i64_w,i32_w]
                 rfl
                refine pure_ (i:=12) (N:=some 95) (v:=undef) (a':=?_) (yA 13 21) rfl rfl (any_of HT_.out (by kernel_rfl)) (fun _ _ _ h=>h) (Or.inr ⟨by rfl,rfl⟩) ?_ ?_;rotate_left
                ·simp only [Act.put,List.setIfInBounds_toArray,List.set_cons_zero,List.set_cons_succ,i64_w,i32_w]
                 rfl
                refine pure_ (i:=13) (N:=some 96) (v:=undef) (a':=?_) (yA 14 20) rfl rfl (any_of HT_.out (by kernel_rfl)) (fun _ _ _ h=>h) (Or.inr ⟨by rfl,rfl⟩) ?_ ?_;rotate_left
                ·simp only [Act.put,List.setIfInBounds_toArray,List.set_cons_zero,List.set_cons_succ,i64_w,i32_w]
                 rfl
                refine pure_ (i:=14) (N:=some 97) (v:=undef) (a':=?_) (yA 15 19) rfl rfl (any_of HT_.out (by kernel_rfl)) (fun _ _ _ h=>h) (Or.inr ⟨by rfl,rfl⟩) ?_ ?_;rotate_left
                ·simp only [Act.put,List.setIfInBounds_toArray,List.set_cons_zero,List.set_cons_succ,i64_w,i32_w]
                 rfl
                refine pure_ (i:=15) (N:=some 98) (v:=undef) (a':=?_) (yA 16 18) rfl rfl (any_of HT_.out (by kernel_rfl)) (fun _ _ _ h=>h) (Or.inr ⟨by rfl,rfl⟩) ?_ ?_;rotate_left
                ·simp only [Act.put,List.setIfInBounds_toArray,List.set_cons_zero,List.set_cons_succ,i64_w,i32_w]
                 rfl
                refine pure_ (i:=16) (N:=some 99) (v:=undef) (a':=?_) (yA 17 17) rfl rfl (any_of HT_.out (by kernel_rfl)) (fun _ _ _ h=>h) (Or.inr ⟨by rfl,rfl⟩) ?_ ?_;rotate_left
                ·simp only [Act.put,List.setIfInBounds_toArray,List.set_cons_zero,List.set_cons_succ,i64_w,i32_w]
                 rfl
                refine pure_ (i:=17) (N:=some 100) (v:=undef) (a':=?_) (yA 18 16) rfl rfl (any_of HT_.out (by kernel_rfl)) (fun _ _ _ h=>h) (Or.inr ⟨by rfl,rfl⟩) ?_ ?_;rotate_left
                ·simp only [Act.put,List.setIfInBounds_toArray,List.set_cons_zero,List.set_cons_succ,i64_w,i32_w]
                 rfl
                refine pure_ (i:=18) (N:=some 101) (v:=undef) (a':=?_) (yA 19 15) rfl rfl (any_of HT_.out (by kernel_rfl)) (fun _ _ _ h=>h) (Or.inr ⟨by rfl,rfl⟩) ?_ ?_;rotate_left
                ·simp only [Act.put,List.setIfInBounds_toArray,List.set_cons_zero,List.set_cons_succ,i64_w,i32_w]
                 rfl
                refine pure_ (i:=19) (N:=some 102) (v:=undef) (a':=?_) (yA 20 14) rfl rfl (any_of HT_.out (by kernel_rfl)) (fun _ _ _ h=>h) (Or.inr ⟨by rfl,rfl⟩) ?_ ?_;rotate_left
                ·simp only [Act.put,List.setIfInBounds_toArray,List.set_cons_zero,List.set_cons_succ,i64_w,i32_w]
                 rfl
                refine pureZ 20 (some 103) (yA 21 13) ?_;refine pureZ 21 (some 104) (yA 22 12) ?_;refine pureZ 22 (some 105) (yA 23 11) ?_;refine pureZ 23 (some 106) (yA 24 10) ?_;refine takeZ8 24 (some 107) (yA 25 9) hHeld ?_;refine oneZ 25 (some 108) (yA 26 8) (fun K hK=>?_);refine goes_ Tryz.func41 (by kernel_rfl) rfl #[.string ((rd_T52 l0_4 x6_4).f1)] (by rfl) rfl rfl zz39 ?_;with_reducible refine (spec_l11Norm.calls k4 ((rd_T52 l0_4 x6_4).f1) true _ A73.out).mono ?_
                rintro e w83 ⟨rfl,hb⟩;refine ⟨_,rfl,?_⟩;replace BK280:=A_ (bB (zz2 BK280) hb);replace BK289:=A_ (bB (zz2 BK289) hb);replace HB:=A_ (bS (zz3 HB GE280 GE289) hb);(try clear hb)
                (try clear hb2)
                (try clear hk)
                (try clear hi)
                refine hK.out _ _ ⟨(blk_cell BK289.out 0).trans rfl,(blk_cell BK289.out 1).trans rfl,(blk_cell BK289.out 2).trans rfl,(blk_cell BK280.out 0).trans rfl,(blk_cell BK280.out 1).trans rfl,(blk_cell BK280.out 2).trans rfl,(blk_cell BK280.out 3).trans rfl,(blk_cell BK280.out 4).trans rfl⟩ (fun hHeld=>?_);clear hK K;refine nZ 108 ?_;refine pureZ 26 (some 109) (yA 27 7) ?_;refine pureZ 27 (some 110) (yA 28 6) ?_;refine pureZ 28 (some 111) (yA 29 5) ?_;refine pureZ 29 (some 112) (yA 30 4) ?_;refine takeZ8 30 (some 113) (yA 31 3) hHeld ?_;refine oneZ 31 (some 114) (yA 32 2) (fun K hK=>?_);refine goes_ Tryz.func40 (by kernel_rfl) rfl #[.int .i64 ((rd_T52 l0_4 x6_4).f2),.int .i64 0,.int .i64 3] (by rfl) rfl rfl zz39 ?_;with_reducible refine (spec_l6In.calls ((rd_T52 l0_4 x6_4).f2) 0 3 t295 _ A75.out).mono ?_
                rintro e w' ⟨rfl,⟨nd,rfl⟩⟩;refine ⟨_,rfl,?_⟩;refine hK.out _ _ ⟨(blk_cell BK289.out 0).trans rfl,(blk_cell BK289.out 1).trans rfl,(blk_cell BK289.out 2).trans rfl,(blk_cell BK280.out 0).trans rfl,(blk_cell BK280.out 1).trans rfl,(blk_cell BK280.out 2).trans rfl,(blk_cell BK280.out 3).trans rfl,(blk_cell BK280.out 4).trans rfl⟩ (fun hHeld=>?_);clear hK K;refine nZ 114 ?_;refine pureZ 32 (some 115) (yA 33 1) ?_;refine pureZ 33 (some 116) (yA 34 0) ?_;refine done_ (done_of HT_.out (by kernel_rfl)) ?_;go_upto_if 116 with (fail)
                obtain ⟨H⟩:=HF76;replace H:=iteB H;rcases H with ⟨rfl,H⟩|⟨rfl,H⟩
                ·have H':=A_ H
                 clear H;go_wp2
                 go_roundg k4
                 case measure=>have:=HJ1.out;have:=HK2.out;have:=HK3.out;have:=HK4.out;omega
                 case rel=>exact ⟨(wrap64 (x6_4+1)),zz7,H',⟨(by have:=HJ1.out;have:=HK2.out;have:=HK3.out;have:=HK4.out;omega)⟩,⟨(zz2 BK280)⟩,⟨(zz3 HB GE280 GE289)⟩⟩
                ·obtain rfl:=sI H
                 go_wp2
                 go_ret
                 exact ⟨zz5,(zz3 HB GE280 GE289)⟩
               ·obtain rfl:=sI H
                obtain ⟨_,_,_,_,_,_,_,_,_,_⟩:=cf5 BK280;obtain ⟨⟨ad288,e288,hx288_0,hx288_1,hx288_2⟩,p288,q288⟩:=atB (at_T52 HR0_4.out x6_4);cases e288
                obtain ⟨hx288_0,hx288_1,hx288_2⟩:=cb3 HB hx288_0 hx288_1 hx288_2;try go_wp2_with (first|((with_reducible refine gD (N:=7) rfl ?_);(try (refine gate_guard (by rfl) ?_;dsimp only));refine boxE 7 #[.int .i64 0,.string (⟨#[]⟩:ByteArray),.int .i64 0] 52 ?_;intro gb289 hg w86 hbox hb;have BK289:=A_ (hbox);have GE289:=geB hg (zz1 HB GE280);replace HB:=A_ (bS (zz1 HB GE280) hb);have NB280_289:=A_ ((by rw [hg];exact Nat.ne_of_lt (blk_lt (zz2 BK280)):gb280≠gb289));have NB289_280:=A_ ((by rw [hg];exact Nat.ne_of_gt (blk_lt (zz2 BK280)):gb289≠gb280));replace BK280:=A_ (bB (zz2 BK280) hb);clear hb hbox hg;have hnb87:=NB289_280.out;have hnc87:=NB280_289.out;obtain ⟨_,_,_,_,_,_⟩:=cf3 BK289))
                have n0_:Aside0 ((((w86.setCell ⟨gb289,0,none⟩ (.int .i64 ((rd_T52 l0_4 x6_4).f0))).setCell ⟨gb289,1,none⟩ (.string ((rd_T52 l0_4 x6_4).f1))).setCell ⟨gb289,2,none⟩ (.int .i64 ((rd_T52 l0_4 x6_4).f2))).heap[gb280]?=some (.cells #[.string a0_0,.int .i64 a0_1,.slice A0_2 l0_2.length c0_2,.slice A0_3 l0_3.length c0_3,.slice (some ad288) l0_4.length c0_4] 33 (0,0))):=⟨(zz4 BK280 NB280_289)⟩;have n1_:Aside0 ((((w86.setCell ⟨gb289,0,none⟩ (.int .i64 ((rd_T52 l0_4 x6_4).f0))).setCell ⟨gb289,1,none⟩ (.string ((rd_T52 l0_4 x6_4).f1))).setCell ⟨gb289,2,none⟩ (.int .i64 ((rd_T52 l0_4 x6_4).f2))).heap[gb289]?=some (.cells #[.int .i64 ((rd_T52 l0_4 x6_4).f0),.string ((rd_T52 l0_4 x6_4).f1),.int .i64 ((rd_T52 l0_4 x6_4).f2)] 52 (0,0))):=⟨(zz26 BK289)⟩;have n2_:Aside0 (Below w.heap.size w (((w86.setCell ⟨gb289,0,none⟩ (.int .i64 ((rd_T52 l0_4 x6_4).f0))).setCell ⟨gb289,1,none⟩ (.string ((rd_T52 l0_4 x6_4).f1))).setCell ⟨gb289,2,none⟩ (.int .i64 ((rd_T52 l0_4 x6_4).f2)))):=⟨(zz3 HB GE280 GE289)⟩;(try clear BK280)
                (try clear BK289)
                (try clear HB)
                generalize (((w86.setCell ⟨gb289,0,none⟩ (.int .i64 ((rd_T52 l0_4 x6_4).f0))).setCell ⟨gb289,1,none⟩ (.string ((rd_T52 l0_4 x6_4).f1))).setCell ⟨gb289,2,none⟩ (.int .i64 ((rd_T52 l0_4 x6_4).f2)))=w89 at n0_ n1_ n2_ ⊢;have BK280:=n0_;have BK289:=n1_;have HB:=n2_;clear n0_ n1_ n2_;replace BK280:=A_ (blk_drew BK280.out);replace BK289:=A_ (blk_drew BK289.out);replace HB:=A_ (below_drew1 HB.out);refine start_ (n:=34) (S:=fun w'=>w'.cell? ⟨gb289,0,none⟩=some (.int .i64 ((rd_T52 l0_4 x6_4).f0))∧w'.cell? ⟨gb289,1,none⟩=some (.string ((rd_T52 l0_4 x6_4).f1))∧w'.cell? ⟨gb289,2,none⟩=some (.int .i64 ((rd_T52 l0_4 x6_4).f2))∧w'.cell? ⟨gb280,0,none⟩=some (.string a0_0)∧w'.cell? ⟨gb280,1,none⟩=some (.int .i64 a0_1)∧w'.cell? ⟨gb280,2,none⟩=some (.slice A0_2 l0_2.length c0_2)∧w'.cell? ⟨gb280,3,none⟩=some (.slice A0_3 l0_3.length c0_3)∧w'.cell? ⟨gb280,4,none⟩=some (.slice (some ad288) l0_4.length c0_4)) (ds:=[]) #[yF,yF,yF,yF,yF,yF,yF,yF,yF,yF,yF,yF,yF,yF,yF,yF,yF,yF,yF,yF,yF,yF,yF,yF,yF,yF,yF,yF,yF,yF,yF,yF,yF,yF] (by kernel_rfl) rfl rfl ⟨(blk_cell BK289.out 0).trans rfl,(blk_cell BK289.out 1).trans rfl,(blk_cell BK289.out 2).trans rfl,(blk_cell BK280.out 0).trans rfl,(blk_cell BK280.out 1).trans rfl,(blk_cell BK280.out 2).trans rfl,(blk_cell BK280.out 3).trans rfl,(blk_cell BK280.out 4).trans rfl⟩ (fun hHeld=>?_);refine with_tabW spec_TripOk.tab22 spec_TripOk.bits22 (fun HT_ HW_=>?_);generalize w89.drew=w90 at BK280 BK289 HB hHeld ⊢;refine pureZ 0 (some 83) (yA 1 33) ?_;refine pureZ 2 (some 85) #[yT,yF,yT,yF,yF,yF,yF,yF,yF,yF,yF,yF,yF,yF,yF,yF,yF,yF,yF,yF,yF,yF,yF,yF,yF,yF,yF,yF,yF,yF,yF,yF,yF,yF] ?_;refine takeZ8 1 (some 84) (yA 3 31) hHeld ?_;refine takeZ8 3 (some 86) (yA 4 30) hHeld ?_;refine oneZ 4 (some 87) (yA 5 29) (fun K hK=>?_);refine goes_ Tryz.func40 (by kernel_rfl) rfl #[.int .i64 ((rd_T52 l0_4 x6_4).f0),.int .i64 0,.int .i64 a0_1] (by rfl) rfl rfl zz39 ?_;with_reducible refine (spec_l6In.calls ((rd_T52 l0_4 x6_4).f0) 0 a0_1 true _ A41.out).mono ?_
                rintro e w' ⟨rfl,⟨nd,rfl⟩⟩;refine ⟨_,rfl,?_⟩;refine hK.out _ _ ⟨(blk_cell BK289.out 0).trans rfl,(blk_cell BK289.out 1).trans rfl,(blk_cell BK289.out 2).trans rfl,(blk_cell BK280.out 0).trans rfl,(blk_cell BK280.out 1).trans rfl,(blk_cell BK280.out 2).trans rfl,(blk_cell BK280.out 3).trans rfl,(blk_cell BK280.out 4).trans rfl⟩ (fun hHeld=>?_);clear hK K;refine nZ 87 ?_;refine pureZ 5 (some 88) (yA 6 28) ?_;refine pureZ 6 (some 89) (yA 7 27) ?_;refine pureZ 7 (some 90) (yA 8 26) ?_;refine pureZ 8 (some 91) (yA 9 25) ?_;refine pureZ 9 (some 92) (yA 10 24) ?_;refine pure_ (i:=10) (N:=some 93) (v:=undef) (a':=?_) (yA 11 23) rfl rfl (any_of HT_.out (by kernel_rfl)) (fun _ _ _ h=>h) (Or.inr ⟨by rfl,rfl⟩) ?_ ?_;rotate_left
                ·simp only [Act.put,List.setIfInBounds_toArray,List.set_cons_zero,List.set_cons_succ,i64_w,i32_w]
                 rfl
                refine pure_ (i:=11) (N:=some 94) (v:=undef) (a':=?_) (yA 12 22) rfl rfl (any_of HT_.out (by kernel_rfl)) (fun _ _ _ h=>h) (Or.inr ⟨by rfl,rfl⟩) ?_ ?_;rotate_left
                ·simp only [Act.put,List.setIfInBounds_toArray,List.set_cons_zero,List.set_cons_succ,i64_w,i32_w]
                 rfl
                refine pure_ (i:=12) (N:=some 95) (v:=undef) (a':=?_) (yA 13 21) rfl rfl (any_of HT_.out (by kernel_rfl)) (fun _ _ _ h=>h) (Or.inr ⟨by rfl,rfl⟩) ?_ ?_;rotate_left
                ·simp only [Act.put,List.setIfInBounds_toArray,List.set_cons_zero,List.set_cons_succ,i64_w,i32_w]
                 rfl
                refine pure_ (i:=13) (N:=some 96) (v:=undef) (a':=?_) (yA 14 20) rfl rfl (any_of HT_.out (by kernel_rfl)) (fun _ _ _ h=>h) (Or.inr ⟨by rfl,rfl⟩) ?_ ?_;rotate_left
                ·simp only [Act.put,List.setIfInBounds_toArray,List.set_cons_zero,List.set_cons_succ,i64_w,i32_w]
                 rfl
                refine pure_ (i:=14) (N:=some 97) (v:=undef) (a':=?_) (yA 15 19) rfl rfl (any_of HT_.out (by kernel_rfl)) (fun _ _ _ h=>h) (Or.inr ⟨by rfl,rfl⟩) ?_ ?_;rotate_left
                ·simp only [Act.put,List.setIfInBounds_toArray,List.set_cons_zero,List.set_cons_succ,i64_w,i32_w]
                 rfl
                refine pure_ (i:=15) (N:=some 98) (v:=undef) (a':=?_) (yA 16 18) rfl rfl (any_of HT_.out (by kernel_rfl)) (fun _ _ _ h=>h) (Or.inr ⟨by rfl,rfl⟩) ?_ ?_;rotate_left
                ·simp only [Act.put,List.setIfInBounds_toArray,List.set_cons_zero,List.set_cons_succ,i64_w,i32_w]
                 rfl
                refine pure_ (i:=16) (N:=some 99) (v:=undef) (a':=?_) (yA 17 17) rfl rfl (any_of HT_.out (by kernel_rfl)) (fun _ _ _ h=>h) (Or.inr ⟨by rfl,rfl⟩) ?_ ?_;rotate_left
                ·simp only [Act.put,List.setIfInBounds_toArray,List.set_cons_zero,List.set_cons_succ,i64_w,i32_w]
                 rfl
                refine pure_ (i:=17) (N:=some 100) (v:=undef) (a':=?_) (yA 18 16) rfl rfl (any_of HT_.out (by kernel_rfl)) (fun _ _ _ h=>h) (Or.inr ⟨by rfl,rfl⟩) ?_ ?_;rotate_left
                ·simp only [Act.put,List.setIfInBounds_toArray,List.set_cons_zero,List.set_cons_succ,i64_w,i32_w]
                 rfl
                refine pure_ (i:=18) (N:=some 101) (v:=undef) (a':=?_) (yA 19 15) rfl rfl (any_of HT_.out (by kernel_rfl)) (fun _ _ _ h=>h) (Or.inr ⟨by rfl,rfl⟩) ?_ ?_;rotate_left
                ·simp only [Act.put,List.setIfInBounds_toArray,List.set_cons_zero,List.set_cons_succ,i64_w,i32_w]
                 rfl
                refine pure_ (i:=19) (N:=some 102) (v:=undef) (a':=?_) (yA 20 14) rfl rfl (any_of HT_.out (by kernel_rfl)) (fun _ _ _ h=>h) (Or.inr ⟨by rfl,rfl⟩) ?_ ?_;rotate_left
                ·simp only [Act.put,List.setIfInBounds_toArray,List.set_cons_zero,List.set_cons_succ,i64_w,i32_w]
                 rfl
                refine pureZ 20 (some 103) (yA 21 13) ?_;refine pureZ 21 (some 104) (yA 22 12) ?_;refine pureZ 22 (some 105) (yA 23 11) ?_;refine pureZ 23 (some 106) (yA 24 10) ?_;refine takeZ8 24 (some 107) (yA 25 9) hHeld ?_;refine oneZ 25 (some 108) (yA 26 8) (fun K hK=>?_);refine goes_ Tryz.func41 (by kernel_rfl) rfl #[.string ((rd_T52 l0_4 x6_4).f1)] (by rfl) rfl rfl zz39 ?_;with_reducible refine (spec_l11Norm.calls k4 ((rd_T52 l0_4 x6_4).f1) false _ A73.out).mono ?_
                rintro e w91 ⟨rfl,hb⟩;refine ⟨_,rfl,?_⟩;replace BK280:=A_ (bB (zz2 BK280) hb);replace BK289:=A_ (bB (zz2 BK289) hb);replace HB:=A_ (bS (zz3 HB GE280 GE289) hb);(try clear hb)
                (try clear hb2)
                (try clear hk)
                (try clear hi)
                refine hK.out _ _ ⟨(blk_cell BK289.out 0).trans rfl,(blk_cell BK289.out 1).trans rfl,(blk_cell BK289.out 2).trans rfl,(blk_cell BK280.out 0).trans rfl,(blk_cell BK280.out 1).trans rfl,(blk_cell BK280.out 2).trans rfl,(blk_cell BK280.out 3).trans rfl,(blk_cell BK280.out 4).trans rfl⟩ (fun hHeld=>?_);clear hK K;refine nZ 108 ?_;refine pureZ 26 (some 109) (yA 27 7) ?_;refine pureZ 27 (some 110) (yA 28 6) ?_;refine pureZ 28 (some 111) (yA 29 5) ?_;refine pure_ (i:=29) (N:=some 112) (v:=undef) (a':=?_) (yA 30 4) rfl rfl (any_of HT_.out (by kernel_rfl)) (fun _ _ _ h=>h) (Or.inr ⟨by rfl,rfl⟩) ?_ ?_;rotate_left
                ·simp only [Act.put,List.setIfInBounds_toArray,List.set_cons_zero,List.set_cons_succ,i64_w,i32_w]
                 rfl
                refine pure_ (i:=30) (N:=some 113) (v:=undef) (a':=?_) (yA 31 3) rfl rfl (any_of HT_.out (by kernel_rfl)) (fun _ _ _ h=>h) (Or.inr ⟨by rfl,rfl⟩) ?_ ?_;rotate_left
                ·simp only [Act.put,List.setIfInBounds_toArray,List.set_cons_zero,List.set_cons_succ,i64_w,i32_w]
                 rfl
                refine pure_ (i:=31) (N:=some 114) (v:=undef) (a':=?_) (yA 32 2) rfl rfl (any_of HT_.out (by kernel_rfl)) (fun _ _ _ h=>h) (Or.inr ⟨by rfl,rfl⟩) ?_ ?_;rotate_left
                ·simp only [Act.put,List.setIfInBounds_toArray,List.set_cons_zero,List.set_cons_succ,i64_w,i32_w]
                 rfl
                refine pure_ (i:=32) (N:=some 115) (v:=undef) (a':=?_) (yA 33 1) rfl rfl (any_of HT_.out (by kernel_rfl)) (fun _ _ _ h=>h) (Or.inr ⟨by rfl,rfl⟩) ?_ ?_;rotate_left
                ·simp only [Act.put,List.setIfInBounds_toArray,List.set_cons_zero,List.set_cons_succ,i64_w,i32_w]
                 rfl
                refine pureZ 33 (some 116) (yA 34 0) ?_;refine done_ (done_of HT_.out (by kernel_rfl)) ?_;try go_wp2
                go_ret
                exact ⟨zz5,(zz3 HB GE280 GE289)⟩
             ·obtain rfl:=sI H
              obtain ⟨_,_,_,_,_,_,_,_,_,_⟩:=cf5 BK280;obtain ⟨⟨ad288,e288,hx288_0,hx288_1,hx288_2⟩,p288,q288⟩:=atB (at_T52 HR0_4.out x6_4);cases e288
              obtain ⟨hx288_0,hx288_1,hx288_2⟩:=cb3 HB hx288_0 hx288_1 hx288_2;try go_wp2_with (first|((with_reducible refine gD (N:=7) rfl ?_);(try (refine gate_guard (by rfl) ?_;dsimp only));refine boxE 7 #[.int .i64 0,.string (⟨#[]⟩:ByteArray),.int .i64 0] 52 ?_;intro gb289 hg w93 hbox hb;have BK289:=A_ (hbox);have GE289:=geB hg (zz1 HB GE280);replace HB:=A_ (bS (zz1 HB GE280) hb);have NB280_289:=A_ ((by rw [hg];exact Nat.ne_of_lt (blk_lt (zz2 BK280)):gb280≠gb289));have NB289_280:=A_ ((by rw [hg];exact Nat.ne_of_gt (blk_lt (zz2 BK280)):gb289≠gb280));replace BK280:=A_ (bB (zz2 BK280) hb);clear hb hbox hg;have hnb94:=NB289_280.out;have hnc94:=NB280_289.out;obtain ⟨_,_,_,_,_,_⟩:=cf3 BK289))
              have n0_:Aside0 ((((w93.setCell ⟨gb289,0,none⟩ (.int .i64 ((rd_T52 l0_4 x6_4).f0))).setCell ⟨gb289,1,none⟩ (.string ((rd_T52 l0_4 x6_4).f1))).setCell ⟨gb289,2,none⟩ (.int .i64 ((rd_T52 l0_4 x6_4).f2))).heap[gb280]?=some (.cells #[.string a0_0,.int .i64 a0_1,.slice A0_2 l0_2.length c0_2,.slice A0_3 l0_3.length c0_3,.slice (some ad288) l0_4.length c0_4] 33 (0,0))):=⟨(zz4 BK280 NB280_289)⟩;have n1_:Aside0 ((((w93.setCell ⟨gb289,0,none⟩ (.int .i64 ((rd_T52 l0_4 x6_4).f0))).setCell ⟨gb289,1,none⟩ (.string ((rd_T52 l0_4 x6_4).f1))).setCell ⟨gb289,2,none⟩ (.int .i64 ((rd_T52 l0_4 x6_4).f2))).heap[gb289]?=some (.cells #[.int .i64 ((rd_T52 l0_4 x6_4).f0),.string ((rd_T52 l0_4 x6_4).f1),.int .i64 ((rd_T52 l0_4 x6_4).f2)] 52 (0,0))):=⟨(zz26 BK289)⟩;have n2_:Aside0 (Below w.heap.size w (((w93.setCell ⟨gb289,0,none⟩ (.int .i64 ((rd_T52 l0_4 x6_4).f0))).setCell ⟨gb289,1,none⟩ (.string ((rd_T52 l0_4 x6_4).f1))).setCell ⟨gb289,2,none⟩ (.int .i64 ((rd_T52 l0_4 x6_4).f2)))):=⟨(zz3 HB GE280 GE289)⟩;(try clear BK280)
              (try clear BK289)
              (try clear HB)
              generalize (((w93.setCell ⟨gb289,0,none⟩ (.int .i64 ((rd_T52 l0_4 x6_4).f0))).setCell ⟨gb289,1,none⟩ (.string ((rd_T52 l0_4 x6_4).f1))).setCell ⟨gb289,2,none⟩ (.int .i64 ((rd_T52 l0_4 x6_4).f2)))=w96 at n0_ n1_ n2_ ⊢;have BK280:=n0_;have BK289:=n1_;have HB:=n2_;clear n0_ n1_ n2_;replace BK280:=A_ (blk_drew BK280.out);replace BK289:=A_ (blk_drew BK289.out);replace HB:=A_ (below_drew1 HB.out);refine start_ (n:=34) (S:=fun w'=>w'.cell? ⟨gb289,0,none⟩=some (.int .i64 ((rd_T52 l0_4 x6_4).f0))∧w'.cell? ⟨gb289,1,none⟩=some (.string ((rd_T52 l0_4 x6_4).f1))∧w'.cell? ⟨gb289,2,none⟩=some (.int .i64 ((rd_T52 l0_4 x6_4).f2))∧w'.cell? ⟨gb280,0,none⟩=some (.string a0_0)∧w'.cell? ⟨gb280,1,none⟩=some (.int .i64 a0_1)∧w'.cell? ⟨gb280,2,none⟩=some (.slice A0_2 l0_2.length c0_2)∧w'.cell? ⟨gb280,3,none⟩=some (.slice A0_3 l0_3.length c0_3)∧w'.cell? ⟨gb280,4,none⟩=some (.slice (some ad288) l0_4.length c0_4)) (ds:=[]) #[yF,yF,yF,yF,yF,yF,yF,yF,yF,yF,yF,yF,yF,yF,yF,yF,yF,yF,yF,yF,yF,yF,yF,yF,yF,yF,yF,yF,yF,yF,yF,yF,yF,yF] (by kernel_rfl) rfl rfl ⟨(blk_cell BK289.out 0).trans rfl,(blk_cell BK289.out 1).trans rfl,(blk_cell BK289.out 2).trans rfl,(blk_cell BK280.out 0).trans rfl,(blk_cell BK280.out 1).trans rfl,(blk_cell BK280.out 2).trans rfl,(blk_cell BK280.out 3).trans rfl,(blk_cell BK280.out 4).trans rfl⟩ (fun hHeld=>?_);refine with_tabW spec_TripOk.tab22 spec_TripOk.bits22 (fun HT_ HW_=>?_);generalize w96.drew=w97 at BK280 BK289 HB hHeld ⊢;refine pureZ 0 (some 83) (yA 1 33) ?_;refine pureZ 2 (some 85) #[yT,yF,yT,yF,yF,yF,yF,yF,yF,yF,yF,yF,yF,yF,yF,yF,yF,yF,yF,yF,yF,yF,yF,yF,yF,yF,yF,yF,yF,yF,yF,yF,yF,yF] ?_;refine takeZ8 1 (some 84) (yA 3 31) hHeld ?_;refine takeZ8 3 (some 86) (yA 4 30) hHeld ?_;refine oneZ 4 (some 87) (yA 5 29) (fun K hK=>?_);refine goes_ Tryz.func40 (by kernel_rfl) rfl #[.int .i64 ((rd_T52 l0_4 x6_4).f0),.int .i64 0,.int .i64 a0_1] (by rfl) rfl rfl zz39 ?_;with_reducible refine (spec_l6In.calls ((rd_T52 l0_4 x6_4).f0) 0 a0_1 false _ A41.out).mono ?_
              rintro e w' ⟨rfl,⟨nd,rfl⟩⟩;refine ⟨_,rfl,?_⟩;refine hK.out _ _ ⟨(blk_cell BK289.out 0).trans rfl,(blk_cell BK289.out 1).trans rfl,(blk_cell BK289.out 2).trans rfl,(blk_cell BK280.out 0).trans rfl,(blk_cell BK280.out 1).trans rfl,(blk_cell BK280.out 2).trans rfl,(blk_cell BK280.out 3).trans rfl,(blk_cell BK280.out 4).trans rfl⟩ (fun hHeld=>?_);clear hK K;refine nZ 87 ?_;refine pureZ 5 (some 88) (yA 6 28) ?_;refine pureZ 6 (some 89) (yA 7 27) ?_;refine pure_ (i:=7) (N:=some 90) (v:=undef) (a':=?_) (yA 8 26) rfl rfl (any_of HT_.out (by kernel_rfl)) (fun _ _ _ h=>h) (Or.inr ⟨by rfl,rfl⟩) ?_ ?_;rotate_left
              ·simp only [Act.put,List.setIfInBounds_toArray,List.set_cons_zero,List.set_cons_succ,i64_w,i32_w]
               rfl
              refine pure_ (i:=8) (N:=some 91) (v:=undef) (a':=?_) (yA 9 25) rfl rfl (any_of HT_.out (by kernel_rfl)) (fun _ _ _ h=>h) (Or.inr ⟨by rfl,rfl⟩) ?_ ?_;rotate_left
              ·simp only [Act.put,List.setIfInBounds_toArray,List.set_cons_zero,List.set_cons_succ,i64_w,i32_w]
               rfl
              refine pure_ (i:=9) (N:=some 92) (v:=undef) (a':=?_) (yA 10 24) rfl rfl (any_of HT_.out (by kernel_rfl)) (fun _ _ _ h=>h) (Or.inr ⟨by rfl,rfl⟩) ?_ ?_;rotate_left
              ·simp only [Act.put,List.setIfInBounds_toArray,List.set_cons_zero,List.set_cons_succ,i64_w,i32_w]
               rfl
              refine pure_ (i:=10) (N:=some 93) (v:=undef) (a':=?_) (yA 11 23) rfl rfl (any_of HT_.out (by kernel_rfl)) (fun _ _ _ h=>h) (Or.inr ⟨by rfl,rfl⟩) ?_ ?_;rotate_left
              ·simp only [Act.put,List.setIfInBounds_toArray,List.set_cons_zero,List.set_cons_succ,i64_w,i32_w]
               rfl
              refine pure_ (i:=11) (N:=some 94) (v:=undef) (a':=?_) (yA 12 22) rfl rfl (any_of HT_.out (by kernel_rfl)) (fun _ _ _ h=>h) (Or.inr ⟨by rfl,rfl⟩) ?_ ?_;rotate_left
              ·simp only [Act.put,List.setIfInBounds_toArray,List.set_cons_zero,List.set_cons_succ,i64_w,i32_w]
               rfl
              refine pure_ (i:=12) (N:=some 95) (v:=undef) (a':=?_) (yA 13 21) rfl rfl (any_of HT_.out (by kernel_rfl)) (fun _ _ _ h=>h) (Or.inr ⟨by rfl,rfl⟩) ?_ ?_;rotate_left
              ·simp only [Act.put,List.setIfInBounds_toArray,List.set_cons_zero,List.set_cons_succ,i64_w,i32_w]
               rfl
              refine pure_ (i:=13) (N:=some 96) (v:=undef) (a':=?_) (yA 14 20) rfl rfl (any_of HT_.out (by kernel_rfl)) (fun _ _ _ h=>h) (Or.inr ⟨by rfl,rfl⟩) ?_ ?_;rotate_left
              ·simp only [Act.put,List.setIfInBounds_toArray,List.set_cons_zero,List.set_cons_succ,i64_w,i32_w]
               rfl
              refine pure_ (i:=14) (N:=some 97) (v:=undef) (a':=?_) (yA 15 19) rfl rfl (any_of HT_.out (by kernel_rfl)) (fun _ _ _ h=>h) (Or.inr ⟨by rfl,rfl⟩) ?_ ?_;rotate_left
              ·simp only [Act.put,List.setIfInBounds_toArray,List.set_cons_zero,List.set_cons_succ,i64_w,i32_w]
               rfl
              refine pure_ (i:=15) (N:=some 98) (v:=undef) (a':=?_) (yA 16 18) rfl rfl (any_of HT_.out (by kernel_rfl)) (fun _ _ _ h=>h) (Or.inr ⟨by rfl,rfl⟩) ?_ ?_;rotate_left
              ·simp only [Act.put,List.setIfInBounds_toArray,List.set_cons_zero,List.set_cons_succ,i64_w,i32_w]
               rfl
              refine pure_ (i:=16) (N:=some 99) (v:=undef) (a':=?_) (yA 17 17) rfl rfl (any_of HT_.out (by kernel_rfl)) (fun _ _ _ h=>h) (Or.inr ⟨by rfl,rfl⟩) ?_ ?_;rotate_left
              ·simp only [Act.put,List.setIfInBounds_toArray,List.set_cons_zero,List.set_cons_succ,i64_w,i32_w]
               rfl
              refine pure_ (i:=17) (N:=some 100) (v:=undef) (a':=?_) (yA 18 16) rfl rfl (any_of HT_.out (by kernel_rfl)) (fun _ _ _ h=>h) (Or.inr ⟨by rfl,rfl⟩) ?_ ?_;rotate_left
              ·simp only [Act.put,List.setIfInBounds_toArray,List.set_cons_zero,List.set_cons_succ,i64_w,i32_w]
               rfl
              refine pure_ (i:=18) (N:=some 101) (v:=undef) (a':=?_) (yA 19 15) rfl rfl (any_of HT_.out (by kernel_rfl)) (fun _ _ _ h=>h) (Or.inr ⟨by rfl,rfl⟩) ?_ ?_;rotate_left
              ·simp only [Act.put,List.setIfInBounds_toArray,List.set_cons_zero,List.set_cons_succ,i64_w,i32_w]
               rfl
              refine pure_ (i:=19) (N:=some 102) (v:=undef) (a':=?_) (yA 20 14) rfl rfl (any_of HT_.out (by kernel_rfl)) (fun _ _ _ h=>h) (Or.inr ⟨by rfl,rfl⟩) ?_ ?_;rotate_left
              ·simp only [Act.put,List.setIfInBounds_toArray,List.set_cons_zero,List.set_cons_succ,i64_w,i32_w]
               rfl
              refine pure_ (i:=20) (N:=some 103) (v:=undef) (a':=?_) (yA 21 13) rfl rfl (any_of HT_.out (by kernel_rfl)) (fun _ _ _ h=>h) (Or.inr ⟨by rfl,rfl⟩) ?_ ?_;rotate_left
              ·simp only [Act.put,List.setIfInBounds_toArray,List.set_cons_zero,List.set_cons_succ,i64_w,i32_w]
               rfl
              refine pureZ 21 (some 104) (yA 22 12) ?_;refine pureZ 22 (some 105) (yA 23 11) ?_;refine pure_ (i:=23) (N:=some 106) (v:=undef) (a':=?_) (yA 24 10) rfl rfl (any_of HT_.out (by kernel_rfl)) (fun _ _ _ h=>h) (Or.inr ⟨by rfl,rfl⟩) ?_ ?_;rotate_left
              ·simp only [Act.put,List.setIfInBounds_toArray,List.set_cons_zero,List.set_cons_succ,i64_w,i32_w]
               rfl
              refine pure_ (i:=24) (N:=some 107) (v:=undef) (a':=?_) (yA 25 9) rfl rfl (any_of HT_.out (by kernel_rfl)) (fun _ _ _ h=>h) (Or.inr ⟨by rfl,rfl⟩) ?_ ?_;rotate_left
              ·simp only [Act.put,List.setIfInBounds_toArray,List.set_cons_zero,List.set_cons_succ,i64_w,i32_w]
               rfl
              refine pure_ (i:=25) (N:=some 108) (v:=undef) (a':=?_) (yA 26 8) rfl rfl (any_of HT_.out (by kernel_rfl)) (fun _ _ _ h=>h) (Or.inr ⟨by rfl,rfl⟩) ?_ ?_;rotate_left
              ·simp only [Act.put,List.setIfInBounds_toArray,List.set_cons_zero,List.set_cons_succ,i64_w,i32_w]
               rfl
              refine pure_ (i:=26) (N:=some 109) (v:=undef) (a':=?_) (yA 27 7) rfl rfl (any_of HT_.out (by kernel_rfl)) (fun _ _ _ h=>h) (Or.inr ⟨by rfl,rfl⟩) ?_ ?_;rotate_left
              ·simp only [Act.put,List.setIfInBounds_toArray,List.set_cons_zero,List.set_cons_succ,i64_w,i32_w]
               rfl
              refine pureZ 27 (some 110) (yA 28 6) ?_;refine pureZ 28 (some 111) (yA 29 5) ?_;refine pure_ (i:=29) (N:=some 112) (v:=undef) (a':=?_) (yA 30 4) rfl rfl (any_of HT_.out (by kernel_rfl)) (fun _ _ _ h=>h) (Or.inr ⟨by rfl,rfl⟩) ?_ ?_;rotate_left
              ·simp only [Act.put,List.setIfInBounds_toArray,List.set_cons_zero,List.set_cons_succ,i64_w,i32_w]
               rfl
              refine pure_ (i:=30) (N:=some 113) (v:=undef) (a':=?_) (yA 31 3) rfl rfl (any_of HT_.out (by kernel_rfl)) (fun _ _ _ h=>h) (Or.inr ⟨by rfl,rfl⟩) ?_ ?_;rotate_left
              ·simp only [Act.put,List.setIfInBounds_toArray,List.set_cons_zero,List.set_cons_succ,i64_w,i32_w]
               rfl
              refine pure_ (i:=31) (N:=some 114) (v:=undef) (a':=?_) (yA 32 2) rfl rfl (any_of HT_.out (by kernel_rfl)) (fun _ _ _ h=>h) (Or.inr ⟨by rfl,rfl⟩) ?_ ?_;rotate_left
              ·simp only [Act.put,List.setIfInBounds_toArray,List.set_cons_zero,List.set_cons_succ,i64_w,i32_w]
               rfl
              refine pure_ (i:=32) (N:=some 115) (v:=undef) (a':=?_) (yA 33 1) rfl rfl (any_of HT_.out (by kernel_rfl)) (fun _ _ _ h=>h) (Or.inr ⟨by rfl,rfl⟩) ?_ ?_;rotate_left
              ·simp only [Act.put,List.setIfInBounds_toArray,List.set_cons_zero,List.set_cons_succ,i64_w,i32_w]
               rfl
              refine pureZ 33 (some 116) (yA 34 0) ?_;refine done_ (done_of HT_.out (by kernel_rfl)) ?_;try go_wp2
              go_ret
              exact ⟨zz5,(zz3 HB GE280 GE289)⟩
            ·obtain rfl:=sI H
             obtain ⟨_,_,_,_,_,_,_,_,_,_⟩:=cf5 BK280;go_wp2
             go_ret
             exact ⟨zz5,(zz1 HB GE280)⟩
def spec_TripCalls.l0:Nat→ByteArray→List Int→Int→ByteArray→Int→List (S82)→List ByteArray→List (S52)→Option (List Int)
 | 0,_,_,_,_,_,_,_,_=>none
 | k+1,x1,x5,x6,x297000,x297001,x297002,x297003,x297004=>if x6 < (x297004.length:Int) then (if 0≤x6 then ((spec_AddrRead.f k ((rd_T52 x297004 x6).f1)).bind fun bt302=>(if bt302.1.toList=x1.toList then (if x5.length < 17592186044416 then (spec_TripCalls.l0 k x1 (x5++[(rd_T52 x297004 x6).f0]) (wrap64 (x6+1)) x297000 x297001 x297002 x297003 x297004) else (none)) else (spec_TripCalls.l0 k x1 x5 (wrap64 (x6+1)) x297000 x297001 x297002 x297003 x297004))) else (none)) else (some x5)
def spec_TripCalls.f (k:Nat) (a0_0:ByteArray) (a0_1:Int) (l0_2:List (S82)) (l0_3:List ByteArray) (l0_4:List (S52)) (a1:ByteArray):Option (List Int):=(some (([]:List Int):List Int)).bind fun y297=>((spec_TripOk.f k a0_0 a0_1 l0_2 l0_3 l0_4).bind fun t300=>(if t300=true then (spec_TripCalls.l0 k a1 y297 0 a0_0 a0_1 l0_2 l0_3 l0_4) else (some y297)))
theorem spec_TripCalls.calls (k:Nat) (a0_0:ByteArray) (a0_1:Int) (A0_2:Option Addr) (c0_2:Nat) (l0_2:List (S82)) (A0_3:Option Addr) (c0_3:Nat) (l0_3:List ByteArray) (A0_4:Option Addr) (c0_4:Nat) (l0_4:List (S52)) (a1:ByteArray) (r:List Int) (w:World) (hr0_2:Kd.C k82 w A0_2 l0_2.length l0_2) (hc0_2:l0_2.length≤c0_2) (hr0_3:Kd.C Kd.string w A0_3 l0_3.length l0_3) (hc0_3:l0_3.length≤c0_3) (hr0_4:Kd.C k52 w A0_4 l0_4.length l0_4) (hc0_4:l0_4.length≤c0_4) (h:spec_TripCalls.f k a0_0 a0_1 l0_2 l0_3 l0_4 a1=some r) :
  Calls Tryz.prog 6 #[.agg #[.string a0_0,.int .i64 a0_1,.slice A0_2 l0_2.length c0_2,.slice A0_3 l0_3.length c0_3,.slice A0_4 l0_4.length c0_4],.string a1] w fun e w'=>∃ v0_:Value,e=.returned (v0_)∧Kd.R (Kd.int .i64) 3 w' w.heap.size (fun _=>True) v0_ r∧Below w.heap.size w w':=by
 have hu33:=Tryz.underlying33;have hu48:=Tryz.underlying48;have HR0_2:=A_ hr0_2;have HC0_2:=A_ hc0_2;clear hr0_2 hc0_2;have HR0_3:=A_ hr0_3;have HC0_3:=A_ hc0_3;clear hr0_3 hc0_3;have HR0_4:=A_ hr0_4;have HC0_4:=A_ hc0_4;clear hr0_4 hc0_4;have HB:=A_ (Below.refl w.heap.size w);unfold spec_TripCalls.f at h
 have H:=h;clear h;obtain ⟨y297,Ny297,H⟩:=bindY H;replace H:=bindA H;obtain ⟨t300,A3,H⟩:=H;have HF4:=A_ H;clear H;go_enter Tryz.func6,Tryz.ntmps6;go_upto_if 12 with (first|(refine boxF 2 #[.string a0_0,.int .i64 a0_1,.slice A0_2 l0_2.length c0_2,.slice A0_3 l0_3.length c0_3,.slice A0_4 l0_4.length c0_4] 33 ?_;intro gb296 hg w5 BK296 hb;have GE296:=geB hg (zz0 HB);replace HB:=A_ (bS (zz0 HB) hb);clear hb hg)|((with_reducible refine gD (N:=9) rfl ?_);refine Kd.R_lit (Kd.int .i64) _ 3 ?hg (N:=9) ?hd (xs:=([]:List Int)) (inner:=[]) (ok:=fun _=>True) (okp:=fun _=>True) ?hr ?hp (fun _ hk=>hk) trivial (Below.refl _ _) (Nat.le_refl _) (by simp) ?_;(case hd=>rfl);(case hg=>rfl);(case hr=>exact zz14);(case hp=>exact (Reps.none _ _));intro v298 w6 ho7 hb hg_ hnew_;clear hg_ hnew_;(first|rw [← Ny297.out] at ho7|(simp only [Int.reduceToNat] at ho7;rw [← Ny297.out] at ho7));have HO299:=A_ (Kd.R_lower ho7 (below_size (zz1 HB GE296)));replace BK296:=A_ (bB (zz2 BK296) hb);replace HB:=A_ (bS (zz1 HB GE296) hb);clear hb ho7;obtain ⟨_,_,_,_,_,_,_,_,_,_⟩:=cf5 BK296)|(refine gR 22 (some 11) Tryz.func22 (spec_TripOk.calls k a0_0 a0_1 _ _ l0_2 _ _ l0_3 _ _ l0_4 t300 _ ?side1 ?side2 ?side3 ?side4 ?side5 ?side6 A3.out) ?_;(case side1=>exact (zz21 HR0_2 HB));(case side2=>exact HC0_2.out);(case side3=>exact (zz21 HR0_3 HB));(case side4=>exact HC0_3.out);(case side5=>exact (zz21 HR0_4 HB));(case side6=>exact HC0_4.out);rintro w9 hb;replace HO299:=A_ (rB (zz12 HO299) hb);replace BK296:=A_ (bB (zz2 BK296) hb);replace HB:=A_ (bS (zz1 HB GE296) hb);(try clear hb)))
 obtain ⟨H⟩:=HF4;replace H:=iteB H;rcases H with ⟨rfl,H⟩|⟨rfl,H⟩
 ·have H':=A_ H
  clear H;go_wp2
  go_loopg [5,6] k (fun kq v5 v6 w'=>∃ (x5_1:List Int) (x6_1:Int),v6=.int .i64 x6_1∧Aside0 (spec_TripCalls.l0 kq a1 x5_1 x6_1 a0_0 a0_1 l0_2 l0_3 l0_4=some r)∧Aside0 (kq≤k)∧Aside0 (Kd.R (Kd.int .i64) 3 w' w.heap.size (fun _=>True) v5 x5_1)∧Aside0 (w'.heap[gb296]?=some (.cells #[.string a0_0,.int .i64 a0_1,(.slice A0_2 l0_2.length c0_2),(.slice A0_3 l0_3.length c0_3),(.slice A0_4 l0_4.length c0_4)] 33 (0,0)))∧Aside0 (Below w.heap.size w w'))
  case atStart=>exact ⟨(y297),(0),zz7,H',⟨Nat.le_refl _⟩,⟨(zz12 HO299)⟩,⟨(zz2 BK296)⟩,⟨(zz1 HB GE296)⟩⟩
  case round=>
   clear H';obtain ⟨x5_1,x6_1,rfl,HA,HK1,HO_5,BK296,HB⟩:=hrel;cases gk with
   | zero=>exact absurd HA.out (by simp [spec_TripCalls.l0])
   | succ k1=>
    obtain ⟨H⟩:=HA;simp only [spec_TripCalls.l0] at H
    replace H:=iteEd H;rcases H with ⟨c11b0,H⟩|⟨c11b0,H⟩
    ·(first|rw [c11b0]|(simp only [i64_w,i32_w];rw [c11b0])|skip)
     replace H:=iteNd H;obtain ⟨c12b0,H⟩:=H;replace H:=bindA H;obtain ⟨⟨t302,t303,t306,t307,t308⟩,A13,H⟩:=H;try dsimp only at H
     have HF14:=A_ H;clear H;obtain ⟨_,_,_,_,_,_,_,_,_,_⟩:=cf5 BK296;obtain ⟨⟨ad301,e301,hx301_0,hx301_1,hx301_2⟩,p301,q301⟩:=atB (at_T52 HR0_4.out x6_1);cases e301
     obtain ⟨hx301_0,hx301_1,hx301_2⟩:=cb3 HB hx301_0 hx301_1 hx301_2;go_upto_if 34 with (first|(refine gV 23 (some 28) Tryz.func23 (spec_AddrRead.calls k1 ((rd_T52 l0_4 x6_1).f1) t302 t303 t306 t307 t308 _ A13.out) ?_;rintro v304 w16 ⟨ho0,hb⟩;replace HO_5:=A_ (rB (zz12 HO_5) hb);have HO305:=A_ (Kd.R_lower ho0 (below_size (zz1 HB GE296)));replace BK296:=A_ (bB (zz2 BK296) hb);replace HB:=A_ (bS (zz1 HB GE296) hb);(try clear hb ho0))|(refine boxF 7 #[.string (⟨#[]⟩:ByteArray),.slice none 0 0,.bool false,.string (⟨#[]⟩:ByteArray)] 48 ?_;intro gb309 hg w17 BK309 hb;replace HO_5:=A_ (rB (zz12 HO_5) hb);replace HO305:=A_ (rB (zz12 HO305) hb);have GE309:=geB hg (zz1 HB GE296);replace HB:=A_ (bS (zz1 HB GE296) hb);have NB296_309:=A_ ((by rw [hg];exact Nat.ne_of_lt (blk_lt (zz2 BK296)):gb296≠gb309));have NB309_296:=A_ ((by rw [hg];exact Nat.ne_of_gt (blk_lt (zz2 BK296)):gb309≠gb296));replace BK296:=A_ (bB (zz2 BK296) hb);clear hb hg;have hnb18:=NB309_296.out;have hnc18:=NB296_309.out;obtain ⟨_,_,_,_,_,_,_,_⟩:=cf4 BK309;obtain ⟨Ao20,co20,eo20⟩:=Kd.R_slice HO305.out;subst eo20)|((with_reducible refine gate_store (t:=48) (p:=7) rfl ?_);refine store_event (t:=48) (p:=7) (v:=?vo_w21) (w1:=((((w17.setCell ⟨gb309,0,none⟩ (.string t302)).setCell ⟨gb309,1,none⟩ (.slice Ao20 t303.length co20)).setCell ⟨gb309,2,none⟩ (.bool t306)).setCell ⟨gb309,3,none⟩ (.string t307))) ?hg ?ho ?hn ?hr ?_;(case ho=>rfl);(case hg=>rfl);(case hn=>rfl);(case hr=>exact zz14);intro w21 hw;have n0_:Aside0 (Kd.R (Kd.int .i64) 3 w21 w.heap.size (fun _=>True) u5 x5_1):=⟨(by rw [hw];exact (zz24 (rt HO_5 BK309)))⟩;have n1_:Aside0 (Kd.R Kd.string 9 w21 w.heap.size (fun _=>True) (.slice Ao20 t303.length co20) t303):=⟨(by rw [hw];exact (zz24 (rt HO305 BK309)))⟩;have n2_:Aside0 (w21.heap[gb296]?=some (.cells #[.string a0_0,.int .i64 a0_1,.slice A0_2 l0_2.length c0_2,.slice A0_3 l0_3.length c0_3,.slice (some ad301) l0_4.length c0_4] 33 (0,0))):=⟨(by rw [hw];exact (zz4 BK296 NB296_309))⟩;have n3_:Aside0 (w21.heap[gb309]?=some (.cells #[.string t302,.slice Ao20 t303.length co20,.bool t306,.string t307] 48 (0,0))):=⟨(by rw [hw];exact (zz128 BK309))⟩;have n4_:Aside0 (Below w.heap.size w w21):=⟨(by rw [hw];exact (zz3 HB GE296 GE309))⟩;clear hw;clear HO_5;clear HO305;clear BK296;clear BK309;clear HB;have HO_5:=n0_;have HO305:=n1_;have BK296:=n2_;have BK309:=n3_;have HB:=n4_;clear n0_ n1_ n2_ n3_ n4_;obtain ⟨_,_,_,_,_,_,_,_⟩:=cf4 BK309))
     obtain ⟨H⟩:=HF14;replace H:=iteEq H;rcases H with ⟨c23b0,c23b1,H⟩|⟨c23b0,c23b1,c23,H⟩
     ·(first|rw [c23b0]|(simp only [i64_w,i32_w];rw [c23b0])|skip)
      replace H:=iteN H;obtain ⟨c24,H⟩:=H;have LMc24:=A_ c24;clear c24;obtain ⟨y311,Ny311⟩:=toY (x5_1++[(rd_T52 l0_4 x6_1).f0]);(first|with_reducible replace H:=bindZ Ny311 H|rw [← Ny311.out] at H|skip)
      have H':=A_ H;clear H;have hnb25:=NB296_309.out;have hnc25:=NB309_296.out;obtain ⟨_,_,_,_,_,_,_,_,_,_⟩:=cf5 BK296;obtain ⟨⟨ad310,e310,hx310_0,hx310_1,hx310_2⟩,p310,q310⟩:=atB (at_T52 HR0_4.out x6_1);obtain rfl:ad301=ad310:=(by injection e310);obtain ⟨hx310_0,hx310_1,hx310_2⟩:=cb3 HB hx310_0 hx310_1 hx310_2;go_wp2_with (first|((with_reducible refine gate_builtin (b:=.append) (xs:=#[.tmp 35,.tmp 42]) rfl ?_);at_builtin;refine Kd.R_append (Kd.int .i64) (w0:=w) w.heap.size rfl (.tmp 35) (.tmp 42) 28 3 (.int .i64 0) 8 rfl Tryz.underlying28 info3 rfl (by decide) (by omega) u5 x5_1 ((rd_T52 l0_4 x6_1).f0) [.int .i64 ((rd_T52 l0_4 x6_1).f0)] (fun _=>True) (fun _=>False) rfl rfl ?aP (fun _ hk=>hk.elim) ?aF ?aO ?aB ?aS ?aL ?_;(case aP=>exact rfl);(case aB=>exact (zz3 HB GE296 GE309));(case aF=>exact (fun _ _=>trivial));(case aO=>exact (zz12 HO_5));(case aS=>exact (below_size (zz3 HB GE296 GE309)));(case aL=>exact (zz17 LMc24));intro v312 w27 ho hb hg hat;rw [← Ny311.out] at ho;replace BK296:=A_ (blk_grown (zz2 BK296) hg (Kd.R_ne HO_5.out BK296.out (by decide)));replace HO305:=A_ (Kd.R_over' (zz12 HO305) (Kd.R_typed (zz12 HO_5)) (by decide) hg);replace BK309:=A_ (blk_grown (zz2 BK309) hg (Kd.R_ne HO_5.out BK309.out (by decide)));replace HB:=A_ (hb);have HO313:=A_ (ho);clear HO_5;clear ho hb hg hat))
      go_roundg k1
      case measure=>have:=HK1.out;omega
      case rel=>exact ⟨(y311),(wrap64 (x6_1+1)),zz7,H',⟨(zz17 HK1)⟩,⟨(zz12 HO313)⟩,⟨(zz2 BK296)⟩,⟨(zz3 HB GE296 GE309)⟩⟩
     ·(first|rw [c23b0]|(simp only [i64_w,i32_w];rw [c23b0])|skip)
      have H':=A_ H;clear H;go_wp2
      go_roundg k1
      case measure=>have:=HK1.out;omega
      case rel=>exact ⟨(x5_1),(wrap64 (x6_1+1)),zz7,H',⟨(zz17 HK1)⟩,⟨(zz12 HO_5)⟩,⟨(zz2 BK296)⟩,⟨(zz3 HB GE296 GE309)⟩⟩
    ·(first|rw [c11b0]|(simp only [i64_w,i32_w];rw [c11b0])|skip)
     obtain rfl:=sI H;obtain ⟨_,_,_,_,_,_,_,_,_,_⟩:=cf5 BK296;go_wp2
     go_ret
     exact ⟨_,zz5,(zz12 HO_5),(zz1 HB GE296)⟩
 ·obtain rfl:=sI H
  go_wp2
  go_ret
  exact ⟨_,zz5,(zz12 HO299),(zz1 HB GE296)⟩
mutual
def impl_AddrOk.j0:Nat→Bool→ByteArray→List ByteArray→Bool→ByteArray→Option (Bool)
 | 0,_,_,_,_,_=>none
 | k+1,x14,x473000,x473001,x473002,x473003=>if x14=true then (some false) else (impl_AddrOk.l0 k x473001 (x473001.length:Int) 0 x473000 x473001 x473002 x473003)
def impl_AddrOk.l0:Nat→List ByteArray→Int→Int→ByteArray→List ByteArray→Bool→ByteArray→Option (Bool)
 | 0,_,_,_,_,_,_,_=>none
 | k+1,x16,x17,x18,x473000,x473001,x473002,x473003=>if x18 < x17 then (if 0≤x18 then (if x18 < (x16.length:Int) then (if (rdOf ByteArray.empty x16 x18).toList=([]:List UInt8) then (some false) else (if (rdOf ByteArray.empty x16 x18).toList=([46]:List UInt8) then (some false) else (if (rdOf ByteArray.empty x16 x18).toList=([46,46]:List UInt8) then (some false) else ((impl_isNormal.f k (rdOf ByteArray.empty x16 x18)).bind fun t475=>(if t475=true then (impl_AddrOk.l0 k x16 x17 (wrap64 (x18+1)) x473000 x473001 x473002 x473003) else (some false)))))) else (none)) else (none)) else ((impl_isNormal.f k x473003).bind fun t476=>(if t476=true then (if x473002=true then ((impl_writeAddr.f x473000 x473001 x473002 x473003).bind fun t477=>(some (decide ((t477.size:Int)≤60)))) else (if x473003.toList=([]:List UInt8) then ((impl_writeAddr.f x473000 x473001 x473002 x473003).bind fun t478=>(some (decide ((t478.size:Int)≤60)))) else (some false))) else (some false)))
end
def impl_AddrOk.f (k:Nat) (a0_0:ByteArray) (l0_1:List ByteArray) (a0_2:Bool) (a0_3:ByteArray):Option (Bool):=(impl_isHouse.f k a0_0).bind fun t473=>(if t473=true then (impl_AddrOk.j0 k (decide ((l0_1.length:Int) > 5)) a0_0 l0_1 a0_2 a0_3) else (impl_AddrOk.j0 k true a0_0 l0_1 a0_2 a0_3))
theorem impl_AddrOk.calls (k:Nat) (a0_0:ByteArray) (A0_1:Option Addr) (c0_1:Nat) (l0_1:List ByteArray) (a0_2:Bool) (a0_3:ByteArray) (r:Bool) (w:World) (hr0_1:Kd.C Kd.string w A0_1 l0_1.length l0_1) (hc0_1:l0_1.length≤c0_1) (h:impl_AddrOk.f k a0_0 l0_1 a0_2 a0_3=some r) :
  Calls Tryz.prog 121 #[.agg #[.string a0_0,.slice A0_1 l0_1.length c0_1,.bool a0_2,.string a0_3]] w fun e w'=>e=.returned (.bool r)∧Below w.heap.size w w':=by
 have hu48:=Tryz.underlying48;have HR0_1:=A_ hr0_1;have HC0_1:=A_ hc0_1;clear hr0_1 hc0_1;have HB:=A_ (Below.refl w.heap.size w);unfold impl_AddrOk.f at h
 have H:=h;clear h;have HC2:=A_ H;clear H;go_enter Tryz.func121,Tryz.ntmps121;go_upto_region 1 with (first|((with_reducible refine gD (N:=1) rfl ?_);(try (refine gate_guard (by rfl) ?_;dsimp only));refine boxE 1 #[.string a0_0,.slice A0_1 l0_1.length c0_1,.bool a0_2,.string a0_3] 48 ?_;intro gb472 hg w3 hbox hb;have BK472:=A_ (hbox);have GE472:=geB hg (zz0 HB);replace HB:=A_ (bS (zz0 HB) hb);clear hb hbox hg))
 (try simp only [Act.put,List.setIfInBounds_toArray,List.set_cons_zero,List.set_cons_succ])
 go_cut [14] (fun v14 wc=>∃ (kq:Nat) (x14_1:Bool),v14=.bool x14_1∧Aside0 (impl_AddrOk.j0 kq x14_1 a0_0 l0_1 a0_2 a0_3=some r)∧Aside0 (kq≤k)∧Aside0 (wc.heap[gb472]?=some (.cells #[.string a0_0,(.slice A0_1 l0_1.length c0_1),.bool a0_2,.string a0_3] 48 (0,0)))∧Aside0 (Below w.heap.size w wc))
 case first=>
  obtain ⟨H⟩:=HC2;replace H:=bindA H;obtain ⟨t473,A4,H⟩:=H;have HF5:=A_ H;clear H;obtain ⟨_,_,_,_,_,_,_,_⟩:=cf4 BK472;go_wp2_with (first|(refine gR 76 (some 7) Tryz.func76 (impl_isHouse.calls k a0_0 t473 _ A4.out) ?_;rintro w' ⟨nd,rfl⟩)|((with_reducible refine atG ?_ ?_ fun K_ hK_=>?_);rfl;exact undecG)|((with_reducible refine atI ?_ fun K_ hK_=>?_);exact undecI))
  refine unG hK_ ?_;clear hK_ K_;obtain ⟨H⟩:=HF5;replace H:=iteB H;rcases H with ⟨rfl,H⟩|⟨rfl,H⟩
  ·(first|refine iteT ?_|refine iteF ?_|skip)
   have H':=A_ H;clear H;obtain ⟨_,_,_,_,_,_,_,_⟩:=cf4 BK472;(try ((with_reducible refine upS ?_);go_simp))
   go_wp2
   go_meet
   case rel=>exact ⟨_,(decide ((l0_1.length:Int) > 5)),zz7,H',⟨zz62⟩,⟨(zz2 BK472)⟩,⟨(zz1 HB GE472)⟩⟩
  ·(first|refine iteT ?_|refine iteF ?_|skip)
   have H':=A_ H;clear H;(try ((with_reducible refine upS ?_);go_simp))
   go_wp2
   go_meet
   case rel=>exact ⟨_,(true),zz7,H',⟨zz62⟩,⟨(zz2 BK472)⟩,⟨(zz1 HB GE472)⟩⟩
 case rest=>
  clear HC2;obtain ⟨kq,x14_1,rfl,HA,HJ1,BK472,HB⟩:=hcut;cases kq with
  | zero=>exact absurd HA.out (by simp [impl_AddrOk.j0])
  | succ kj1=>
   obtain ⟨H⟩:=HA;simp only [impl_AddrOk.j0] at H
   replace H:=iteB H;rcases H with ⟨rfl,H⟩|⟨rfl,H⟩
   ·obtain rfl:=sI H
    go_wp2
    go_ret
    exact ⟨zz5,(zz1 HB GE472)⟩
   ·have H':=A_ H
    clear H;obtain ⟨_,_,_,_,_,_,_,_⟩:=cf4 BK472;go_wp2
    go_loopg [18] kj1 (fun kq v18 w'=>∃ (x18_2:Int),v18=.int .i64 x18_2∧Aside0 (impl_AddrOk.l0 kq l0_1 (l0_1.length:Int) x18_2 a0_0 l0_1 a0_2 a0_3=some r)∧Aside0 (kq≤kj1)∧Aside0 (w'.heap[gb472]?=some (.cells #[.string a0_0,(.slice A0_1 l0_1.length c0_1),.bool a0_2,.string a0_3] 48 (0,0)))∧Aside0 (Below w.heap.size w w'))
    case atStart=>exact ⟨(0),zz7,H',⟨Nat.le_refl _⟩,⟨(zz2 BK472)⟩,⟨(zz1 HB GE472)⟩⟩
    case round=>
     clear H';obtain ⟨x18_2,rfl,HA,HK2,BK472,HB⟩:=hrel;cases gk with
     | zero=>exact absurd HA.out (by simp [impl_AddrOk.l0])
     | succ k2=>
      obtain ⟨H⟩:=HA;simp only [impl_AddrOk.l0] at H
      replace H:=iteEd H;rcases H with ⟨c11b0,H⟩|⟨c11b0,H⟩
      ·replace H:=iteNd H
       obtain ⟨c12b0,H⟩:=H;replace H:=iteNd H;obtain ⟨c13b0,H⟩:=H;replace H:=iteEq H;rcases H with ⟨c14b0,c14b1,H⟩|⟨c14b0,c14b1,c14,H⟩
       ·obtain rfl:=sI H
        obtain ⟨⟨ad474,e474,hx474_0⟩,p474,q474⟩:=atB (Kd.at_string HR0_1.out x18_2);cases e474
        replace hx474_0:=cbl HB hx474_0;go_wp2
        go_ret
        exact ⟨zz5,(zz1 HB GE472)⟩
       ·replace H:=iteEq H
        rcases H with ⟨c15b0,c15b1,H⟩|⟨c15b0,c15b1,c15,H⟩
        ·obtain rfl:=sI H
         obtain ⟨⟨ad474,e474,hx474_0⟩,p474,q474⟩:=atB (Kd.at_string HR0_1.out x18_2);cases e474
         replace hx474_0:=cbl HB hx474_0;go_wp2
         go_ret
         exact ⟨zz5,(zz1 HB GE472)⟩
        ·replace H:=iteEq H
         rcases H with ⟨c16b0,c16b1,H⟩|⟨c16b0,c16b1,c16,H⟩
         ·obtain rfl:=sI H
          obtain ⟨⟨ad474,e474,hx474_0⟩,p474,q474⟩:=atB (Kd.at_string HR0_1.out x18_2);cases e474
          replace hx474_0:=cbl HB hx474_0;go_wp2
          go_ret
          exact ⟨zz5,(zz1 HB GE472)⟩
         ·replace H:=bindA H
          obtain ⟨t475,A17,H⟩:=H;have HF18:=A_ H;clear H;obtain ⟨⟨ad474,e474,hx474_0⟩,p474,q474⟩:=atB (Kd.at_string HR0_1.out x18_2);cases e474
          replace hx474_0:=cbl HB hx474_0;go_upto_if 36 with (first|(go_at_call 137;(with_reducible refine (impl_isNormal.calls k2 (rdOf ByteArray.empty l0_1 x18_2) t475 _ A17.out).mono ?_);rintro e w19 ⟨rfl,hb⟩;replace BK472:=A_ (bB (zz2 BK472) hb);replace HB:=A_ (bS (zz1 HB GE472) hb);(try clear hb)))
          obtain ⟨H⟩:=HF18;replace H:=iteB H;rcases H with ⟨rfl,H⟩|⟨rfl,H⟩
          ·have H':=A_ H
           clear H;go_wp2
           go_roundg k2
           case measure=>have:=HJ1.out;have:=HK2.out;omega
           case rel=>exact ⟨(wrap64 (x18_2+1)),zz7,H',⟨(zz71 HJ1 HK2)⟩,⟨(zz2 BK472)⟩,⟨(zz1 HB GE472)⟩⟩
          ·obtain rfl:=sI H
           go_wp2
           go_ret
           exact ⟨zz5,(zz1 HB GE472)⟩
      ·replace H:=bindA H
       obtain ⟨t476,A21,H⟩:=H;have HF22:=A_ H;clear H;obtain ⟨_,_,_,_,_,_,_,_⟩:=cf4 BK472;go_wp2_with (first|(refine gR 137 (some 40) Tryz.func137 (impl_isNormal.calls k2 a0_3 t476 _ A21.out) ?_;rintro w24 hb;replace BK472:=A_ (bB (zz2 BK472) hb);replace HB:=A_ (bS (zz1 HB GE472) hb);(try clear hb))|((with_reducible refine atG ?_ ?_ fun K_ hK_=>?_);rfl;exact undecG)|((with_reducible refine atI ?_ fun K_ hK_=>?_);exact undecI))
       refine unG hK_ ?_;clear hK_ K_;obtain ⟨H⟩:=HF22;replace H:=iteB H;rcases H with ⟨rfl,H⟩|⟨rfl,H⟩
       ·(first|refine iteT ?_|refine iteF ?_|skip)
        replace H:=iteB H;rcases H with ⟨rfl,H⟩|⟨rfl,H⟩
        ·replace H:=bindA H
         obtain ⟨t477,A27,H⟩:=H;obtain rfl:=sI H;obtain ⟨_,_,_,_,_,_,_,_⟩:=cf4 BK472;go_wp2_with (first|(refine gR 55 (some 53) Tryz.func55 (impl_writeAddr.calls a0_0 _ _ l0_1 true a0_3 t477 _ ?side1 ?side2 A27.out) ?_;(case side1=>exact (zz21 HR0_1 HB));(case side2=>exact HC0_1.out);rintro w29 hb;replace BK472:=A_ (bB (zz2 BK472) hb);replace HB:=A_ (bS (zz1 HB GE472) hb);(try clear hb)))
         go_ret
         exact ⟨zz5,(zz1 HB GE472)⟩
        ·replace H:=iteE H
         rcases H with ⟨c30,H⟩|⟨c30,H⟩
         ·obtain ⟨c30b0,c30b1⟩:=eqT c30
          clear c30;replace H:=bindA H;obtain ⟨t478,A31,H⟩:=H;obtain rfl:=sI H;obtain ⟨_,_,_,_,_,_,_,_⟩:=cf4 BK472;go_wp2_with (first|(refine gR 55 (some 53) Tryz.func55 (impl_writeAddr.calls a0_0 _ _ l0_1 false a0_3 t478 _ ?side1 ?side2 A31.out) ?_;(case side1=>exact (zz21 HR0_1 HB));(case side2=>exact HC0_1.out);rintro w33 hb;replace BK472:=A_ (bB (zz2 BK472) hb);replace HB:=A_ (bS (zz1 HB GE472) hb);(try clear hb)))
          go_ret
          exact ⟨zz5,(zz1 HB GE472)⟩
         ·obtain ⟨c30b0,c30b1⟩:=eqF c30
          obtain rfl:=sI H;obtain ⟨_,_,_,_,_,_,_,_⟩:=cf4 BK472;go_wp2
          go_ret
          exact ⟨zz5,(zz1 HB GE472)⟩
       ·(first|refine iteT ?_|refine iteF ?_|skip)
        obtain rfl:=sI H;(try ((with_reducible refine upS ?_);go_simp))
        go_wp2
        go_ret
        exact ⟨zz5,(zz1 HB GE472)⟩
def impl_readWay.l0:Nat→ByteArray→ByteArray→Bool→List ByteArray→List ByteArray→Int→Int→Option (ByteArray×List ByteArray×Bool×ByteArray×Bool)
 | 0,_,_,_,_,_,_,_=>none
 | k+1,x0,x9,x10,x12,x35,x36,x37=>if x37 < x36 then (if 0≤x37 then (if x37 < (x35.length:Int) then ((impl_EscNorm.f k (rdOf ByteArray.empty x35 x37)).bind fun bt492=>(if bt492.2=true then (if x12.length < 8796093022208 then (impl_readWay.l0 k x0 x9 x10 (x12++[bt492.1]) x35 x36 (wrap64 (x37+1))) else (none)) else (some ((⟨#[]⟩:ByteArray),([]:List ByteArray),false,(⟨#[]⟩:ByteArray),false)))) else (none)) else (none)) else ((impl_PathClean.f k x12).bind fun t497=>((impl_AddrOk.f k x0 t497 x10 x9).bind fun t501=>(if t501=true then (some (x0,t497,x10,x9,true)) else (some ((⟨#[]⟩:ByteArray),([]:List ByteArray),false,(⟨#[]⟩:ByteArray),false)))))
def impl_readWay.f (k:Nat) (a0:ByteArray) (l1:List ByteArray) (a2:ByteArray):Option (ByteArray×List ByteArray×Bool×ByteArray×Bool):=(strings_Cut.f a2 (⟨#[63]⟩:ByteArray)).bind fun bt480=>((impl_EscNorm.f k bt480.2.1).bind fun bt483=>(if bt483.2=true then ((slices_Clone_string_string.f l1).bind fun t485=>((strings_Split.f k bt480.1 (⟨#[47]⟩:ByteArray)).bind fun t488=>(impl_readWay.l0 k a0 bt483.1 bt480.2.2 t485 t488 (t488.length:Int) 0))) else (some ((⟨#[]⟩:ByteArray),([]:List ByteArray),false,(⟨#[]⟩:ByteArray),false))))
theorem impl_readWay.calls (k:Nat) (a0:ByteArray) (A1:Option Addr) (c1:Nat) (l1:List ByteArray) (a2:ByteArray) (r1:ByteArray) (r2:List ByteArray) (r3:Bool) (r4:ByteArray) (r5:Bool) (w:World) (hr1:Kd.C Kd.string w A1 l1.length l1) (hc1:l1.length≤c1) (h:impl_readWay.f k a0 l1 a2=some (r1,r2,r3,r4,r5)) :
  Calls Tryz.prog 98 #[.string a0,.slice A1 l1.length c1,.string a2] w fun e w'=>∃ v1_:Value,e=.returned (.tuple #[.agg #[.string r1,v1_,.bool r3,.string r4],.bool r5])∧Kd.R Kd.string 9 w' w.heap.size (fun _=>True) v1_ r2∧Below w.heap.size w w':=by
 have hu48:=Tryz.underlying48;have HR1:=A_ hr1;have HC1:=A_ hc1;clear hr1 hc1;have HB:=A_ (Below.refl w.heap.size w);unfold impl_readWay.f at h
 have H:=h;clear h;replace H:=bindA H;obtain ⟨⟨t480,t481,t482⟩,A4,H⟩:=H;try dsimp only at H
 replace H:=bindA H;obtain ⟨⟨t483,t484⟩,A5,H⟩:=H;try dsimp only at H
 have HF6:=A_ H;clear H;go_enter Tryz.func98,Tryz.ntmps98;go_upto_if 30 with (first|(refine boxF 6 #[.string (⟨#[]⟩:ByteArray),.slice none 0 0,.bool false,.string (⟨#[]⟩:ByteArray)] 48 ?_;intro gb479 hg w7 BK479 hb;have GE479:=geB hg (zz0 HB);replace HB:=A_ (bS (zz0 HB) hb);clear hb hg)|(refine gR 78 (some 20) Tryz.func78 (strings_Cut.calls a2 (⟨#[63]⟩:ByteArray) t480 t481 t482 _ A4.out) ?_;rintro w8 hb;replace BK479:=A_ (bB (zz2 BK479) hb);replace HB:=A_ (bS (zz1 HB GE479) hb);(try clear hb))|(refine gR 117 (some 26) Tryz.func117 (impl_EscNorm.calls k t481 t483 t484 _ A5.out) ?_;rintro w9 hb;replace BK479:=A_ (bB (zz2 BK479) hb);replace HB:=A_ (bS (zz1 HB GE479) hb);(try clear hb)))
 obtain ⟨H⟩:=HF6;replace H:=iteB H;rcases H with ⟨rfl,H⟩|⟨rfl,H⟩
 ·replace H:=bindA H
  obtain ⟨t485,A11,H⟩:=H;replace H:=bindA H;obtain ⟨t488,A12,H⟩:=H;have H':=A_ H;clear H;go_wp2_with (first|(refine gV 118 (some 33) Tryz.func118 (slices_Clone_string_string.calls _ _ l1 t485 _ ?side1 ?side2 A11.out) ?_;(case side1=>exact (zz21 HR1 HB));(case side2=>exact HC1.out);rintro v486 w13 ⟨ho0,hb⟩;have HO487:=A_ (Kd.R_lower ho0 (below_size (zz1 HB GE479)));replace BK479:=A_ (bB (zz2 BK479) hb);replace HB:=A_ (bS (zz1 HB GE479) hb);(try clear hb ho0))|(refine gV 119 (some 35) Tryz.func119 (strings_Split.calls k t480 (⟨#[47]⟩:ByteArray) t488 _ A12.out) ?_;rintro v489 w14 ⟨ho0,hb⟩;have HO490:=A_ (Kd.R_lower (Kd.R_new' ho0 (Kd.R_lt (zz12 HO487))) (below_size (zz1 HB GE479)));replace HO487:=A_ (Kd.R_elder' (zz12 HO487) (Kd.R_base ho0) hb);replace BK479:=A_ (bB (zz2 BK479) hb);replace HB:=A_ (bS (zz1 HB GE479) hb);(try clear hb ho0);obtain ⟨Ao15,co15,eo15⟩:=Kd.R_slice HO490.out;subst eo15))
  go_loopg [12,37] k (fun kq v12 v37 w'=>∃ (x12_1:List ByteArray) (x37_1:Int) (x480000_1:ByteArray) (x480002_1:Bool) (x480003_1:ByteArray),v37=.int .i64 x37_1∧Aside0 (impl_readWay.l0 kq a0 t483 t482 x12_1 t488 (t488.length:Int) x37_1=some (r1,r2,r3,r4,r5))∧Aside0 (kq≤k)∧Aside0 (Kd.R Kd.string 9 w' w.heap.size (fun k_=>some k_≠((.slice Ao15 t488.length co15):Value).ownBlock) v12 x12_1)∧Aside0 (Kd.R Kd.string 9 w' w.heap.size (fun k_=>some k_≠(v12:Value).ownBlock) (.slice Ao15 t488.length co15) t488)∧Aside0 (w'.heap[gb479]?=some (.cells #[.string x480000_1,(.slice none 0 0),.bool x480002_1,.string x480003_1] 48 (0,0)))∧Aside0 (Below w.heap.size w w'))
  case atStart=>exact ⟨(t485),(0),((⟨#[]⟩:ByteArray)),(false),((⟨#[]⟩:ByteArray)),zz7,H',⟨Nat.le_refl _⟩,⟨(zz125 HO487)⟩,⟨(zz125 HO490)⟩,⟨(zz2 BK479)⟩,⟨(zz1 HB GE479)⟩⟩
  case round=>
   clear H';obtain ⟨x12_1,x37_1,x480000_1,x480002_1,x480003_1,rfl,HA,HK1,HO_12,HO_35,BK479,HB⟩:=hrel;cases gk with
   | zero=>exact absurd HA.out (by simp [impl_readWay.l0])
   | succ k1=>
    obtain ⟨H⟩:=HA;simp only [impl_readWay.l0] at H
    replace H:=iteEd H;rcases H with ⟨c16b0,H⟩|⟨c16b0,H⟩
    ·(first|rw [c16b0]|(simp only [i64_w,i32_w];rw [c16b0])|skip)
     replace H:=iteNd H;obtain ⟨c17b0,H⟩:=H;replace H:=iteNd H;obtain ⟨c18b0,H⟩:=H;replace H:=bindA H;obtain ⟨⟨t492,t493⟩,A19,H⟩:=H;try dsimp only at H
     have HF20:=A_ H;clear H;obtain ⟨⟨ad491,e491,hx491_0⟩,p491,q491⟩:=atB (Kd.at_string (Kd.R_reads' HO_35.out).2.2 x37_1);cases e491
     go_upto_if 47 with (first|(refine gR 117 (some 43) Tryz.func117 (impl_EscNorm.calls k1 (rdOf ByteArray.empty t488 x37_1) t492 t493 _ A19.out) ?_;rintro w21 hb;replace HO_12:=A_ (rB (zz12 HO_12) hb);replace HO_35:=A_ (rB (zz12 HO_35) hb);replace BK479:=A_ (bB (zz2 BK479) hb);replace HB:=A_ (bS (zz1 HB GE479) hb);(try clear hb)))
     obtain ⟨H⟩:=HF20;replace H:=iteB H;rcases H with ⟨rfl,H⟩|⟨rfl,H⟩
     ·replace H:=iteN H
      obtain ⟨c23,H⟩:=H;have LMc23:=A_ c23;clear c23;obtain ⟨y494,Ny494⟩:=toY (x12_1++[t492]);(first|with_reducible replace H:=bindZ Ny494 H|rw [← Ny494.out] at H|skip)
      have H':=A_ H;clear H;go_wp2_with (first|((with_reducible refine gate_builtin (b:=.append) (xs:=#[.tmp 49,.tmp 51]) rfl ?_);at_builtin;refine Kd.R_append Kd.string (w0:=w) w.heap.size rfl (.tmp 49) (.tmp 51) 23 9 (.string ⟨#[]⟩) 16 rfl Tryz.underlying23 info9 rfl (by decide) (by omega) u12 x12_1 t492 [.string t492] (fun k_=>some k_≠(.slice (some ad491) t488.length co15:Value).ownBlock) (fun _=>False) rfl rfl ?aP (fun _ hk=>hk.elim) ?aF ?aO ?aB ?aS ?aL ?_;(case aP=>exact rfl);(case aB=>exact (zz1 HB GE479));(case aF=>exact (fun k_ hk=>Kd.fresh' (Kd.R_lt (zz12 HO_35)) k_ hk));(case aO=>exact (zz12 HO_12));(case aS=>exact (below_size (zz1 HB GE479)));(case aL=>exact (zz17 LMc23));intro v495 w24 ho hb hg hat;rw [← Ny494.out] at ho;replace HO_35:=A_ (Kd.R_after (ok:=(fun _=>True)) (zz127 HO_35) hg hat);replace BK479:=A_ (blk_grown (zz2 BK479) hg (Kd.R_ne HO_12.out BK479.out (by decide)));replace HB:=A_ (hb);have HO496:=A_ (ho);clear HO_12;clear ho hb hg hat))
      go_roundg k1
      case measure=>have:=HK1.out;omega
      case rel=>exact ⟨(y494),(wrap64 (x37_1+1)),(x480000_1),(x480002_1),(x480003_1),zz7,H',⟨(zz17 HK1)⟩,⟨(zz12 HO496)⟩,⟨(zz125 HO_35)⟩,⟨(zz2 BK479)⟩,⟨(zz1 HB GE479)⟩⟩
     ·simp only [Option.some.injEq,Prod.mk.injEq] at H
      obtain ⟨rfl,rfl,rfl,rfl,rfl⟩:=H;obtain ⟨_,_,_,_,_,_,_,_⟩:=cf4 BK479;go_wp2
      refine pR (results_ct rfl _ _ gb479 48 #[.string (⟨#[]⟩:ByteArray),.slice none 0 0,.bool false,.string (⟨#[]⟩:ByteArray)] (0,0) _ rfl (zz128 BK479) Tryz.underlying48 rfl (by kernel_rfl)) rfl ?_;exact ⟨_,zz5,zz82,(zz1 HB GE479)⟩
    ·(first|rw [c16b0]|(simp only [i64_w,i32_w];rw [c16b0])|skip)
     replace H:=bindA H;obtain ⟨t497,A26,H⟩:=H;replace H:=bindA H;obtain ⟨t501,A27,H⟩:=H;have HF28:=A_ H;clear H;obtain ⟨Ao29,co29,eo29⟩:=Kd.R_slice HO_12.out;subst eo29;go_upto_if 62 with (first|(refine gV 120 (some 56) Tryz.func120 (impl_PathClean.calls k1 _ _ x12_1 t497 _ ?side1 ?side2 A26.out) ?_;(case side1=>exact (zz129 HO_12));(case side2=>exact (Kd.R_reads' HO_12.out).2.1);rintro v498 w30 ⟨ho0,hb⟩;have HO499:=A_ (Kd.R_lower (Kd.R_new' (Kd.R_new' ho0 (Kd.R_lt (zz12 HO_12))) (Kd.R_lt (zz12 HO_35))) (below_size (zz1 HB GE479)));replace HO_12:=A_ (Kd.R_elder' (zz12 HO_12) (Kd.R_base ho0) hb);replace HO_35:=A_ (Kd.R_elder' (zz12 HO_35) (Kd.R_base ho0) hb);replace BK479:=A_ (bB (zz2 BK479) hb);replace HB:=A_ (bS (zz1 HB GE479) hb);(try clear hb ho0);obtain ⟨Ao31,co31,eo31⟩:=Kd.R_slice HO499.out;subst eo31)|(refine boxF 17 #[.string (⟨#[]⟩:ByteArray),.slice none 0 0,.bool false,.string (⟨#[]⟩:ByteArray)] 48 ?_;intro gb500 hg w32 BK500 hb;replace HO_12:=A_ (rB (zz12 HO_12) hb);replace HO_35:=A_ (rB (zz12 HO_35) hb);replace HO499:=A_ (rB (zz12 HO499) hb);have GE500:=geB hg (zz1 HB GE479);replace HB:=A_ (bS (zz1 HB GE479) hb);have NB479_500:=A_ ((by rw [hg];exact Nat.ne_of_lt (blk_lt (zz2 BK479)):gb479≠gb500));have NB500_479:=A_ ((by rw [hg];exact Nat.ne_of_gt (blk_lt (zz2 BK479)):gb500≠gb479));replace BK479:=A_ (bB (zz2 BK479) hb);clear hb hg;have hnb33:=NB500_479.out;have hnc33:=NB479_500.out;obtain ⟨_,_,_,_,_,_,_,_⟩:=cf4 BK500)|((with_reducible refine gC (f:=121) rfl ?_);refine gsL (some 61) Tryz.func121 #[.agg #[.string a0,.slice Ao31 t497.length co31,.bool t482,.string t483]] ?_;(with_reducible refine (impl_AddrOk.calls k1 a0 _ _ t497 t482 t483 t501 _ ?side1 ?side2 A27.out).mono ?_);(case side1=>exact (by refine (Kd.R_reads' (e:=9) (base:=w.heap.size) (ok:=fun k_=>((True∧some k_≠(.slice Ao29 x12_1.length co29:Value).ownBlock)∧some k_≠(.slice Ao15 t488.length co15:Value).ownBlock)) (n:=t497.length) (c:=co31) ?_).2.2;exact (zz188 HO499 BK500)));(case side2=>exact (Kd.R_reads' HO499.out).2.1);rintro e w35 ⟨rfl,hb⟩;refine ⟨_,rfl,?_⟩;replace HO_12:=A_ (rB (zz188 HO_12 BK500) hb);replace HO_35:=A_ (rB (zz188 HO_35 BK500) hb);replace HO499:=A_ (rB (zz188 HO499 BK500) hb);replace BK479:=A_ (bB (g:=gb479) (o:=.cells #[.string x480000_1,.slice none 0 0,.bool x480002_1,.string x480003_1] 48 (0,0)) (zz4 BK479 NB479_500) hb);replace BK500:=A_ (bB (g:=gb500) (o:=.cells #[.string a0,.slice Ao31 t497.length co31,.bool t482,.string t483] 48 (0,0)) (zz128 BK500) hb);replace HB:=A_ (bS (zz3 HB GE479 GE500) hb);(try clear hb)))
     obtain ⟨H⟩:=HF28;replace H:=iteB H;rcases H with ⟨rfl,H⟩|⟨rfl,H⟩
     ·simp only [Option.some.injEq,Prod.mk.injEq] at H
      obtain ⟨rfl,rfl,rfl,rfl,rfl⟩:=H;have hnb37:=NB500_479.out;have hnc37:=NB479_500.out;obtain ⟨_,_,_,_,_,_,_,_⟩:=cf4 BK500;obtain ⟨_,_,_,_,_,_,_,_⟩:=cf4 BK479;go_wp2
      refine pR (results_ct rfl _ _ gb479 48 #[.string a0,.slice Ao31 t497.length co31,.bool t482,.string t483] (0,0) _ rfl (zz128 BK479) Tryz.underlying48 rfl (by kernel_rfl)) rfl ?_;exact ⟨_,zz5,(zz24 (rt HO499 BK479)),(zz3 HB GE479 GE500)⟩
     ·simp only [Option.some.injEq,Prod.mk.injEq] at H
      obtain ⟨rfl,rfl,rfl,rfl,rfl⟩:=H;have hnb40:=NB479_500.out;have hnc40:=NB500_479.out;obtain ⟨_,_,_,_,_,_,_,_⟩:=cf4 BK479;go_wp2
      refine pR (results_ct rfl _ _ gb479 48 #[.string (⟨#[]⟩:ByteArray),.slice none 0 0,.bool false,.string (⟨#[]⟩:ByteArray)] (0,0) _ rfl (zz128 BK479) Tryz.underlying48 rfl (by kernel_rfl)) rfl ?_;exact ⟨_,zz5,zz82,(zz3 HB GE479 GE500)⟩
 ·simp only [Option.some.injEq,Prod.mk.injEq] at H
  obtain ⟨rfl,rfl,rfl,rfl,rfl⟩:=H;obtain ⟨_,_,_,_,_,_,_,_⟩:=cf4 BK479;go_wp2
  refine pR (results_ct rfl _ _ gb479 48 #[.string (⟨#[]⟩:ByteArray),.slice none 0 0,.bool false,.string (⟨#[]⟩:ByteArray)] (0,0) _ rfl (zz128 BK479) Tryz.underlying48 rfl (by kernel_rfl)) rfl ?_;exact ⟨_,zz5,zz82,(zz1 HB GE479)⟩
end Go.Proofs.YtnnciiiackinpaaGreatDoor.P
end
