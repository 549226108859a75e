/- Part 3 of the proof of FnWorldNotice: the plain functions of what it reaches, that Go comes to just their answers, what they answer, and the words that the walks use; conditions: each theorem's own. -/
import Derived.Test.YtloijngehifbmaaGreatDoorZFnWorldNoticeb
import Derived.Test.YtloijngehifbmaaGreatDoorZFnWorldNoticea
import Derived.OneCell
import Derived.Laws.RangeAny
import Derived.LoopTactic

set_option linter.unusedVariables false
set_option linter.unusedSimpArgs false
section
namespace Go.Proofs.YtloijngehifbmaaGreatDoor.P
open Go.RowKit Go.Proofs.YtloijngehifbmaaGreatDoorW PrintWords PrintLast PrintMore
attribute [local go_sem] max2_int min2_int max_two min_two max_three min_three max_four min_four
set_option maxHeartbeats 8000000
set_option maxRecDepth 100000
def spec_l71Houses.f  : Option (List BA):=some (([(⟨#[97,98]⟩:BA),(⟨#[99,100]⟩:BA),(⟨#[101]⟩:BA),(⟨#[102,111,120]⟩:BA)]:List BA))
theorem spec_l71Houses.calls  (r:List BA) (w:World) (h:spec_l71Houses.f  = some r):
  Calls Tryz.prog 107 #[] w fun e w'=>∃v0_:Value,e=.returned (v0_)∧Kd.R Kd.string 9 w' w.heap.size (fun _=>True) v0_ r∧Below w.heap.size w w':=by
 have HB:=A_ (Below.refl w.heap.size w);unfold spec_l71Houses.f at h;have H:=h;clear h;obtain⟨y693,Ny693⟩:=toY (([(⟨#[97,98]⟩:BA),(⟨#[99,100]⟩:BA),(⟨#[101]⟩:BA),(⟨#[102,111,120]⟩:BA)]:List BA));(first|with_reducible replace H:=bindZ Ny693 H|rw[←Ny693.out]at H|skip);obtain rfl:=sI H;go_enter Tryz.func107,Tryz.ntmps107;go_wp2_with (first|((with_reducible refine gD (N:=1) rfl ?_);refine Kd.R_lit Kd.string _ 9 ?hg (N:=1) ?hd (xs:=([(⟨#[97,98]⟩:BA),(⟨#[99,100]⟩:BA),(⟨#[101]⟩:BA),(⟨#[102,111,120]⟩:BA)]:List BA)) (inner:=[.string (⟨#[97,98]⟩:BA),.string (⟨#[99,100]⟩:BA),.string (⟨#[101]⟩:BA),.string (⟨#[102,111,120]⟩:BA)]) (ok:=fun _=>True) (okp:=fun _=>True) ?hr ?hp (fun _ hk=>hk) trivial (Below.refl _ _) (lL_ _) (by simp) ?_;(case hd=>rfl);(case hg=>rfl);(case hr=>exact zz5);(case hp=>exact(Reps.one (show Kd.M Kd.string _ _ _ (⟨#[97,98]⟩:BA) [.string (⟨#[97,98]⟩:BA)]from rfl) (Reps.one (show Kd.M Kd.string _ _ _ (⟨#[99,100]⟩:BA) [.string (⟨#[99,100]⟩:BA)]from rfl) (Reps.one (show Kd.M Kd.string _ _ _ (⟨#[101]⟩:BA) [.string (⟨#[101]⟩:BA)]from rfl) (Reps.one (show Kd.M Kd.string _ _ _ (⟨#[102,111,120]⟩:BA) [.string (⟨#[102,111,120]⟩:BA)]from rfl) (Reps.none _ _))))));intro v694 w1 ho2 hb hg_ hnew_;clear hg_ hnew_;(first|rw[←Ny693.out]at ho2|(simp only[Int.reduceToNat]at ho2;rw[←Ny693.out]at ho2));have HO695:=A_ (Kd.R_lower ho2 (below_size (zz6 HB)));replace HB:=A_ (bS (zz6 HB) hb);clear hb ho2));go_ret;exact⟨_,zz9,(zz7 HO695),(zz6 HB)⟩
def stringslite_HasPrefix.f (a0:BA)(a1:BA):Option (Bool):=if(a0.size:Int)≥(a1.size:Int)then(if 0≤(a1.size:Int)then(if(a1.size:Int)≤(a0.size:Int)then(some ((a0.extract 0 ((a1.size:Int):Int).toNat).toList==a1.toList))else(none))else(none))else(some false)
theorem stringslite_HasPrefix.calls (a0:BA)(a1:BA)(r:Bool)(w:World)(h:stringslite_HasPrefix.f a0 a1=some r):
  Calls Tryz.prog 157 #[.string a0,.string a1] w fun e w'=>e=.returned (.bool r)∧Drawn0 w w':=by
 unfold stringslite_HasPrefix.f at h;have H:=h;clear h;replace H:=iteE H;rcases H with⟨c3,H⟩|⟨c3,H⟩
 ·have c3b0:=geT c3
  have c3b1:decide (a1.size≤a0.size)=true:=dT (Int.ofNat_le.mp c3);clear c3;replace H:=iteN H;obtain⟨c4,H⟩:=H;have c4b0:=eq_true c4;have c4b1:=dT c4;clear c4;replace H:=iteN H;obtain⟨c5,H⟩:=H;have c5b0:=eq_true c5;have c5b1:=dT c5;clear c5;obtain rfl:=sI H;go_enter Tryz.func157,Tryz.ntmps157;go_wp2;go_ret;exact⟨zz0,zz1⟩
 ·have c3b0:=geF c3
  have c3b1:decide (a1.size≤a0.size)=false:=dF (fun h=>c3 (Int.ofNat_le.mpr h));clear c3;obtain rfl:=sI H;go_enter Tryz.func157,Tryz.ntmps157;go_wp2;go_ret;exact⟨zz0,zz1⟩
def stringslite_CutPrefix.f (a0:BA)(a1:BA):Option (BA×Bool):=(stringslite_HasPrefix.f a0 a1).bind fun t429=>(if t429=true then(if 0≤(a1.size:Int)then(if(a1.size:Int)≤(a0.size:Int)then(some (a0.extract ((a1.size:Int):Int).toNat a0.size,true))else(none))else(none))else(some (a0,false)))
theorem stringslite_CutPrefix.calls (a0:BA)(a1:BA)(r1:BA)(r2:Bool)(w:World)(h:stringslite_CutPrefix.f a0 a1=some (r1,r2)):
  Calls Tryz.prog 127 #[.string a0,.string a1] w fun e w'=>e=.returned (.tuple #[.string r1,.bool r2])∧Drawn0 w w':=by
 unfold stringslite_CutPrefix.f at h;have H:=h;clear h;replace H:=bindA H;obtain⟨t429,A3,H⟩:=H;have HF4:=A_ H;clear H;go_enter Tryz.func127,Tryz.ntmps127;go_upto_if 9 with(first|(refine gR 157 (some 8) Tryz.func157 (stringslite_HasPrefix.calls a0 a1 t429 _ A3.out) ?_;rintro w' ⟨nd,rfl⟩))
 obtain⟨H⟩:=HF4;replace H:=iteB H;rcases H with⟨rfl,H⟩|⟨rfl,H⟩
 ·replace H:=iteN H
  obtain⟨c6,H⟩:=H;have c6b0:=eq_true c6;have c6b1:=dT c6;clear c6;replace H:=iteN H;obtain⟨c7,H⟩:=H;have c7b0:=eq_true c7;have c7b1:=dT c7;clear c7;simp only[oI_,pI_]at H;obtain⟨rfl,rfl⟩:=H;go_wp2
  go_ret2
  exact⟨zz0,zz1⟩
 ·simp only[oI_,pI_]at H
  obtain⟨rfl,rfl⟩:=H;go_wp2
  go_ret2
  exact⟨zz0,zz1⟩
def strings_CutPrefix.f (a0:BA)(a1:BA):Option (BA×Bool):=(stringslite_CutPrefix.f a0 a1).bind fun bt430=>(some (bt430.1,bt430.2))
theorem strings_CutPrefix.calls (a0:BA)(a1:BA)(r1:BA)(r2:Bool)(w:World)(h:strings_CutPrefix.f a0 a1=some (r1,r2)):
  Calls Tryz.prog 97 #[.string a0,.string a1] w fun e w'=>e=.returned (.tuple #[.string r1,.bool r2])∧Drawn0 w w':=by
 unfold strings_CutPrefix.f at h;have H:=h;clear h;replace H:=bindA H;obtain⟨⟨t430,t431⟩,A3,H⟩:=H;try dsimp only at H;simp only[oI_,pI_]at H;obtain⟨rfl,rfl⟩:=H;go_enter Tryz.func97,Tryz.ntmps97;go_wp2_with (first|(refine gR 127 (some 8) Tryz.func127 (stringslite_CutPrefix.calls a0 a1 t430 t431 _ A3.out) ?_;rintro w' ⟨nd,rfl⟩))
 go_ret2
 exact⟨zz0,zz1⟩
def impl_noticeAddr.f (a0:BA):Option (BA):=if 2+a0.size≤9223372036854775807 then(if 2+a0.size+7≤9223372036854775807 then(some (((⟨#[47,47]⟩:BA)++a0)++(⟨#[47,110,111,116,105,99,101]⟩:BA)))else(none))else(none)
theorem impl_noticeAddr.calls (a0:BA)(r:BA)(w:World)(h:impl_noticeAddr.f a0=some r):
  Calls Tryz.prog 78 #[.string a0] w fun e w'=>e=.returned (.string r)∧Drawn0 w w':=by
 unfold impl_noticeAddr.f at h;have H:=h;clear h;replace H:=iteE H;rcases H with⟨c2,H⟩|⟨c2,H⟩
 ·have c2b0:=eq_true c2
  have c2b1:=dT c2;try have c2b2:(9223372036854775807<2+a0.size)=False:=eq_false (nL_.2 c2);replace H:=iteN H;obtain⟨c3,H⟩:=H;have c3b0:=eq_true c3;have c3b1:=dT c3;try have c3b2:(9223372036854775807<2+a0.size+7)=False:=eq_false (nL_.2 c3);obtain rfl:=sI H;go_enter Tryz.func78,Tryz.ntmps78;go_wp2;go_ret;exact⟨zz0,zz1⟩
 ·exact absurd H (by simp)
def spec_l1Text.f (k:Nat)(a0_0:BA)(l0_1:List BA)(a0_2:Bool)(a0_3:BA):Option (BA):=if 2+a0_0.size≤9223372036854775807 then((spec_l1Path.f k a0_0 l0_1 a0_2 a0_3).bind fun t140=>(if 2+a0_0.size+t140.size≤9223372036854775807 then(some (((⟨#[47,47]⟩:BA)++a0_0)++t140))else(none)))else(none)
theorem spec_l1Text.mono:∀a0 a1 a2 a3 k,LeO (spec_l1Text.f k a0 a1 a2 a3) (spec_l1Text.f (k+1) a0 a1 a2 a3):=by
 intro a0 a1 a2 a3 k;unfold spec_l1Text.f
 repeat' first|(with_reducible first|exact spec_l1Path.mono _ _ _ _ _|exact LeO.refl _|exact LeO.none _|refine LeO.ite ?_ ?_|refine LeO.bind ?_ (fun _=>?_))|exact LeO.none _|refine LeO.ite ?_ ?_|refine LeO.bind ?_ (fun _=>?_)
theorem spec_l1Text.calls (k:Nat)(a0_0:BA)(A0_1:Option Addr)(c0_1:Nat)(l0_1:List BA)(a0_2:Bool)(a0_3:BA)(r:BA)(w:World)(hr0_1:Kd.C Kd.string w A0_1 l0_1.length l0_1)(hc0_1:l0_1.length≤c0_1)(h:spec_l1Text.f k a0_0 l0_1 a0_2 a0_3=some r):
  Calls Tryz.prog 122 #[.agg #[.string a0_0,.slice A0_1 l0_1.length c0_1,.bool a0_2,.string a0_3]] w fun e w'=>e=.returned (.string r)∧Below w.heap.size w w':=by
 have hu51:=Tryz.underlying51;have HR0_1:=A_ hr0_1;have HC0_1:=A_ hc0_1;clear hr0_1 hc0_1;have HB:=A_ (Below.refl w.heap.size w);unfold spec_l1Text.f at h;have H:=h;clear h;replace H:=iteE H;rcases H with⟨c2,H⟩|⟨c2,H⟩
 ·have c2b0:=eq_true c2
  have c2b1:=dT c2;try have c2b2:(9223372036854775807<2+a0_0.size)=False:=eq_false (nL_.2 c2);replace H:=bindA H;obtain⟨t140,A3,H⟩:=H;replace H:=iteN H;obtain⟨c4,H⟩:=H;have c4b0:=eq_true c4;have c4b1:=dT c4;try have c4b2:(9223372036854775807<2+a0_0.size+t140.size)=False:=eq_false (nL_.2 c4);obtain rfl:=sI H;go_enter Tryz.func122,Tryz.ntmps122;try go_wp2_with (first|(refine boxF 1 #[.string a0_0,.slice A0_1 l0_1.length c0_1,.bool a0_2,.string a0_3] 51 ?_;intro gb139 hg w5 BK139 hb;have GE139:=geB hg (zz6 HB);replace HB:=A_ (bS (zz6 HB) hb);clear hb hg));replace BK139:=A_ (blk_drew BK139.out);replace HB:=A_ (below_drew1 HB.out);refine start_ (n:=7) (S:=fun w'=>w'.cell? ⟨gb139,0,none⟩=some (.string a0_0)∧w'.cell? ⟨gb139,1,none⟩=some (.slice A0_1 l0_1.length c0_1)∧w'.cell? ⟨gb139,2,none⟩=some (.bool a0_2)∧w'.cell? ⟨gb139,3,none⟩=some (.string a0_3)) (ds:=[]) #[yF,yF,yF,yF,yF,yF,yF] (by kernel_rfl) rfl rfl ⟨(blk_cell BK139.out 0).trans rfl,(blk_cell BK139.out 1).trans rfl,(blk_cell BK139.out 2).trans rfl,(blk_cell BK139.out 3).trans rfl⟩ (fun hHeld=>?_);generalize w5.drew=w6 at BK139 HB hHeld ⊢;refine pureY 0 (some 3) (yA 1 6) ?_;refine takeY4 1 (some 4) (yA 2 5) hHeld ?_;refine pureY 2 (some 5) (yA 3 4) ?_;refine takeY4 3 (some 6) (yA 4 3) hHeld ?_;refine one_ (i:=4) (N:=some 7) (yA 5 2) rfl rfl (by kernel_rfl) (by decide) (fun K hK=>?_);refine goes_ Tryz.func67 (by kernel_rfl) rfl #[.agg #[.string a0_0,.slice A0_1 l0_1.length c0_1,.bool a0_2,.string a0_3]] (by rfl) rfl rfl zz45 ?_;with_reducible refine(spec_l1Path.calls k a0_0 _ _ l0_1 a0_2 a0_3 t140 _ ?side1 ?side2 A3.out).mono ?_
  (case side1=>exact(zz29 HR0_1 HB))
  (case side2=>exact HC0_1.out)
  rintro e w7 ⟨rfl,hb⟩;refine⟨_,rfl,?_⟩;replace BK139:=A_ (bB (zz18 BK139) hb);replace HB:=A_ (bS (zz19 HB GE139) hb);(try clear hb)
  (try clear hb2)
  (try clear hk)
  (try clear hi)
  refine hK.out _ _ ⟨(blk_cell BK139.out 0).trans rfl,(blk_cell BK139.out 1).trans rfl,(blk_cell BK139.out 2).trans rfl,(blk_cell BK139.out 3).trans rfl⟩ (fun hHeld=>?_);clear hK K;refine nZ 7 ?_;refine pureY 5 (some 8) (yA 6 1) ?_;refine pureY 6 (some 2) (yA 7 0) ?_;refine done_ (by kernel_rfl) ?_;try go_wp2;go_ret;exact⟨zz9,(zz19 HB GE139)⟩
 ·exact absurd H (by simp)
def spec_l11Get.f (k:Nat)(l0:List (S57))(a1:BA)(a2:Int):Option (Int×BA):=(spec_l11At.f k l0 a1).bind fun bt242=>(if bt242.2.2.2.2=true then(if a2<bt242.2.2.2.1 then(some (3,(⟨#[]⟩:BA)))else(if bt242.2.2.1.toList=([]:List UInt8)then(some (1,bt242.2.1))else(some (2,bt242.2.2.1))))else(some (0,(⟨#[]⟩:BA))))
theorem spec_l11Get.calls (k:Nat)(A0:Option Addr)(c0:Nat)(l0:List (S57))(a1:BA)(a2:Int)(r1:Int)(r2:BA)(w:World)(hr0:Kd.C k57 w A0 l0.length l0)(hc0:l0.length≤c0)(h:spec_l11Get.f k l0 a1 a2=some (r1,r2)):
  Calls Tryz.prog 73 #[.slice A0 l0.length c0,.string a1,.int .i64 a2] w fun e w'=>e=.returned (.tuple #[.int .i64 r1,.string r2])∧Below w.heap.size w w':=by
 have hu57:=Tryz.underlying57;have HR0:=A_ hr0;have HC0:=A_ hc0;clear hr0 hc0;have HB:=A_ (Below.refl w.heap.size w);unfold spec_l11Get.f at h;have H:=h;clear h;replace H:=bindA H;obtain⟨⟨t242,t243,t244,t245,t246⟩,A4,H⟩:=H;try dsimp only at H;have HF5:=A_ H;clear H;go_enter Tryz.func73,Tryz.ntmps73;go_upto_if 16 with(first|(go_at_call 103;(with_reducible refine(spec_l11At.calls k _ _ l0 a1 t242 t243 t244 t245 t246 _ ?side1 ?side2 A4.out).mono ?_);(case side1=>exact(zz84 HR0));(case side2=>exact HC0.out);rintro e w6 ⟨rfl,hb⟩;replace HB:=A_ (bS (zz6 HB) hb);(try clear hb))|(refine boxF 8 #[.string (⟨#[]⟩:BA),.string (⟨#[]⟩:BA),.string (⟨#[]⟩:BA),.int .i64 0] 57 ?_;intro gb247 hg w7 BK247 hb;have GE247:=geB hg (zz6 HB);replace HB:=A_ (bS (zz6 HB) hb);clear hb hg;obtain⟨_,_,_,_,_,_,_,_⟩:=cf4 BK247)|((with_reducible refine gate_store (t:=57) (p:=8) rfl ?_);(try(rw[drewN_self w7];generalize hq_:World.drewN w7 _=w7;have HB:=A_ (below_at hq_ HB.out);clear hq_ BK247 HB;have BK247:=A_ (blk_at hq_ BK247.out)));refine store_event (t:=57) (p:=8) (v:=?vo_w9) (w1:=((((w7.setCell ⟨gb247,0,none⟩ (.string t242)).setCell ⟨gb247,1,none⟩ (.string t243)).setCell ⟨gb247,2,none⟩ (.string t244)).setCell ⟨gb247,3,none⟩ (.int .i64 t245))) ?hg ?ho ?hn ?hr ?_;(case ho=>rfl);(case hg=>rfl);(case hn=>rfl);(case hr=>exact zz5);intro w9 hw;have n0_:Aside0 (w9.heap[gb247]?=some (.cells #[.string t242,.string t243,.string t244,.int .i64 t245] 57 (0,0))):=⟨(by rw[hw];exact(zz22 BK247))⟩;have n1_:Aside0 (Below w.heap.size w w9):=⟨(by rw[hw];exact(zz19 HB GE247))⟩;clear hw;clear BK247;clear HB;have BK247:=n0_;have HB:=n1_;clear n0_ n1_))
 repeat(go_quiet (first|(go_at_call 103;(with_reducible refine(spec_l11At.calls k _ _ l0 a1 t242 t243 t244 t245 t246 _ ?side1 ?side2 A4.out).mono ?_);(case side1=>exact(zz84 HR0));(case side2=>exact HC0.out);rintro e w6 ⟨rfl,hb⟩;replace HB:=A_ (bS (zz6 HB) hb);(try clear hb))|(refine boxF 8 #[.string (⟨#[]⟩:BA),.string (⟨#[]⟩:BA),.string (⟨#[]⟩:BA),.int .i64 0] 57 ?_;intro gb247 hg w7 BK247 hb;have GE247:=geB hg (zz6 HB);replace HB:=A_ (bS (zz6 HB) hb);clear hb hg;obtain⟨_,_,_,_,_,_,_,_⟩:=cf4 BK247)|((with_reducible refine gate_store (t:=57) (p:=8) rfl ?_);(try(rw[drewN_self w7];generalize hq_:World.drewN w7 _=w7;have HB:=A_ (below_at hq_ HB.out);clear hq_ BK247 HB;have BK247:=A_ (blk_at hq_ BK247.out)));refine store_event (t:=57) (p:=8) (v:=?vo_w9) (w1:=((((w7.setCell ⟨gb247,0,none⟩ (.string t242)).setCell ⟨gb247,1,none⟩ (.string t243)).setCell ⟨gb247,2,none⟩ (.string t244)).setCell ⟨gb247,3,none⟩ (.int .i64 t245))) ?hg ?ho ?hn ?hr ?_;(case ho=>rfl);(case hg=>rfl);(case hn=>rfl);(case hr=>exact zz5);intro w9 hw;have n0_:Aside0 (w9.heap[gb247]?=some (.cells #[.string t242,.string t243,.string t244,.int .i64 t245] 57 (0,0))):=⟨(by rw[hw];exact(zz22 BK247))⟩;have n1_:Aside0 (Below w.heap.size w w9):=⟨(by rw[hw];exact(zz19 HB GE247))⟩;clear hw;clear BK247;clear HB;have BK247:=n0_;have HB:=n1_;clear n0_ n1_));go_upto_if 16 with(first|(go_at_call 103;(with_reducible refine(spec_l11At.calls k _ _ l0 a1 t242 t243 t244 t245 t246 _ ?side1 ?side2 A4.out).mono ?_);(case side1=>exact(zz84 HR0));(case side2=>exact HC0.out);rintro e w6 ⟨rfl,hb⟩;replace HB:=A_ (bS (zz6 HB) hb);(try clear hb))|(refine boxF 8 #[.string (⟨#[]⟩:BA),.string (⟨#[]⟩:BA),.string (⟨#[]⟩:BA),.int .i64 0] 57 ?_;intro gb247 hg w7 BK247 hb;have GE247:=geB hg (zz6 HB);replace HB:=A_ (bS (zz6 HB) hb);clear hb hg;obtain⟨_,_,_,_,_,_,_,_⟩:=cf4 BK247)|((with_reducible refine gate_store (t:=57) (p:=8) rfl ?_);(try(rw[drewN_self w7];generalize hq_:World.drewN w7 _=w7;have HB:=A_ (below_at hq_ HB.out);clear hq_ BK247 HB;have BK247:=A_ (blk_at hq_ BK247.out)));refine store_event (t:=57) (p:=8) (v:=?vo_w9) (w1:=((((w7.setCell ⟨gb247,0,none⟩ (.string t242)).setCell ⟨gb247,1,none⟩ (.string t243)).setCell ⟨gb247,2,none⟩ (.string t244)).setCell ⟨gb247,3,none⟩ (.int .i64 t245))) ?hg ?ho ?hn ?hr ?_;(case ho=>rfl);(case hg=>rfl);(case hn=>rfl);(case hr=>exact zz5);intro w9 hw;have n0_:Aside0 (w9.heap[gb247]?=some (.cells #[.string t242,.string t243,.string t244,.int .i64 t245] 57 (0,0))):=⟨(by rw[hw];exact(zz22 BK247))⟩;have n1_:Aside0 (Below w.heap.size w w9):=⟨(by rw[hw];exact(zz19 HB GE247))⟩;clear hw;clear BK247;clear HB;have BK247:=n0_;have HB:=n1_;clear n0_ n1_)))
 obtain⟨H⟩:=HF5;replace H:=iteB H;rcases H with⟨rfl,H⟩|⟨rfl,H⟩
 ·replace H:=iteE H
  rcases H with⟨c11,H⟩|⟨c11,H⟩
  ·have c11b0:=dT c11
   clear c11;(first|rw[c11b0]|(simp only[i64_w,i32_w];rw[c11b0])|skip);simp only[oI_,pI_]at H;obtain⟨rfl,rfl⟩:=H;obtain⟨_,_,_,_,_,_,_,_⟩:=cf4 BK247;go_wp2
   repeat(go_quiet (fail);try go_wp2)
   go_ret2
   exact⟨zz9,(zz19 HB GE247)⟩
  ·have c11b0:=dF c11
   clear c11;(first|rw[c11b0]|(simp only[i64_w,i32_w];rw[c11b0])|skip);replace H:=iteEq H;rcases H with⟨c13b0,c13b1,H⟩|⟨c13b0,c13b1,c13,H⟩
   ·simp only[oI_,pI_]at H
    obtain⟨rfl,rfl⟩:=H;obtain⟨_,_,_,_,_,_,_,_⟩:=cf4 BK247;go_wp2
    repeat(go_quiet (fail);try go_wp2)
    go_ret2
    exact⟨zz9,(zz19 HB GE247)⟩
   ·simp only[oI_,pI_]at H
    obtain⟨rfl,rfl⟩:=H;obtain⟨_,_,_,_,_,_,_,_⟩:=cf4 BK247;go_wp2
    repeat(go_quiet (fail);try go_wp2)
    go_ret2
    exact⟨zz9,(zz19 HB GE247)⟩
 ·simp only[oI_,pI_]at H
  obtain⟨rfl,rfl⟩:=H;go_wp2
  repeat(go_quiet (fail);try go_wp2)
  go_ret2
  exact⟨zz9,(zz19 HB GE247)⟩
def spec_l11Last.f (k:Nat)(l0:List (S57))(a1:BA):Option (Int×BA):=(spec_l11Get.f k l0 a1 2).bind fun bt248=>(some (bt248.1,bt248.2))
theorem spec_l11Last.calls (k:Nat)(A0:Option Addr)(c0:Nat)(l0:List (S57))(a1:BA)(r1:Int)(r2:BA)(w:World)(hr0:Kd.C k57 w A0 l0.length l0)(hc0:l0.length≤c0)(h:spec_l11Last.f k l0 a1=some (r1,r2)):
  Calls Tryz.prog 35 #[.slice A0 l0.length c0,.string a1] w fun e w'=>e=.returned (.tuple #[.int .i64 r1,.string r2])∧Below w.heap.size w w':=by
 have HR0:=A_ hr0;have HC0:=A_ hc0;clear hr0 hc0;have HB:=A_ (Below.refl w.heap.size w);unfold spec_l11Last.f at h;have H:=h;clear h;replace H:=bindA H;obtain⟨⟨t248,t249⟩,A3,H⟩:=H;try dsimp only at H;simp only[oI_,pI_]at H;obtain⟨rfl,rfl⟩:=H;go_enter Tryz.func35,Tryz.ntmps35;go_wp2_with (first|(refine gR 73 (some 8) Tryz.func73 (spec_l11Get.calls k _ _ l0 a1 2 t248 t249 _ ?side1 ?side2 A3.out) ?_;(case side1=>exact(zz84 HR0));(case side2=>exact HC0.out);rintro w4 hb;replace HB:=A_ (bS (zz6 HB) hb);(try clear hb)))
 go_ret2
 exact⟨zz9,(zz6 HB)⟩
end Go.Proofs.YtloijngehifbmaaGreatDoor.P
end
section
namespace Go.Proofs.YtloijngehifbmaaGreatDoor.P
open Go.RowKit Go.Proofs.YtloijngehifbmaaGreatDoorW PrintWords PrintLast PrintMore
attribute [local go_sem] max2_int min2_int max_two min_two max_three min_three max_four min_four
def spec_NoticeFor.f (k:Nat)(l0:List (S32))(a1:BA):Option (List BA×(List (S93))×Int):=(spec_l2Of.f k l0 a1).bind fun bt267=>(if bt267.2.2.2=true then(some ((([a1]:List BA)),bt267.2.1,bt267.2.2.1))else((spec_l2Of.f k l0 (⟨#[42]⟩:BA)).bind fun bt279=>(some ((([a1]:List BA)),bt279.2.1,bt279.2.2.1))))
set_option maxHeartbeats 8000000 in
set_option maxRecDepth 100000 in
theorem spec_NoticeFor.calls (k:Nat)(A0:Option Addr)(c0:Nat)(l0:List (S32))(a1:BA)(r1:List BA)(r2:List (S93))(r3:Int)(w:World)(hr0:Kd.C k32 w A0 l0.length l0)(hc0:l0.length≤c0)(h:spec_NoticeFor.f k l0 a1=some (r1,r2,r3)):
  Calls Tryz.prog 74 #[.slice A0 l0.length c0,.string a1] w fun e w'=>∃v0_ v1_:Value,e=.returned (.agg #[v0_,v1_,.int .i64 r3])∧Kd.R Kd.string 9 w' w.heap.size (fun _=>True) v0_ r1∧Kd.R k93 93 w' w.heap.size (fun _=>True) v1_ r2∧Below w.heap.size w w':=by
 have hu32:=Tryz.underlying32;have HR0:=A_ hr0;have HC0:=A_ hc0;clear hr0 hc0;have HB:=A_ (Below.refl w.heap.size w);have H:((spec_l2Of.f k l0 a1).bind fun bt267=>(if bt267.2.2.2=true then(some ((([a1]:List BA)),bt267.2.1,bt267.2.2.1))else((spec_l2Of.f k l0 (⟨#[42]⟩:BA)).bind fun bt279=>(some ((([a1]:List BA)),bt279.2.1,bt279.2.2.1)))))=some (r1,r2,r3):=h;clear h;replace H:=oE_.mp H;obtain⟨⟨t267,t270,t273,t274⟩,A30,H⟩:=H;replace H:(if t274=true then(some ((([a1]:List BA)),t270,t273))else((spec_l2Of.f k l0 (⟨#[42]⟩:BA)).bind fun bt279=>(some ((([a1]:List BA)),bt279.2.1,bt279.2.2.1))))=some (r1,r2,r3):=H;have A3:=A_ A30;clear A30;have HF4:=A_ H;clear H
 go_enter Tryz.func74,Tryz.ntmps74
 go_upto_if 14 with(first|((with_reducible refine gate_dst (N:=4) rfl ?_);refine box_event ?hg (N:=4) ?hd (cs:=#[.slice none 0 0,.slice none 0 0,.int .i64 0]) (t:=32) ?hr ?_;(case hd=>rfl);(case hg=>rfl);(case hr=>first|(go_simp;done)|(go_simp;rfl));intro gb266 hg w5 hbox hb;have n0_:=A_ (below_step (by repeat(first|(with_reducible first|exact HB.out|apply below_alloc|apply pw_below_drewN|apply below_drew1)|exact HB.out)) hb);have n1_:=A_ (hbox);have n2_:=A_ ((by rw[hg];exact(below_size (by repeat(first|(with_reducible first|exact HB.out|apply below_alloc|apply pw_below_drewN|apply below_drew1)|exact HB.out))):w.heap.size≤gb266));have n3_:=A_ ((by rw[hg];exact(below_size (by repeat(first|(with_reducible first|exact HB.out|apply below_alloc|apply pw_below_drewN|apply below_drew1)|exact HB.out))):w.heap.size≤gb266));clear HB;have HB:=n0_;have BK266:=n1_;have GW266:=n2_;have GE266:=n3_;clear n0_ n1_ n2_ n3_;clear hb hbox hg)|((with_reducible refine gate_callee (f:=104) rfl ?_);refine goesL_ (some 10) rfl rfl Tryz.func104 (by kernel_rfl) rfl #[.slice A0 l0.length c0,.string a1] rfl (by(try simp only[List.map_toArray,List.map_cons,List.map_nil]);first|done|rfl|(simp only[List.length_drop,lT_];rfl)) ?_;(with_reducible refine(spec_l2Of.calls k _ _ l0 a1 t267 t270 t273 t274 _ ?side1 ?side2 A3.out).mono ?_);(case side1=>repeat(first|exact(Kd.C_below HR0.out HB.out)|(with_reducible refine Kd.C_alloc ?_ _)|(with_reducible refine Kd.C_drewN ?_ _)|(with_reducible refine Kd.C_drew ?_)));(case side2=>exact HC0.out);rintro e w6 ⟨v268,v271,rfl,ho0,ho1,hb⟩;refine⟨_,rfl,?_⟩;have n0_:=A_ (Kd.R_lower ho0 (below_size (by repeat(first|(with_reducible first|exact HB.out|apply below_alloc|apply pw_below_drewN|apply below_drew1|refine below_set ?_ GE266.out)|exact HB.out))));have n1_:=A_ (Kd.R_lower ho1 (below_size (by repeat(first|(with_reducible first|exact HB.out|apply below_alloc|apply pw_below_drewN|apply below_drew1|refine below_set ?_ GE266.out)|exact HB.out))));have n2_:=A_ (blk_below (g:=gb266) (o:=.cells #[.slice none 0 0,.slice none 0 0,.int .i64 0] 32 (0,0)) (by(with_reducible repeat(first|refine blk_drewN ?_ _|refine blk_drew ?_|refine blk_alloc ?_ _));exact BK266.out) hb);have n3_:=A_ (below_step (by repeat(first|(with_reducible first|exact HB.out|apply below_alloc|apply pw_below_drewN|apply below_drew1|refine below_set ?_ GE266.out)|exact HB.out)) hb);clear BK266;clear HB;have HO269:=n0_;have HO272:=n1_;have BK266:=n2_;have HB:=n3_;clear n0_ n1_ n2_ n3_;(try clear hb);(try clear hb2);(try clear hk);(try clear hi);(try clear ho0);(try clear ho1))|((with_reducible refine gate_dst (N:=5) rfl ?_);refine box_event ?hg (N:=5) ?hd (cs:=#[.slice none 0 0,.slice none 0 0,.int .i64 0]) (t:=32) ?hr ?_;(case hd=>rfl);(case hg=>rfl);(case hr=>first|(go_simp;done)|(go_simp;rfl));intro gb275 hg w7 hbox hb;have n0_:=A_ (Kd.R_below (by(with_reducible repeat(first|apply Kd.R_alloc|apply Kd.R_drewN|apply Kd.R_drew));exact HO269.out) hb);have n1_:=A_ (Kd.R_below (by(with_reducible repeat(first|apply Kd.R_alloc|apply Kd.R_drewN|apply Kd.R_drew));exact HO272.out) hb);have n2_:=A_ (blk_below (g:=gb266) (o:=.cells #[.slice none 0 0,.slice none 0 0,.int .i64 0] 32 (0,0)) (by(with_reducible repeat(first|refine blk_drewN ?_ _|refine blk_drew ?_|refine blk_alloc ?_ _));exact BK266.out) hb);have n3_:=A_ (below_step (by repeat(first|(with_reducible first|exact HB.out|apply below_alloc|apply pw_below_drewN|apply below_drew1|refine below_set ?_ GE266.out)|exact HB.out)) hb);have n4_:=A_ (hbox);have n5_:=A_ ((by rw[hg];exact(below_size (by repeat(first|(with_reducible first|exact HB.out|apply below_alloc|apply pw_below_drewN|apply below_drew1|refine below_set ?_ GE266.out)|exact HB.out))):w.heap.size≤gb275));have n6_:=A_ ((by rw[hg];exact(below_size (by repeat(first|(with_reducible first|exact HB.out|apply below_alloc|apply pw_below_drewN|apply below_drew1|refine below_set ?_ GE266.out)|exact HB.out))):w.heap.size≤gb275));have n7_:=A_ ((by rw[hg];exact Nat.ne_of_lt (blk_lt (g:=gb266) (o:=.cells #[.slice none 0 0,.slice none 0 0,.int .i64 0] 32 (0,0)) (by(with_reducible repeat(first|refine blk_drewN ?_ _|refine blk_drew ?_|refine blk_alloc ?_ _));exact BK266.out)):gb266≠gb275));have n8_:=A_ ((by rw[hg];exact Nat.ne_of_gt (blk_lt (g:=gb266) (o:=.cells #[.slice none 0 0,.slice none 0 0,.int .i64 0] 32 (0,0)) (by(with_reducible repeat(first|refine blk_drewN ?_ _|refine blk_drew ?_|refine blk_alloc ?_ _));exact BK266.out)):gb275≠gb266));clear HO269;clear HO272;clear BK266;clear HB;have HO269:=n0_;have HO272:=n1_;have BK266:=n2_;have HB:=n3_;have BK275:=n4_;have GW275:=n5_;have GE275:=n6_;have NB266_275:=n7_;have NB275_266:=n8_;clear n0_ n1_ n2_ n3_ n4_ n5_ n6_ n7_ n8_;clear hb hbox hg;obtain⟨Ao8,co8,eo8⟩:=Kd.R_slice HO269.out;subst eo8;have hnb9:=NB275_266.out;have hnc9:=NB266_275.out;have hcz10_0:w7.cell? ⟨gb275,0,none⟩=some (.slice none 0 0):=(blk_cell BK275.out 0).trans rfl;have hcz10_1:w7.cell? ⟨gb275,1,none⟩=some (.slice none 0 0):=(blk_cell BK275.out 1).trans rfl;have hcz10_2:w7.cell? ⟨gb275,2,none⟩=some (.int .i64 0):=(blk_cell BK275.out 2).trans rfl;have hfz10_0:=blk_frozen BK275.out 0;have hfz10_1:=blk_frozen BK275.out 1;have hfz10_2:=blk_frozen BK275.out 2;obtain⟨Ao11,co11,eo11⟩:=Kd.R_slice HO272.out;subst eo11)|((with_reducible refine gate_store (t:=32) (p:=5) rfl ?_);refine store_event (t:=32) (p:=5) (v:=?vo_w12) (w1:=(((w7.setCell ⟨gb275,0,none⟩ (.slice Ao8 t267.length co8)).setCell ⟨gb275,1,none⟩ (.slice Ao11 t270.length co11)).setCell ⟨gb275,2,none⟩ (.int .i64 t273))) ?hg ?ho ?hn ?hr ?_;(case ho=>rfl);(case hg=>rfl);(case hn=>rfl);(case hr=>first|(go_simp;done)|(go_simp;rfl));intro w12 hw;have n0_:Aside0 (Kd.R Kd.string 9 w12 w.heap.size (fun _=>True) (.slice Ao8 t267.length co8) t267):=⟨(by rw[hw];exact(by(with_reducible repeat(first|apply Kd.R_alloc|apply Kd.R_drewN|apply Kd.R_drew));exact Kd.R_mono (Kd.R_far (p:=⟨gb275,2,none⟩) (Kd.R_far (p:=⟨gb275,1,none⟩) (Kd.R_far (p:=⟨gb275,0,none⟩) (Kd.R_types HO269.out BK275.out (by decide)) (fun _ hk=>hk.2) (.slice Ao8 t267.length co8)) (fun _ hk=>hk.2) (.slice Ao11 t270.length co11)) (fun _ hk=>hk.2) (.int .i64 t273)) (fun _ hk=>trivial)))⟩;have n1_:Aside0 (Kd.R k93 93 w12 w.heap.size (fun _=>True) (.slice Ao11 t270.length co11) t270):=⟨(by rw[hw];exact(by(with_reducible repeat(first|apply Kd.R_alloc|apply Kd.R_drewN|apply Kd.R_drew));exact Kd.R_mono (Kd.R_far (p:=⟨gb275,2,none⟩) (Kd.R_far (p:=⟨gb275,1,none⟩) (Kd.R_far (p:=⟨gb275,0,none⟩) (Kd.R_types HO272.out BK275.out (by decide)) (fun _ hk=>hk.2) (.slice Ao8 t267.length co8)) (fun _ hk=>hk.2) (.slice Ao11 t270.length co11)) (fun _ hk=>hk.2) (.int .i64 t273)) (fun _ hk=>trivial)))⟩;have n2_:Aside0 (w12.heap[gb266]?=some (.cells #[.slice none 0 0,.slice none 0 0,.int .i64 0] 32 (0,0))):=⟨(by rw[hw];exact(by(with_reducible repeat(first|refine blk_drewN ?_ _|refine blk_drew ?_|refine blk_alloc ?_ _));refine blk_far ?_ NB266_275.out _;(with_reducible repeat(first|refine blk_drewN ?_ _|refine blk_drew ?_|refine blk_alloc ?_ _));refine blk_far ?_ NB266_275.out _;(with_reducible repeat(first|refine blk_drewN ?_ _|refine blk_drew ?_|refine blk_alloc ?_ _));refine blk_far ?_ NB266_275.out _;(with_reducible repeat(first|refine blk_drewN ?_ _|refine blk_drew ?_|refine blk_alloc ?_ _));exact BK266.out))⟩;have n3_:Aside0 (w12.heap[gb275]?=some (.cells #[.slice Ao8 t267.length co8,.slice Ao11 t270.length co11,.int .i64 t273] 32 (0,0))):=⟨(by rw[hw];exact(by(with_reducible repeat(first|refine blk_drewN ?_ _|refine blk_drew ?_|refine blk_alloc ?_ _));refine blk_put (cs:=#[.slice Ao8 t267.length co8,.slice Ao11 t270.length co11,.int .i64 0]) ?_ 2 _ rfl;(with_reducible repeat(first|refine blk_drewN ?_ _|refine blk_drew ?_|refine blk_alloc ?_ _));refine blk_put (cs:=#[.slice Ao8 t267.length co8,.slice none 0 0,.int .i64 0]) ?_ 1 _ rfl;(with_reducible repeat(first|refine blk_drewN ?_ _|refine blk_drew ?_|refine blk_alloc ?_ _));refine blk_put (cs:=#[.slice none 0 0,.slice none 0 0,.int .i64 0]) ?_ 0 _ rfl;(with_reducible repeat(first|refine blk_drewN ?_ _|refine blk_drew ?_|refine blk_alloc ?_ _));exact BK275.out))⟩;have n4_:Aside0 (Below w.heap.size w w12):=⟨(by rw[hw];exact(by repeat(first|(with_reducible first|exact HB.out|apply below_alloc|apply pw_below_drewN|apply below_drew1|refine below_set ?_ GE266.out|refine below_set ?_ GE275.out)|exact HB.out)))⟩;clear hw;clear HO269;clear HO272;clear BK266;clear BK275;clear HB;have HO269:=n0_;have HO272:=n1_;have BK266:=n2_;have BK275:=n3_;have HB:=n4_;clear n0_ n1_ n2_ n3_ n4_))
 have H:=HF4.out;clear HF4
 by_cases c13:t274=true
 ·subst c13
  have H1:(some ((([a1]:List BA)),t270,t273))=some (r1,r2,r3):=by rw[if_pos rfl]at H;exact H
  clear H;have H:=H1;clear H1;obtain⟨y276,hy276⟩:∃y_:List BA,y_=(([a1]:List BA)):=⟨_,rfl⟩;replace H:(some (y276,t270,t273))=some (r1,r2,r3):=by first|(rw[hy276];with_reducible exact H)|(have H2_:=(oB_ _ _).symm.trans H;rw[hy276];with_reducible exact H2_)|(have H2_:=(oB_ _ _).symm.trans H;with_reducible exact H2_)|with_reducible exact H|(rw[hy276];exact H)|exact H
  have Ny276:=A_ hy276;clear hy276;simp only[oI_,pI_]at H;obtain⟨rfl,rfl,rfl⟩:=H
  go_wp2_with (first|((with_reducible refine gate_dst (N:=21) rfl ?_);refine Kd.R_lit Kd.string _ 9 ?hg (N:=21) ?hd (xs:=([a1]:List BA)) (inner:=[.string a1]) (ok:=fun _=>True) (okp:=fun _=>True) ?hr ?hp (fun _ hk=>hk) trivial (Below.refl _ _) (lL_ _) (by simp) ?_;(case hd=>rfl);(case hg=>rfl);(case hr=>first|(go_simp;done)|(go_simp;rfl));(case hp=>exact(Reps.one (show Kd.M Kd.string _ _ _ a1 [.string a1]from rfl) (Reps.none _ _)));intro v277 w14 ho15 hb hg_ hnew_;clear hg_ hnew_;(first|rw[←Ny276.out]at ho15|(simp only[Int.reduceToNat]at ho15;rw[←Ny276.out]at ho15));have n0_:=A_ (Kd.R_elder' (by(with_reducible repeat(first|apply Kd.R_alloc|apply Kd.R_drewN|apply Kd.R_drew));exact HO269.out) (Kd.R_base ho15) hb);have n1_:=A_ (Kd.R_below (by(with_reducible repeat(first|apply Kd.R_alloc|apply Kd.R_drewN|apply Kd.R_drew));exact HO272.out) hb);have n2_:=A_ (Kd.R_lower (Kd.R_new' ho15 (Kd.R_lt (by(with_reducible repeat(first|apply Kd.R_alloc|apply Kd.R_drewN|apply Kd.R_drew));exact HO269.out))) (below_size (by repeat(first|(with_reducible first|exact HB.out|apply below_alloc|apply pw_below_drewN|apply below_drew1|refine below_set ?_ GE266.out|refine below_set ?_ GE275.out)|exact HB.out))));have n3_:=A_ (blk_below (g:=gb266) (o:=.cells #[.slice none 0 0,.slice none 0 0,.int .i64 0] 32 (0,0)) (by(with_reducible repeat(first|refine blk_drewN ?_ _|refine blk_drew ?_|refine blk_alloc ?_ _));exact BK266.out) hb);have n4_:=A_ (blk_below (g:=gb275) (o:=.cells #[.slice Ao8 t267.length co8,.slice Ao11 t270.length co11,.int .i64 t273] 32 (0,0)) (by(with_reducible repeat(first|refine blk_drewN ?_ _|refine blk_drew ?_|refine blk_alloc ?_ _));exact BK275.out) hb);have n5_:=A_ (below_step (by repeat(first|(with_reducible first|exact HB.out|apply below_alloc|apply pw_below_drewN|apply below_drew1|refine below_set ?_ GE266.out|refine below_set ?_ GE275.out)|exact HB.out)) hb);clear HO269;clear HO272;clear BK266;clear BK275;clear HB;have HO269:=n0_;have HO272:=n1_;have HO278:=n2_;have BK266:=n3_;have BK275:=n4_;have HB:=n5_;clear n0_ n1_ n2_ n3_ n4_ n5_;clear hb ho15;obtain⟨Ao16,co16,eo16⟩:=Kd.R_slice HO278.out;subst eo16;have hnb17:=NB275_266.out;have hnc17:=NB266_275.out;have hcz18_0:w14.cell? ⟨gb275,0,none⟩=some (.slice Ao8 t267.length co8):=(blk_cell BK275.out 0).trans rfl;have hcz18_1:w14.cell? ⟨gb275,1,none⟩=some (.slice Ao11 t270.length co11):=(blk_cell BK275.out 1).trans rfl;have hcz18_2:w14.cell? ⟨gb275,2,none⟩=some (.int .i64 t273):=(blk_cell BK275.out 2).trans rfl;have hfz18_0:=blk_frozen BK275.out 0;have hfz18_1:=blk_frozen BK275.out 1;have hfz18_2:=blk_frozen BK275.out 2;have hcz19_0:w14.cell? ⟨gb266,0,none⟩=some (.slice none 0 0):=(blk_cell BK266.out 0).trans rfl;have hcz19_1:w14.cell? ⟨gb266,1,none⟩=some (.slice none 0 0):=(blk_cell BK266.out 1).trans rfl;have hcz19_2:w14.cell? ⟨gb266,2,none⟩=some (.int .i64 0):=(blk_cell BK266.out 2).trans rfl;have hfz19_0:=blk_frozen BK266.out 0;have hfz19_1:=blk_frozen BK266.out 1;have hfz19_2:=blk_frozen BK266.out 2))
  refine bodyPost_ret (results_cell_row rfl _ _ gb266 32 #[.slice Ao16 y276.length co16,.slice Ao11 t270.length co11,.int .i64 t273] (0,0) _ rfl (by(with_reducible repeat(first|refine blk_drewN ?_ _|refine blk_drew ?_|refine blk_alloc ?_ _));refine blk_put (cs:=#[.slice Ao16 y276.length co16,.slice Ao11 t270.length co11,.int .i64 0]) ?_ 2 _ rfl;(with_reducible repeat(first|refine blk_drewN ?_ _|refine blk_drew ?_|refine blk_alloc ?_ _));refine blk_put (cs:=#[.slice Ao16 y276.length co16,.slice none 0 0,.int .i64 0]) ?_ 1 _ rfl;(with_reducible repeat(first|refine blk_drewN ?_ _|refine blk_drew ?_|refine blk_alloc ?_ _));refine blk_put (cs:=#[.slice none 0 0,.slice none 0 0,.int .i64 0]) ?_ 0 _ rfl;(with_reducible repeat(first|refine blk_drewN ?_ _|refine blk_drew ?_|refine blk_alloc ?_ _));refine blk_far ?_ NB266_275.out _;(with_reducible repeat(first|refine blk_drewN ?_ _|refine blk_drew ?_|refine blk_alloc ?_ _));exact BK266.out) Tryz.underlying32 rfl (by kernel_rfl)) rfl ?_;exact⟨_,_,by first|rfl|(simp[errW_none,errW_some] <;> rfl)|(simp[*,errW_none,errW_some] <;> rfl),by(with_reducible repeat(first|apply Kd.R_alloc|apply Kd.R_drewN|apply Kd.R_drew));exact Kd.R_mono (Kd.R_far (p:=⟨gb266,2,none⟩) (Kd.R_far (p:=⟨gb266,1,none⟩) (Kd.R_far (p:=⟨gb266,0,none⟩) (Kd.R_far (p:=⟨gb275,0,none⟩) (Kd.R_types (Kd.R_types HO278.out BK275.out (by decide)) BK266.out (by decide)) (fun _ hk=>hk.1.2) (.slice Ao16 y276.length co16)) (fun _ hk=>hk.2) (.slice Ao16 y276.length co16)) (fun _ hk=>hk.2) (.slice Ao11 t270.length co11)) (fun _ hk=>hk.2) (.int .i64 t273)) (fun _ hk=>trivial),by(with_reducible repeat(first|apply Kd.R_alloc|apply Kd.R_drewN|apply Kd.R_drew));exact Kd.R_mono (Kd.R_far (p:=⟨gb266,2,none⟩) (Kd.R_far (p:=⟨gb266,1,none⟩) (Kd.R_far (p:=⟨gb266,0,none⟩) (Kd.R_far (p:=⟨gb275,0,none⟩) (Kd.R_types (Kd.R_types HO272.out BK275.out (by decide)) BK266.out (by decide)) (fun _ hk=>hk.1.2) (.slice Ao16 y276.length co16)) (fun _ hk=>hk.2) (.slice Ao16 y276.length co16)) (fun _ hk=>hk.2) (.slice Ao11 t270.length co11)) (fun _ hk=>hk.2) (.int .i64 t273)) (fun _ hk=>trivial),by repeat(first|(with_reducible first|exact HB.out|apply below_alloc|apply pw_below_drewN|apply below_drew1|refine below_set ?_ GE266.out|refine below_set ?_ GE275.out)|exact HB.out)⟩
 ·replace c13:=Bool.eq_false_iff.mpr c13
  subst c13;have H1:((spec_l2Of.f k l0 (⟨#[42]⟩:BA)).bind fun bt279=>(some ((([a1]:List BA)),bt279.2.1,bt279.2.2.1)))=some (r1,r2,r3):=by rw[if_neg (show ¬(false=true) by decide)]at H;exact H
  clear H;have H:=H1;clear H1;replace H:=oE_.mp H;obtain⟨⟨t279,t282,t285,t286⟩,A200,H⟩:=H;replace H:(some ((([a1]:List BA)),t282,t285))=some (r1,r2,r3):=H;have A20:=A_ A200;clear A200;obtain⟨y287,hy287⟩:∃y_:List BA,y_=(([a1]:List BA)):=⟨_,rfl⟩;replace H:(some (y287,t282,t285))=some (r1,r2,r3):=by first|(rw[hy287];with_reducible exact H)|(have H2_:=(oB_ _ _).symm.trans H;rw[hy287];with_reducible exact H2_)|(have H2_:=(oB_ _ _).symm.trans H;with_reducible exact H2_)|with_reducible exact H|(rw[hy287];exact H)|exact H
  have Ny287:=A_ hy287;clear hy287;simp only[oI_,pI_]at H;obtain⟨rfl,rfl,rfl⟩:=H
  go_wp2_with (first|((with_reducible refine gate_callee (f:=104) rfl ?_);refine goesL_ (some 17) rfl rfl Tryz.func104 (by kernel_rfl) rfl #[.slice A0 l0.length c0,.string (⟨#[42]⟩:BA)] rfl (by(try simp only[List.map_toArray,List.map_cons,List.map_nil]);first|done|rfl|(simp only[List.length_drop,lT_];rfl)) ?_;(with_reducible refine(spec_l2Of.calls k _ _ l0 (⟨#[42]⟩:BA) t279 t282 t285 t286 _ ?side1 ?side2 A20.out).mono ?_);(case side1=>repeat(first|exact(Kd.C_below HR0.out HB.out)|(with_reducible refine Kd.C_alloc ?_ _)|(with_reducible refine Kd.C_drewN ?_ _)|(with_reducible refine Kd.C_drew ?_)));(case side2=>exact HC0.out);rintro e w21 ⟨v280,v283,rfl,ho0,ho1,hb⟩;refine⟨_,rfl,?_⟩;have n0_:=A_ (Kd.R_elder' (by(with_reducible repeat(first|apply Kd.R_alloc|apply Kd.R_drewN|apply Kd.R_drew));exact HO269.out) (Kd.R_base ho0) hb);have n1_:=A_ (Kd.R_elder' (by(with_reducible repeat(first|apply Kd.R_alloc|apply Kd.R_drewN|apply Kd.R_drew));exact HO272.out) (Kd.R_base ho1) hb);have n2_:=A_ (Kd.R_lower (Kd.R_new' ho0 (Kd.R_lt (by(with_reducible repeat(first|apply Kd.R_alloc|apply Kd.R_drewN|apply Kd.R_drew));exact HO269.out))) (below_size (by repeat(first|(with_reducible first|exact HB.out|apply below_alloc|apply pw_below_drewN|apply below_drew1|refine below_set ?_ GE266.out|refine below_set ?_ GE275.out)|exact HB.out))));have n3_:=A_ (Kd.R_lower (Kd.R_new' ho1 (Kd.R_lt (by(with_reducible repeat(first|apply Kd.R_alloc|apply Kd.R_drewN|apply Kd.R_drew));exact HO272.out))) (below_size (by repeat(first|(with_reducible first|exact HB.out|apply below_alloc|apply pw_below_drewN|apply below_drew1|refine below_set ?_ GE266.out|refine below_set ?_ GE275.out)|exact HB.out))));have n4_:=A_ (blk_below (g:=gb266) (o:=.cells #[.slice none 0 0,.slice none 0 0,.int .i64 0] 32 (0,0)) (by(with_reducible repeat(first|refine blk_drewN ?_ _|refine blk_drew ?_|refine blk_alloc ?_ _));exact BK266.out) hb);have n5_:=A_ (blk_below (g:=gb275) (o:=.cells #[.slice Ao8 t267.length co8,.slice Ao11 t270.length co11,.int .i64 t273] 32 (0,0)) (by(with_reducible repeat(first|refine blk_drewN ?_ _|refine blk_drew ?_|refine blk_alloc ?_ _));exact BK275.out) hb);have n6_:=A_ (below_step (by repeat(first|(with_reducible first|exact HB.out|apply below_alloc|apply pw_below_drewN|apply below_drew1|refine below_set ?_ GE266.out|refine below_set ?_ GE275.out)|exact HB.out)) hb);clear HO269;clear HO272;clear BK266;clear BK275;clear HB;have HO269:=n0_;have HO272:=n1_;have HO281:=n2_;have HO284:=n3_;have BK266:=n4_;have BK275:=n5_;have HB:=n6_;clear n0_ n1_ n2_ n3_ n4_ n5_ n6_;(try clear hb);(try clear hb2);(try clear hk);(try clear hi);(try clear ho0);(try clear ho1);obtain⟨Ao22,co22,eo22⟩:=Kd.R_slice HO281.out;subst eo22;have hnb23:=NB275_266.out;have hnc23:=NB266_275.out;have hcz24_0:w21.cell? ⟨gb275,0,none⟩=some (.slice Ao8 t267.length co8):=(blk_cell BK275.out 0).trans rfl;have hcz24_1:w21.cell? ⟨gb275,1,none⟩=some (.slice Ao11 t270.length co11):=(blk_cell BK275.out 1).trans rfl;have hcz24_2:w21.cell? ⟨gb275,2,none⟩=some (.int .i64 t273):=(blk_cell BK275.out 2).trans rfl;have hfz24_0:=blk_frozen BK275.out 0;have hfz24_1:=blk_frozen BK275.out 1;have hfz24_2:=blk_frozen BK275.out 2;obtain⟨Ao25,co25,eo25⟩:=Kd.R_slice HO284.out;subst eo25)|((with_reducible refine gate_dst (N:=21) rfl ?_);refine Kd.R_lit Kd.string _ 9 ?hg (N:=21) ?hd (xs:=([a1]:List BA)) (inner:=[.string a1]) (ok:=fun _=>True) (okp:=fun _=>True) ?hr ?hp (fun _ hk=>hk) trivial (Below.refl _ _) (lL_ _) (by simp) ?_;(case hd=>rfl);(case hg=>rfl);(case hr=>first|(go_simp;done)|(go_simp;rfl));(case hp=>exact(Reps.one (show Kd.M Kd.string _ _ _ a1 [.string a1]from rfl) (Reps.none _ _)));intro v288 w26 ho27 hb hg_ hnew_;clear hg_ hnew_;(first|rw[←Ny287.out]at ho27|(simp only[Int.reduceToNat]at ho27;rw[←Ny287.out]at ho27));have n0_:=A_ (Kd.R_elder' (by(with_reducible repeat(first|apply Kd.R_alloc|apply Kd.R_drewN|apply Kd.R_drew));exact(Kd.R_mono (Kd.R_far (p:=⟨gb275,2,none⟩) (Kd.R_far (p:=⟨gb275,1,none⟩) (Kd.R_far (p:=⟨gb275,0,none⟩) (Kd.R_types HO269.out BK275.out (by decide)) (fun _ hk=>hk.2) (.slice Ao22 t279.length co22)) (fun _ hk=>hk.2) (.slice Ao25 t282.length co25)) (fun _ hk=>hk.2) (.int .i64 t285)) (fun _ h_=>h_.1))) (Kd.R_base ho27) hb);have n1_:=A_ (Kd.R_below (by(with_reducible repeat(first|apply Kd.R_alloc|apply Kd.R_drewN|apply Kd.R_drew));exact(Kd.R_mono (Kd.R_far (p:=⟨gb275,2,none⟩) (Kd.R_far (p:=⟨gb275,1,none⟩) (Kd.R_far (p:=⟨gb275,0,none⟩) (Kd.R_types HO272.out BK275.out (by decide)) (fun _ hk=>hk.2) (.slice Ao22 t279.length co22)) (fun _ hk=>hk.2) (.slice Ao25 t282.length co25)) (fun _ hk=>hk.2) (.int .i64 t285)) (fun _ h_=>h_.1))) hb);have n2_:=A_ (Kd.R_elder' (by(with_reducible repeat(first|apply Kd.R_alloc|apply Kd.R_drewN|apply Kd.R_drew));exact(Kd.R_mono (Kd.R_far (p:=⟨gb275,2,none⟩) (Kd.R_far (p:=⟨gb275,1,none⟩) (Kd.R_far (p:=⟨gb275,0,none⟩) (Kd.R_types HO281.out BK275.out (by decide)) (fun _ hk=>hk.2) (.slice Ao22 t279.length co22)) (fun _ hk=>hk.2) (.slice Ao25 t282.length co25)) (fun _ hk=>hk.2) (.int .i64 t285)) (fun _ h_=>h_.1))) (Kd.R_base ho27) hb);have n3_:=A_ (Kd.R_below (by(with_reducible repeat(first|apply Kd.R_alloc|apply Kd.R_drewN|apply Kd.R_drew));exact(Kd.R_mono (Kd.R_far (p:=⟨gb275,2,none⟩) (Kd.R_far (p:=⟨gb275,1,none⟩) (Kd.R_far (p:=⟨gb275,0,none⟩) (Kd.R_types HO284.out BK275.out (by decide)) (fun _ hk=>hk.2) (.slice Ao22 t279.length co22)) (fun _ hk=>hk.2) (.slice Ao25 t282.length co25)) (fun _ hk=>hk.2) (.int .i64 t285)) (fun _ h_=>h_.1))) hb);have n4_:=A_ (Kd.R_lower (Kd.R_new' (Kd.R_new' ho27 (Kd.R_lt (by(with_reducible repeat(first|apply Kd.R_alloc|apply Kd.R_drewN|apply Kd.R_drew));exact(Kd.R_mono (Kd.R_far (p:=⟨gb275,2,none⟩) (Kd.R_far (p:=⟨gb275,1,none⟩) (Kd.R_far (p:=⟨gb275,0,none⟩) (Kd.R_types HO269.out BK275.out (by decide)) (fun _ hk=>hk.2) (.slice Ao22 t279.length co22)) (fun _ hk=>hk.2) (.slice Ao25 t282.length co25)) (fun _ hk=>hk.2) (.int .i64 t285)) (fun _ h_=>h_.1))))) (Kd.R_lt (by(with_reducible repeat(first|apply Kd.R_alloc|apply Kd.R_drewN|apply Kd.R_drew));exact(Kd.R_mono (Kd.R_far (p:=⟨gb275,2,none⟩) (Kd.R_far (p:=⟨gb275,1,none⟩) (Kd.R_far (p:=⟨gb275,0,none⟩) (Kd.R_types HO281.out BK275.out (by decide)) (fun _ hk=>hk.2) (.slice Ao22 t279.length co22)) (fun _ hk=>hk.2) (.slice Ao25 t282.length co25)) (fun _ hk=>hk.2) (.int .i64 t285)) (fun _ h_=>h_.1))))) (below_size (by repeat(first|(with_reducible first|exact HB.out|apply below_alloc|apply pw_below_drewN|apply below_drew1|refine below_set ?_ GE266.out|refine below_set ?_ GE275.out)|exact HB.out))));have n5_:=A_ (blk_below (g:=gb266) (o:=.cells #[.slice none 0 0,.slice none 0 0,.int .i64 0] 32 (0,0)) (by(with_reducible repeat(first|refine blk_drewN ?_ _|refine blk_drew ?_|refine blk_alloc ?_ _));refine blk_far ?_ NB266_275.out _;(with_reducible repeat(first|refine blk_drewN ?_ _|refine blk_drew ?_|refine blk_alloc ?_ _));refine blk_far ?_ NB266_275.out _;(with_reducible repeat(first|refine blk_drewN ?_ _|refine blk_drew ?_|refine blk_alloc ?_ _));refine blk_far ?_ NB266_275.out _;(with_reducible repeat(first|refine blk_drewN ?_ _|refine blk_drew ?_|refine blk_alloc ?_ _));exact BK266.out) hb);have n6_:=A_ (blk_below (g:=gb275) (o:=.cells #[.slice Ao22 t279.length co22,.slice Ao25 t282.length co25,.int .i64 t285] 32 (0,0)) (by(with_reducible repeat(first|refine blk_drewN ?_ _|refine blk_drew ?_|refine blk_alloc ?_ _));refine blk_put (cs:=#[.slice Ao22 t279.length co22,.slice Ao25 t282.length co25,.int .i64 t273]) ?_ 2 _ rfl;(with_reducible repeat(first|refine blk_drewN ?_ _|refine blk_drew ?_|refine blk_alloc ?_ _));refine blk_put (cs:=#[.slice Ao22 t279.length co22,.slice Ao11 t270.length co11,.int .i64 t273]) ?_ 1 _ rfl;(with_reducible repeat(first|refine blk_drewN ?_ _|refine blk_drew ?_|refine blk_alloc ?_ _));refine blk_put (cs:=#[.slice Ao8 t267.length co8,.slice Ao11 t270.length co11,.int .i64 t273]) ?_ 0 _ rfl;(with_reducible repeat(first|refine blk_drewN ?_ _|refine blk_drew ?_|refine blk_alloc ?_ _));exact BK275.out) hb);have n7_:=A_ (below_step (by repeat(first|(with_reducible first|exact HB.out|apply below_alloc|apply pw_below_drewN|apply below_drew1|refine below_set ?_ GE266.out|refine below_set ?_ GE275.out)|exact HB.out)) hb);clear HO269;clear HO272;clear HO281;clear HO284;clear BK266;clear BK275;clear HB;have HO269:=n0_;have HO272:=n1_;have HO281:=n2_;have HO284:=n3_;have HO289:=n4_;have BK266:=n5_;have BK275:=n6_;have HB:=n7_;clear n0_ n1_ n2_ n3_ n4_ n5_ n6_ n7_;clear hb ho27;obtain⟨Ao28,co28,eo28⟩:=Kd.R_slice HO289.out;subst eo28;have hcz29_0:w26.cell? ⟨gb275,0,none⟩=some (.slice Ao22 t279.length co22):=(blk_cell BK275.out 0).trans rfl;have hcz29_1:w26.cell? ⟨gb275,1,none⟩=some (.slice Ao25 t282.length co25):=(blk_cell BK275.out 1).trans rfl;have hcz29_2:w26.cell? ⟨gb275,2,none⟩=some (.int .i64 t285):=(blk_cell BK275.out 2).trans rfl;have hfz29_0:=blk_frozen BK275.out 0;have hfz29_1:=blk_frozen BK275.out 1;have hfz29_2:=blk_frozen BK275.out 2;have hcz30_0:w26.cell? ⟨gb266,0,none⟩=some (.slice none 0 0):=(blk_cell BK266.out 0).trans rfl;have hcz30_1:w26.cell? ⟨gb266,1,none⟩=some (.slice none 0 0):=(blk_cell BK266.out 1).trans rfl;have hcz30_2:w26.cell? ⟨gb266,2,none⟩=some (.int .i64 0):=(blk_cell BK266.out 2).trans rfl;have hfz30_0:=blk_frozen BK266.out 0;have hfz30_1:=blk_frozen BK266.out 1;have hfz30_2:=blk_frozen BK266.out 2))
  refine bodyPost_ret (results_cell_row rfl _ _ gb266 32 #[.slice Ao28 y287.length co28,.slice Ao25 t282.length co25,.int .i64 t285] (0,0) _ rfl (by(with_reducible repeat(first|refine blk_drewN ?_ _|refine blk_drew ?_|refine blk_alloc ?_ _));refine blk_put (cs:=#[.slice Ao28 y287.length co28,.slice Ao25 t282.length co25,.int .i64 0]) ?_ 2 _ rfl;(with_reducible repeat(first|refine blk_drewN ?_ _|refine blk_drew ?_|refine blk_alloc ?_ _));refine blk_put (cs:=#[.slice Ao28 y287.length co28,.slice none 0 0,.int .i64 0]) ?_ 1 _ rfl;(with_reducible repeat(first|refine blk_drewN ?_ _|refine blk_drew ?_|refine blk_alloc ?_ _));refine blk_put (cs:=#[.slice none 0 0,.slice none 0 0,.int .i64 0]) ?_ 0 _ rfl;(with_reducible repeat(first|refine blk_drewN ?_ _|refine blk_drew ?_|refine blk_alloc ?_ _));refine blk_far ?_ NB266_275.out _;(with_reducible repeat(first|refine blk_drewN ?_ _|refine blk_drew ?_|refine blk_alloc ?_ _));exact BK266.out) Tryz.underlying32 rfl (by kernel_rfl)) rfl ?_;exact⟨_,_,by first|rfl|(simp[errW_none,errW_some] <;> rfl)|(simp[*,errW_none,errW_some] <;> rfl),by(with_reducible repeat(first|apply Kd.R_alloc|apply Kd.R_drewN|apply Kd.R_drew));exact Kd.R_mono (Kd.R_far (p:=⟨gb266,2,none⟩) (Kd.R_far (p:=⟨gb266,1,none⟩) (Kd.R_far (p:=⟨gb266,0,none⟩) (Kd.R_far (p:=⟨gb275,0,none⟩) (Kd.R_types (Kd.R_types HO289.out BK275.out (by decide)) BK266.out (by decide)) (fun _ hk=>hk.1.2) (.slice Ao28 y287.length co28)) (fun _ hk=>hk.2) (.slice Ao28 y287.length co28)) (fun _ hk=>hk.2) (.slice Ao25 t282.length co25)) (fun _ hk=>hk.2) (.int .i64 t285)) (fun _ hk=>trivial),by(with_reducible repeat(first|apply Kd.R_alloc|apply Kd.R_drewN|apply Kd.R_drew));exact Kd.R_mono (Kd.R_far (p:=⟨gb266,2,none⟩) (Kd.R_far (p:=⟨gb266,1,none⟩) (Kd.R_far (p:=⟨gb266,0,none⟩) (Kd.R_far (p:=⟨gb275,0,none⟩) (Kd.R_types (Kd.R_types HO284.out BK275.out (by decide)) BK266.out (by decide)) (fun _ hk=>hk.1.2) (.slice Ao28 y287.length co28)) (fun _ hk=>hk.2) (.slice Ao28 y287.length co28)) (fun _ hk=>hk.2) (.slice Ao25 t282.length co25)) (fun _ hk=>hk.2) (.int .i64 t285)) (fun _ hk=>trivial),by repeat(first|(with_reducible first|exact HB.out|apply below_alloc|apply pw_below_drewN|apply below_drew1|refine below_set ?_ GE266.out|refine below_set ?_ GE275.out)|exact HB.out)⟩
end Go.Proofs.YtloijngehifbmaaGreatDoor.P
end
section
namespace Go.Proofs.YtloijngehifbmaaGreatDoor.P
open Go.RowKit Go.Proofs.YtloijngehifbmaaGreatDoorW PrintWords PrintLast PrintMore
attribute [local go_sem] max2_int min2_int max_two min_two max_three min_three max_four min_four
set_option maxHeartbeats 8000000
set_option maxRecDepth 100000
def slices_Contains_bool_bool.f (k:Nat)(l0:List Bool)(a1:Bool):Option (Bool):=(slices_Index_bool_bool.f k l0 a1).bind fun t399=>(some (decide (t399≥0)))
theorem slices_Contains_bool_bool.calls (k:Nat)(A0:Option Addr)(c0:Nat)(l0:List Bool)(a1:Bool)(r:Bool)(w:World)(hr0:Kd.C Kd.bool w A0 l0.length l0)(hc0:l0.length≤c0)(h:slices_Contains_bool_bool.f k l0 a1=some r):
  Calls Tryz.prog 90 #[.slice A0 l0.length c0,.bool a1] w fun e w'=>e=.returned (.bool r)∧Drawn0 w w':=by
 have HR0:=A_ hr0;have HC0:=A_ hc0;clear hr0 hc0;unfold slices_Contains_bool_bool.f at h;have H:=h;clear h;replace H:=bindA H;obtain⟨t399,A3,H⟩:=H;obtain rfl:=sI H;go_enter Tryz.func90,Tryz.ntmps90;go_wp2_with (first|(refine gR 118 (some 7) Tryz.func118 (slices_Index_bool_bool.calls k _ _ l0 a1 t399 _ ?side1 ?side2 A3.out) ?_;(case side1=>exact(zz84 HR0));(case side2=>exact HC0.out);rintro w' ⟨nd,rfl⟩));go_ret;exact⟨zz0,zz1⟩
def impl_isName.f (k:Nat)(a0:BA):Option (Bool):=if(a0.size:Int)≥1 then(if(a0.size:Int)≤8 then((impl_allSmallLetters.f k a0).bind fun t424=>(some t424))else(some false))else(some false)
theorem impl_isName.calls (k:Nat)(a0:BA)(r:Bool)(w:World)(h:impl_isName.f k a0=some r):
  Calls Tryz.prog 30 #[.string a0] w fun e w'=>e=.returned (.bool r)∧Drawn0 w w':=by
 unfold impl_isName.f at h;have H:=h;clear h;replace H:=iteE H;rcases H with⟨c2,H⟩|⟨c2,H⟩
 ·have c2b0:=geT c2
  have c2b1:decide (1≤a0.size)=true:=dT (by omega);clear c2;replace H:=iteE H;rcases H with⟨c3,H⟩|⟨c3,H⟩
  ·have c3b0:=dT c3
   have c3b1:decide (a0.size≤8)=true:=dT (by omega);clear c3;replace H:=bindA H;obtain⟨t424,A4,H⟩:=H;obtain rfl:=sI H;go_enter Tryz.func30,Tryz.ntmps30;go_wp2_with (first|(go_at_call 69;(with_reducible refine(impl_allSmallLetters.calls k a0 t424 _ A4.out).mono ?_);rintro e w' ⟨rfl,⟨nd,rfl⟩⟩));go_ret;exact⟨zz0,zz1⟩
  ·have c3b0:=dF c3
   have c3b1:decide (a0.size≤8)=false:=dF (by omega);clear c3;obtain rfl:=sI H;go_enter Tryz.func30,Tryz.ntmps30;go_wp2;go_ret;exact⟨zz0,zz1⟩
 ·have c2b0:=geF c2
  have c2b1:decide (1≤a0.size)=false:=dF (by omega);clear c2;obtain rfl:=sI H;go_enter Tryz.func30,Tryz.ntmps30;go_wp2;go_ret;exact⟨zz0,zz1⟩
def impl_isGroupName.f (k:Nat)(a0:BA):Option (Bool):=if a0.toList=([42]:List UInt8)then(some true)else((impl_isName.f k a0).bind fun t578=>(some t578))
theorem impl_isGroupName.calls (k:Nat)(a0:BA)(r:Bool)(w:World)(h:impl_isGroupName.f k a0=some r):
  Calls Tryz.prog 86 #[.string a0] w fun e w'=>e=.returned (.bool r)∧Drawn0 w w':=by
 unfold impl_isGroupName.f at h;have H:=h;clear h;replace H:=iteEq H;rcases H with⟨c2b0,c2b1,H⟩|⟨c2b0,c2b1,c2,H⟩
 ·obtain rfl:=sI H
  go_enter Tryz.func86,Tryz.ntmps86;go_wp2
  go_ret;exact⟨zz0,zz1⟩
 ·replace H:=bindA H
  obtain⟨t578,A3,H⟩:=H;obtain rfl:=sI H;go_enter Tryz.func86,Tryz.ntmps86;go_wp2_with (first|(go_at_call 30;(with_reducible refine(impl_isName.calls k a0 t578 _ A3.out).mono ?_);rintro e w' ⟨rfl,⟨nd,rfl⟩⟩));go_ret;exact⟨zz0,zz1⟩
def impl_isHouse.f (k:Nat)(a0:BA):Option (Bool):=if(a0.size:Int)≥1 then(if(a0.size:Int)≤5 then((impl_allSmallLetters.f k a0).bind fun t453=>(some t453))else(some false))else(some false)
theorem impl_isHouse.mono:∀a0 k,LeO (impl_isHouse.f k a0) (impl_isHouse.f (k+1) a0):=by
 intro a0 k;unfold impl_isHouse.f
 repeat' first|(with_reducible first|exact impl_allSmallLetters.mono _ _|exact LeO.refl _|exact LeO.none _|refine LeO.ite ?_ ?_|refine LeO.bind ?_ (fun _=>?_))|exact LeO.none _|refine LeO.ite ?_ ?_|refine LeO.bind ?_ (fun _=>?_)
theorem impl_isHouse.calls (k:Nat)(a0:BA)(r:Bool)(w:World)(h:impl_isHouse.f k a0=some r):
  Calls Tryz.prog 38 #[.string a0] w fun e w'=>e=.returned (.bool r)∧Drawn0 w w':=by
 unfold impl_isHouse.f at h;have H:=h;clear h;replace H:=iteE H;rcases H with⟨c2,H⟩|⟨c2,H⟩
 ·have c2b0:=geT c2
  have c2b1:decide (1≤a0.size)=true:=dT (by omega);clear c2;replace H:=iteE H;rcases H with⟨c3,H⟩|⟨c3,H⟩
  ·have c3b0:=dT c3
   have c3b1:decide (a0.size≤5)=true:=dT (by omega);clear c3;replace H:=bindA H;obtain⟨t453,A4,H⟩:=H;obtain rfl:=sI H;go_enter Tryz.func38,Tryz.ntmps38;go_wp2_with (first|(go_at_call 69;(with_reducible refine(impl_allSmallLetters.calls k a0 t453 _ A4.out).mono ?_);rintro e w' ⟨rfl,⟨nd,rfl⟩⟩));go_ret;exact⟨zz0,zz1⟩
  ·have c3b0:=dF c3
   have c3b1:decide (a0.size≤5)=false:=dF (by omega);clear c3;obtain rfl:=sI H;go_enter Tryz.func38,Tryz.ntmps38;go_wp2;go_ret;exact⟨zz0,zz1⟩
 ·have c2b0:=geF c2
  have c2b1:decide (1≤a0.size)=false:=dF (by omega);clear c2;obtain rfl:=sI H;go_enter Tryz.func38,Tryz.ntmps38;go_wp2;go_ret;exact⟨zz0,zz1⟩
def spec_l1House.l0:Nat→BA→Int→Option (Bool)
 |0,_,_=>none
 |k+1,x0,x3=>if x3<(x0.size:Int)then(if 0≤x3 then(if(bt x0 x3)<97 then(some false)else(if(bt x0 x3)>122 then(some false)else(spec_l1House.l0 k x0 (wrap64 (x3+1)))))else(none))else((spec_l6In.f (x0.size:Int) 1 5).bind fun t135=>(some t135))
def spec_l1House.f (k:Nat)(a0:BA):Option (Bool):=spec_l1House.l0 k a0 0
theorem spec_l1House.mono_l:∀k,(∀y0 y1,LeO (spec_l1House.l0 k y0 y1) (spec_l1House.l0 (k+1) y0 y1))
 |0=>by intros;intro r h;simp[spec_l1House.l0]at h
 |k+1=>by
  have ih0:=spec_l1House.mono_l k;intros;unfold spec_l1House.l0;repeat' first|(with_reducible first|exact ih0 _ _|exact LeO.refl _|exact LeO.none _|refine LeO.ite ?_ ?_|refine LeO.bind ?_ (fun _=>?_))|exact LeO.none _|refine LeO.ite ?_ ?_|refine LeO.bind ?_ (fun _=>?_)
theorem spec_l1House.mono:∀a0 k,LeO (spec_l1House.f k a0) (spec_l1House.f (k+1) a0):=by
 intro a0 k;have ih0:=spec_l1House.mono_l k;unfold spec_l1House.f
 repeat' first|(with_reducible first|exact ih0 _ _|exact LeO.refl _|exact LeO.none _|refine LeO.ite ?_ ?_|refine LeO.bind ?_ (fun _=>?_))|exact LeO.none _|refine LeO.ite ?_ ?_|refine LeO.bind ?_ (fun _=>?_)
theorem spec_l1House.calls (k:Nat)(a0:BA)(r:Bool)(w:World)(h:spec_l1House.f k a0=some r):
  Calls Tryz.prog 34 #[.string a0] w fun e w'=>e=.returned (.bool r)∧Drawn0 w w':=by
 unfold spec_l1House.f at h;have H:=h;clear h;have H':=A_ H;clear H;go_enter Tryz.func34,Tryz.ntmps34;go_wp2
 go_loopg [3] k (fun kq v3 w'=>∃(x3_1:Int),v3=.int .i64 x3_1∧Aside0 (spec_l1House.l0 kq a0 x3_1=some r)∧Aside0 (kq≤k)∧Drawn0 w w')
 case atStart=>exact⟨(0),zz0,H',⟨lL_ _⟩,zz1⟩
 case round=>
  clear H';obtain⟨x3_1,rfl,HA,HK1,⟨m1,rfl⟩⟩:=hrel;cases gk with
  |zero=>exact absurd HA.out (by simp[spec_l1House.l0])
  |succ k1=>
   obtain⟨H⟩:=HA;simp only[spec_l1House.l0]at H;replace H:=iteEd H;rcases H with⟨c2b0,H⟩|⟨c2b0,H⟩
   ·replace H:=iteNd H
    obtain⟨c3b0,H⟩:=H;replace H:=iteEd H;rcases H with⟨c5b0,H⟩|⟨c5b0,H⟩
    ·obtain rfl:=sI H
     have p4:0≤(x3_1:Int):=ofD;have q4:x3_1<(a0.size:Int):=ofD;have hx4:=bt_at a0 x3_1;replace p4:=eq_true p4;replace q4:=eq_true q4;go_wp2;go_ret;exact⟨zz0,zz1⟩
    ·replace H:=iteEg H
     rcases H with⟨c7b0,H⟩|⟨c7b0,H⟩
     ·obtain rfl:=sI H
      have p4:0≤(x3_1:Int):=ofD;have q4:x3_1<(a0.size:Int):=ofD;have hx4:=bt_at a0 x3_1;replace p4:=eq_true p4;replace q4:=eq_true q4;have p6:0≤(x3_1:Int):=ofD;have q6:x3_1<(a0.size:Int):=ofD;have hx6:=bt_at a0 x3_1;replace p6:=eq_true p6;replace q6:=eq_true q6;go_wp2;go_ret;exact⟨zz0,zz1⟩
     ·have H':=A_ H
      clear H;have p4:0≤(x3_1:Int):=ofD;have q4:x3_1<(a0.size:Int):=ofD;have hx4:=bt_at a0 x3_1;replace p4:=eq_true p4;replace q4:=eq_true q4;have p6:0≤(x3_1:Int):=ofD;have q6:x3_1<(a0.size:Int):=ofD;have hx6:=bt_at a0 x3_1;replace p6:=eq_true p6;replace q6:=eq_true q6;go_wp2
      go_roundg k1
      case measure=>have:=HK1.out;omega
      case rel=>exact⟨(wrap64 (x3_1+1)),zz0,H',⟨(zz4 HK1)⟩,zz1⟩
   ·replace H:=bindA H
    obtain⟨t135,A8,H⟩:=H;obtain rfl:=sI H;go_wp2_with (first|(refine gR 65 (some 22) Tryz.func65 (spec_l6In.calls (a0.size:Int) 1 5 t135 _ A8.out) ?_;rintro w' ⟨nd,rfl⟩));go_ret;exact⟨zz0,zz1⟩
mutual
def spec_EscNorm.l0:Nat→BA→BA→Int→Option (BA×Bool)
 |0,_,_,_=>none
 |k+1,x0,x4,x5=>if x5<(x0.size:Int)then(if 0≤x5 then(if(bt x0 x5)=37 then(if(wrap64 (x5+2))≥(x0.size:Int)then(spec_EscNorm.j1 k x0 x4 x5 true)else(if 0≤(wrap64 (x5+1))then(if(wrap64 (x5+1))<(x0.size:Int)then((spec_l1Hex.f k (bt x0 (wrap64 (x5+1)))).bind fun t113=>(if t113<0 then(spec_EscNorm.j1 k x0 x4 x5 true)else(if 0≤(wrap64 (x5+2))then(if(wrap64 (x5+2))<(x0.size:Int)then((spec_l1Hex.f k (bt x0 (wrap64 (x5+2)))).bind fun t114=>(spec_EscNorm.j1 k x0 x4 x5 (decide (t114<0))))else(none))else(none))))else(none))else(none)))else(spec_EscNorm.j2 k x0 x4 x5 (wrap64 (bt x0 x5))))else(none))else(some (x4,true))
def spec_EscNorm.j2:Nat→BA→BA→Int→Int→Option (BA×Bool)
 |0,_,_,_,_=>none
 |k+1,x0,x4,x5,x6=>(spec_l1Plain.f ((x6)%256)).bind fun t117=>(if t117=true then((some (([(x6)%256]:List Int):List Int)).bind fun y118=>(if x4.size+(strOfNums y118).size≤9223372036854775807 then(spec_EscNorm.l0 k x0 (x4++(strOfNums y118)) (wrap64 (x5+1)))else(none)))else((spec_l1Sign.f x6).bind fun t121=>(if x4.size+t121.size≤9223372036854775807 then(spec_EscNorm.l0 k x0 (x4++t121) (wrap64 (x5+1)))else(none))))
def spec_EscNorm.j1:Nat→BA→BA→Int→Bool→Option (BA×Bool)
 |0,_,_,_,_=>none
 |k+1,x0,x4,x5,x44=>if x44=true then(some ((⟨#[]⟩:BA),false))else(if 0≤(wrap64 (x5+1))then(if(wrap64 (x5+1))<(x0.size:Int)then((spec_l1Hex.f k (bt x0 (wrap64 (x5+1)))).bind fun t115=>(if 0≤(wrap64 (x5+2))then(if(wrap64 (x5+2))<(x0.size:Int)then((spec_l1Hex.f k (bt x0 (wrap64 (x5+2)))).bind fun t116=>(spec_EscNorm.j2 k x0 x4 (wrap64 (x5+2)) (wrap64 ((wrap64 (t115*16))+t116))))else(none))else(none)))else(none))else(none))
end
def spec_EscNorm.f (k:Nat)(a0:BA):Option (BA×Bool):=if(a0.size:Int)>60 then(some ((⟨#[]⟩:BA),false))else(spec_EscNorm.l0 k a0 (⟨#[]⟩:BA) 0)
theorem spec_EscNorm.mono_l:∀k,(∀y0 y1 y2,LeO (spec_EscNorm.l0 k y0 y1 y2) (spec_EscNorm.l0 (k+1) y0 y1 y2))∧(∀y0 y1 y2 y3,LeO (spec_EscNorm.j2 k y0 y1 y2 y3) (spec_EscNorm.j2 (k+1) y0 y1 y2 y3))∧(∀y0 y1 y2 y3,LeO (spec_EscNorm.j1 k y0 y1 y2 y3) (spec_EscNorm.j1 (k+1) y0 y1 y2 y3))
 |0=>by refine⟨?_,?_,?_⟩ <;> (intros;intro r h;simp[spec_EscNorm.l0,spec_EscNorm.j2,spec_EscNorm.j1]at h)
 |k+1=>by
  obtain⟨ih0,ih1,ih2⟩:=spec_EscNorm.mono_l k;refine⟨?_,?_,?_⟩ <;> intros <;> (first|unfold spec_EscNorm.l0|unfold spec_EscNorm.j2|unfold spec_EscNorm.j1) <;>
  repeat' first|(with_reducible first|exact ih0 _ _ _|exact ih1 _ _ _ _|exact ih2 _ _ _ _|exact spec_l1Hex.mono _ _|exact LeO.refl _|exact LeO.none _|refine LeO.ite ?_ ?_|refine LeO.bind ?_ (fun _=>?_))|exact LeO.none _|refine LeO.ite ?_ ?_|refine LeO.bind ?_ (fun _=>?_)
theorem spec_EscNorm.mono:∀a0 k,LeO (spec_EscNorm.f k a0) (spec_EscNorm.f (k+1) a0):=by
 intro a0 k;obtain⟨ih0,ih1,ih2⟩:=spec_EscNorm.mono_l k;unfold spec_EscNorm.f
 repeat' first|(with_reducible first|exact ih0 _ _ _|exact ih1 _ _ _ _|exact ih2 _ _ _ _|exact spec_l1Hex.mono _ _|exact LeO.refl _|exact LeO.none _|refine LeO.ite ?_ ?_|refine LeO.bind ?_ (fun _=>?_))|exact LeO.none _|refine LeO.ite ?_ ?_|refine LeO.bind ?_ (fun _=>?_)
theorem spec_EscNorm.calls (k:Nat)(a0:BA)(r1:BA)(r2:Bool)(w:World)(h:spec_EscNorm.f k a0=some (r1,r2)):
  Calls Tryz.prog 119 #[.string a0] w fun e w'=>e=.returned (.tuple #[.string r1,.bool r2])∧Below w.heap.size w w':=by
 have HB:=A_ (Below.refl w.heap.size w);unfold spec_EscNorm.f at h;have H:=h;clear h;replace H:=iteE H;rcases H with⟨c2,H⟩|⟨c2,H⟩
 ·have c2b0:=gtT c2
  have c2b1:decide (60<a0.size)=true:=dT (by omega);clear c2;simp only[oI_,pI_]at H;obtain⟨rfl,rfl⟩:=H;go_enter Tryz.func119,Tryz.ntmps119;go_wp2
  repeat(go_quiet (fail);try go_wp2)
  go_ret2
  exact⟨zz9,(zz6 HB)⟩
 ·have c2b0:=gtF c2
  have c2b1:decide (60<a0.size)=false:=dF (by omega);clear c2;have H':=A_ H;clear H;go_enter Tryz.func119,Tryz.ntmps119;go_wp2
  repeat(go_quiet (fail);try go_wp2)
  go_loopg [4,5] k (fun kq v4 v5 w'=>∃(x4_1:BA)(x5_1:Int),v4=.string x4_1∧v5=.int .i64 x5_1∧Aside0 (spec_EscNorm.l0 kq a0 x4_1 x5_1=some (r1,r2))∧Aside0 (kq≤k)∧Aside0 (Below w.heap.size w w'))
  case atStart=>exact⟨((⟨#[]⟩:BA)),(0),zz0,zz0,H',⟨lL_ _⟩,⟨(zz6 HB)⟩⟩
  case round=>
   clear H';obtain⟨x4_1,x5_1,rfl,rfl,HA,HK1,HB⟩:=hrel;cases gk with
   |zero=>exact absurd HA.out (by simp[spec_EscNorm.l0])
   |succ k1=>
    obtain⟨H⟩:=HA;simp only[spec_EscNorm.l0]at H;replace H:=iteEd H;rcases H with⟨c3b0,H⟩|⟨c3b0,H⟩
    ·replace H:=iteNd H
     obtain⟨c4b0,H⟩:=H;have HC7:=A_ H;clear H;have p5:0≤(x5_1:Int):=ofD;have q5:x5_1<(a0.size:Int):=ofD;have hx5:=bt_at a0 x5_1;replace p5:=eq_true p5;replace q5:=eq_true q5;have p6:0≤(x5_1:Int):=ofD;have q6:x5_1<(a0.size:Int):=ofD;have hx6:=bt_at a0 x5_1;replace p6:=eq_true p6;replace q6:=eq_true q6;go_upto_if 23 with(fail)
     repeat(go_quiet (fail);go_upto_if 23 with(fail))
     go_cut [5,6] (fun v5 v6 wc=>∃(kq:Nat)(x5_6:Int)(x6_6:Int),v5=.int .i64 x5_6∧v6=.int .i64 x6_6∧Aside0 (spec_EscNorm.j2 kq a0 x4_1 x5_6 x6_6=some (r1,r2))∧Aside0 (kq≤k1)∧Aside0 (Below w.heap.size w wc))
     case first=>
      obtain⟨H⟩:=HC7;replace H:=iteEq H;rcases H with⟨c8b0,c8b1,H⟩|⟨c8b0,c8b1,c8,H⟩
      ·(first|rw[c8b0]|(simp only[i64_w,i32_w];rw[c8b0])|skip)
       have HC9:=A_ H;clear H;go_upto_region 9 with(fail)
       repeat(go_quiet (fail);go_upto_region 9 with(fail))
       go_cut [44] (fun v44 wc=>∃(kq:Nat)(x44_8:Bool),v44=.bool x44_8∧Aside0 (spec_EscNorm.j1 kq a0 x4_1 x5_1 x44_8=some (r1,r2))∧Aside0 (kq≤k1)∧Aside0 (Below w.heap.size w wc))
       case first=>
        obtain⟨H⟩:=HC9;replace H:=iteEe H;rcases H with⟨c10b0,H⟩|⟨c10b0,H⟩
        ·(first|rw[c10b0]|(simp only[i64_w,i32_w];rw[c10b0])|skip)
         have H':=A_ H;clear H;go_wp2
         repeat(go_quiet (fail);try go_wp2)
         go_meet
         case rel=>exact⟨_,(true),zz0,H',⟨(zz12 HK1)⟩,⟨(zz6 HB)⟩⟩
        ·(first|rw[c10b0]|(simp only[i64_w,i32_w];rw[c10b0])|skip)
         obtain⟨ji11,hji11⟩:∃j_:Int,(wrap64 (x5_1+1))=j_:=⟨_,rfl⟩;(first|rw[hji11]at H|simp only[hji11]at H);have hji11w:(IntKind.i64.wrap (x5_1+1))=ji11:=(i64_w _).trans hji11;replace H:=iteNd H;obtain⟨c12b0,H⟩:=H;replace H:=iteNd H;obtain⟨c13b0,H⟩:=H;replace H:=bindA H;obtain⟨t113,A15,H⟩:=H;have HF16:=A_ H;clear H;have p14:0≤((ji11):Int):=ofD;have q14:(ji11)<(a0.size:Int):=ofD;have hx14:=bt_at a0 (ji11);replace p14:=eq_true p14;replace q14:=eq_true q14;go_wp2_with (first|(go_at_call 148;(with_reducible refine(spec_l1Hex.calls k1 (bt a0 (ji11)) t113 _ A15.out).mono ?_);rintro e w' ⟨rfl,⟨nd,rfl⟩⟩;(try first|exact⟨rfl,_,dN_ _ _ _⟩|exact⟨rfl,_,Eq.trans (dN_ _ _ _) (congrArg (World.drewN _) (Nat.add_assoc _ _ _))⟩))|((with_reducible refine atG ?_ ?_ fun K_ hK_=>?_);rfl;exact undecG)|((with_reducible refine atI ?_ fun K_ hK_=>?_);exact undecI))
         repeat(go_quiet (first|(go_at_call 148;(with_reducible refine(spec_l1Hex.calls k1 (bt a0 (ji11)) t113 _ A15.out).mono ?_);rintro e w' ⟨rfl,⟨nd,rfl⟩⟩;(try first|exact⟨rfl,_,dN_ _ _ _⟩|exact⟨rfl,_,Eq.trans (dN_ _ _ _) (congrArg (World.drewN _) (Nat.add_assoc _ _ _))⟩))|((with_reducible refine atG ?_ ?_ fun K_ hK_=>?_);rfl;exact undecG)|((with_reducible refine atI ?_ fun K_ hK_=>?_);exact undecI));go_wp2_with (first|(go_at_call 148;(with_reducible refine(spec_l1Hex.calls k1 (bt a0 (ji11)) t113 _ A15.out).mono ?_);rintro e w' ⟨rfl,⟨nd,rfl⟩⟩;(try first|exact⟨rfl,_,dN_ _ _ _⟩|exact⟨rfl,_,Eq.trans (dN_ _ _ _) (congrArg (World.drewN _) (Nat.add_assoc _ _ _))⟩))|((with_reducible refine atG ?_ ?_ fun K_ hK_=>?_);rfl;exact undecG)|((with_reducible refine atI ?_ fun K_ hK_=>?_);exact undecI)))
         refine unG hK_ ?_;clear hK_ K_;obtain⟨H⟩:=HF16;replace H:=iteE H;rcases H with⟨c17,H⟩|⟨c17,H⟩
         ·have c17b0:=dT c17
          (first|refine iteT ?_|refine iteF ?_|skip)
          clear c17;(first|rw[c17b0]|(simp only[i64_w,i32_w];rw[c17b0])|skip);have H':=A_ H;clear H;(try((with_reducible refine upS ?_);go_simp));go_wp2
          repeat(go_quiet (fail);try go_wp2)
          go_meet
          case rel=>exact⟨_,(true),zz0,H',⟨(zz12 HK1)⟩,⟨(zz6 HB)⟩⟩
         ·have c17b0:=dF c17
          (first|refine iteT ?_|refine iteF ?_|skip)
          clear c17;(first|rw[c17b0]|(simp only[i64_w,i32_w];rw[c17b0])|skip);obtain⟨ji18,hji18⟩:∃j_:Int,(wrap64 (x5_1+2))=j_:=⟨_,rfl⟩;(first|rw[hji18]at H|simp only[hji18]at H)
          (try rw[hji18]at c10b0)
          have hji18w:(IntKind.i64.wrap (x5_1+2))=ji18:=(i64_w _).trans hji18;replace H:=iteNd H;obtain⟨c19b0,H⟩:=H;replace H:=iteNd H;obtain⟨c20b0,H⟩:=H;replace H:=bindA H;obtain⟨t114,A22,H⟩:=H;have H':=A_ H;clear H;have p21:0≤((ji18):Int):=ofD;have q21:(ji18)<(a0.size:Int):=ofD;have hx21:=bt_at a0 (ji18);replace p21:=eq_true p21;replace q21:=eq_true q21;go_wp2_with (first|(go_at_call 148;(with_reducible refine(spec_l1Hex.calls k1 (bt a0 (ji18)) t114 _ A22.out).mono ?_);rintro e w' ⟨rfl,⟨nd,rfl⟩⟩;(try first|exact⟨rfl,_,dN_ _ _ _⟩|exact⟨rfl,_,Eq.trans (dN_ _ _ _) (congrArg (World.drewN _) (Nat.add_assoc _ _ _))⟩)))
          repeat(go_quiet (first|(go_at_call 148;(with_reducible refine(spec_l1Hex.calls k1 (bt a0 (ji18)) t114 _ A22.out).mono ?_);rintro e w' ⟨rfl,⟨nd,rfl⟩⟩;(try first|exact⟨rfl,_,dN_ _ _ _⟩|exact⟨rfl,_,Eq.trans (dN_ _ _ _) (congrArg (World.drewN _) (Nat.add_assoc _ _ _))⟩)));try go_wp2_with (first|(go_at_call 148;(with_reducible refine(spec_l1Hex.calls k1 (bt a0 (ji18)) t114 _ A22.out).mono ?_);rintro e w' ⟨rfl,⟨nd,rfl⟩⟩;(try first|exact⟨rfl,_,dN_ _ _ _⟩|exact⟨rfl,_,Eq.trans (dN_ _ _ _) (congrArg (World.drewN _) (Nat.add_assoc _ _ _))⟩))))
          go_meet
          case rel=>exact⟨_,(decide (t114<0)),zz0,H',⟨(zz12 HK1)⟩,⟨(zz6 HB)⟩⟩
       case rest=>
        clear HC9;obtain⟨kq,x44_8,rfl,HA,HJ8,HB⟩:=hcut;cases kq with
        |zero=>exact absurd HA.out (by simp[spec_EscNorm.j1])
        |succ kj8=>
         obtain⟨H⟩:=HA;simp only[spec_EscNorm.j1]at H;replace H:=iteB H;rcases H with⟨rfl,H⟩|⟨rfl,H⟩
         ·simp only[oI_,pI_]at H
          obtain⟨rfl,rfl⟩:=H;go_wp2
          repeat(go_quiet (fail);try go_wp2)
          go_ret2
          exact⟨zz9,(zz6 HB)⟩
         ·obtain⟨ji24,hji24⟩:∃j_:Int,(wrap64 (x5_1+1))=j_:=⟨_,rfl⟩
          (first|rw[hji24]at H|simp only[hji24]at H)
          have hji24w:(IntKind.i64.wrap (x5_1+1))=ji24:=(i64_w _).trans hji24;replace H:=iteNd H;obtain⟨c25b0,H⟩:=H;replace H:=iteNd H;obtain⟨c26b0,H⟩:=H;replace H:=bindA H;obtain⟨t115,A28,H⟩:=H;obtain⟨ji29,hji29⟩:∃j_:Int,(wrap64 (x5_1+2))=j_:=⟨_,rfl⟩;(first|rw[hji29]at H|simp only[hji29]at H)
          (try rw[hji29]at A28)
          have hji29w:(IntKind.i64.wrap (x5_1+2))=ji29:=(i64_w _).trans hji29;replace H:=iteNd H;obtain⟨c30b0,H⟩:=H;replace H:=iteNd H;obtain⟨c31b0,H⟩:=H;replace H:=bindA H;obtain⟨t116,A33,H⟩:=H;have H':=A_ H;clear H;have p27:0≤((ji24):Int):=ofD;have q27:(ji24)<(a0.size:Int):=ofD;have hx27:=bt_at a0 (ji24);replace p27:=eq_true p27;replace q27:=eq_true q27;go_wp2_with (first|(go_at_call 148;(with_reducible refine(spec_l1Hex.calls kj8 (bt a0 (ji24)) t115 _ A28.out).mono ?_);rintro e w' ⟨rfl,⟨nd,rfl⟩⟩;(try first|exact⟨rfl,_,dN_ _ _ _⟩|exact⟨rfl,_,Eq.trans (dN_ _ _ _) (congrArg (World.drewN _) (Nat.add_assoc _ _ _))⟩);have p32:0≤((ji29):Int):=ofD;have q32:(ji29)<(a0.size:Int):=ofD;have hx32:=bt_at a0 (ji29);replace p32:=eq_true p32;replace q32:=eq_true q32)|(go_at_call 148;(with_reducible refine(spec_l1Hex.calls kj8 (bt a0 (ji29)) t116 _ A33.out).mono ?_);rintro e w' ⟨rfl,⟨nd,rfl⟩⟩;(try first|exact⟨rfl,_,dN_ _ _ _⟩|exact⟨rfl,_,Eq.trans (dN_ _ _ _) (congrArg (World.drewN _) (Nat.add_assoc _ _ _))⟩)))
          repeat(go_quiet (first|(go_at_call 148;(with_reducible refine(spec_l1Hex.calls kj8 (bt a0 (ji24)) t115 _ A28.out).mono ?_);rintro e w' ⟨rfl,⟨nd,rfl⟩⟩;(try first|exact⟨rfl,_,dN_ _ _ _⟩|exact⟨rfl,_,Eq.trans (dN_ _ _ _) (congrArg (World.drewN _) (Nat.add_assoc _ _ _))⟩);have p32:0≤((ji29):Int):=ofD;have q32:(ji29)<(a0.size:Int):=ofD;have hx32:=bt_at a0 (ji29);replace p32:=eq_true p32;replace q32:=eq_true q32)|(go_at_call 148;(with_reducible refine(spec_l1Hex.calls kj8 (bt a0 (ji29)) t116 _ A33.out).mono ?_);rintro e w' ⟨rfl,⟨nd,rfl⟩⟩;(try first|exact⟨rfl,_,dN_ _ _ _⟩|exact⟨rfl,_,Eq.trans (dN_ _ _ _) (congrArg (World.drewN _) (Nat.add_assoc _ _ _))⟩)));try go_wp2_with (first|(go_at_call 148;(with_reducible refine(spec_l1Hex.calls kj8 (bt a0 (ji24)) t115 _ A28.out).mono ?_);rintro e w' ⟨rfl,⟨nd,rfl⟩⟩;(try first|exact⟨rfl,_,dN_ _ _ _⟩|exact⟨rfl,_,Eq.trans (dN_ _ _ _) (congrArg (World.drewN _) (Nat.add_assoc _ _ _))⟩);have p32:0≤((ji29):Int):=ofD;have q32:(ji29)<(a0.size:Int):=ofD;have hx32:=bt_at a0 (ji29);replace p32:=eq_true p32;replace q32:=eq_true q32)|(go_at_call 148;(with_reducible refine(spec_l1Hex.calls kj8 (bt a0 (ji29)) t116 _ A33.out).mono ?_);rintro e w' ⟨rfl,⟨nd,rfl⟩⟩;(try first|exact⟨rfl,_,dN_ _ _ _⟩|exact⟨rfl,_,Eq.trans (dN_ _ _ _) (congrArg (World.drewN _) (Nat.add_assoc _ _ _))⟩))))
          go_meet
          case rel=>exact⟨_,(ji29),(wrap64 ((wrap64 (t115*16))+t116)),(by first|rfl|(simp only[i64_w,i32_w];done)|(simp only[aid_isEmpty,aid_isEmpty2];done)|(simp;done)|((simp only[←hji29] <;> (first|rfl|simp));done)|(simp[*];done)),zz0,H',⟨(by have:=HK1.out;have:=HJ8.out;first|omega|exact lL_ _)⟩,⟨(zz6 HB)⟩⟩
      ·(first|rw[c8b0]|(simp only[i64_w,i32_w];rw[c8b0])|skip)
       have H':=A_ H;clear H;go_wp2
       repeat(go_quiet (fail);try go_wp2)
       go_meet
       case rel=>exact⟨_,(x5_1),(wrap64 (bt a0 x5_1)),zz0,zz0,H',⟨(zz12 HK1)⟩,⟨(zz6 HB)⟩⟩
     case rest=>
      clear HC7;obtain⟨kq,x5_6,x6_6,rfl,rfl,HA,HJ6,HB⟩:=hcut;cases kq with
      |zero=>exact absurd HA.out (by simp[spec_EscNorm.j2])
      |succ kj6=>
       obtain⟨H⟩:=HA;simp only[spec_EscNorm.j2]at H;replace H:=bindA H;obtain⟨t117,A34,H⟩:=H;have HF35:=A_ H;clear H;go_upto_if 61 with(first|(go_at_call 149;(with_reducible refine(spec_l1Plain.calls ((x6_6)%256) t117 _ A34.out).mono ?_);rintro e w' ⟨rfl,⟨nd,rfl⟩⟩;(try first|exact⟨rfl,_,dN_ _ _ _⟩|exact⟨rfl,_,Eq.trans (dN_ _ _ _) (congrArg (World.drewN _) (Nat.add_assoc _ _ _))⟩)))
       repeat(go_quiet (first|(go_at_call 149;(with_reducible refine(spec_l1Plain.calls ((x6_6)%256) t117 _ A34.out).mono ?_);rintro e w' ⟨rfl,⟨nd,rfl⟩⟩;(try first|exact⟨rfl,_,dN_ _ _ _⟩|exact⟨rfl,_,Eq.trans (dN_ _ _ _) (congrArg (World.drewN _) (Nat.add_assoc _ _ _))⟩)));go_upto_if 61 with(first|(go_at_call 149;(with_reducible refine(spec_l1Plain.calls ((x6_6)%256) t117 _ A34.out).mono ?_);rintro e w' ⟨rfl,⟨nd,rfl⟩⟩;(try first|exact⟨rfl,_,dN_ _ _ _⟩|exact⟨rfl,_,Eq.trans (dN_ _ _ _) (congrArg (World.drewN _) (Nat.add_assoc _ _ _))⟩))))
       obtain⟨H⟩:=HF35;replace H:=iteB H;rcases H with⟨rfl,H⟩|⟨rfl,H⟩
       ·obtain⟨y118,Ny118,H⟩:=bindY H
        replace H:=iteN H;obtain⟨c37,H⟩:=H;have c37b0:=eq_true c37;have c37b1:=dT c37;try have c37b2:(9223372036854775807<x4_1.size+(strOfNums y118).size)=False:=eq_false (nL_.2 c37);have H':=A_ H;clear H;go_wp2_with (first|((with_reducible refine gD (N:=65) rfl ?_);refine Kd.R_lit (Kd.int .u8) _ 5 ?hg (N:=65) ?hd (xs:=([(x6_6)%256]:List Int)) (inner:=[.int .u8 ((x6_6)%256)]) (ok:=fun _=>True) (okp:=fun _=>True) ?hr ?hp (fun _ hk=>hk) trivial (Below.refl _ _) (lL_ _) (by simp) ?_;(case hd=>rfl);(case hg=>rfl);(case hr=>exact zz5);(case hp=>exact(Reps.one (show Kd.M (Kd.int .u8) _ _ _ ((x6_6)%256) [.int .u8 ((x6_6)%256)]from rfl) (Reps.none _ _)));intro v119 w38 ho39 hb hg_ hnew_;clear hg_ hnew_;(first|rw[←Ny118.out]at ho39|(simp only[Int.reduceToNat]at ho39;rw[←Ny118.out]at ho39));have HO120:=A_ (Kd.R_lower ho39 (below_size (zz6 HB)));replace HB:=A_ (bS (zz6 HB) hb);clear hb ho39;have hcv40:=own_string (P:=Tryz.prog) Tryz.underlying37 Tryz.underlying5 Tryz.underlying9 (Kd.own_of_R HO120.out)))
        repeat(go_quiet (first|((with_reducible refine gD (N:=65) rfl ?_);refine Kd.R_lit (Kd.int .u8) _ 5 ?hg (N:=65) ?hd (xs:=([(x6_6)%256]:List Int)) (inner:=[.int .u8 ((x6_6)%256)]) (ok:=fun _=>True) (okp:=fun _=>True) ?hr ?hp (fun _ hk=>hk) trivial (Below.refl _ _) (lL_ _) (by simp) ?_;(case hd=>rfl);(case hg=>rfl);(case hr=>exact zz5);(case hp=>exact(Reps.one (show Kd.M (Kd.int .u8) _ _ _ ((x6_6)%256) [.int .u8 ((x6_6)%256)]from rfl) (Reps.none _ _)));intro v119 w38 ho39 hb hg_ hnew_;clear hg_ hnew_;(first|rw[←Ny118.out]at ho39|(simp only[Int.reduceToNat]at ho39;rw[←Ny118.out]at ho39));have HO120:=A_ (Kd.R_lower ho39 (below_size (zz6 HB)));replace HB:=A_ (bS (zz6 HB) hb);clear hb ho39;have hcv40:=own_string (P:=Tryz.prog) Tryz.underlying37 Tryz.underlying5 Tryz.underlying9 (Kd.own_of_R HO120.out)));try go_wp2_with (first|((with_reducible refine gD (N:=65) rfl ?_);refine Kd.R_lit (Kd.int .u8) _ 5 ?hg (N:=65) ?hd (xs:=([(x6_6)%256]:List Int)) (inner:=[.int .u8 ((x6_6)%256)]) (ok:=fun _=>True) (okp:=fun _=>True) ?hr ?hp (fun _ hk=>hk) trivial (Below.refl _ _) (lL_ _) (by simp) ?_;(case hd=>rfl);(case hg=>rfl);(case hr=>exact zz5);(case hp=>exact(Reps.one (show Kd.M (Kd.int .u8) _ _ _ ((x6_6)%256) [.int .u8 ((x6_6)%256)]from rfl) (Reps.none _ _)));intro v119 w38 ho39 hb hg_ hnew_;clear hg_ hnew_;(first|rw[←Ny118.out]at ho39|(simp only[Int.reduceToNat]at ho39;rw[←Ny118.out]at ho39));have HO120:=A_ (Kd.R_lower ho39 (below_size (zz6 HB)));replace HB:=A_ (bS (zz6 HB) hb);clear hb ho39;have hcv40:=own_string (P:=Tryz.prog) Tryz.underlying37 Tryz.underlying5 Tryz.underlying9 (Kd.own_of_R HO120.out))))
        go_roundg kj6
        case measure=>have:=HK1.out;have:=HJ6.out;omega
        case rel=>exact⟨(x4_1++(strOfNums y118)),(wrap64 (x5_6+1)),zz0,zz0,H',⟨(zz16 HK1 HJ6)⟩,⟨(zz6 HB)⟩⟩
       ·replace H:=bindA H
        obtain⟨t121,A41,H⟩:=H;replace H:=iteN H;obtain⟨c42,H⟩:=H;have c42b0:=eq_true c42;have c42b1:=dT c42;try have c42b2:(9223372036854775807<x4_1.size+t121.size)=False:=eq_false (nL_.2 c42);have H':=A_ H;clear H;go_wp2_with (first|(go_at_call 150;(with_reducible refine(spec_l1Sign.calls x6_6 t121 _ A41.out).mono ?_);rintro e w' ⟨rfl,⟨nd,rfl⟩⟩;(try first|exact⟨rfl,_,dN_ _ _ _⟩|exact⟨rfl,_,Eq.trans (dN_ _ _ _) (congrArg (World.drewN _) (Nat.add_assoc _ _ _))⟩)))
        repeat(go_quiet (first|(go_at_call 150;(with_reducible refine(spec_l1Sign.calls x6_6 t121 _ A41.out).mono ?_);rintro e w' ⟨rfl,⟨nd,rfl⟩⟩;(try first|exact⟨rfl,_,dN_ _ _ _⟩|exact⟨rfl,_,Eq.trans (dN_ _ _ _) (congrArg (World.drewN _) (Nat.add_assoc _ _ _))⟩)));try go_wp2_with (first|(go_at_call 150;(with_reducible refine(spec_l1Sign.calls x6_6 t121 _ A41.out).mono ?_);rintro e w' ⟨rfl,⟨nd,rfl⟩⟩;(try first|exact⟨rfl,_,dN_ _ _ _⟩|exact⟨rfl,_,Eq.trans (dN_ _ _ _) (congrArg (World.drewN _) (Nat.add_assoc _ _ _))⟩))))
        go_roundg kj6
        case measure=>have:=HK1.out;have:=HJ6.out;omega
        case rel=>exact⟨(x4_1++t121),(wrap64 (x5_6+1)),zz0,zz0,H',⟨(zz16 HK1 HJ6)⟩,⟨(zz6 HB)⟩⟩
    ·simp only[oI_,pI_]at H
     obtain⟨rfl,rfl⟩:=H;go_wp2
     repeat(go_quiet (fail);try go_wp2)
     go_ret2
     exact⟨zz9,(zz6 HB)⟩
def spec_l2Name.l0:Nat→BA→Int→Option (Bool)
 |0,_,_=>none
 |k+1,x0,x3=>if x3<(x0.size:Int)then(if 0≤x3 then(if(bt x0 x3)<97 then(some false)else(if(bt x0 x3)>122 then(some false)else(spec_l2Name.l0 k x0 (wrap64 (x3+1)))))else(none))else((spec_l6In.f (x0.size:Int) 1 8).bind fun t238=>(some t238))
def spec_l2Name.f (k:Nat)(a0:BA):Option (Bool):=spec_l2Name.l0 k a0 0
theorem spec_l2Name.mono_l:∀k,(∀y0 y1,LeO (spec_l2Name.l0 k y0 y1) (spec_l2Name.l0 (k+1) y0 y1))
 |0=>by intros;intro r h;simp[spec_l2Name.l0]at h
 |k+1=>by
  have ih0:=spec_l2Name.mono_l k;intros;unfold spec_l2Name.l0;repeat' first|(with_reducible first|exact ih0 _ _|exact LeO.refl _|exact LeO.none _|refine LeO.ite ?_ ?_|refine LeO.bind ?_ (fun _=>?_))|exact LeO.none _|refine LeO.ite ?_ ?_|refine LeO.bind ?_ (fun _=>?_)
theorem spec_l2Name.mono:∀a0 k,LeO (spec_l2Name.f k a0) (spec_l2Name.f (k+1) a0):=by
 intro a0 k;have ih0:=spec_l2Name.mono_l k;unfold spec_l2Name.f
 repeat' first|(with_reducible first|exact ih0 _ _|exact LeO.refl _|exact LeO.none _|refine LeO.ite ?_ ?_|refine LeO.bind ?_ (fun _=>?_))|exact LeO.none _|refine LeO.ite ?_ ?_|refine LeO.bind ?_ (fun _=>?_)
theorem spec_l2Name.calls (k:Nat)(a0:BA)(r:Bool)(w:World)(h:spec_l2Name.f k a0=some r):
  Calls Tryz.prog 26 #[.string a0] w fun e w'=>e=.returned (.bool r)∧Drawn0 w w':=by
 unfold spec_l2Name.f at h;have H:=h;clear h;have H':=A_ H;clear H;go_enter Tryz.func26,Tryz.ntmps26;go_wp2
 go_loopg [3] k (fun kq v3 w'=>∃(x3_1:Int),v3=.int .i64 x3_1∧Aside0 (spec_l2Name.l0 kq a0 x3_1=some r)∧Aside0 (kq≤k)∧Drawn0 w w')
 case atStart=>exact⟨(0),zz0,H',⟨lL_ _⟩,zz1⟩
 case round=>
  clear H';obtain⟨x3_1,rfl,HA,HK1,⟨m1,rfl⟩⟩:=hrel;cases gk with
  |zero=>exact absurd HA.out (by simp[spec_l2Name.l0])
  |succ k1=>
   obtain⟨H⟩:=HA;simp only[spec_l2Name.l0]at H;replace H:=iteEd H;rcases H with⟨c2b0,H⟩|⟨c2b0,H⟩
   ·replace H:=iteNd H
    obtain⟨c3b0,H⟩:=H;replace H:=iteEd H;rcases H with⟨c5b0,H⟩|⟨c5b0,H⟩
    ·obtain rfl:=sI H
     have p4:0≤(x3_1:Int):=ofD;have q4:x3_1<(a0.size:Int):=ofD;have hx4:=bt_at a0 x3_1;replace p4:=eq_true p4;replace q4:=eq_true q4;go_wp2;go_ret;exact⟨zz0,zz1⟩
    ·replace H:=iteEg H
     rcases H with⟨c7b0,H⟩|⟨c7b0,H⟩
     ·obtain rfl:=sI H
      have p4:0≤(x3_1:Int):=ofD;have q4:x3_1<(a0.size:Int):=ofD;have hx4:=bt_at a0 x3_1;replace p4:=eq_true p4;replace q4:=eq_true q4;have p6:0≤(x3_1:Int):=ofD;have q6:x3_1<(a0.size:Int):=ofD;have hx6:=bt_at a0 x3_1;replace p6:=eq_true p6;replace q6:=eq_true q6;go_wp2;go_ret;exact⟨zz0,zz1⟩
     ·have H':=A_ H
      clear H;have p4:0≤(x3_1:Int):=ofD;have q4:x3_1<(a0.size:Int):=ofD;have hx4:=bt_at a0 x3_1;replace p4:=eq_true p4;replace q4:=eq_true q4;have p6:0≤(x3_1:Int):=ofD;have q6:x3_1<(a0.size:Int):=ofD;have hx6:=bt_at a0 x3_1;replace p6:=eq_true p6;replace q6:=eq_true q6;go_wp2
      go_roundg k1
      case measure=>have:=HK1.out;omega
      case rel=>exact⟨(wrap64 (x3_1+1)),zz0,H',⟨(zz4 HK1)⟩,zz1⟩
   ·replace H:=bindA H
    obtain⟨t238,A8,H⟩:=H;obtain rfl:=sI H;go_wp2_with (first|(refine gR 65 (some 22) Tryz.func65 (spec_l6In.calls (a0.size:Int) 1 8 t238 _ A8.out) ?_;rintro w' ⟨nd,rfl⟩));go_ret;exact⟨zz0,zz1⟩
mutual
def spec_RuleOk.j0:Nat→BA→Bool→Option (Bool)
 |0,_,_=>none
 |k+1,x0,x16=>if x16=true then(some false)else(spec_RuleOk.l0 k x0 0)
def spec_RuleOk.l0:Nat→BA→Int→Option (Bool)
 |0,_,_=>none
 |k+1,x0,x3=>if x3<(x0.size:Int)then(if 0≤x3 then((spec_l1Plain.f (bt x0 x3)).bind fun t290=>(if t290=true then(spec_RuleOk.l0 k x0 (wrap64 (x3+1)))else(if(bt x0 x3)=47 then(spec_RuleOk.l0 k x0 (wrap64 (x3+1)))else(if(bt x0 x3)=42 then(spec_RuleOk.l0 k x0 (wrap64 (x3+1)))else(if(bt x0 x3)=63 then(spec_RuleOk.l0 k x0 (wrap64 (x3+1)))else(if(bt x0 x3)=37 then(spec_RuleOk.l0 k x0 (wrap64 (x3+1)))else(if(bt x0 x3)≥65 then(if((bt x0 x3)≤70)then(spec_RuleOk.l0 k x0 (wrap64 (x3+1)))else(if(bt x0 x3)=36 then(if(x3=(wrap64 ((x0.size:Int)-1)))then(spec_RuleOk.l0 k x0 (wrap64 (x3+1)))else(some false))else(some false)))else(if(bt x0 x3)=36 then(if(x3=(wrap64 ((x0.size:Int)-1)))then(spec_RuleOk.l0 k x0 (wrap64 (x3+1)))else(some false))else(some false)))))))))else(none))else(some true)
end
def spec_RuleOk.f (k:Nat)(a0:BA):Option (Bool):=if(a0.size:Int)>16 then(spec_RuleOk.j0 k a0 true)else(if a0.toList=([]:List UInt8)then(spec_RuleOk.j0 k a0 true)else(if 0<(a0.size:Int)then(spec_RuleOk.j0 k a0 ((bt a0 0) != 47))else(none)))
theorem spec_RuleOk.calls (k:Nat)(a0:BA)(r:Bool)(w:World)(h:spec_RuleOk.f k a0=some r):
  Calls Tryz.prog 123 #[.string a0] w fun e w'=>e=.returned (.bool r)∧Drawn0 w w':=by
 unfold spec_RuleOk.f at h;have H:=h;clear h;have HC2:=A_ H;clear H;go_enter Tryz.func123,Tryz.ntmps123;go_upto_region 1 with(fail)
 go_cut [16] (fun v16 wc=>∃(kq:Nat)(x16_1:Bool),v16=.bool x16_1∧Aside0 (spec_RuleOk.j0 kq a0 x16_1=some r)∧Aside0 (kq≤k)∧Drawn0 w wc)
 case first=>
  obtain⟨H⟩:=HC2;replace H:=iteE H;rcases H with⟨c3,H⟩|⟨c3,H⟩
  ·have c3b0:=gtT c3
   have c3b1:decide (16<a0.size)=true:=dT (by omega);clear c3;(first|rw[c3b0]|(simp only[i64_w,i32_w];rw[c3b0])|skip);have H':=A_ H;clear H;go_wp2
   go_meet
   case rel=>exact⟨_,(true),zz0,H',⟨zz10⟩,zz1⟩
  ·have c3b0:=gtF c3
   have c3b1:decide (16<a0.size)=false:=dF (by omega);clear c3;(first|rw[c3b0]|(simp only[i64_w,i32_w];rw[c3b0])|skip);replace H:=iteEq H;rcases H with⟨c4b0,c4b1,H⟩|⟨c4b0,c4b1,c4,H⟩
   ·have H':=A_ H
    clear H;go_wp2
    go_meet
    case rel=>exact⟨_,(true),zz0,H',⟨zz10⟩,zz1⟩
   ·replace H:=iteN H
    obtain⟨c5,H⟩:=H;have c5b0:=dT c5;have c5b1:decide (0<a0.size)=true:=dT (by omega);clear c5;have H':=A_ H;clear H;have p6:0≤(0:Int):=(by omega);have q6:0<a0.size:=(by have:(0:Int)<(a0.size:Int):=ofD;omega);have hx6:∀h:0<a0.size,((a0[0]'h).toNat:Int)=bt a0 0:=bt_at a0 0;clear p6;have qi6:(0<(a0.size:Int))=True:=eq_true ofD;replace q6:=eq_true q6;go_wp2
    go_meet
    case rel=>exact⟨_,(((bt a0 0) != 47)),zz0,H',⟨zz10⟩,zz1⟩
 case rest=>
  clear HC2;obtain⟨kq,x16_1,rfl,HA,HJ1,⟨mc1,rfl⟩⟩:=hcut;cases kq with
  |zero=>exact absurd HA.out (by simp[spec_RuleOk.j0])
  |succ kj1=>
   obtain⟨H⟩:=HA;simp only[spec_RuleOk.j0]at H;replace H:=iteB H;rcases H with⟨rfl,H⟩|⟨rfl,H⟩
   ·obtain rfl:=sI H
    go_wp2;go_ret;exact⟨zz0,zz1⟩
   ·have H':=A_ H
    clear H;go_wp2
    go_loopg [3] kj1 (fun kq v3 w'=>∃(x3_2:Int),v3=.int .i64 x3_2∧Aside0 (spec_RuleOk.l0 kq a0 x3_2=some r)∧Aside0 (kq≤kj1)∧Drawn0 w w')
    case atStart=>exact⟨(0),zz0,H',⟨lL_ _⟩,zz1⟩
    case round=>
     clear H';obtain⟨x3_2,rfl,HA,HK2,⟨m2,rfl⟩⟩:=hrel;cases gk with
     |zero=>exact absurd HA.out (by simp[spec_RuleOk.l0])
     |succ k2=>
      obtain⟨H⟩:=HA;simp only[spec_RuleOk.l0]at H;replace H:=iteEd H;rcases H with⟨c8b0,H⟩|⟨c8b0,H⟩
      ·replace H:=iteNd H
       obtain⟨c9b0,H⟩:=H;replace H:=bindA H;obtain⟨t290,A11,H⟩:=H;have HF12:=A_ H;clear H;have p10:0≤(x3_2:Int):=ofD;have q10:x3_2<(a0.size:Int):=ofD;have hx10:=bt_at a0 x3_2;replace p10:=eq_true p10;replace q10:=eq_true q10;go_wp2_with (first|(refine gR 149 (some 27) Tryz.func149 (spec_l1Plain.calls (bt a0 x3_2) t290 _ A11.out) ?_;rintro w' ⟨nd,rfl⟩)|((with_reducible refine atG ?_ ?_ fun K_ hK_=>?_);rfl;exact undecG)|((with_reducible refine atI ?_ fun K_ hK_=>?_);exact undecI));refine unG hK_ ?_;clear hK_ K_;obtain⟨H⟩:=HF12;replace H:=iteB H;rcases H with⟨rfl,H⟩|⟨rfl,H⟩
       ·(first|refine iteT ?_|refine iteF ?_|skip)
        have H':=A_ H;clear H;(try((with_reducible refine upS ?_);go_simp));go_wp2
        go_roundg k2
        case measure=>have:=HJ1.out;have:=HK2.out;omega
        case rel=>exact⟨(wrap64 (x3_2+1)),zz0,H',⟨(zz16 HJ1 HK2)⟩,zz1⟩
       ·(first|refine iteT ?_|refine iteF ?_|skip)
        replace H:=iteEq H;rcases H with⟨c14b0,c14b1,H⟩|⟨c14b0,c14b1,c14,H⟩
        ·have H':=A_ H
         clear H;go_wp2
         go_roundg k2
         case measure=>have:=HJ1.out;have:=HK2.out;omega
         case rel=>exact⟨(wrap64 (x3_2+1)),zz0,H',⟨(zz16 HJ1 HK2)⟩,zz1⟩
        ·replace H:=iteEq H
         rcases H with⟨c15b0,c15b1,H⟩|⟨c15b0,c15b1,c15,H⟩
         ·have H':=A_ H
          clear H;go_wp2
          go_roundg k2
          case measure=>have:=HJ1.out;have:=HK2.out;omega
          case rel=>exact⟨(wrap64 (x3_2+1)),zz0,H',⟨(zz16 HJ1 HK2)⟩,zz1⟩
         ·replace H:=iteEq H
          rcases H with⟨c16b0,c16b1,H⟩|⟨c16b0,c16b1,c16,H⟩
          ·have H':=A_ H
           clear H;go_wp2
           go_roundg k2
           case measure=>have:=HJ1.out;have:=HK2.out;omega
           case rel=>exact⟨(wrap64 (x3_2+1)),zz0,H',⟨(zz16 HJ1 HK2)⟩,zz1⟩
          ·replace H:=iteEq H
           rcases H with⟨c17b0,c17b1,H⟩|⟨c17b0,c17b1,c17,H⟩
           ·have H':=A_ H
            clear H;go_wp2
            go_roundg k2
            case measure=>have:=HJ1.out;have:=HK2.out;omega
            case rel=>exact⟨(wrap64 (x3_2+1)),zz0,H',⟨(zz16 HJ1 HK2)⟩,zz1⟩
           ·replace H:=iteEe H
            rcases H with⟨c18b0,H⟩|⟨c18b0,H⟩
            ·replace H:=iteE H
             rcases H with⟨c19,H⟩|⟨c19,H⟩
             ·have c19b0:decide ((bt a0 x3_2)≤70)=true:=dT c19
              clear c19;have H':=A_ H;clear H;go_wp2
              go_roundg k2
              case measure=>have:=HJ1.out;have:=HK2.out;omega
              case rel=>exact⟨(wrap64 (x3_2+1)),zz0,H',⟨(zz16 HJ1 HK2)⟩,zz1⟩
             ·have c19b0:decide ((bt a0 x3_2)≤70)=false:=dF c19
              clear c19;replace H:=iteEq H;rcases H with⟨c20b0,c20b1,H⟩|⟨c20b0,c20b1,c20,H⟩
              ·replace H:=iteEq H
               rcases H with⟨c21b0,c21b1,H⟩|⟨c21b0,c21b1,c21,H⟩
               ·have H':=A_ H
                clear H;go_wp2
                go_roundg k2
                case measure=>have:=HJ1.out;have:=HK2.out;omega
                case rel=>exact⟨(wrap64 (x3_2+1)),zz0,H',⟨(zz16 HJ1 HK2)⟩,zz1⟩
               ·obtain rfl:=sI H
                go_wp2;go_ret;exact⟨zz0,zz1⟩
              ·obtain rfl:=sI H
               go_wp2;go_ret;exact⟨zz0,zz1⟩
            ·replace H:=iteEq H
             rcases H with⟨c22b0,c22b1,H⟩|⟨c22b0,c22b1,c22,H⟩
             ·replace H:=iteEq H
              rcases H with⟨c23b0,c23b1,H⟩|⟨c23b0,c23b1,c23,H⟩
              ·have H':=A_ H
               clear H;go_wp2
               go_roundg k2
               case measure=>have:=HJ1.out;have:=HK2.out;omega
               case rel=>exact⟨(wrap64 (x3_2+1)),zz0,H',⟨(zz16 HJ1 HK2)⟩,zz1⟩
              ·obtain rfl:=sI H
               go_wp2;go_ret;exact⟨zz0,zz1⟩
             ·obtain rfl:=sI H
              go_wp2;go_ret;exact⟨zz0,zz1⟩
      ·obtain rfl:=sI H
       go_wp2;go_ret;exact⟨zz0,zz1⟩
mutual
def impl_RuleOk.j0:Nat→BA→Bool→Option (Bool)
 |0,_,_=>none
 |k+1,x0,x17=>if x17=true then(some false)else((strings_TrimSuffix.f x0 (⟨#[36]⟩:BA)).bind fun t393=>(impl_RuleOk.l0 k t393 0))
def impl_RuleOk.l0:Nat→BA→Int→Option (Bool)
 |0,_,_=>none
 |k+1,x3,x4=>if x4<(x3.size:Int)then(if 0≤x4 then((impl_isPatternByte.f (bt x3 x4)).bind fun t394=>(if t394=true then(impl_RuleOk.l0 k x3 (wrap64 (x4+1)))else(some false)))else(none))else(some true)
end
def impl_RuleOk.f (k:Nat)(a0:BA):Option (Bool):=if(a0.size:Int)<1 then(impl_RuleOk.j0 k a0 true)else(if(a0.size:Int)>16 then(impl_RuleOk.j0 k a0 true)else(if 0<(a0.size:Int)then(impl_RuleOk.j0 k a0 ((bt a0 0) != 47))else(none)))
theorem impl_RuleOk.calls (k:Nat)(a0:BA)(r:Bool)(w:World)(h:impl_RuleOk.f k a0=some r):
  Calls Tryz.prog 87 #[.string a0] w fun e w'=>e=.returned (.bool r)∧Drawn0 w w':=by
 unfold impl_RuleOk.f at h;have H:=h;clear h;have HC2:=A_ H;clear H;go_enter Tryz.func87,Tryz.ntmps87;go_upto_region 1 with(fail)
 go_cut [17] (fun v17 wc=>∃(kq:Nat)(x17_1:Bool),v17=.bool x17_1∧Aside0 (impl_RuleOk.j0 kq a0 x17_1=some r)∧Aside0 (kq≤k)∧Drawn0 w wc)
 case first=>
  obtain⟨H⟩:=HC2;replace H:=iteE H;rcases H with⟨c3,H⟩|⟨c3,H⟩
  ·have c3b0:=dT c3
   have c3b1:decide (a0.size<1)=true:=dT (by omega);clear c3;(first|rw[c3b0]|(simp only[i64_w,i32_w];rw[c3b0])|skip);have H':=A_ H;clear H;go_wp2
   go_meet
   case rel=>exact⟨_,(true),zz0,H',⟨zz10⟩,zz1⟩
  ·have c3b0:=dF c3
   have c3b1:decide (a0.size<1)=false:=dF (by omega);clear c3;(first|rw[c3b0]|(simp only[i64_w,i32_w];rw[c3b0])|skip);replace H:=iteE H;rcases H with⟨c4,H⟩|⟨c4,H⟩
   ·have c4b0:=gtT c4
    have c4b1:decide (16<a0.size)=true:=dT (by omega);clear c4;have H':=A_ H;clear H;go_wp2
    go_meet
    case rel=>exact⟨_,(true),zz0,H',⟨zz10⟩,zz1⟩
   ·have c4b0:=gtF c4
    have c4b1:decide (16<a0.size)=false:=dF (by omega);clear c4;replace H:=iteN H;obtain⟨c5,H⟩:=H;have c5b0:=dT c5;have c5b1:decide (0<a0.size)=true:=dT (by omega);clear c5;have H':=A_ H;clear H;have p6:0≤(0:Int):=(by omega);have q6:0<a0.size:=(by have:(0:Int)<(a0.size:Int):=ofD;omega);have hx6:∀h:0<a0.size,((a0[0]'h).toNat:Int)=bt a0 0:=bt_at a0 0;clear p6;have qi6:(0<(a0.size:Int))=True:=eq_true ofD;replace q6:=eq_true q6;go_wp2
    go_meet
    case rel=>exact⟨_,(((bt a0 0) != 47)),zz0,H',⟨zz10⟩,zz1⟩
 case rest=>
  clear HC2;obtain⟨kq,x17_1,rfl,HA,HJ1,⟨mc1,rfl⟩⟩:=hcut;cases kq with
  |zero=>exact absurd HA.out (by simp[impl_RuleOk.j0])
  |succ kj1=>
   obtain⟨H⟩:=HA;simp only[impl_RuleOk.j0]at H;replace H:=iteB H;rcases H with⟨rfl,H⟩|⟨rfl,H⟩
   ·obtain rfl:=sI H
    go_wp2;go_ret;exact⟨zz0,zz1⟩
   ·replace H:=bindA H
    obtain⟨t393,A8,H⟩:=H;have H':=A_ H;clear H;go_wp2_with (first|(refine gR 115 (some 19) Tryz.func115 (strings_TrimSuffix.calls a0 (⟨#[36]⟩:BA) t393 _ A8.out) ?_;rintro w' ⟨nd,rfl⟩))
    go_loopg [4] kj1 (fun kq v4 w'=>∃(x4_2:Int),v4=.int .i64 x4_2∧Aside0 (impl_RuleOk.l0 kq t393 x4_2=some r)∧Aside0 (kq≤kj1)∧Drawn0 w w')
    case atStart=>exact⟨(0),zz0,H',⟨lL_ _⟩,zz1⟩
    case round=>
     clear H';obtain⟨x4_2,rfl,HA,HK2,⟨m2,rfl⟩⟩:=hrel;cases gk with
     |zero=>exact absurd HA.out (by simp[impl_RuleOk.l0])
     |succ k2=>
      obtain⟨H⟩:=HA;simp only[impl_RuleOk.l0]at H;replace H:=iteEd H;rcases H with⟨c9b0,H⟩|⟨c9b0,H⟩
      ·replace H:=iteNd H
       obtain⟨c10b0,H⟩:=H;replace H:=bindA H;obtain⟨t394,A12,H⟩:=H;have HF13:=A_ H;clear H;have p11:0≤(x4_2:Int):=ofD;have q11:x4_2<(t393.size:Int):=ofD;have hx11:=bt_at t393 x4_2;replace p11:=eq_true p11;replace q11:=eq_true q11;go_upto_if 30 with(first|(refine gR 116 (some 29) Tryz.func116 (impl_isPatternByte.calls (bt t393 x4_2) t394 _ A12.out) ?_;rintro w' ⟨nd,rfl⟩))
       obtain⟨H⟩:=HF13;replace H:=iteB H;rcases H with⟨rfl,H⟩|⟨rfl,H⟩
       ·have H':=A_ H
        clear H;go_wp2
        go_roundg k2
        case measure=>have:=HJ1.out;have:=HK2.out;omega
        case rel=>exact⟨(wrap64 (x4_2+1)),zz0,H',⟨(zz16 HJ1 HK2)⟩,zz1⟩
       ·obtain rfl:=sI H
        go_wp2;go_ret;exact⟨zz0,zz1⟩
      ·obtain rfl:=sI H
       go_wp2;go_ret;exact⟨zz0,zz1⟩
mutual
def impl_RuleHas.j0:Nat→BA→BA→Bool→Option (Bool)
 |0,_,_,_=>none
 |k+1,x0,x1,x18=>if x18=true then(some false)else((strings_CutSuffix.f x0 (⟨#[36]⟩:BA)).bind fun bt401=>(if 0≤(wrap64 ((x1.size:Int)+1))then(if(wrap64 ((x1.size:Int)+1):Int).toNat≤281474976710656 then((some (List.replicate (wrap64 ((x1.size:Int)+1):Int).toNat false:List Bool)).bind fun y403=>(if 0<(y403.length:Int)then(impl_RuleHas.l0 k x1 bt401.1 bt401.2 (y403.set (0:Int).toNat true) 0)else(none)))else(none))else(none)))
def impl_RuleHas.l0:Nat→BA→BA→Bool→List Bool→Int→Option (Bool)
 |0,_,_,_,_,_=>none
 |k+1,x1,x5,x6,x7,x8=>if x8<(x5.size:Int)then(if 0≤(wrap64 ((x1.size:Int)+1))then(if(wrap64 ((x1.size:Int)+1):Int).toNat≤281474976710656 then((some (List.replicate (wrap64 ((x1.size:Int)+1):Int).toNat false:List Bool)).bind fun y409=>(impl_RuleHas.l1 k x1 x5 x6 x7 x8 y409 (y409.length:Int) 0))else(none))else(none))else(if x6=true then(if 0≤(x1.size:Int)then(if(x1.size:Int)<(x7.length:Int)then(some (rdOf false x7 (x1.size:Int)))else(none))else(none))else((slices_Contains_bool_bool.f k x7 true).bind fun t408=>(some t408)))
def impl_RuleHas.l1:Nat→BA→BA→Bool→List Bool→Int→List Bool→Int→Int→Option (Bool)
 |0,_,_,_,_,_,_,_,_=>none
 |k+1,x1,x5,x6,x7,x8,x9,x41,x42=>if x42<x41 then(if 0≤x8 then(if x8<(x5.size:Int)then(if(bt x5 x8)=42 then(if 0≤x42 then(if x42<(x7.length:Int)then(if rdOf false x7 x42=true then(if x42<(x9.length:Int)then(impl_RuleHas.l1 k x1 x5 x6 x7 x8 (x9.set (x42:Int).toNat true) x41 (wrap64 (x42+1)))else(none))else(if x42>0 then(if 0≤(wrap64 (x42-1))then(if(wrap64 (x42-1))<(x9.length:Int)then(if x42<(x9.length:Int)then(impl_RuleHas.l1 k x1 x5 x6 x7 x8 (x9.set (x42:Int).toNat (rdOf false x9 (wrap64 (x42-1)))) x41 (wrap64 (x42+1)))else(none))else(none))else(none))else(if x42<(x9.length:Int)then(impl_RuleHas.l1 k x1 x5 x6 x7 x8 (x9.set (x42:Int).toNat false) x41 (wrap64 (x42+1)))else(none))))else(none))else(none))else(if x42>0 then(if 0≤(wrap64 (x42-1))then(if(wrap64 (x42-1))<(x7.length:Int)then(if rdOf false x7 (wrap64 (x42-1))=true then(if(wrap64 (x42-1))<(x1.size:Int)then(if 0≤x42 then(if x42<(x9.length:Int)then(impl_RuleHas.l1 k x1 x5 x6 x7 x8 (x9.set (x42:Int).toNat ((bt x1 (wrap64 (x42-1)))==(bt x5 x8))) x41 (wrap64 (x42+1)))else(none))else(none))else(none))else(if 0≤x42 then(if x42<(x9.length:Int)then(impl_RuleHas.l1 k x1 x5 x6 x7 x8 (x9.set (x42:Int).toNat false) x41 (wrap64 (x42+1)))else(none))else(none)))else(none))else(none))else(if 0≤x42 then(if x42<(x9.length:Int)then(impl_RuleHas.l1 k x1 x5 x6 x7 x8 (x9.set (x42:Int).toNat false) x41 (wrap64 (x42+1)))else(none))else(none))))else(none))else(none))else(impl_RuleHas.l0 k x1 x5 x6 x9 (wrap64 (x8+1)))
end
def impl_RuleHas.f (k:Nat)(a0:BA)(a1:BA):Option (Bool):=(impl_RuleOk.f k a0).bind fun t400=>(if t400=true then(impl_RuleHas.j0 k a0 a1 (decide ((a1.size:Int)>60)))else(impl_RuleHas.j0 k a0 a1 true))
def impl_RuleHas.T15:Bool×List (List Nat×List Nat):=(true,[([],[]),([],[]),([],[]),([2],[2]),([3],[3]),([4],[4]),([4],[4]),([6,4],[4,6]),([5,7,4],[4,5,7]),([8,4],[4,8]),([4,9],[4,9]),([10,4],[10]),([11],[11]),([11],[11]),([13,11],[11,13]),([12,14,11],[11,12,14]),([11],[11]),([11],[11]),([16,17,11],[11,16,17]),([15,18,11],[11,15,18]),([11,19],[11,19]),([0,1,0,1,2,3,4,5,6,7,8,9,10,11,12,13,14,15,16,17,18,19,20],[0,1]),([21,20,11,0,1,2,3,4,5,6,7,8,9,10,11,12,13,14,15,16,17,18,19,20],[20,21])])
def impl_RuleHas.B15:List Nat:=[0,0,0,4,12,28,28,92,252,508,1020,2044,4092,4092,12284,32764,4092,4092,200700,524284,1048572,2097151,4194303]
theorem impl_RuleHas.tab15:rtab .any (opsOf Tryz.f61 15)=impl_RuleHas.T15:=by kernel_rfl
theorem impl_RuleHas.bits15:waitsOk impl_RuleHas.T15.2 impl_RuleHas.B15=true:=by kernel_rfl
theorem impl_RuleHas.calls (k:Nat)(a0:BA)(a1:BA)(r:Bool)(w:World)(h:impl_RuleHas.f k a0 a1=some r):
  Calls Tryz.prog 61 #[.string a0,.string a1] w fun e w'=>e=.returned (.bool r)∧Below w.heap.size w w':=by
 have HB:=A_ (Below.refl w.heap.size w);unfold impl_RuleHas.f at h;have H:=h;clear h;have HC3:=A_ H;clear H;go_enter Tryz.func61,Tryz.ntmps61;go_upto_region 1 with(fail)
 go_cut [18] (fun v18 wc=>∃(kq:Nat)(x18_2:Bool),v18=.bool x18_2∧Aside0 (impl_RuleHas.j0 kq a0 a1 x18_2=some r)∧Aside0 (kq≤k)∧Aside0 (Below w.heap.size w wc))
 case first=>
  obtain⟨H⟩:=HC3;replace H:=bindA H;obtain⟨t400,A4,H⟩:=H;have HF5:=A_ H;clear H;go_wp2_with (first|(refine gR 87 (some 12) Tryz.func87 (impl_RuleOk.calls k a0 t400 _ A4.out) ?_;rintro w' ⟨nd,rfl⟩)|((with_reducible refine atG ?_ ?_ fun K_ hK_=>?_);rfl;exact undecG)|((with_reducible refine atI ?_ fun K_ hK_=>?_);exact undecI));refine unG hK_ ?_;clear hK_ K_;obtain⟨H⟩:=HF5;replace H:=iteB H;rcases H with⟨rfl,H⟩|⟨rfl,H⟩
  ·(first|refine iteT ?_|refine iteF ?_|skip)
   have H':=A_ H;clear H;(try((with_reducible refine upS ?_);go_simp));go_wp2
   go_meet
   case rel=>exact⟨_,(decide ((a1.size:Int)>60)),zz0,H',⟨zz10⟩,⟨(zz6 HB)⟩⟩
  ·(first|refine iteT ?_|refine iteF ?_|skip)
   have H':=A_ H;clear H;(try((with_reducible refine upS ?_);go_simp));go_wp2
   go_meet
   case rel=>exact⟨_,(true),zz0,H',⟨zz10⟩,⟨(zz6 HB)⟩⟩
 case rest=>
  clear HC3;obtain⟨kq,x18_2,rfl,HA,HJ2,HB⟩:=hcut;cases kq with
  |zero=>exact absurd HA.out (by simp[impl_RuleHas.j0])
  |succ kj2=>
   obtain⟨H⟩:=HA;simp only[impl_RuleHas.j0]at H;replace H:=iteB H;rcases H with⟨rfl,H⟩|⟨rfl,H⟩
   ·obtain rfl:=sI H
    go_wp2;go_ret;exact⟨zz9,(zz6 HB)⟩
   ·replace H:=bindA H
    obtain⟨⟨t401,t402⟩,A8,H⟩:=H;try dsimp only at H;obtain⟨ji9,hji9⟩:∃j_:Int,(wrap64 ((a1.size:Int)+1))=j_:=⟨_,rfl⟩;(first|rw[hji9]at H|simp only[hji9]at H)
    (try rw[hji9]at A8)
    have hji9w:(IntKind.i64.wrap ((a1.size:Int)+1))=ji9:=(i64_w _).trans hji9;replace H:=iteE H;rcases H with⟨c10,H⟩|⟨c10,H⟩
    ·have c10b0:=eq_true c10
     have c10b1:=dT c10;clear c10;replace H:=iteN H;obtain⟨c11,H⟩:=H;have c11b0:=eq_true c11;have c11b1:=dT c11;clear c11;obtain⟨y403,Ny403⟩:=toY (List.replicate (ji9:Int).toNat false);(first|with_reducible replace H:=bindZ Ny403 H|rw[←Ny403.out]at H|skip);replace H:=iteN H;obtain⟨c12,H⟩:=H;have c12b0:=dT c12;have c12b1:decide (0<y403.length)=true:=dT (by omega);clear c12;obtain⟨y406,Ny406⟩:=toY (y403.set (0:Int).toNat true);(first|with_reducible replace H:=bindZ Ny406 H|rw[←Ny406.out]at H|skip);have H':=A_ H;clear H;go_wp2_with (first|(refine gR 89 (some 21) Tryz.func89 (strings_CutSuffix.calls a0 (⟨#[36]⟩:BA) t401 t402 _ A8.out) ?_;rintro w' ⟨nd,rfl⟩;(try(rw[drewN_self wc];generalize hq_:World.drewN wc _=wc;have n0_:Aside0 (Below w.heap.size w wc):=⟨(by rw[←hq_];exact(zz6 HB))⟩;clear HB hq_;have HB:=n0_;clear n0_)))|((with_reducible refine gD (N:=27) rfl ?_);(try(refine gate_guard (by rfl) ?_;dsimp only));refine Kd.R_make Kd.bool _ 4 rfl (N:=27) rfl 123 _ _ rfl ji9 rfl rfl Tryz.underlying123 (.bool false) 1 info4 rfl (by decide) (by omega) false (ok:=fun _=>True) (okp:=fun _=>True) rfl (fun _ hk=>hk) trivial ofD (nT_ (mR_ _ (ofD:ji9.toNat≤281474976710656)) (by omega)) (Below.refl _ _) (lL_ _) ?_;intro v404 w14 ho15 hb hg_ hnew_;clear hg_ hnew_;(first|rw[←Ny403.out]at ho15|(simp only[Int.reduceToNat]at ho15;rw[←Ny403.out]at ho15));have HO405:=A_ (Kd.R_lower ho15 (below_size (zz6 HB)));replace HB:=A_ (bS (zz6 HB) hb);clear hb ho15;have p13:0≤(0:Int):=(by omega);have q13:(0:Int)<((y403.length:Int):Int):=ofD;have qi13:(0<y403.length)=True:=eq_true (by omega);obtain⟨go13,co13,eo13,gb13,gl13,cl13,HG13⟩:=Kd.R_form HO405.out (by omega);(first|cases eo13|(injection eo13 with ea_ en_ ec_;(first|subst ea_|(injection ea_ with ea_;subst ea_));subst ec_;clear en_));have GB13:=A_ gb13;have GG13:=A_ HG13;clear gb13 gl13 HG13;obtain⟨hx13_0,hf13_0⟩:=Kd.R_celln false HO405.out (0:Int) p13 q13;(try rw[show((0:Int)).toNat=0 from rfl]at hx13_0);(try simp only[Nat.reduceMul,Nat.zero_mul,Nat.zero_add,Nat.reduceAdd]at hx13_0);(try rw[show((0:Int)).toNat=0 from rfl]at hf13_0);(try simp only[Nat.reduceMul,Nat.zero_mul,Nat.zero_add,Nat.reduceAdd]at hf13_0);replace p13:=eq_true p13;replace q13:=eq_true q13;obtain⟨hy16_,hz16_⟩:=Kd.R_celln false HO405.out (0:Int) (by omega) ofD;(try simp only[Int.reduceToNat,Int.toNat_zero,Int.toNat_ofNat,Nat.reduceMul,Nat.zero_mul,Nat.zero_add]at hy16_ hz16_);(try rw[show((0:Int)).toNat=0 from rfl]at hy16_);(try rw[show((0:Int)).toNat=0 from rfl]at hz16_);have HP16:=Kd.R_putg HO405.out (0:Int) true)|((with_reducible refine gate_store (t:=4) (p:=29) rfl ?_);refine store_event (t:=4) (p:=29) (v:=?vo_w17) (w1:=(w14.setCell ⟨go13,(0:Int).toNat,none⟩ (.bool true))) ?hg ?ho ?hn ?hr ?_;(case ho=>rfl);(case hg=>rfl);(case hn=>rfl);(case hr=>exact zz5);intro w17 hw;have hg:w14.grownBy w17 (some go13):=(by rw[hw];exact HP16.2);have hp_:Kd.R Kd.bool 4 w17 w.heap.size (fun _=>True) (.slice (some ⟨go13,0,none⟩) y403.length co13) y406:=(by rw[hw,Ny406.out];exact HP16.1);clear HP16;replace HO405:=A_ (hp_);replace HB:=A_ ((by rw[hw];exact below_set (HB.out) GB13.out:Below w.heap.size w w17));clear hg hw hp_))
     go_loopg [7,8] kj2 (fun kq v7 v8 w'=>∃(x7_2:List Bool)(x8_2:Int),v8=.int .i64 x8_2∧Aside0 (impl_RuleHas.l0 kq a1 t401 t402 x7_2 x8_2=some r)∧Aside0 (kq≤kj2)∧Aside0 (Kd.R Kd.bool 4 w' w.heap.size (fun _=>True) v7 x7_2)∧Aside0 (Below w.heap.size w w'))
     case atStart=>exact⟨(y406),(0),zz0,H',⟨lL_ _⟩,⟨(zz7 HO405)⟩,⟨(zz6 HB)⟩⟩
     case round=>
      clear H';obtain⟨x7_2,x8_2,rfl,HA,HK2,HO_7,HB⟩:=hrel;cases gk with
      |zero=>exact absurd HA.out (by simp[impl_RuleHas.l0])
      |succ k2=>
       obtain⟨H⟩:=HA;simp only[impl_RuleHas.l0]at H;replace H:=iteEd H;rcases H with⟨c18b0,H⟩|⟨c18b0,H⟩
       ·obtain⟨ji19,hji19⟩:∃j_:Int,(wrap64 ((a1.size:Int)+1))=j_:=⟨_,rfl⟩
        (first|(have e_:=hji19.symm.trans hji9;subst e_)|skip)
        (first|rw[hji19]at H|simp only[hji19]at H)
        have hji19w:(IntKind.i64.wrap ((a1.size:Int)+1))=ji19:=(i64_w _).trans hji19;replace H:=iteN H;obtain⟨c20,H⟩:=H;have c20b0:=eq_true c20;have c20b1:=dT c20;clear c20;replace H:=iteN H;obtain⟨c21,H⟩:=H;have c21b0:=eq_true c21;have c21b1:=dT c21;clear c21;obtain⟨y409,Ny409⟩:=toY (List.replicate (ji19:Int).toNat false);(first|with_reducible replace H:=bindZ Ny409 H|rw[←Ny409.out]at H|skip);have H':=A_ H;clear H;go_wp2_with (first|((with_reducible refine gD (N:=39) rfl ?_);(try(refine gate_guard (by rfl) ?_;dsimp only));refine Kd.R_make Kd.bool _ 4 rfl (N:=39) rfl 123 _ _ rfl ji19 rfl rfl Tryz.underlying123 (.bool false) 1 info4 rfl (by decide) (by omega) false (ok:=fun _=>True) (okp:=fun _=>True) rfl (fun _ hk=>hk) trivial ofD (nT_ (mR_ _ (ofD:ji19.toNat≤281474976710656)) (by omega)) (Below.refl _ _) (lL_ _) ?_;intro v410 w22 ho23 hb hg_ hnew_;clear hg_ hnew_;(first|rw[←Ny409.out]at ho23|(simp only[Int.reduceToNat]at ho23;rw[←Ny409.out]at ho23));have HO411:=A_ (Kd.R_lower (Kd.R_new' ho23 (Kd.R_lt (zz7 HO_7))) (below_size (zz6 HB)));replace HO_7:=A_ (Kd.R_elder' (zz7 HO_7) (Kd.R_base ho23) hb);replace HB:=A_ (bS (zz6 HB) hb);clear hb ho23;obtain⟨Ao24,co24,eo24⟩:=Kd.R_slice HO411.out;subst eo24))
        go_loopg [42] k2 (fun kq v42 w'=>∃(x9_3:List Bool)(x42_3:Int),v42=.int .i64 x42_3∧Aside0 (impl_RuleHas.l1 kq a1 t401 t402 x7_2 x8_2 x9_3 (y409.length:Int) x42_3=some r)∧Aside0 (kq≤k2)∧Aside0 (Kd.R Kd.bool 4 w' w.heap.size (fun k_=>some k_≠((.slice Ao24 y409.length co24):Value).ownBlock) u7 x7_2)∧Aside0 (Kd.R Kd.bool 4 w' w.heap.size (fun k_=>some k_≠(u7:Value).ownBlock) (.slice Ao24 y409.length co24) x9_3)∧Aside0 (Below w.heap.size w w'))
        case atStart=>exact⟨(y409),(0),zz0,H',⟨lL_ _⟩,⟨(zz103 HO_7)⟩,⟨(zz103 HO411)⟩,⟨(zz6 HB)⟩⟩
        case round=>
         clear H';obtain⟨x9_3,x42_3,rfl,HA,HK3,HO_7,HO_9,HB⟩:=hrel;have hl9_3:=(Kd.R_reads' HO_9.out).1;rw[hl9_3]at HO_9;(try simp only[hl9_3])
         (try simp only[hl9_3]at HO_7)
         cases gk with
         |zero=>exact absurd HA.out (by simp[impl_RuleHas.l1])
         |succ k3=>
          obtain⟨H⟩:=HA;simp only[impl_RuleHas.l1]at H;replace H:=iteEd H;rcases H with⟨c25b0,H⟩|⟨c25b0,H⟩
          ·replace H:=iteNd H
           obtain⟨c26b0,H⟩:=H;replace H:=iteNd H;obtain⟨c27b0,H⟩:=H;replace H:=iteEq H;rcases H with⟨c29b0,c29b1,H⟩|⟨c29b0,c29b1,c29,H⟩
           ·replace H:=iteNd H
            obtain⟨c30b0,H⟩:=H;replace H:=iteNd H;obtain⟨c31b0,H⟩:=H;obtain⟨bq32,hbq32⟩:∃b_:Bool,b_=(rdOf false x7_2 x42_3):=⟨_,rfl⟩;rw[←hbq32]at H;have Nbq32:=A_ hbq32;clear hbq32;replace H:=iteB H;rcases H with⟨rfl,H⟩|⟨rfl,H⟩
            ·replace H:=iteN H
             obtain⟨c34,H⟩:=H;have c34b0:=dT c34;clear c34;obtain⟨y413,Ny413⟩:=toY (x9_3.set (x42_3:Int).toNat true);(first|with_reducible replace H:=bindZ Ny413 H|rw[←Ny413.out]at H|skip);have H':=A_ H;clear H;have p28:0≤(x8_2:Int):=ofD;have q28:x8_2<(t401.size:Int):=ofD;have hx28:=bt_at t401 x8_2;replace p28:=eq_true p28;replace q28:=eq_true q28;obtain⟨Ao36,co36,eo36⟩:=Kd.R_slice HO_7.out;subst eo36;obtain⟨⟨ad412,e412,hx412_0⟩,p412,q412⟩:=atB (Kd.at_bool (Kd.R_reads' HO_7.out).2.2 x42_3);(try rw[←Nbq32.out]at hx412_0);cases e412;have p35:0≤(x42_3:Int):=ofD;have q35:(x42_3:Int)<((x9_3.length:Int):Int):=ofD;obtain⟨go35,co35,eo35,gb35,gl35,cl35,HG35⟩:=Kd.R_form HO_9.out (by omega);(first|cases eo35|(injection eo35 with ea_ en_ ec_;(first|subst ea_|(injection ea_ with ea_;subst ea_));subst ec_;clear en_));have GB35:=A_ gb35;have GG35:=A_ HG35;clear gb35 gl35 HG35;obtain⟨hx35_0,hf35_0⟩:=Kd.R_celln false HO_9.out (x42_3:Int) p35 q35;replace p35:=eq_true p35;replace q35:=eq_true q35;have HP37:=Kd.R_putg HO_9.out (x42_3:Int) true;go_wp2_with (first|((with_reducible refine gate_store (t:=4) (p:=66) rfl ?_);refine store_event (t:=4) (p:=66) (v:=?vo_w38) (w1:=(wr.setCell ⟨go35,(x42_3:Int).toNat,none⟩ (.bool true))) ?hg ?ho ?hn ?hr ?_;(case ho=>rfl);(case hg=>rfl);(case hn=>rfl);(case hr=>exact zz5);intro w38 hw;have hg:wr.grownBy w38 (some go35):=(by rw[hw];exact HP37.2);have hp_:Kd.R Kd.bool 4 w38 w.heap.size (fun k_=>some k_≠(.slice (some ad412) x7_2.length co36:Value).ownBlock) (.slice (some ⟨go35,0,none⟩) x9_3.length co24) y413:=(by rw[hw,Ny413.out];exact HP37.1);clear HP37;replace HO_7:=A_ (Kd.R_after (v:=(.slice (some ⟨go35,0,none⟩) x9_3.length co24)) (v1:=(.slice (some ⟨go35,0,none⟩) x9_3.length co24)) (ok:=(fun _=>True)) (zz107 HO_7) hg (.inl rfl));replace HO_9:=A_ (hp_);replace HB:=A_ ((by rw[hw];exact below_set (HB.out) GB35.out:Below w.heap.size w w38));clear hg hw hp_))
             (try simp only[←hl9_3])
             go_roundg k3
             case measure=>have:=HJ2.out;have:=HK2.out;have:=HK3.out;omega
             case rel=>exact⟨(y413),(wrap64 (x42_3+1)),zz0,H',⟨(zz108 HJ2 HK2 HK3)⟩,⟨(zz109 HO_7)⟩,⟨(zz110 HO_9)⟩,⟨(zz6 HB)⟩⟩
            ·replace H:=iteE H
             rcases H with⟨c39,H⟩|⟨c39,H⟩
             ·have c39b0:=gtT c39
              clear c39;obtain⟨ji40,hji40⟩:∃j_:Int,(wrap64 (x42_3-1))=j_:=⟨_,rfl⟩;(first|rw[hji40]at H|simp only[hji40]at H);have hji40w:(IntKind.i64.wrap (x42_3-1))=ji40:=(i64_w _).trans hji40;replace H:=iteNd H;obtain⟨c41b0,H⟩:=H;replace H:=iteNd H;obtain⟨c42b0,H⟩:=H;replace H:=iteNd H;obtain⟨c43b0,H⟩:=H;obtain⟨y415,Ny415⟩:=toY (x9_3.set (x42_3:Int).toNat (rdOf false x9_3 (ji40)));(first|with_reducible replace H:=bindZ Ny415 H|rw[←Ny415.out]at H|skip);have H':=A_ H;clear H;have p28:0≤(x8_2:Int):=ofD;have q28:x8_2<(t401.size:Int):=ofD;have hx28:=bt_at t401 x8_2;replace p28:=eq_true p28;replace q28:=eq_true q28;obtain⟨Ao45,co45,eo45⟩:=Kd.R_slice HO_7.out;subst eo45;obtain⟨⟨ad412,e412,hx412_0⟩,p412,q412⟩:=atB (Kd.at_bool (Kd.R_reads' HO_7.out).2.2 x42_3);(try rw[←Nbq32.out]at hx412_0);cases e412;obtain⟨⟨ad414,e414,hx414_0⟩,p414,q414⟩:=atB (Kd.at_bool (Kd.R_reads' HO_9.out).2.2 (ji40));(try rw[←Nbq32.out]at hx414_0);cases e414;have p44:0≤(x42_3:Int):=ofD;have q44:(x42_3:Int)<((x9_3.length:Int):Int):=ofD;obtain⟨go44,co44,eo44,gb44,gl44,cl44,HG44⟩:=Kd.R_form HO_9.out (by omega);(first|cases eo44|(injection eo44 with ea_ en_ ec_;(first|subst ea_|(injection ea_ with ea_;subst ea_));subst ec_;clear en_));have GB44:=A_ gb44;have GG44:=A_ HG44;clear gb44 gl44 HG44;(first|simp only[add_plain]at hx414_0|skip);obtain⟨hx44_0,hf44_0⟩:=Kd.R_celln false HO_9.out (x42_3:Int) p44 q44;replace p44:=eq_true p44;replace q44:=eq_true q44;have HP46:=Kd.R_putg HO_9.out (x42_3:Int) (rdOf false x9_3 (ji40));go_wp2_with (first|((with_reducible refine gate_store (t:=4) (p:=66) rfl ?_);refine store_event (t:=4) (p:=66) (v:=?vo_w47) (w1:=(wr.setCell ⟨go44,(x42_3:Int).toNat,none⟩ (.bool (rdOf false x9_3 (ji40))))) ?hg ?ho ?hn ?hr ?_;(case ho=>rfl);(case hg=>rfl);(case hn=>rfl);(case hr=>exact zz5);intro w47 hw;have hg:wr.grownBy w47 (some go44):=(by rw[hw];exact HP46.2);have hp_:Kd.R Kd.bool 4 w47 w.heap.size (fun k_=>some k_≠(.slice (some ad412) x7_2.length co45:Value).ownBlock) (.slice (some ⟨go44,0,none⟩) x9_3.length co24) y415:=(by rw[hw,Ny415.out];exact HP46.1);clear HP46;replace HO_7:=A_ (Kd.R_after (v:=(.slice (some ⟨go44,0,none⟩) x9_3.length co24)) (v1:=(.slice (some ⟨go44,0,none⟩) x9_3.length co24)) (ok:=(fun _=>True)) (zz107 HO_7) hg (.inl rfl));replace HO_9:=A_ (hp_);replace HB:=A_ ((by rw[hw];exact below_set (HB.out) GB44.out:Below w.heap.size w w47));clear hg hw hp_))
              (try simp only[←hl9_3])
              go_roundg k3
              case measure=>have:=HJ2.out;have:=HK2.out;have:=HK3.out;omega
              case rel=>exact⟨(y415),(wrap64 (x42_3+1)),zz0,H',⟨(zz108 HJ2 HK2 HK3)⟩,⟨(zz109 HO_7)⟩,⟨(zz110 HO_9)⟩,⟨(zz6 HB)⟩⟩
             ·have c39b0:=gtF c39
              clear c39;replace H:=iteNd H;obtain⟨c48b0,H⟩:=H;obtain⟨y416,Ny416⟩:=toY (x9_3.set (x42_3:Int).toNat false);(first|with_reducible replace H:=bindZ Ny416 H|rw[←Ny416.out]at H|skip);have H':=A_ H;clear H;have p28:0≤(x8_2:Int):=ofD;have q28:x8_2<(t401.size:Int):=ofD;have hx28:=bt_at t401 x8_2;replace p28:=eq_true p28;replace q28:=eq_true q28;obtain⟨Ao50,co50,eo50⟩:=Kd.R_slice HO_7.out;subst eo50;obtain⟨⟨ad412,e412,hx412_0⟩,p412,q412⟩:=atB (Kd.at_bool (Kd.R_reads' HO_7.out).2.2 x42_3);(try rw[←Nbq32.out]at hx412_0);cases e412;have p49:0≤(x42_3:Int):=ofD;have q49:(x42_3:Int)<((x9_3.length:Int):Int):=ofD;obtain⟨go49,co49,eo49,gb49,gl49,cl49,HG49⟩:=Kd.R_form HO_9.out (by omega);(first|cases eo49|(injection eo49 with ea_ en_ ec_;(first|subst ea_|(injection ea_ with ea_;subst ea_));subst ec_;clear en_));have GB49:=A_ gb49;have GG49:=A_ HG49;clear gb49 gl49 HG49;obtain⟨hx49_0,hf49_0⟩:=Kd.R_celln false HO_9.out (x42_3:Int) p49 q49;replace p49:=eq_true p49;replace q49:=eq_true q49;have HP51:=Kd.R_putg HO_9.out (x42_3:Int) false;go_wp2_with (first|((with_reducible refine gate_store (t:=4) (p:=66) rfl ?_);refine store_event (t:=4) (p:=66) (v:=?vo_w52) (w1:=(wr.setCell ⟨go49,(x42_3:Int).toNat,none⟩ (.bool false))) ?hg ?ho ?hn ?hr ?_;(case ho=>rfl);(case hg=>rfl);(case hn=>rfl);(case hr=>exact zz5);intro w52 hw;have hg:wr.grownBy w52 (some go49):=(by rw[hw];exact HP51.2);have hp_:Kd.R Kd.bool 4 w52 w.heap.size (fun k_=>some k_≠(.slice (some ad412) x7_2.length co50:Value).ownBlock) (.slice (some ⟨go49,0,none⟩) x9_3.length co24) y416:=(by rw[hw,Ny416.out];exact HP51.1);clear HP51;replace HO_7:=A_ (Kd.R_after (v:=(.slice (some ⟨go49,0,none⟩) x9_3.length co24)) (v1:=(.slice (some ⟨go49,0,none⟩) x9_3.length co24)) (ok:=(fun _=>True)) (zz107 HO_7) hg (.inl rfl));replace HO_9:=A_ (hp_);replace HB:=A_ ((by rw[hw];exact below_set (HB.out) GB49.out:Below w.heap.size w w52));clear hg hw hp_))
              (try simp only[←hl9_3])
              go_roundg k3
              case measure=>have:=HJ2.out;have:=HK2.out;have:=HK3.out;omega
              case rel=>exact⟨(y416),(wrap64 (x42_3+1)),zz0,H',⟨(zz108 HJ2 HK2 HK3)⟩,⟨(zz109 HO_7)⟩,⟨(zz110 HO_9)⟩,⟨(zz6 HB)⟩⟩
           ·replace H:=iteEg H
            rcases H with⟨c53b0,H⟩|⟨c53b0,H⟩
            ·obtain⟨ji54,hji54⟩:∃j_:Int,(wrap64 (x42_3-1))=j_:=⟨_,rfl⟩
             (first|rw[hji54]at H|simp only[hji54]at H)
             have hji54w:(IntKind.i64.wrap (x42_3-1))=ji54:=(i64_w _).trans hji54;replace H:=iteNd H;obtain⟨c55b0,H⟩:=H;replace H:=iteNd H;obtain⟨c56b0,H⟩:=H;obtain⟨bq57,hbq57⟩:∃b_:Bool,b_=(rdOf false x7_2 (ji54)):=⟨_,rfl⟩;rw[←hbq57]at H;have Nbq57:=A_ hbq57;clear hbq57;replace H:=iteB H;rcases H with⟨rfl,H⟩|⟨rfl,H⟩
             ·replace H:=iteN H
              obtain⟨c59,H⟩:=H;have c59b0:=dT c59;clear c59;replace H:=iteNd H;obtain⟨c62b0,H⟩:=H;replace H:=iteNd H;obtain⟨c63b0,H⟩:=H;obtain⟨y418,Ny418⟩:=toY (x9_3.set (x42_3:Int).toNat ((bt a1 (ji54))==(bt t401 x8_2)));(first|with_reducible replace H:=bindZ Ny418 H|rw[←Ny418.out]at H|skip);have H':=A_ H;clear H;have p28:0≤(x8_2:Int):=ofD;have q28:x8_2<(t401.size:Int):=ofD;have hx28:=bt_at t401 x8_2;replace p28:=eq_true p28;replace q28:=eq_true q28;try go_wp2;replace HO_7:=A_ (Kd.R_drew HO_7.out);replace HO_9:=A_ (Kd.R_drew HO_9.out);replace HB:=A_ (below_drew1 HB.out);obtain⟨Ao66,co66,eo66⟩:=Kd.R_slice HO_7.out;(first|subst eo66|(injection eo66 with f1_ f2_ f3_;have f4_:=f1_.symm;have f5_:=f3_.symm;clear f1_ f2_ f3_;subst f4_;subst f5_));obtain⟨⟨ad417,e417,hx417_0⟩,p417,q417⟩:=atB (Kd.at_bool (Kd.R_reads' HO_7.out).2.2 (ji54));(try rw[←Nbq57.out]at hx417_0);cases e417;have p60:0≤((ji54):Int):=ofD;have q60:(ji54)<(a1.size:Int):=ofD;have hx60:=bt_at a1 (ji54);replace p60:=eq_true p60;replace q60:=eq_true q60;have p61:0≤(x8_2:Int):=ofD;have q61:x8_2<(t401.size:Int):=ofD;have hx61:=bt_at t401 x8_2;replace p61:=eq_true p61;replace q61:=eq_true q61;have p64:0≤(x42_3:Int):=ofD;have q64:(x42_3:Int)<((x9_3.length:Int):Int):=ofD;obtain⟨go64,co64,eo64,gb64,gl64,cl64,HG64⟩:=Kd.R_form HO_9.out (by omega);(first|cases eo64|(injection eo64 with ea_ en_ ec_;(first|subst ea_|(injection ea_ with ea_;subst ea_));subst ec_;clear en_));have GB64:=A_ gb64;have GG64:=A_ HG64;clear gb64 gl64 HG64;obtain⟨hx64_0,hf64_0⟩:=Kd.R_celln false HO_9.out (x42_3:Int) p64 q64;replace p64:=eq_true p64;replace q64:=eq_true q64;have HP67:=Kd.R_putn HO_9.out (x42_3:Int) ((bt a1 (ji54))==(bt t401 x8_2));rw[←Ny418.out]at HP67;have HQ67:=A_ HP67;clear HP67;refine start_ (n:=23) (S:=fun w'=>w'.cell? (ad417.add ((ji54)).toNat)=some (.bool true)) (ds:=[22]) #[yF,yF,yF,yF,yF,yF,yF,yF,yF,yF,yF,yF,yF,yF,yF,yF,yF,yF,yF,yF,yF,yF,yF] (by kernel_rfl) rfl rfl (hx417_0) (fun hHeld=>?_);refine with_tabW impl_RuleHas.tab15 impl_RuleHas.bits15 (fun HT_ HW_=>?_);generalize wr.drew=w65 at HO_7 HO_9 HB GG64 HQ67 hf64_0 hx417_0 hx64_0 hHeld ⊢;refine pureZ 0 (some 67) (yA 1 22) ?_;refine pureZ 1 (some 68) (yA 2 21) ?_;refine pureZ 2 (some 69) (yA 3 20) ?_;refine pureZ 3 (some 70) (yA 4 19) ?_;refine pureZ 4 (some 71) (yA 5 18) ?_;refine pureZ 5 (some 72) (yA 6 17) ?_;refine pureZ 6 (some 73) (yA 7 16) ?_;refine pureZ 7 (some 74) (yA 8 15) ?_;refine pureZ 8 (some 75) (yA 9 14) ?_;refine take_ (i:=9) (N:=some 76) (v:=?_) (a':=?_) (yA 10 13) rfl rfl (take_ofW HT_.out HW_.out (by kernel_rfl)) (fun _ _ _ h=>h) (Or.inl ⟨by rfl,?_⟩) hHeld ?_ ?_;rotate_left
              ·intro w' s0
               go_simp
               with_reducible rfl
              rotate_left
              ·simp only[Act.put,lS_,l0_,lC_,i64_w,i32_w]
               rfl
              refine pureZ 10 (some 77) (yA 11 12) ?_;refine pureZ 11 (some 78) (yA 12 11) ?_;refine pureZ 12 (some 79) (yA 13 10) ?_;refine pureZ 13 (some 80) (yA 14 9) ?_;refine pureZ 14 (some 81) (yA 15 8) ?_;refine pureZ 16 (some 83) #[yT,yT,yT,yT,yT,yT,yT,yT,yT,yT,yT,yT,yT,yT,yT,yF,yT,yF,yF,yF,yF,yF,yF] ?_;refine pureZ 17 (some 84) #[yT,yT,yT,yT,yT,yT,yT,yT,yT,yT,yT,yT,yT,yT,yT,yF,yT,yT,yF,yF,yF,yF,yF] ?_;refine take_ (i:=15) (N:=some 82) (v:=?_) (a':=?_) (yA 18 5) rfl rfl (take_ofW HT_.out HW_.out (by kernel_rfl)) (fun _ _ _ h=>h) (Or.inl ⟨by rfl,?_⟩) hHeld ?_ ?_;rotate_left
              ·intro w' s0
               go_simp
               with_reducible rfl
              rotate_left
              ·simp only[Act.put,lS_,l0_,lC_,i64_w,i32_w]
               rfl
              refine take_ (i:=18) (N:=some 85) (v:=?_) (a':=?_) (yA 19 4) rfl rfl (take_ofW HT_.out HW_.out (by kernel_rfl)) (fun _ _ _ h=>h) (Or.inl ⟨by rfl,?_⟩) hHeld ?_ ?_;rotate_left
              ·intro w' s0
               go_simp
               with_reducible rfl
              rotate_left
              ·simp only[Act.put,lS_,l0_,lC_,i64_w,i32_w]
               rfl
              refine pureZ 19 (some 86) (yA 20 3) ?_;refine pureZ 20 (some 87) (yA 21 2) ?_;refine pureZ 21 (some 88) (yA 22 1) ?_;refine last_ (i:=22) (N:=none) (yA 23 0) rfl rfl (one_of HT_.out (by kernel_rfl)) (by decide) (fun K hK=>?_);refine skip_ (w1:=?_) (by rfl) rfl ?_ ?_;rotate_left
              ·go_simp
               rfl
              refine hK.out _ _ ?_;clear hK K;refine done_ (done_of HT_.out (by kernel_rfl)) ?_;try go_wp2
              (try simp only[←hl9_3])
              go_roundg k3
              case measure=>have:=HJ2.out;have:=HK2.out;have:=HK3.out;omega
              case rel=>exact⟨(y418),(wrap64 (x42_3+1)),zz0,H',⟨(zz108 HJ2 HK2 HK3)⟩,⟨(by(try simp only[hl9_3]);(with_reducible repeat(first|apply Kd.R_alloc|apply Kd.R_drewN|apply Kd.R_drew));exact Kd.R_mono (Kd.R_far (p:=⟨go64,(x42_3:Int).toNat,none⟩) (Kd.R_mono HO_7.out (fun k_ hk=>(⟨hk,fun e_=>hk (by rw[e_];rfl)⟩:_∧k_≠go64))) (fun _ hk=>hk.2) (.bool ((bt a1 (ji54))==(bt t401 x8_2)))) (fun _ hk=>hk.1))⟩,⟨(zz110 HQ67)⟩,⟨(zz19 HB GB64)⟩⟩
             ·replace H:=iteN H
              obtain⟨c68,H⟩:=H;have c68b0:=dT c68;clear c68;replace H:=iteNd H;obtain⟨c69b0,H⟩:=H;obtain⟨y419,Ny419⟩:=toY (x9_3.set (x42_3:Int).toNat false);(first|with_reducible replace H:=bindZ Ny419 H|rw[←Ny419.out]at H|skip);have H':=A_ H;clear H;have p28:0≤(x8_2:Int):=ofD;have q28:x8_2<(t401.size:Int):=ofD;have hx28:=bt_at t401 x8_2;replace p28:=eq_true p28;replace q28:=eq_true q28;try go_wp2;replace HO_7:=A_ (Kd.R_drew HO_7.out);replace HO_9:=A_ (Kd.R_drew HO_9.out);replace HB:=A_ (below_drew1 HB.out);obtain⟨Ao72,co72,eo72⟩:=Kd.R_slice HO_7.out;(first|subst eo72|(injection eo72 with f1_ f2_ f3_;have f4_:=f1_.symm;have f5_:=f3_.symm;clear f1_ f2_ f3_;subst f4_;subst f5_));obtain⟨⟨ad417,e417,hx417_0⟩,p417,q417⟩:=atB (Kd.at_bool (Kd.R_reads' HO_7.out).2.2 (ji54));(try rw[←Nbq57.out]at hx417_0);cases e417;have p70:0≤(x42_3:Int):=ofD;have q70:(x42_3:Int)<((x9_3.length:Int):Int):=ofD;obtain⟨go70,co70,eo70,gb70,gl70,cl70,HG70⟩:=Kd.R_form HO_9.out (by omega);(first|cases eo70|(injection eo70 with ea_ en_ ec_;(first|subst ea_|(injection ea_ with ea_;subst ea_));subst ec_;clear en_));have GB70:=A_ gb70;have GG70:=A_ HG70;clear gb70 gl70 HG70;obtain⟨hx70_0,hf70_0⟩:=Kd.R_celln false HO_9.out (x42_3:Int) p70 q70;replace p70:=eq_true p70;replace q70:=eq_true q70;have HP73:=Kd.R_putn HO_9.out (x42_3:Int) false;rw[←Ny419.out]at HP73;have HQ73:=A_ HP73;clear HP73;refine start_ (n:=23) (S:=fun w'=>w'.cell? (ad417.add ((ji54)).toNat)=some (.bool false)) (ds:=[22]) #[yF,yF,yF,yF,yF,yF,yF,yF,yF,yF,yF,yF,yF,yF,yF,yF,yF,yF,yF,yF,yF,yF,yF] (by kernel_rfl) rfl rfl (hx417_0) (fun hHeld=>?_);refine with_tabW impl_RuleHas.tab15 impl_RuleHas.bits15 (fun HT_ HW_=>?_);generalize wr.drew=w71 at HO_7 HO_9 HB GG70 HQ73 hf70_0 hx417_0 hx70_0 hHeld ⊢;refine pureZ 0 (some 67) (yA 1 22) ?_;refine pureZ 1 (some 68) (yA 2 21) ?_;refine pureZ 2 (some 69) (yA 3 20) ?_;refine pureZ 3 (some 70) (yA 4 19) ?_;refine pureZ 4 (some 71) (yA 5 18) ?_;refine pureZ 5 (some 72) (yA 6 17) ?_;refine pureZ 6 (some 73) (yA 7 16) ?_;refine pureZ 7 (some 74) (yA 8 15) ?_;refine pureZ 8 (some 75) (yA 9 14) ?_;refine take_ (i:=9) (N:=some 76) (v:=?_) (a':=?_) (yA 10 13) rfl rfl (take_ofW HT_.out HW_.out (by kernel_rfl)) (fun _ _ _ h=>h) (Or.inl ⟨by rfl,?_⟩) hHeld ?_ ?_;rotate_left
              ·intro w' s0
               go_simp
               with_reducible rfl
              rotate_left
              ·simp only[Act.put,lS_,l0_,lC_,i64_w,i32_w]
               rfl
              refine pureZ 10 (some 77) (yA 11 12) ?_;refine pureZ 11 (some 78) (yA 12 11) ?_;refine pureU 12 (some 79) (yA 13 10) ?_;refine pureU 13 (some 80) (yA 14 9) ?_;refine pureU 14 (some 81) (yA 15 8) ?_;refine pureU 15 (some 82) (yA 16 7) ?_;refine pureU 16 (some 83) (yA 17 6) ?_;refine pureU 17 (some 84) (yA 18 5) ?_;refine pureU 18 (some 85) (yA 19 4) ?_;refine pureU 19 (some 86) (yA 20 3) ?_;refine pureZ 20 (some 87) (yA 21 2) ?_;refine pureZ 21 (some 88) (yA 22 1) ?_;refine last_ (i:=22) (N:=none) (yA 23 0) rfl rfl (one_of HT_.out (by kernel_rfl)) (by decide) (fun K hK=>?_);refine skip_ (w1:=?_) (by rfl) rfl ?_ ?_;rotate_left
              ·go_simp
               rfl
              refine hK.out _ _ ?_;clear hK K;refine done_ (done_of HT_.out (by kernel_rfl)) ?_;try go_wp2
              (try simp only[←hl9_3])
              go_roundg k3
              case measure=>have:=HJ2.out;have:=HK2.out;have:=HK3.out;omega
              case rel=>exact⟨(y419),(wrap64 (x42_3+1)),zz0,H',⟨(zz108 HJ2 HK2 HK3)⟩,⟨(by(try simp only[hl9_3]);(with_reducible repeat(first|apply Kd.R_alloc|apply Kd.R_drewN|apply Kd.R_drew));exact Kd.R_mono (Kd.R_far (p:=⟨go70,(x42_3:Int).toNat,none⟩) (Kd.R_mono HO_7.out (fun k_ hk=>(⟨hk,fun e_=>hk (by rw[e_];rfl)⟩:_∧k_≠go70))) (fun _ hk=>hk.2) (.bool false)) (fun _ hk=>hk.1))⟩,⟨(zz110 HQ73)⟩,⟨(zz19 HB GB70)⟩⟩
            ·replace H:=iteNd H
             obtain⟨c74b0,H⟩:=H;replace H:=iteNd H;obtain⟨c75b0,H⟩:=H;obtain⟨y420,Ny420⟩:=toY (x9_3.set (x42_3:Int).toNat false);(first|with_reducible replace H:=bindZ Ny420 H|rw[←Ny420.out]at H|skip);have H':=A_ H;clear H;have p28:0≤(x8_2:Int):=ofD;have q28:x8_2<(t401.size:Int):=ofD;have hx28:=bt_at t401 x8_2;replace p28:=eq_true p28;replace q28:=eq_true q28;try go_wp2;replace HO_7:=A_ (Kd.R_drew HO_7.out);replace HO_9:=A_ (Kd.R_drew HO_9.out);replace HB:=A_ (below_drew1 HB.out);have p76:0≤(x42_3:Int):=ofD;have q76:(x42_3:Int)<((x9_3.length:Int):Int):=ofD;obtain⟨go76,co76,eo76,gb76,gl76,cl76,HG76⟩:=Kd.R_form HO_9.out (by omega);(first|cases eo76|(injection eo76 with ea_ en_ ec_;(first|subst ea_|(injection ea_ with ea_;subst ea_));subst ec_;clear en_));have GB76:=A_ gb76;have GG76:=A_ HG76;clear gb76 gl76 HG76;obtain⟨hx76_0,hf76_0⟩:=Kd.R_celln false HO_9.out (x42_3:Int) p76 q76;replace p76:=eq_true p76;replace q76:=eq_true q76;have HP78:=Kd.R_putn HO_9.out (x42_3:Int) false;rw[←Ny420.out]at HP78;have HQ78:=A_ HP78;clear HP78;refine start_ (n:=23) (S:=fun w'=>True) (ds:=[22]) #[yF,yF,yF,yF,yF,yF,yF,yF,yF,yF,yF,yF,yF,yF,yF,yF,yF,yF,yF,yF,yF,yF,yF] (by kernel_rfl) rfl rfl trivial (fun hHeld=>?_);refine with_tabW impl_RuleHas.tab15 impl_RuleHas.bits15 (fun HT_ HW_=>?_);generalize wr.drew=w77 at HO_7 HO_9 HB GG76 HQ78 hf76_0 hx76_0 hHeld ⊢;refine pureZ 0 (some 67) (yA 1 22) ?_;refine pureZ 1 (some 68) (yA 2 21) ?_;refine pureZ 2 (some 69) (yA 3 20) ?_;refine pureZ 3 (some 70) (yA 4 19) ?_;refine pureZ 4 (some 71) (yA 5 18) ?_;refine pureU 5 (some 72) (yA 6 17) ?_;refine pureU 6 (some 73) (yA 7 16) ?_;refine pureU 7 (some 74) (yA 8 15) ?_;refine pureU 8 (some 75) (yA 9 14) ?_;refine pureU 9 (some 76) (yA 10 13) ?_;refine pureZ 10 (some 77) (yA 11 12) ?_;refine pureZ 11 (some 78) (yA 12 11) ?_;refine pureU 12 (some 79) (yA 13 10) ?_;refine pureU 13 (some 80) (yA 14 9) ?_;refine pureU 14 (some 81) (yA 15 8) ?_;refine pureU 15 (some 82) (yA 16 7) ?_;refine pureU 16 (some 83) (yA 17 6) ?_;refine pureU 17 (some 84) (yA 18 5) ?_;refine pureU 18 (some 85) (yA 19 4) ?_;refine pureU 19 (some 86) (yA 20 3) ?_;refine pureZ 20 (some 87) (yA 21 2) ?_;refine pureZ 21 (some 88) (yA 22 1) ?_;refine last_ (i:=22) (N:=none) (yA 23 0) rfl rfl (one_of HT_.out (by kernel_rfl)) (by decide) (fun K hK=>?_);refine skip_ (w1:=?_) (by rfl) rfl ?_ ?_;rotate_left
             ·go_simp
              rfl
             refine hK.out _ _ ?_;clear hK K;refine done_ (done_of HT_.out (by kernel_rfl)) ?_;try go_wp2
             (try simp only[←hl9_3])
             go_roundg k3
             case measure=>have:=HJ2.out;have:=HK2.out;have:=HK3.out;omega
             case rel=>exact⟨(y420),(wrap64 (x42_3+1)),zz0,H',⟨(zz108 HJ2 HK2 HK3)⟩,⟨(by(try simp only[hl9_3]);(with_reducible repeat(first|apply Kd.R_alloc|apply Kd.R_drewN|apply Kd.R_drew));exact Kd.R_mono (Kd.R_far (p:=⟨go76,(x42_3:Int).toNat,none⟩) (Kd.R_mono HO_7.out (fun k_ hk=>(⟨hk,fun e_=>hk (by rw[e_];rfl)⟩:_∧k_≠go76))) (fun _ hk=>hk.2) (.bool false)) (fun _ hk=>hk.1))⟩,⟨(zz110 HQ78)⟩,⟨(zz19 HB GB76)⟩⟩
          ·have H':=A_ H
           clear H;have c25b1:=c25b0;try simp only[hl9_3]at c25b1;go_wp2
           (try simp only[←hl9_3])
           go_roundg k3
           case measure=>have:=HJ2.out;have:=HK2.out;have:=HK3.out;omega
           case rel=>exact⟨(x9_3),(wrap64 (x8_2+1)),zz0,H',⟨(zz108 HJ2 HK2 HK3)⟩,⟨(by(try simp only[hl9_3]);(with_reducible repeat(first|apply Kd.R_alloc|apply Kd.R_drewN|apply Kd.R_drew));exact Kd.R_mono HO_9.out (fun _ hk=>trivial))⟩,⟨(zz6 HB)⟩⟩
       ·replace H:=iteB H
        rcases H with⟨rfl,H⟩|⟨rfl,H⟩
        ·replace H:=iteN H
         obtain⟨c80,H⟩:=H;have c80b0:=dT c80;have c80b1:decide (0≤a1.size)=true:=dT (by omega);clear c80;replace H:=iteN H;obtain⟨c81,H⟩:=H;have c81b0:=dT c81;have c81b1:decide (a1.size<x7_2.length)=true:=dT (Int.ofNat_lt.mp c81);clear c81;obtain rfl:=sI H;obtain⟨Ao82,co82,eo82⟩:=Kd.R_slice HO_7.out;subst eo82;obtain⟨⟨ad407,e407,hx407_0⟩,p407,q407⟩:=atB (Kd.at_bool (Kd.R_reads' HO_7.out).2.2 (a1.size:Int));cases e407
         (try simp only[tN_]at hx407_0)
         go_wp2;go_ret;exact⟨zz41,(zz6 HB)⟩
        ·replace H:=bindA H
         obtain⟨t408,A83,H⟩:=H;obtain rfl:=sI H;obtain⟨Ao84,co84,eo84⟩:=Kd.R_slice HO_7.out;subst eo84;go_wp2_with (first|(refine gR 90 (some 98) Tryz.func90 (slices_Contains_bool_bool.calls k2 _ _ x7_2 true t408 _ ?side1 ?side2 A83.out) ?_;(case side1=>exact(zz46 HO_7));(case side2=>exact(Kd.R_reads' HO_7.out).2.1);rintro w' ⟨nd,rfl⟩));go_ret;exact⟨zz41,(zz6 HB)⟩
    ·exact absurd H (by simp)
def impl_RuleLets.l0:Nat→BA→Int→Bool→List (S93)→Int→Int→Option (Bool)
 |0,_,_,_,_,_,_=>none
 |k+1,x1,x5,x6,x10,x11,x12=>if x12<x11 then(if 0≤x12 then(if x12<(x10.length:Int)then((impl_RuleHas.f k ((rd_T93 x10 x12).f1) x1).bind fun t423=>(if t423=true then(if(((rd_T93 x10 x12).f1).size:Int)>x5 then(impl_RuleLets.l0 k x1 (((rd_T93 x10 x12).f1).size:Int) ((rd_T93 x10 x12).f0) x10 x11 (wrap64 (x12+1)))else(if(((rd_T93 x10 x12).f1).size:Int)=x5 then(if x6=true then(impl_RuleLets.l0 k x1 x5 true x10 x11 (wrap64 (x12+1)))else(impl_RuleLets.l0 k x1 x5 ((rd_T93 x10 x12).f0) x10 x11 (wrap64 (x12+1))))else(impl_RuleLets.l0 k x1 x5 x6 x10 x11 (wrap64 (x12+1)))))else(impl_RuleLets.l0 k x1 x5 x6 x10 x11 (wrap64 (x12+1)))))else(none))else(none))else(some x6)
def impl_RuleLets.f (k:Nat)(l0:List (S93))(a1:BA):Option (Bool):=impl_RuleLets.l0 k a1 0 true l0 (l0.length:Int) 0
theorem impl_RuleLets.calls (k:Nat)(A0:Option Addr)(c0:Nat)(l0:List (S93))(a1:BA)(r:Bool)(w:World)(hr0:Kd.C k93 w A0 l0.length l0)(hc0:l0.length≤c0)(h:impl_RuleLets.f k l0 a1=some r):
  Calls Tryz.prog 22 #[.slice A0 l0.length c0,.string a1] w fun e w'=>e=.returned (.bool r)∧Below w.heap.size w w':=by
 have hu93:=Tryz.underlying93;have HR0:=A_ hr0;have HC0:=A_ hc0;clear hr0 hc0;have HB:=A_ (Below.refl w.heap.size w);unfold impl_RuleLets.f at h;have H:=h;clear h;have H':=A_ H;clear H;go_enter Tryz.func22,Tryz.ntmps22;go_wp2
 repeat(go_quiet (fail);try go_wp2)
 go_loopg [5,6,12] k (fun kq v5 v6 v12 w'=>∃(x5_1:Int)(x6_1:Bool)(x12_1:Int),v5=.int .i64 x5_1∧v6=.bool x6_1∧v12=.int .i64 x12_1∧Aside0 (impl_RuleLets.l0 kq a1 x5_1 x6_1 l0 (l0.length:Int) x12_1=some r)∧Aside0 (kq≤k)∧Aside0 (Below w.heap.size w w'))
 case atStart=>exact⟨(0),(true),(0),zz0,zz0,zz0,H',⟨lL_ _⟩,⟨(zz6 HB)⟩⟩
 case round=>
  clear H';obtain⟨x5_1,x6_1,x12_1,rfl,rfl,rfl,HA,HK1,HB⟩:=hrel;cases gk with
  |zero=>exact absurd HA.out (by simp[impl_RuleLets.l0])
  |succ k1=>
   obtain⟨H⟩:=HA;simp only[impl_RuleLets.l0]at H;replace H:=iteEd H;rcases H with⟨c3b0,H⟩|⟨c3b0,H⟩
   ·replace H:=iteNd H
    obtain⟨c4b0,H⟩:=H;replace H:=iteNd H;obtain⟨c5b0,H⟩:=H;replace H:=bindA H;obtain⟨t423,A6,H⟩:=H;have HF7:=A_ H;clear H;obtain⟨⟨ad421,e421,hx421_0,hx421_1⟩,p421,q421⟩:=atB (at_T93 HR0.out x12_1);cases e421;obtain⟨hx421_0,hx421_1⟩:=cb2 HB hx421_0 hx421_1;go_upto_if 20 with(first|(refine boxF 8 #[.bool false,.string (⟨#[]⟩:BA)] 93 ?_;intro gb422 hg w8 BK422 hb;have GE422:=geB hg (zz6 HB);replace HB:=A_ (bS (zz6 HB) hb);clear hb hg;obtain⟨_,_,_,_⟩:=cf2 BK422)|(go_at_call 61;(with_reducible refine(impl_RuleHas.calls k1 ((rd_T93 l0 x12_1).f1) a1 t423 _ A6.out).mono ?_);rintro e w10 ⟨rfl,hb⟩;replace BK422:=A_ (bB (g:=gb422) (o:=.cells #[.bool ((rd_T93 l0 x12_1).f0),.string ((rd_T93 l0 x12_1).f1)] 93 (0,0)) (zz120 BK422) hb);replace HB:=A_ (bS (zz19 HB GE422) hb);(try clear hb)))
    repeat(go_quiet (first|(refine boxF 8 #[.bool false,.string (⟨#[]⟩:BA)] 93 ?_;intro gb422 hg w8 BK422 hb;have GE422:=geB hg (zz6 HB);replace HB:=A_ (bS (zz6 HB) hb);clear hb hg;obtain⟨_,_,_,_⟩:=cf2 BK422)|(go_at_call 61;(with_reducible refine(impl_RuleHas.calls k1 ((rd_T93 l0 x12_1).f1) a1 t423 _ A6.out).mono ?_);rintro e w10 ⟨rfl,hb⟩;replace BK422:=A_ (bB (g:=gb422) (o:=.cells #[.bool ((rd_T93 l0 x12_1).f0),.string ((rd_T93 l0 x12_1).f1)] 93 (0,0)) (zz120 BK422) hb);replace HB:=A_ (bS (zz19 HB GE422) hb);(try clear hb)));go_upto_if 20 with(first|(refine boxF 8 #[.bool false,.string (⟨#[]⟩:BA)] 93 ?_;intro gb422 hg w8 BK422 hb;have GE422:=geB hg (zz6 HB);replace HB:=A_ (bS (zz6 HB) hb);clear hb hg;obtain⟨_,_,_,_⟩:=cf2 BK422)|(go_at_call 61;(with_reducible refine(impl_RuleHas.calls k1 ((rd_T93 l0 x12_1).f1) a1 t423 _ A6.out).mono ?_);rintro e w10 ⟨rfl,hb⟩;replace BK422:=A_ (bB (g:=gb422) (o:=.cells #[.bool ((rd_T93 l0 x12_1).f0),.string ((rd_T93 l0 x12_1).f1)] 93 (0,0)) (zz120 BK422) hb);replace HB:=A_ (bS (zz19 HB GE422) hb);(try clear hb))))
    obtain⟨H⟩:=HF7;replace H:=iteB H;rcases H with⟨rfl,H⟩|⟨rfl,H⟩
    ·replace H:=iteE H
     rcases H with⟨c12,H⟩|⟨c12,H⟩
     ·have c12b0:=gtT c12
      clear c12;(first|rw[c12b0]|(simp only[i64_w,i32_w];rw[c12b0])|skip);have H':=A_ H;clear H;obtain⟨_,_,_,_⟩:=cf2 BK422;go_wp2
      repeat(go_quiet (fail);try go_wp2)
      go_roundg k1
      case measure=>have:=HK1.out;omega
      case rel=>exact⟨((((rd_T93 l0 x12_1).f1).size:Int)),((rd_T93 l0 x12_1).f0),(wrap64 (x12_1+1)),zz0,zz0,zz0,H',⟨(zz4 HK1)⟩,⟨(zz19 HB GE422)⟩⟩
     ·have c12b0:=gtF c12
      clear c12;(first|rw[c12b0]|(simp only[i64_w,i32_w];rw[c12b0])|skip);replace H:=iteEq H;rcases H with⟨c14b0,c14b1,H⟩|⟨c14b0,c14b1,c14,H⟩
      ·replace H:=iteB H
       rcases H with⟨rfl,H⟩|⟨rfl,H⟩
       ·have H':=A_ H
        clear H;obtain⟨_,_,_,_⟩:=cf2 BK422;go_wp2
        repeat(go_quiet (fail);try go_wp2)
        go_roundg k1
        case measure=>have:=HK1.out;omega
        case rel=>exact⟨(x5_1),(true),(wrap64 (x12_1+1)),zz0,zz0,zz0,H',⟨(zz4 HK1)⟩,⟨(zz19 HB GE422)⟩⟩
       ·have H':=A_ H
        clear H;obtain⟨_,_,_,_⟩:=cf2 BK422;go_wp2
        repeat(go_quiet (fail);try go_wp2)
        go_roundg k1
        case measure=>have:=HK1.out;omega
        case rel=>exact⟨(x5_1),((rd_T93 l0 x12_1).f0),(wrap64 (x12_1+1)),zz0,zz0,zz0,H',⟨(zz4 HK1)⟩,⟨(zz19 HB GE422)⟩⟩
      ·have H':=A_ H
       clear H;obtain⟨_,_,_,_⟩:=cf2 BK422;go_wp2
       repeat(go_quiet (fail);try go_wp2)
       go_roundg k1
       case measure=>have:=HK1.out;omega
       case rel=>exact⟨(x5_1),(x6_1),(wrap64 (x12_1+1)),zz0,zz0,zz0,H',⟨(zz4 HK1)⟩,⟨(zz19 HB GE422)⟩⟩
    ·have H':=A_ H
     clear H;go_wp2
     repeat(go_quiet (fail);try go_wp2)
     go_roundg k1
     case measure=>have:=HK1.out;omega
     case rel=>exact⟨(x5_1),(x6_1),(wrap64 (x12_1+1)),zz0,zz0,zz0,H',⟨(zz4 HK1)⟩,⟨(zz19 HB GE422)⟩⟩
   ·obtain rfl:=sI H
    go_wp2
    repeat(go_quiet (fail);try go_wp2)
    go_ret;exact⟨zz9,(zz6 HB)⟩
mutual
def spec_NoticeOk.l0:Nat→List (S32)→Int→Int→Option (Bool)
 |0,_,_,_=>none
 |k+1,x0,x3,x4=>if x4<(x0.length:Int)then(if 0≤x4 then(if(((rd_T32 x0 x4).f0).length:Int)=0 then(spec_NoticeOk.j1 k x0 x3 x4 true ((rd_T32 x0 x4).f0) ((rd_T32 x0 x4).f1) ((rd_T32 x0 x4).f2))else(if(((rd_T32 x0 x4).f1).length:Int)=0 then(if((rd_T32 x0 x4).f2)=0 then(spec_NoticeOk.j1 k x0 x3 x4 true ((rd_T32 x0 x4).f0) ((rd_T32 x0 x4).f1) ((rd_T32 x0 x4).f2))else(if(((rd_T32 x0 x4).f1).length:Int)>6 then(spec_NoticeOk.j1 k x0 x3 x4 true ((rd_T32 x0 x4).f0) ((rd_T32 x0 x4).f1) ((rd_T32 x0 x4).f2))else((spec_l6In.f ((rd_T32 x0 x4).f2) 0 20).bind fun t706=>(spec_NoticeOk.j1 k x0 x3 x4 (!t706) ((rd_T32 x0 x4).f0) ((rd_T32 x0 x4).f1) ((rd_T32 x0 x4).f2)))))else(if(((rd_T32 x0 x4).f1).length:Int)>6 then(spec_NoticeOk.j1 k x0 x3 x4 true ((rd_T32 x0 x4).f0) ((rd_T32 x0 x4).f1) ((rd_T32 x0 x4).f2))else((spec_l6In.f ((rd_T32 x0 x4).f2) 0 20).bind fun t707=>(spec_NoticeOk.j1 k x0 x3 x4 (!t707) ((rd_T32 x0 x4).f0) ((rd_T32 x0 x4).f1) ((rd_T32 x0 x4).f2))))))else(none))else(some (decide (x3≤40)))
def spec_NoticeOk.j1:Nat→List (S32)→Int→Int→Bool→List BA→List (S93)→Int→Option (Bool)
 |0,_,_,_,_,_,_,_=>none
 |k+1,x0,x3,x4,x44,x706000,x706001,x706002=>if x44=true then(some false)else(spec_NoticeOk.l1 k x0 x3 x4 0 x706000 x706001 x706002)
def spec_NoticeOk.l1:Nat→List (S32)→Int→Int→Int→List BA→List (S93)→Int→Option (Bool)
 |0,_,_,_,_,_,_,_=>none
 |k+1,x0,x3,x4,x6,x706000,x706001,x706002=>if x6<(x706000.length:Int)then(if 0≤x6 then(if(rdOf bE_ x706000 x6).toList=([42]:List UInt8)then(spec_NoticeOk.l1 k x0 x3 x4 (wrap64 (x6+1)) x706000 x706001 x706002)else((spec_l2Name.f k (rdOf bE_ x706000 x6)).bind fun t710=>(if t710=true then(spec_NoticeOk.l1 k x0 x3 x4 (wrap64 (x6+1)) x706000 x706001 x706002)else(some false))))else(none))else(spec_NoticeOk.l2 k x0 x3 x4 0 x706000 x706001 x706002)
def spec_NoticeOk.l2:Nat→List (S32)→Int→Int→Int→List BA→List (S93)→Int→Option (Bool)
 |0,_,_,_,_,_,_,_=>none
 |k+1,x0,x3,x4,x7,x706000,x706001,x706002=>if x7<(x706001.length:Int)then(if 0≤x7 then((spec_RuleOk.f k ((rd_T93 x706001 x7).f1)).bind fun t712=>(if t712=true then(spec_NoticeOk.l2 k x0 x3 x4 (wrap64 (x7+1)) x706000 x706001 x706002)else(some false)))else(none))else(spec_NoticeOk.l0 k x0 (wrap64 ((wrap64 ((wrap64 (x3+(x706000.length:Int)))+(x706001.length:Int)))+1)) (wrap64 (x4+1)))
end
def spec_NoticeOk.f (k:Nat)(l0:List (S32)):Option (Bool):=spec_NoticeOk.l0 k l0 0 0
theorem spec_NoticeOk.calls (k:Nat)(A0:Option Addr)(c0:Nat)(l0:List (S32))(r:Bool)(w:World)(hr0:Kd.C k32 w A0 l0.length l0)(hc0:l0.length≤c0)(h:spec_NoticeOk.f k l0=some r):
  Calls Tryz.prog 139 #[.slice A0 l0.length c0] w fun e w'=>e=.returned (.bool r)∧Below w.heap.size w w':=by
 have hu32:=Tryz.underlying32;have HR0:=A_ hr0;have HC0:=A_ hc0;clear hr0 hc0;have HB:=A_ (Below.refl w.heap.size w);unfold spec_NoticeOk.f at h;have H:=h;clear h;have H':=A_ H;clear H;go_enter Tryz.func139,Tryz.ntmps139;go_wp2
 go_loopg [3,4] k (fun kq v3 v4 w'=>∃(x3_1:Int)(x4_1:Int),v3=.int .i64 x3_1∧v4=.int .i64 x4_1∧Aside0 (spec_NoticeOk.l0 kq l0 x3_1 x4_1=some r)∧Aside0 (kq≤k)∧Aside0 (Below w.heap.size w w'))
 case atStart=>exact⟨(0),(0),zz0,zz0,H',⟨lL_ _⟩,⟨(zz6 HB)⟩⟩
 case round=>
  clear H';obtain⟨x3_1,x4_1,rfl,rfl,HA,HK1,HB⟩:=hrel;cases gk with
  |zero=>exact absurd HA.out (by simp[spec_NoticeOk.l0])
  |succ k1=>
   obtain⟨H⟩:=HA;simp only[spec_NoticeOk.l0]at H;replace H:=iteEd H;rcases H with⟨c2b0,H⟩|⟨c2b0,H⟩
   ·replace H:=iteNd H
    obtain⟨c3b0,H⟩:=H;have HC4:=A_ H;clear H;obtain⟨⟨ad704,A704_0,c704_0,A704_1,c704_1,e704,hx704_0,hx704_1,hx704_2,hl704_0,hi704_0,hl704_1,hi704_1⟩,p704,q704⟩:=atB (at_T32 HR0.out x4_1);cases e704;obtain⟨hx704_0,hx704_1,hx704_2⟩:=cb3 HB hx704_0 hx704_1 hx704_2;have HR704_0:=A_ hi704_0;have HC704_0:=A_ hl704_0;clear hi704_0 hl704_0;have HR704_1:=A_ hi704_1;have HC704_1:=A_ hl704_1;clear hi704_1 hl704_1;go_upto_region 6 with(first|((with_reducible refine gD (N:=5) rfl ?_);(try(refine gate_guard (by rfl) ?_;dsimp only));refine boxE 5 #[.slice none 0 0,.slice none 0 0,.int .i64 0] 32 ?_;intro gb705 hg w5 hbox hb;have BK705:=A_ (hbox);have GE705:=geB hg (zz6 HB);replace HB:=A_ (bS (zz6 HB) hb);clear hb hbox hg;obtain⟨_,_,_,_,_,_⟩:=cf3 BK705))
    (try simp only[Act.put,lS_,l0_,lC_])
    go_cut [44] (fun v44 wc=>∃(kq:Nat)(x44_3:Bool),v44=.bool x44_3∧Aside0 (spec_NoticeOk.j1 kq l0 x3_1 x4_1 x44_3 ((rd_T32 l0 x4_1).f0) ((rd_T32 l0 x4_1).f1) ((rd_T32 l0 x4_1).f2)=some r)∧Aside0 (kq≤k1)∧Aside0 (wc.heap[gb705]?=some (.cells #[(.slice A704_0 ((rd_T32 l0 x4_1).f0).length c704_0),(.slice A704_1 ((rd_T32 l0 x4_1).f1).length c704_1),.int .i64 ((rd_T32 l0 x4_1).f2)] 32 (0,0)))∧Aside0 (Below w.heap.size w wc))
    case first=>
     obtain⟨H⟩:=HC4;replace H:=iteEq H;rcases H with⟨c7b0,c7b1,H⟩|⟨c7b0,c7b1,c7,H⟩
     ·(first|rw[c7b0]|(simp only[i64_w,i32_w];rw[c7b0])|skip)
      have H':=A_ H;clear H;obtain⟨_,_,_,_,_,_⟩:=cf3 BK705;go_wp2
      go_meet
      case rel=>exact⟨_,(true),zz0,H',⟨(zz12 HK1)⟩,⟨(zz25 BK705)⟩,⟨(zz19 HB GE705)⟩⟩
     ·have c7b2:¬(((rd_T32 l0 x4_1).f0)=[]):=fun h_=>c7 (by rw[h_];rfl)
      (first|rw[c7b0]|(simp only[i64_w,i32_w];rw[c7b0])|skip)
      replace H:=iteEq H;rcases H with⟨c9b0,c9b1,H⟩|⟨c9b0,c9b1,c9,H⟩
      ·replace H:=iteEq H
       rcases H with⟨c10b0,c10b1,H⟩|⟨c10b0,c10b1,c10,H⟩
       ·have H':=A_ H
        clear H;obtain⟨_,_,_,_,_,_⟩:=cf3 BK705;go_wp2
        go_meet
        case rel=>exact⟨_,(true),zz0,H',⟨(zz12 HK1)⟩,⟨(zz25 BK705)⟩,⟨(zz19 HB GE705)⟩⟩
       ·replace H:=iteE H
        rcases H with⟨c12,H⟩|⟨c12,H⟩
        ·have c12b0:=gtT c12
         have c12b1:decide (6<((rd_T32 l0 x4_1).f1).length)=true:=dT (by omega);clear c12;have H':=A_ H;clear H;obtain⟨_,_,_,_,_,_⟩:=cf3 BK705;go_wp2
         go_meet
         case rel=>exact⟨_,(true),zz0,H',⟨(zz12 HK1)⟩,⟨(zz25 BK705)⟩,⟨(zz19 HB GE705)⟩⟩
        ·have c12b0:=gtF c12
         have c12b1:decide (6<((rd_T32 l0 x4_1).f1).length)=false:=dF (by omega);clear c12;replace H:=bindA H;obtain⟨t706,A14,H⟩:=H;have H':=A_ H;clear H;obtain⟨_,_,_,_,_,_⟩:=cf3 BK705;go_wp2_with (first|(go_at_call 65;(with_reducible refine(spec_l6In.calls ((rd_T32 l0 x4_1).f2) 0 20 t706 _ A14.out).mono ?_);rintro e w' ⟨rfl,⟨nd,rfl⟩⟩))
         go_meet
         case rel=>exact⟨_,(!t706),zz0,H',⟨(zz12 HK1)⟩,⟨(zz25 BK705)⟩,⟨(zz19 HB GE705)⟩⟩
      ·have c9b2:¬(((rd_T32 l0 x4_1).f1)=[]):=fun h_=>c9 (by rw[h_];rfl)
       replace H:=iteE H;rcases H with⟨c16,H⟩|⟨c16,H⟩
       ·have c16b0:=gtT c16
        have c16b1:decide (6<((rd_T32 l0 x4_1).f1).length)=true:=dT (by omega);clear c16;have H':=A_ H;clear H;obtain⟨_,_,_,_,_,_⟩:=cf3 BK705;go_wp2
        go_meet
        case rel=>exact⟨_,(true),zz0,H',⟨(zz12 HK1)⟩,⟨(zz25 BK705)⟩,⟨(zz19 HB GE705)⟩⟩
       ·have c16b0:=gtF c16
        have c16b1:decide (6<((rd_T32 l0 x4_1).f1).length)=false:=dF (by omega);clear c16;replace H:=bindA H;obtain⟨t707,A18,H⟩:=H;have H':=A_ H;clear H;obtain⟨_,_,_,_,_,_⟩:=cf3 BK705;go_wp2_with (first|(go_at_call 65;(with_reducible refine(spec_l6In.calls ((rd_T32 l0 x4_1).f2) 0 20 t707 _ A18.out).mono ?_);rintro e w' ⟨rfl,⟨nd,rfl⟩⟩))
        go_meet
        case rel=>exact⟨_,(!t707),zz0,H',⟨(zz12 HK1)⟩,⟨(zz25 BK705)⟩,⟨(zz19 HB GE705)⟩⟩
    case rest=>
     clear HC4;obtain⟨kq,x44_3,rfl,HA,HJ3,BK705,HB⟩:=hcut;cases kq with
     |zero=>exact absurd HA.out (by simp[spec_NoticeOk.j1])
     |succ kj3=>
      obtain⟨H⟩:=HA;simp only[spec_NoticeOk.j1]at H;replace H:=iteB H;rcases H with⟨rfl,H⟩|⟨rfl,H⟩
      ·obtain rfl:=sI H
       go_wp2;go_ret;exact⟨zz9,(zz19 HB GE705)⟩
      ·have H':=A_ H
       clear H;go_wp2
       go_loopg [6] kj3 (fun kq v6 w'=>∃(x6_3:Int),v6=.int .i64 x6_3∧Aside0 (spec_NoticeOk.l1 kq l0 x3_1 x4_1 x6_3 ((rd_T32 l0 x4_1).f0) ((rd_T32 l0 x4_1).f1) ((rd_T32 l0 x4_1).f2)=some r)∧Aside0 (kq≤kj3)∧Aside0 (w'.heap[gb705]?=some (.cells #[(.slice A704_0 ((rd_T32 l0 x4_1).f0).length c704_0),(.slice A704_1 ((rd_T32 l0 x4_1).f1).length c704_1),.int .i64 ((rd_T32 l0 x4_1).f2)] 32 (0,0)))∧Aside0 (Below w.heap.size w w'))
       case atStart=>exact⟨(0),zz0,H',⟨lL_ _⟩,⟨(zz18 BK705)⟩,⟨(zz19 HB GE705)⟩⟩
       case round=>
        clear H';obtain⟨x6_3,rfl,HA,HK3,BK705,HB⟩:=hrel;cases gk with
        |zero=>exact absurd HA.out (by simp[spec_NoticeOk.l1])
        |succ k3=>
         obtain⟨H⟩:=HA;simp only[spec_NoticeOk.l1]at H;replace H:=iteEd H;rcases H with⟨c21b0,H⟩|⟨c21b0,H⟩
         ·replace H:=iteNd H
          obtain⟨c22b0,H⟩:=H;replace H:=iteEq H;rcases H with⟨c23b0,c23b1,H⟩|⟨c23b0,c23b1,c23,H⟩
          ·have H':=A_ H
           clear H;obtain⟨_,_,_,_,_,_⟩:=cf3 BK705;obtain⟨⟨ad708,e708,hx708_0⟩,p708,q708⟩:=atB (Kd.at_string HR704_0.out x6_3);cases e708;replace hx708_0:=cbl HB hx708_0;go_wp2
           go_roundg k3
           case measure=>have:=HK1.out;have:=HJ3.out;have:=HK3.out;omega
           case rel=>exact⟨(wrap64 (x6_3+1)),zz0,H',⟨(zz108 HK1 HJ3 HK3)⟩,⟨(zz18 BK705)⟩,⟨(zz19 HB GE705)⟩⟩
          ·replace H:=bindA H
           obtain⟨t710,A25,H⟩:=H;have HF26:=A_ H;clear H;obtain⟨_,_,_,_,_,_⟩:=cf3 BK705;obtain⟨⟨ad708,e708,hx708_0⟩,p708,q708⟩:=atB (Kd.at_string HR704_0.out x6_3);cases e708;replace hx708_0:=cbl HB hx708_0;obtain⟨⟨ad709,e709,hx709_0⟩,p709,q709⟩:=atB (Kd.at_string HR704_0.out x6_3);obtain rfl:ad708=ad709:=(by injection e709);replace hx709_0:=cbl HB hx709_0;go_upto_if 66 with(first|(go_at_call 26;(with_reducible refine(spec_l2Name.calls k3 (rdOf bE_ ((rd_T32 l0 x4_1).f0) x6_3) t710 _ A25.out).mono ?_);rintro e w' ⟨rfl,⟨nd,rfl⟩⟩))
           obtain⟨H⟩:=HF26;replace H:=iteB H;rcases H with⟨rfl,H⟩|⟨rfl,H⟩
           ·have H':=A_ H
            clear H;go_wp2
            go_roundg k3
            case measure=>have:=HK1.out;have:=HJ3.out;have:=HK3.out;omega
            case rel=>exact⟨(wrap64 (x6_3+1)),zz0,H',⟨(zz108 HK1 HJ3 HK3)⟩,⟨(zz18 BK705)⟩,⟨(zz19 HB GE705)⟩⟩
           ·obtain rfl:=sI H
            go_wp2;go_ret;exact⟨zz9,(zz19 HB GE705)⟩
         ·have H':=A_ H
          clear H;obtain⟨_,_,_,_,_,_⟩:=cf3 BK705;go_wp2
          go_loopg [7] k3 (fun kq v7 w'=>∃(x7_4:Int),v7=.int .i64 x7_4∧Aside0 (spec_NoticeOk.l2 kq l0 x3_1 x4_1 x7_4 ((rd_T32 l0 x4_1).f0) ((rd_T32 l0 x4_1).f1) ((rd_T32 l0 x4_1).f2)=some r)∧Aside0 (kq≤k3)∧Aside0 (w'.heap[gb705]?=some (.cells #[(.slice A704_0 ((rd_T32 l0 x4_1).f0).length c704_0),(.slice A704_1 ((rd_T32 l0 x4_1).f1).length c704_1),.int .i64 ((rd_T32 l0 x4_1).f2)] 32 (0,0)))∧Aside0 (Below w.heap.size w w'))
          case atStart=>exact⟨(0),zz0,H',⟨lL_ _⟩,⟨(zz18 BK705)⟩,⟨(zz19 HB GE705)⟩⟩
          case round=>
           clear H';obtain⟨x7_4,rfl,HA,HK4,BK705,HB⟩:=hrel;cases gk with
           |zero=>exact absurd HA.out (by simp[spec_NoticeOk.l2])
           |succ k4=>
            obtain⟨H⟩:=HA;simp only[spec_NoticeOk.l2]at H;replace H:=iteEd H;rcases H with⟨c30b0,H⟩|⟨c30b0,H⟩
            ·replace H:=iteNd H
             obtain⟨c31b0,H⟩:=H;replace H:=bindA H;obtain⟨t712,A32,H⟩:=H;have HF33:=A_ H;clear H;obtain⟨_,_,_,_,_,_⟩:=cf3 BK705;obtain⟨⟨ad711,e711,hx711_0,hx711_1⟩,p711,q711⟩:=atB (at_T93 HR704_1.out x7_4);cases e711;obtain⟨hx711_0,hx711_1⟩:=cb2 HB hx711_0 hx711_1;go_upto_if 81 with(first|(refine gR 123 (some 80) Tryz.func123 (spec_RuleOk.calls k4 ((rd_T93 ((rd_T32 l0 x4_1).f1) x7_4).f1) t712 _ A32.out) ?_;rintro w' ⟨nd,rfl⟩))
             obtain⟨H⟩:=HF33;replace H:=iteB H;rcases H with⟨rfl,H⟩|⟨rfl,H⟩
             ·have H':=A_ H
              clear H;go_wp2
              go_roundg k4
              case measure=>have:=HK1.out;have:=HJ3.out;have:=HK3.out;have:=HK4.out;omega
              case rel=>exact⟨(wrap64 (x7_4+1)),zz0,H',⟨(by have:=HK1.out;have:=HJ3.out;have:=HK3.out;have:=HK4.out;omega)⟩,⟨(zz18 BK705)⟩,⟨(zz19 HB GE705)⟩⟩
             ·obtain rfl:=sI H
              go_wp2;go_ret;exact⟨zz9,(zz19 HB GE705)⟩
            ·have H':=A_ H
             clear H;obtain⟨_,_,_,_,_,_⟩:=cf3 BK705;go_wp2
             go_roundg k4
             case measure=>have:=HK1.out;have:=HJ3.out;have:=HK3.out;have:=HK4.out;omega
             case rel=>exact⟨(wrap64 ((wrap64 ((wrap64 (x3_1+(((rd_T32 l0 x4_1).f0).length:Int)))+(((rd_T32 l0 x4_1).f1).length:Int)))+1)),(wrap64 (x4_1+1)),zz0,zz0,H',⟨(by have:=HK1.out;have:=HJ3.out;have:=HK3.out;have:=HK4.out;omega)⟩,⟨(zz19 HB GE705)⟩⟩
   ·obtain rfl:=sI H
    go_wp2;go_ret;exact⟨zz9,(zz6 HB)⟩
mutual
def spec_NoticeText.l0:Nat→List (S32)→BA→Int→Option (BA)
 |0,_,_,_=>none
 |k+1,x0,x3,x4=>if x4<(x0.length:Int)then(spec_NoticeText.l1 k x0 x3 x4 0)else(some x3)
def spec_NoticeText.l1:Nat→List (S32)→BA→Int→Int→Option (BA)
 |0,_,_,_,_=>none
 |k+1,x0,x3,x4,x5=>if 0≤x4 then(if x4<(x0.length:Int)then(if x5<(((rd_T32 x0 x4).f0).length:Int)then(if x3.size+7≤9223372036854775807 then(if 0≤x5 then(if x3.size+7+(rdOf bE_ ((rd_T32 x0 x4).f0) x5).size≤9223372036854775807 then(if x3.size+7+(rdOf bE_ ((rd_T32 x0 x4).f0) x5).size+1≤9223372036854775807 then(spec_NoticeText.l1 k x0 (((x3++(⟨#[99,97,108,108,101,114,32]⟩:BA))++(rdOf bE_ ((rd_T32 x0 x4).f0) x5))++(⟨#[10]⟩:BA)) x4 (wrap64 (x5+1)))else(none))else(none))else(none))else(none))else(spec_NoticeText.l2 k x0 x3 x4 0))else(none))else(none)
def spec_NoticeText.l2:Nat→List (S32)→BA→Int→Int→Option (BA)
 |0,_,_,_,_=>none
 |k+1,x0,x3,x4,x6=>if 0≤x4 then(if x4<(x0.length:Int)then(if x6<(((rd_T32 x0 x4).f1).length:Int)then(if 0≤x6 then(if(rd_T93 ((rd_T32 x0 x4).f1) x6).f0=true then(if x3.size+4≤9223372036854775807 then(if x3.size+4+((rd_T93 ((rd_T32 x0 x4).f1) x6).f1).size≤9223372036854775807 then(if x3.size+4+((rd_T93 ((rd_T32 x0 x4).f1) x6).f1).size+1≤9223372036854775807 then(spec_NoticeText.l2 k x0 (((x3++(⟨#[108,101,116,32]⟩:BA))++((rd_T93 ((rd_T32 x0 x4).f1) x6).f1))++(⟨#[10]⟩:BA)) x4 (wrap64 (x6+1)))else(none))else(none))else(none))else(if x3.size+4≤9223372036854775807 then(if x3.size+4+((rd_T93 ((rd_T32 x0 x4).f1) x6).f1).size≤9223372036854775807 then(if x3.size+4+((rd_T93 ((rd_T32 x0 x4).f1) x6).f1).size+1≤9223372036854775807 then(spec_NoticeText.l2 k x0 (((x3++(⟨#[98,97,114,32]⟩:BA))++((rd_T93 ((rd_T32 x0 x4).f1) x6).f1))++(⟨#[10]⟩:BA)) x4 (wrap64 (x6+1)))else(none))else(none))else(none)))else(none))else(if((rd_T32 x0 x4).f2)>0 then(if x3.size+5≤9223372036854775807 then((spec_l6Dec.f k ((rd_T32 x0 x4).f2)).bind fun t726=>(if x3.size+5+t726.size≤9223372036854775807 then(if x3.size+5+t726.size+1≤9223372036854775807 then(spec_NoticeText.l0 k x0 (((x3++(⟨#[119,97,105,116,32]⟩:BA))++t726)++(⟨#[10]⟩:BA)) (wrap64 (x4+1)))else(none))else(none)))else(none))else(spec_NoticeText.l0 k x0 x3 (wrap64 (x4+1)))))else(none))else(none)
end
def spec_NoticeText.f (k:Nat)(l0:List (S32)):Option (BA):=(spec_NoticeOk.f k l0).bind fun t713=>(if t713=true then(spec_NoticeText.l0 k l0 (⟨#[]⟩:BA) 0)else(some (⟨#[]⟩:BA)))
theorem spec_NoticeText.calls (k:Nat)(A0:Option Addr)(c0:Nat)(l0:List (S32))(r:BA)(w:World)(hr0:Kd.C k32 w A0 l0.length l0)(hc0:l0.length≤c0)(h:spec_NoticeText.f k l0=some r):
  Calls Tryz.prog 108 #[.slice A0 l0.length c0] w fun e w'=>e=.returned (.string r)∧Below w.heap.size w w':=by
 have HR0:=A_ hr0;have HC0:=A_ hc0;clear hr0 hc0;have HB:=A_ (Below.refl w.heap.size w);unfold spec_NoticeText.f at h;have H:=h;clear h;replace H:=bindA H;obtain⟨t713,A2,H⟩:=H;have HF3:=A_ H;clear H;go_enter Tryz.func108,Tryz.ntmps108;go_upto_if 10 with(first|(refine gR 139 (some 9) Tryz.func139 (spec_NoticeOk.calls k _ _ l0 t713 _ ?side1 ?side2 A2.out) ?_;(case side1=>exact(zz84 HR0));(case side2=>exact HC0.out);rintro w4 hb;replace HB:=A_ (bS (zz6 HB) hb);(try clear hb)))
 obtain⟨H⟩:=HF3;replace H:=iteB H;rcases H with⟨rfl,H⟩|⟨rfl,H⟩
 ·have H':=A_ H
  clear H;go_wp2
  go_loopg [3,4] k (fun kq v3 v4 w'=>∃(x3_1:BA)(x4_1:Int),v3=.string x3_1∧v4=.int .i64 x4_1∧Aside0 (spec_NoticeText.l0 kq l0 x3_1 x4_1=some r)∧Aside0 (kq≤k)∧Aside0 (Below w.heap.size w w'))
  case atStart=>exact⟨((⟨#[]⟩:BA)),(0),zz0,zz0,H',⟨lL_ _⟩,⟨(zz6 HB)⟩⟩
  case round=>
   clear H';obtain⟨x3_1,x4_1,rfl,rfl,HA,HK1,HB⟩:=hrel;cases gk with
   |zero=>exact absurd HA.out (by simp[spec_NoticeText.l0])
   |succ k1=>
    obtain⟨H⟩:=HA;simp only[spec_NoticeText.l0]at H;replace H:=iteEd H;rcases H with⟨c6b0,H⟩|⟨c6b0,H⟩
    ·(first|rw[c6b0]|(simp only[i64_w,i32_w];rw[c6b0])|skip)
     have H':=A_ H;clear H;go_wp2
     go_loopg [3,5] k1 (fun kq v3 v5 w'=>∃(x3_2:BA)(x5_2:Int),v3=.string x3_2∧v5=.int .i64 x5_2∧Aside0 (spec_NoticeText.l1 kq l0 x3_2 x4_1 x5_2=some r)∧Aside0 (kq≤k1)∧Aside0 (Below w.heap.size w w'))
     case atStart=>exact⟨(x3_1),(0),zz0,zz0,H',⟨lL_ _⟩,⟨(zz6 HB)⟩⟩
     case round=>
      clear H';obtain⟨x3_2,x5_2,rfl,rfl,HA,HK2,HB⟩:=hrel;cases gk with
      |zero=>exact absurd HA.out (by simp[spec_NoticeText.l1])
      |succ k2=>
       obtain⟨H⟩:=HA;simp only[spec_NoticeText.l1]at H;replace H:=iteNd H;obtain⟨c7b0,H⟩:=H;replace H:=iteNd H;obtain⟨c8b0,H⟩:=H;replace H:=iteEd H;rcases H with⟨c9b0,H⟩|⟨c9b0,H⟩
       ·replace H:=iteN H
        obtain⟨c10,H⟩:=H;have c10b0:=eq_true c10;have c10b1:=dT c10;try have c10b2:(9223372036854775807<x3_2.size+7)=False:=eq_false (nL_.2 c10);replace H:=iteNd H;obtain⟨c11b0,H⟩:=H;replace H:=iteN H;obtain⟨c12,H⟩:=H;have c12b0:=eq_true c12;have c12b1:=dT c12;try have c12b2:(9223372036854775807<x3_2.size+7+(rdOf bE_ ((rd_T32 l0 x4_1).f0) x5_2).size)=False:=eq_false (nL_.2 c12);replace H:=iteN H;obtain⟨c13,H⟩:=H;have c13b0:=eq_true c13;have c13b1:=dT c13;try have c13b2:(9223372036854775807<x3_2.size+7+(rdOf bE_ ((rd_T32 l0 x4_1).f0) x5_2).size+1)=False:=eq_false (nL_.2 c13);have H':=A_ H;clear H;obtain⟨⟨ad714,A714_0,c714_0,A714_1,c714_1,e714,hx714_0,hx714_1,hx714_2,hl714_0,hi714_0,hl714_1,hi714_1⟩,p714,q714⟩:=atB (at_T32 HR0.out x4_1);cases e714;obtain⟨hx714_0,hx714_1,hx714_2⟩:=cb3 HB hx714_0 hx714_1 hx714_2;have HR714_0:=A_ hi714_0;have HC714_0:=A_ hl714_0;clear hi714_0 hl714_0;have HR714_1:=A_ hi714_1;have HC714_1:=A_ hl714_1;clear hi714_1 hl714_1;obtain⟨⟨ad715,A715_0,c715_0,A715_1,c715_1,e715,hx715_0,hx715_1,hx715_2,hl715_0,hi715_0,hl715_1,hi715_1⟩,p715,q715⟩:=atB (at_T32 HR0.out x4_1);obtain rfl:ad714=ad715:=(by injection e715);obtain⟨hx715_0,hx715_1,hx715_2⟩:=cb3 HB hx715_0 hx715_1 hx715_2;have HR715_0:=A_ hi715_0;have HC715_0:=A_ hl715_0;clear hi715_0 hl715_0;have HR715_1:=A_ hi715_1;have HC715_1:=A_ hl715_1;clear hi715_1 hl715_1;have ea_:=sI (hx714_0.symm.trans hx715_0);injection ea_ with ea_ en_ ec_;subst ea_;subst ec_;clear en_;have ea_:=sI (hx714_1.symm.trans hx715_1);injection ea_ with ea_ en_ ec_;subst ea_;subst ec_;clear en_;obtain⟨⟨ad716,e716,hx716_0⟩,p716,q716⟩:=atB (Kd.at_string HR715_0.out x5_2);cases e716;replace hx716_0:=cbl HB hx716_0;go_wp2
        go_roundg k2
        case measure=>have:=HK1.out;have:=HK2.out;omega
        case rel=>exact⟨(((x3_2++(⟨#[99,97,108,108,101,114,32]⟩:BA))++(rdOf bE_ ((rd_T32 l0 x4_1).f0) x5_2))++(⟨#[10]⟩:BA)),(wrap64 (x5_2+1)),zz0,zz0,H',⟨(zz16 HK1 HK2)⟩,⟨(zz6 HB)⟩⟩
       ·have H':=A_ H
        clear H;obtain⟨⟨ad714,A714_0,c714_0,A714_1,c714_1,e714,hx714_0,hx714_1,hx714_2,hl714_0,hi714_0,hl714_1,hi714_1⟩,p714,q714⟩:=atB (at_T32 HR0.out x4_1);cases e714;obtain⟨hx714_0,hx714_1,hx714_2⟩:=cb3 HB hx714_0 hx714_1 hx714_2;have HR714_0:=A_ hi714_0;have HC714_0:=A_ hl714_0;clear hi714_0 hl714_0;have HR714_1:=A_ hi714_1;have HC714_1:=A_ hl714_1;clear hi714_1 hl714_1;go_wp2
        go_loopg [3,6] k2 (fun kq v3 v6 w'=>∃(x3_3:BA)(x6_3:Int),v3=.string x3_3∧v6=.int .i64 x6_3∧Aside0 (spec_NoticeText.l2 kq l0 x3_3 x4_1 x6_3=some r)∧Aside0 (kq≤k2)∧Aside0 (Below w.heap.size w w'))
        case atStart=>exact⟨(x3_2),(0),zz0,zz0,H',⟨lL_ _⟩,⟨(zz6 HB)⟩⟩
        case round=>
         clear H';obtain⟨x3_3,x6_3,rfl,rfl,HA,HK3,HB⟩:=hrel;cases gk with
         |zero=>exact absurd HA.out (by simp[spec_NoticeText.l2])
         |succ k3=>
          obtain⟨H⟩:=HA;simp only[spec_NoticeText.l2]at H;replace H:=iteNd H;obtain⟨c14b0,H⟩:=H;replace H:=iteNd H;obtain⟨c15b0,H⟩:=H;replace H:=iteEd H;rcases H with⟨c16b0,H⟩|⟨c16b0,H⟩
          ·replace H:=iteNd H
           obtain⟨c17b0,H⟩:=H;obtain⟨bq18,hbq18⟩:∃b_:Bool,b_=((rd_T93 ((rd_T32 l0 x4_1).f1) x6_3).f0):=⟨_,rfl⟩;rw[←hbq18]at H;have Nbq18:=A_ hbq18;clear hbq18;replace H:=iteB H;rcases H with⟨rfl,H⟩|⟨rfl,H⟩
           ·replace H:=iteN H
            obtain⟨c20,H⟩:=H;have c20b0:=eq_true c20;have c20b1:=dT c20;try have c20b2:(9223372036854775807<x3_3.size+4)=False:=eq_false (nL_.2 c20);replace H:=iteN H;obtain⟨c21,H⟩:=H;have c21b0:=eq_true c21;have c21b1:=dT c21;try have c21b2:(9223372036854775807<x3_3.size+4+((rd_T93 ((rd_T32 l0 x4_1).f1) x6_3).f1).size)=False:=eq_false (nL_.2 c21);replace H:=iteN H;obtain⟨c22,H⟩:=H;have c22b0:=eq_true c22;have c22b1:=dT c22;try have c22b2:(9223372036854775807<x3_3.size+4+((rd_T93 ((rd_T32 l0 x4_1).f1) x6_3).f1).size+1)=False:=eq_false (nL_.2 c22);have H':=A_ H;clear H;obtain⟨⟨ad717,A717_0,c717_0,A717_1,c717_1,e717,hx717_0,hx717_1,hx717_2,hl717_0,hi717_0,hl717_1,hi717_1⟩,p717,q717⟩:=atB (at_T32 HR0.out x4_1);obtain rfl:ad714=ad717:=(by injection e717);obtain⟨hx717_0,hx717_1,hx717_2⟩:=cb3 HB hx717_0 hx717_1 hx717_2;have HR717_0:=A_ hi717_0;have HC717_0:=A_ hl717_0;clear hi717_0 hl717_0;have HR717_1:=A_ hi717_1;have HC717_1:=A_ hl717_1;clear hi717_1 hl717_1;obtain⟨⟨ad718,A718_0,c718_0,A718_1,c718_1,e718,hx718_0,hx718_1,hx718_2,hl718_0,hi718_0,hl718_1,hi718_1⟩,p718,q718⟩:=atB (at_T32 HR0.out x4_1);obtain rfl:ad714=ad718:=(by injection e718);obtain⟨hx718_0,hx718_1,hx718_2⟩:=cb3 HB hx718_0 hx718_1 hx718_2;have HR718_0:=A_ hi718_0;have HC718_0:=A_ hl718_0;clear hi718_0 hl718_0;have HR718_1:=A_ hi718_1;have HC718_1:=A_ hl718_1;clear hi718_1 hl718_1;have ea_:=sI (hx717_0.symm.trans hx718_0);injection ea_ with ea_ en_ ec_;subst ea_;subst ec_;clear en_;have ea_:=sI (hx717_1.symm.trans hx718_1);injection ea_ with ea_ en_ ec_;subst ea_;subst ec_;clear en_;obtain⟨⟨ad719,e719,hx719_0,hx719_1⟩,p719,q719⟩:=atB (at_T93 HR718_1.out x6_3);(try rw[←Nbq18.out]at hx719_0);cases e719;obtain⟨hx719_0,hx719_1⟩:=cb2 HB hx719_0 hx719_1;obtain⟨⟨ad720,A720_0,c720_0,A720_1,c720_1,e720,hx720_0,hx720_1,hx720_2,hl720_0,hi720_0,hl720_1,hi720_1⟩,p720,q720⟩:=atB (at_T32 HR0.out x4_1);obtain rfl:ad714=ad720:=(by injection e720);obtain⟨hx720_0,hx720_1,hx720_2⟩:=cb3 HB hx720_0 hx720_1 hx720_2;have HR720_0:=A_ hi720_0;have HC720_0:=A_ hl720_0;clear hi720_0 hl720_0;have HR720_1:=A_ hi720_1;have HC720_1:=A_ hl720_1;clear hi720_1 hl720_1;have ea_:=sI (hx717_0.symm.trans hx720_0);injection ea_ with ea_ en_ ec_;subst ea_;subst ec_;clear en_;have ea_:=sI (hx717_1.symm.trans hx720_1);injection ea_ with ea_ en_ ec_;subst ea_;subst ec_;clear en_;obtain⟨⟨ad721,e721,hx721_0,hx721_1⟩,p721,q721⟩:=atB (at_T93 HR720_1.out x6_3);(try rw[←Nbq18.out]at hx721_0);cases e721;obtain⟨hx721_0,hx721_1⟩:=cb2 HB hx721_0 hx721_1;go_wp2
            go_roundg k3
            case measure=>have:=HK1.out;have:=HK2.out;have:=HK3.out;omega
            case rel=>exact⟨(((x3_3++(⟨#[108,101,116,32]⟩:BA))++((rd_T93 ((rd_T32 l0 x4_1).f1) x6_3).f1))++(⟨#[10]⟩:BA)),(wrap64 (x6_3+1)),zz0,zz0,H',⟨(zz108 HK1 HK2 HK3)⟩,⟨(zz6 HB)⟩⟩
           ·replace H:=iteN H
            obtain⟨c23,H⟩:=H;have c23b0:=eq_true c23;have c23b1:=dT c23;try have c23b2:(9223372036854775807<x3_3.size+4)=False:=eq_false (nL_.2 c23);replace H:=iteN H;obtain⟨c24,H⟩:=H;have c24b0:=eq_true c24;have c24b1:=dT c24;try have c24b2:(9223372036854775807<x3_3.size+4+((rd_T93 ((rd_T32 l0 x4_1).f1) x6_3).f1).size)=False:=eq_false (nL_.2 c24);replace H:=iteN H;obtain⟨c25,H⟩:=H;have c25b0:=eq_true c25;have c25b1:=dT c25;try have c25b2:(9223372036854775807<x3_3.size+4+((rd_T93 ((rd_T32 l0 x4_1).f1) x6_3).f1).size+1)=False:=eq_false (nL_.2 c25);have H':=A_ H;clear H;obtain⟨⟨ad717,A717_0,c717_0,A717_1,c717_1,e717,hx717_0,hx717_1,hx717_2,hl717_0,hi717_0,hl717_1,hi717_1⟩,p717,q717⟩:=atB (at_T32 HR0.out x4_1);obtain rfl:ad714=ad717:=(by injection e717);obtain⟨hx717_0,hx717_1,hx717_2⟩:=cb3 HB hx717_0 hx717_1 hx717_2;have HR717_0:=A_ hi717_0;have HC717_0:=A_ hl717_0;clear hi717_0 hl717_0;have HR717_1:=A_ hi717_1;have HC717_1:=A_ hl717_1;clear hi717_1 hl717_1;obtain⟨⟨ad718,A718_0,c718_0,A718_1,c718_1,e718,hx718_0,hx718_1,hx718_2,hl718_0,hi718_0,hl718_1,hi718_1⟩,p718,q718⟩:=atB (at_T32 HR0.out x4_1);obtain rfl:ad714=ad718:=(by injection e718);obtain⟨hx718_0,hx718_1,hx718_2⟩:=cb3 HB hx718_0 hx718_1 hx718_2;have HR718_0:=A_ hi718_0;have HC718_0:=A_ hl718_0;clear hi718_0 hl718_0;have HR718_1:=A_ hi718_1;have HC718_1:=A_ hl718_1;clear hi718_1 hl718_1;have ea_:=sI (hx717_0.symm.trans hx718_0);injection ea_ with ea_ en_ ec_;subst ea_;subst ec_;clear en_;have ea_:=sI (hx717_1.symm.trans hx718_1);injection ea_ with ea_ en_ ec_;subst ea_;subst ec_;clear en_;obtain⟨⟨ad719,e719,hx719_0,hx719_1⟩,p719,q719⟩:=atB (at_T93 HR718_1.out x6_3);(try rw[←Nbq18.out]at hx719_0);cases e719;obtain⟨hx719_0,hx719_1⟩:=cb2 HB hx719_0 hx719_1;obtain⟨⟨ad722,A722_0,c722_0,A722_1,c722_1,e722,hx722_0,hx722_1,hx722_2,hl722_0,hi722_0,hl722_1,hi722_1⟩,p722,q722⟩:=atB (at_T32 HR0.out x4_1);obtain rfl:ad714=ad722:=(by injection e722);obtain⟨hx722_0,hx722_1,hx722_2⟩:=cb3 HB hx722_0 hx722_1 hx722_2;have HR722_0:=A_ hi722_0;have HC722_0:=A_ hl722_0;clear hi722_0 hl722_0;have HR722_1:=A_ hi722_1;have HC722_1:=A_ hl722_1;clear hi722_1 hl722_1;have ea_:=sI (hx717_0.symm.trans hx722_0);injection ea_ with ea_ en_ ec_;subst ea_;subst ec_;clear en_;have ea_:=sI (hx717_1.symm.trans hx722_1);injection ea_ with ea_ en_ ec_;subst ea_;subst ec_;clear en_;obtain⟨⟨ad723,e723,hx723_0,hx723_1⟩,p723,q723⟩:=atB (at_T93 HR722_1.out x6_3);(try rw[←Nbq18.out]at hx723_0);cases e723;obtain⟨hx723_0,hx723_1⟩:=cb2 HB hx723_0 hx723_1;go_wp2
            go_roundg k3
            case measure=>have:=HK1.out;have:=HK2.out;have:=HK3.out;omega
            case rel=>exact⟨(((x3_3++(⟨#[98,97,114,32]⟩:BA))++((rd_T93 ((rd_T32 l0 x4_1).f1) x6_3).f1))++(⟨#[10]⟩:BA)),(wrap64 (x6_3+1)),zz0,zz0,H',⟨(zz108 HK1 HK2 HK3)⟩,⟨(zz6 HB)⟩⟩
          ·replace H:=iteEg H
           rcases H with⟨c26b0,H⟩|⟨c26b0,H⟩
           ·replace H:=iteN H
            obtain⟨c27,H⟩:=H;have c27b0:=eq_true c27;have c27b1:=dT c27;try have c27b2:(9223372036854775807<x3_3.size+5)=False:=eq_false (nL_.2 c27);replace H:=bindA H;obtain⟨t726,A28,H⟩:=H;replace H:=iteN H;obtain⟨c29,H⟩:=H;have c29b0:=eq_true c29;have c29b1:=dT c29;try have c29b2:(9223372036854775807<x3_3.size+5+t726.size)=False:=eq_false (nL_.2 c29);replace H:=iteN H;obtain⟨c30,H⟩:=H;have c30b0:=eq_true c30;have c30b1:=dT c30;try have c30b2:(9223372036854775807<x3_3.size+5+t726.size+1)=False:=eq_false (nL_.2 c30);have H':=A_ H;clear H;obtain⟨⟨ad717,A717_0,c717_0,A717_1,c717_1,e717,hx717_0,hx717_1,hx717_2,hl717_0,hi717_0,hl717_1,hi717_1⟩,p717,q717⟩:=atB (at_T32 HR0.out x4_1);obtain rfl:ad714=ad717:=(by injection e717);obtain⟨hx717_0,hx717_1,hx717_2⟩:=cb3 HB hx717_0 hx717_1 hx717_2;have HR717_0:=A_ hi717_0;have HC717_0:=A_ hl717_0;clear hi717_0 hl717_0;have HR717_1:=A_ hi717_1;have HC717_1:=A_ hl717_1;clear hi717_1 hl717_1;obtain⟨⟨ad724,A724_0,c724_0,A724_1,c724_1,e724,hx724_0,hx724_1,hx724_2,hl724_0,hi724_0,hl724_1,hi724_1⟩,p724,q724⟩:=atB (at_T32 HR0.out x4_1);obtain rfl:ad714=ad724:=(by injection e724);obtain⟨hx724_0,hx724_1,hx724_2⟩:=cb3 HB hx724_0 hx724_1 hx724_2;have HR724_0:=A_ hi724_0;have HC724_0:=A_ hl724_0;clear hi724_0 hl724_0;have HR724_1:=A_ hi724_1;have HC724_1:=A_ hl724_1;clear hi724_1 hl724_1;have ea_:=sI (hx717_0.symm.trans hx724_0);injection ea_ with ea_ en_ ec_;subst ea_;subst ec_;clear en_;have ea_:=sI (hx717_1.symm.trans hx724_1);injection ea_ with ea_ en_ ec_;subst ea_;subst ec_;clear en_;obtain⟨⟨ad725,A725_0,c725_0,A725_1,c725_1,e725,hx725_0,hx725_1,hx725_2,hl725_0,hi725_0,hl725_1,hi725_1⟩,p725,q725⟩:=atB (at_T32 HR0.out x4_1);obtain rfl:ad714=ad725:=(by injection e725);obtain⟨hx725_0,hx725_1,hx725_2⟩:=cb3 HB hx725_0 hx725_1 hx725_2;have HR725_0:=A_ hi725_0;have HC725_0:=A_ hl725_0;clear hi725_0 hl725_0;have HR725_1:=A_ hi725_1;have HC725_1:=A_ hl725_1;clear hi725_1 hl725_1;have ea_:=sI (hx717_0.symm.trans hx725_0);injection ea_ with ea_ en_ ec_;subst ea_;subst ec_;clear en_;have ea_:=sI (hx717_1.symm.trans hx725_1);injection ea_ with ea_ en_ ec_;subst ea_;subst ec_;clear en_;go_wp2_with (first|(refine gR 82 (some 85) Tryz.func82 (spec_l6Dec.calls k3 ((rd_T32 l0 x4_1).f2) t726 _ A28.out) ?_;rintro w31 hb;replace HB:=A_ (bS (zz6 HB) hb);(try clear hb)))
            go_roundg k3
            case measure=>have:=HK1.out;have:=HK2.out;have:=HK3.out;omega
            case rel=>exact⟨(((x3_3++(⟨#[119,97,105,116,32]⟩:BA))++t726)++(⟨#[10]⟩:BA)),(wrap64 (x4_1+1)),zz0,zz0,H',⟨(zz108 HK1 HK2 HK3)⟩,⟨(zz6 HB)⟩⟩
           ·have H':=A_ H
            clear H;obtain⟨⟨ad717,A717_0,c717_0,A717_1,c717_1,e717,hx717_0,hx717_1,hx717_2,hl717_0,hi717_0,hl717_1,hi717_1⟩,p717,q717⟩:=atB (at_T32 HR0.out x4_1);obtain rfl:ad714=ad717:=(by injection e717);obtain⟨hx717_0,hx717_1,hx717_2⟩:=cb3 HB hx717_0 hx717_1 hx717_2;have HR717_0:=A_ hi717_0;have HC717_0:=A_ hl717_0;clear hi717_0 hl717_0;have HR717_1:=A_ hi717_1;have HC717_1:=A_ hl717_1;clear hi717_1 hl717_1;obtain⟨⟨ad724,A724_0,c724_0,A724_1,c724_1,e724,hx724_0,hx724_1,hx724_2,hl724_0,hi724_0,hl724_1,hi724_1⟩,p724,q724⟩:=atB (at_T32 HR0.out x4_1);obtain rfl:ad714=ad724:=(by injection e724);obtain⟨hx724_0,hx724_1,hx724_2⟩:=cb3 HB hx724_0 hx724_1 hx724_2;have HR724_0:=A_ hi724_0;have HC724_0:=A_ hl724_0;clear hi724_0 hl724_0;have HR724_1:=A_ hi724_1;have HC724_1:=A_ hl724_1;clear hi724_1 hl724_1;have ea_:=sI (hx717_0.symm.trans hx724_0);injection ea_ with ea_ en_ ec_;subst ea_;subst ec_;clear en_;have ea_:=sI (hx717_1.symm.trans hx724_1);injection ea_ with ea_ en_ ec_;subst ea_;subst ec_;clear en_;go_wp2
            go_roundg k3
            case measure=>have:=HK1.out;have:=HK2.out;have:=HK3.out;omega
            case rel=>exact⟨(x3_3),(wrap64 (x4_1+1)),zz0,zz0,H',⟨(zz108 HK1 HK2 HK3)⟩,⟨(zz6 HB)⟩⟩
    ·(first|rw[c6b0]|(simp only[i64_w,i32_w];rw[c6b0])|skip)
     obtain rfl:=sI H;go_wp2;go_ret;exact⟨zz9,(zz6 HB)⟩
 ·obtain rfl:=sI H
  go_wp2;go_ret;exact⟨zz9,(zz6 HB)⟩

end Go.Proofs.YtloijngehifbmaaGreatDoor.P
end
section
namespace Go.Proofs.YtloijngehifbmaaGreatDoor.P
open Go.RowKit Go.Proofs.YtloijngehifbmaaGreatDoorW PrintWords PrintLast PrintMore
section
variable {P:Program}{ops:Array Oper}{Q:Exit→Act→World→Prop}
theorem callv_ {oi:Oper}{N:Option Tmp}{a:Act}{w:World}{K:Act→World→Prop}{f:FuncId}{fn:Func}{as1:Array Operand}{ts:Array TypeId}{cap:Array Value}(hf:P.funcs[f]?=some fn)(hname:(fn.name == "runtime.NumGoroutine")=false)(hb:fn.body.isSome=true)(args:Array Value)
  (hw:Region.wanted oi (yielded ops a.tmps)=true) (hN:oi.dst=N) (t:Operand) (hop:oi.op=.call { callee:=.value t,args:=as1,argTypes:=ts }) (hv:a.eval t=.func (.func f) #[] cap) (hargs:as1.map a.eval++cap=args)
  (h:Calls P f args w fun e w'=>∃v,e=.returned v∧K (a.put N v) w'):if Region.wanted oi (yielded ops a.tmps)=true then Oper.wp P oi a w K Q else K (a.put N undef) w:=by
 refine call_ f args hw hN ?_ h;have he:=enters_ hf hname hb args w;unfold execOp;simp[hop,resolve,hv,Deferred.ofValue,invoke,hargs,he]
end
theorem size_set (w:World)(p:Addr)(u:Value):(w.setCell p u).heap.size=w.heap.size:=by simp
end Go.Proofs.YtloijngehifbmaaGreatDoor.P
end
section
namespace Go.Proofs.YtloijngehifbmaaGreatDoor.P
open Go.RowKit Go.Proofs.YtloijngehifbmaaGreatDoorW PrintWords PrintLast PrintMore
abbrev Gp:=S32
abbrev kGp:Kd Gp:=k32
def lastG (l:List Gp):Gp:=l.getD (l.length-1) z32
def lineName (k:Nat)(x1 x2:BA):Option Bool:=
  if x1.toList=([99,97,108,108,101,114]:List UInt8)then(if x2.toList=([42]:List UInt8)then some true else spec_l2Name.f k x2)else some false
def lineRule (k:Nat)(x1 x2:BA)(m:Nat):Option Bool:=
  if x1.toList=([108,101,116]:List UInt8)∨x1.toList=([98,97,114]:List UInt8)then(spec_RuleOk.f k x2).bind fun b=>some (b&&decide (m<6))else some false
def spec_l2Line.f (k:Nat)(l0:List Gp)(x1 x2:BA)(x3:Bool):Option (List Gp×Bool):=
  if l0.length<1000000 then
    (lineName k x1 x2).bind fun b=>if b=true then
      (if x3=true∨l0.length=0 then some (l0++[⟨[x2],[],0⟩],false)
       else if(lastG l0).f0.length<1000000 then some (l0.set (l0.length-1) ⟨(lastG l0).f0++[x2],(lastG l0).f1,(lastG l0).f2⟩,false)else none)
    else if l0.length=0 then some (l0,x3)
    else(lineRule k x1 x2 (lastG l0).f1.length).bind fun c=>if c=true then
      some (l0.set (l0.length-1) ⟨(lastG l0).f0,(lastG l0).f1++[⟨x1.toList==([108,101,116]:List UInt8),x2⟩],(lastG l0).f2⟩,true)
    else if x1.toList=([119,97,105,116]:List UInt8)then(spec_l2Num.f k x2 20).bind fun m=>some (l0.set (l0.length-1) ⟨(lastG l0).f0,(lastG l0).f1,m⟩,true)
    else some (l0,x3)
  else none
theorem lineRule_lt {k m:Nat}{x1 x2:BA}(h:lineRule k x1 x2 m=some true):m<6:=by
  unfold lineRule at h
  split at h
  · obtain⟨b,_,h2⟩:=oE_.mp h
    have:=oJ_ h2;simp only[aE_,decide_eq_true_eq]at this;exact this.2
  · cases h
structure Lines (w0 w wc:World)(base:Nat)(ok:Nat→Prop)(u:Value)(l:List Gp):Prop where
  S:Kd.S kGp 32 wc base ok u l
  B:Below base w0 wc
  K:Kept w wc ok
  le:base≤wc.heap.size
theorem Lines.drewN {w0 w wc:World}{base:Nat}{ok:Nat→Prop}{u:Value}{l:List Gp}(h:Lines w0 w wc base ok u l)(m:Nat):Lines w0 w (wc.drewN m) base ok u l:=
  ⟨Kd.S_drewN h.S m,pw_below_drewN h.B m,h.K.drewN m,h.le⟩
theorem Lines.drawn {w0 w wc wd:World}{base:Nat}{ok:Nat→Prop}{u:Value}{l:List Gp}(h:Lines w0 w wc base ok u l)(hd:Drawn0 wc wd):Lines w0 w wd base ok u l:=by
  obtain⟨m,rfl⟩:=hd;exact h.drewN m
theorem Lines.below {w0 w wc wd:World}{base:Nat}{ok:Nat→Prop}{u:Value}{l:List Gp}(h:Lines w0 w wc base ok u l)(hb:Below wc.heap.size wc wd):Lines w0 w wd base ok u l:=
  ⟨Kd.S_below h.S hb,h.B.trans (hb.mono h.le),h.K.below hb,nT_ h.le hb.size⟩
theorem Lines.last {w0 w wc:World}{base:Nat}{ok:Nat→Prop}{u:Value}{l:List Gp}(h:Lines w0 w wc base ok u l)(hp:0<l.length):
    ∃g cap v0 v1 oki,u=.slice (some ⟨g,0,none⟩) l.length cap∧Kd.string.R 9 wc base oki v0 (lastG l).f0∧k93.R 93 wc base oki v1 (lastG l).f1 ∧
      (wc.cell? ⟨g,(l.length-1)*3,none⟩=some v0∧wc.cell? ⟨g,(l.length-1)*3+1,none⟩=some v1∧wc.cell? ⟨g,(l.length-1)*3+2,none⟩=some (.int .i64 (lastG l).f2))∧(∀j,wc.frozen? ⟨g,(l.length-1)*3+j,none⟩=false)∧(∀k,oki k→ok k∧k≠g) ∧
      Kd.H kGp 32 wc base ok (.slice (some ⟨g,0,none⟩) l.length cap) l ((l.length-1:Nat):Int) oki [v0,v1,.int .i64 (lastG l).f2]:=by
  obtain⟨g,cap,rfl,_,_,_⟩:=Kd.S_form h.S hp;obtain⟨oki,c,hcl,hM,hcc,hfr,hoki,hH⟩:=Kd.S_elem h.S z32 ((l.length-1:Nat):Int) (by omega) (by omega);obtain⟨v0,v1,rfl,g0,g1⟩:=k32_openM hM;have e:(((l.length-1:Nat):Int)).toNat=l.length-1:=by omega
  rw[e]at hcc hfr g0 g1;exact⟨g,cap,v0,v1,oki,rfl,g0,g1,⟨hcc 0 _ rfl,hcc 1 _ rfl,hcc 2 _ rfl⟩,hfr,hoki,hH⟩
theorem infoGp:(Tryz.prog.info? 32).map (fun i=>(i.zero,i.size,i.bytes))=some (some (.agg #[.slice none 0 0,.slice none 0 0,.int .i64 0]),3,56):=by kernel_rfl
theorem infoRu:(Tryz.prog.info? 93).map (fun i=>(i.zero,i.size,i.bytes))=some (some (.agg #[.bool false,.string ⟨#[]⟩]),2,24):=by kernel_rfl
theorem Lines.fresh {w0 w wc w3:World}{base:Nat}{ok:Nat→Prop}{u v0 v1:Value}{l:List Gp}{x:Gp}(h:Lines w0 w wc base ok u l)(hfr:∀k,w.heap.size≤k→ok k)
    (hst:∀k,k<wc.heap.size→w3.heap[k]?=wc.heap[k]?) (hle:wc.heap.size≤w3.heap.size)
    (r0:Kd.string.R 9 w3 base (fun _=>True) v0 x.f0) (r1:k93.R 93 w3 base (fun _=>True) v1 x.f1)
    (h0:∃b,v0.ownBlock=some b∧wc.heap.size≤b) (h1:∃b,v1.ownBlock=some b∧wc.heap.size≤b):
    ∃okp:Nat→Prop,kGp.M w3 base okp x [v0,v1,.int .i64 x.f2]∧(∀k,okp k→ok k∧some k≠u.ownBlock)∧(∀k,w3.heap.size≤k→ok k)∧Kd.S kGp 32 w3 base (fun k=>ok k∧¬okp k) u l∧Kept w w3 ok:=by
  obtain⟨b0,e0,z0⟩:=h0;obtain⟨b1,e1,z1⟩:=h1;have hw:w.heap.size≤wc.heap.size:=h.K.1;have hold:∀k,some k=v0.ownBlock∨some k=v1.ownBlock→wc.heap.size≤k:=by
    rintro k (hk|hk)
    · rw[e0]at hk;injection hk with hk;omega
    · rw[e1]at hk;injection hk with hk;omega
  refine⟨fun k=>some k=v0.ownBlock∨some k=v1.ownBlock,k32_mkM _ _ _ x (Kd.R_mono (Kd.R_tight rfl r0) (fun k hk=>.inl hk)) (Kd.R_mono (Kd.R_tight rfl r1) (fun k hk=>.inr hk)),fun k hk=>⟨hfr k (by have:=hold k hk;omega),fun he=>?_⟩,fun k hk=>hfr k (by omega),?_,?_⟩
  · have:=Kd.S_lt h.S k he.symm
    have:=hold k hk;omega
  · refine Kd.S_step (Kd.S_mono (Kd.S_bound h.S) (fun k hk=>⟨hk.1,fun h2=>?_⟩)) (fun k _ hlt=>hst k hlt)
    have:=hold k h2;have:=hk.2.2.1;omega
  · exact h.K.then_ (S2:=fun _=>False) ⟨hle,fun i hi _=>hst i hi⟩ (fun _ hk=>hk.elim)
theorem infoStrs:(Tryz.prog.info? 29).map (·.size)=some 1:=by kernel_rfl
theorem infoRus:(Tryz.prog.info? 30).map (·.size)=some 1:=by kernel_rfl
theorem infoInt:(Tryz.prog.info? 3).map (·.size)=some 1:=by kernel_rfl
set_option maxHeartbeats 8000000 in
set_option maxRecDepth 100000 in
theorem spec_l2Line.calls (k:Nat)(base:Nat)(ok:Nat→Prop)(u:Value)(l0:List Gp)(x1 x2:BA)(x3:Bool)(r:List Gp)(rb:Bool)(w0 w:World)(hl:Lines w0 w w base ok u l0)(hfr:∀k,w.heap.size≤k→ok k)(h:spec_l2Line.f k l0 x1 x2 x3=some (r,rb)):
    Calls Tryz.prog 106 #[u,.string x1,.string x2,.bool x3] w fun e w'=>∃v',e=.returned (.tuple #[v',.bool rb])∧Lines w0 w w' base ok v' r:=by
  obtain⟨A,cc,hu⟩:=Kd.S_slice hl.S;subst hu;unfold spec_l2Line.f at h
  split at h
  case isFalse=>cases h
  rename_i hbig;obtain⟨b,hb,h2⟩:=oE_.mp h;clear h;have HL:=A_ hl;have HF:=A_ hfr;have H2:=A_ h2;have HN:=A_ hb;have HG:=A_ hbig;clear hl h2 hb hfr hbig
  go_enter Tryz.func106,Tryz.ntmps106
  go_upto_region 2 with(fail)
  go_cut [14] (fun v14 wc=>v14=.bool b∧Aside0 (Lines w0 w wc base ok (.slice A l0.length cc) l0))
  case first=>
    have hn:=HN.out;unfold lineName at hn
    by_cases c1:x1.toList=([99,97,108,108,101,114]:List UInt8)
    · rw[if_pos c1]at hn
      have c1b0:(x1.toList==([99,97,108,108,101,114]:List UInt8))=true:=beq_iff_eq.mpr c1;clear c1
      by_cases c2:x2.toList=([42]:List UInt8)
      · rw[if_pos c2]at hn
        have c2b0:(x2.toList==([42]:List UInt8))=true:=beq_iff_eq.mpr c2;clear c2;obtain rfl:=oJ_ hn;clear hn;go_wp2
        go_meet
        case rel=>exact⟨rfl,HL⟩
      · rw[if_neg c2]at hn
        have c2b0:(x2.toList==([42]:List UInt8))=false:=bN_.mpr c2;clear c2;have HN1:=A_ hn;clear hn
        go_wp2_with (first|(go_at_call 26;(with_reducible refine(spec_l2Name.calls k x2 b _ HN1.out).mono ?_);rintro e w' ⟨rfl,⟨nd,rfl⟩⟩))
        go_meet
        case rel=>exact⟨rfl,⟨HL.out.drewN _⟩⟩
    · rw[if_neg c1]at hn
      have c1b0:(x1.toList==([99,97,108,108,101,114]:List UInt8))=false:=bN_.mpr c1;clear c1;obtain rfl:=oJ_ hn;clear hn;go_wp2
      go_meet
      case rel=>exact⟨rfl,HL⟩
  case rest=>
    clear HN;obtain⟨rfl,HL1⟩:=hcut;clear HL;cases b with
    |true=>
      have h2:=H2.out;rw[if_pos rfl]at h2;clear H2
      by_cases c3:x3=true∨l0.length=0
      · rw[if_pos c3]at h2
        obtain⟨rfl,rfl⟩:=Prod.mk.inj (oJ_ h2);clear h2;have e10:l0.length=0→decide (wrap64 ((l0.length:Int)-1)<0)=true:=fun h=>decide_eq_true (by rw[h];unfold wrap64;omega)
        have c3':x3=true∨(x3=false∧l0.length=0):=by cases x3 <;> simp_all
        clear c3;rcases c3' with rfl|⟨rfl,c4⟩
        case' inr=>replace e10:=e10 c4;clear c4
        case' inl=>clear e10
        all_goals
          go_wp2_with (first
            | ((with_reducible refine gate_dst (N:=32) rfl ?_);refine Kd.R_lit Kd.string base 9 ?hg (N:=32) ?hd (xs:=[x2]) (inner:=[.string x2]) (ok:=fun _=>True) (okp:=fun _=>False) ?hr ?hp (fun _ hk=>hk.elim) trivial HL1.out.B HL1.out.le (by simp) ?_;(case hd=>rfl);(case hg=>rfl);(case hr=>first|(go_simp;done)|(go_simp;rfl));(case hp=>exact Reps.one rfl (Reps.none _ _));intro v32 w32 ho32 hb32 hg32 hn32;obtain⟨A32,c32,rfl⟩:=Kd.R_slice ho32;have HO32:=A_ ho32;have HB32:=A_ hb32;have HG32:=A_ hg32;have HN32:=A_ hn32;clear ho32 hb32 hg32 hn32)
            | ((with_reducible refine gate_dst (N:=33) rfl ?_);refine Kd.R_lit k93 base 93 ?hg (N:=33) ?hd (xs:=[]) (inner:=[]) (ok:=fun _=>True) (okp:=fun _=>False) ?hr ?hp (fun _ hk=>hk.elim) trivial HB32.out (nT_ HL1.out.le HG32.out.size) (by simp) ?_;(case hd=>rfl);(case hg=>rfl);(case hr=>first|(go_simp;done)|(go_simp;rfl));(case hp=>exact Reps.none _ _);intro v33 w33 ho33 hb33 hg33 hn33;obtain⟨A33,c33,rfl⟩:=Kd.R_slice ho33;have HO33:=A_ ho33;have HB33:=A_ hb33;have HG33:=A_ hg33;have HN33:=A_ hn33;clear ho33 hb33 hg33 hn33)
            | ((with_reducible refine gate_builtin (b:=.append) (xs:=#[.tmp 30,.tmp 35]) rfl ?_);at_builtin
               obtain⟨okp,hM,hokp,hnew,hS,hK⟩:=Lines.fresh (x:=⟨[x2],[],0⟩) HL1.out HF.out (fun k hk=>(HG33.out.block k (Nat.lt_of_lt_of_le hk HG32.out.size) (by simp)).trans (HG32.out.block k hk (by simp))) (nT_ HG32.out.size HG33.out.size) (Kd.R_grown HO32.out HG33.out (fun _ _=>by simp)) HO33.out HN32.out (by obtain⟨b,e,hb⟩:=HN33.out;exact⟨b,e,nT_ HG32.out.size hb⟩);refine Kd.S_append kGp (w0:=w0) base rfl (.tmp 30) (.tmp 35) 43 32 (.agg #[.slice none 0 0,.slice none 0 0,.int .i64 0]) 56 rfl Tryz.underlying43 infoGp rfl (by decide) (by omega) (.slice A l0.length cc) l0 ⟨[x2],[],0⟩ [.slice A32 [x2].length c32,.slice A33 [].length c33,.int .i64 0] ok okp rfl rfl hM hokp hnew hS HB33.out (nT_ HL1.out.le (nT_ HG32.out.size HG33.out.size)) (by have:=HG.out;omega) ?_;intro v1 w1 hS1 hB1 hG1 hat;have HS1:=A_ hS1;have HB1:=A_ hB1;have HG1:=A_ (Kept.of_grown hG1 hK (fun k hk=>.inl (Kd.S_R hS |>.1 k hk |>.1)));have HZ1:=A_ (nT_ (nT_ HL1.out.le (nT_ HG32.out.size HG33.out.size)) hG1.size);clear hM hokp hnew hS hK hS1 hB1 hG1 hat))
          go_ret2
          exact⟨v1,rfl,HS1.out,HB1.out,HG1.out,HZ1.out⟩
      · rw[if_neg c3]at h2
        split at h2
        case isFalse=>cases h2
        rename_i hsm;obtain⟨rfl,rfl⟩:=Prod.mk.inj (oJ_ h2);clear h2;have c4:l0.length≠0:=fun h=>c3 (.inr h)
        obtain rfl:x3=false:=by cases x3 <;> simp_all
        clear c3;have hbig:=HG.out;obtain⟨g,cap,v0,v1,oki,eu,g0,g1,⟨hx0,hx1,hx2⟩,hff,hoki,hH⟩:=HL1.out.last (by omega);injection eu with eu1 eu2 eu3;subst eu1;subst eu3;obtain⟨A0,cc0,rfl⟩:=Kd.R_slice g0;obtain⟨j,hj⟩:∃j,l0.length-1=j:=⟨_,rfl⟩;have ej:wrap64 ((l0.length:Int)-1)=(j:Int):=by unfold wrap64;omega
        rw[hj]at hx0 hx1 hx2 hff hH;rw[ej];have e10:decide ((j:Int)<0)=false:=decide_eq_false (by omega);have p0:(0≤(j:Int))=True:=eq_true (by omega);have q0:((j:Int)<(l0.length:Int))=True:=eq_true (by omega);have hf0:=hff 0;rw[Nat.add_zero]at hf0;have G0:=A_ g0;have G1:=A_ g1;have HH:=A_ hH;have HS2:=A_ hsm;clear g0 g1 hH hsm
        go_wp2_with (first
          | ((with_reducible refine gate_builtin (b:=.append) (xs:=#[.tmp 43,.tmp 45]) rfl ?_);at_builtin
             refine Kd.R_append Kd.string (w0:=w0) base rfl (.tmp 43) (.tmp 45) 29 9 (.string ⟨#[]⟩) 16 rfl Tryz.underlying29 info9 rfl (by decide) (by omega) (.slice A0 (lastG l0).f0.length cc0) (lastG l0).f0 x2 [.string x2] (fun k=>oki k∨(ok k∧wc.heap.size≤k)) (fun _=>False) rfl rfl rfl (fun _ hk=>hk.elim) (fun k hk=>.inr ⟨HF.out k (nT_ HL1.out.K.1 hk),hk⟩) (Kd.R_mono G0.out (fun _ hk=>.inl hk)) HL1.out.B HL1.out.le (by have:=HS2.out;omega) ?_;intro v3 w1 ho hb hg hat;have H1:=A_ (Kd.H_grown (Kd.H_widen HH.out) hg (fun k e=>.inl (G0.out.1 k e)));have R1:=A_ (Kd.R_over' (v:=.slice A0 (lastG l0).f0.length cc0) G1.out (Kd.R_typed G0.out) (by decide) hg);have K1:=A_ (Kept.of_grown hg HL1.out.K (fun k hk=>.inl (hoki k (G0.out.1 k hk)).1));obtain⟨A3,cc3,rfl⟩:=Kd.R_slice ho;have en:((lastG l0).f0++[x2]).length=(lastG l0).f0.length+1:=by rw[lA_,List.length_singleton]
             rw[en]at ho;have R0:=A_ ho;have B1:=A_ hb;have Z1:=A_ (nT_ HL1.out.le hg.size);clear ho hb hg hat hx0 hx1 hx2 hff hf0)
          | ((with_reducible refine gate_store (t:=29) (p:=48) rfl ?_)
             refine Kd.H_store kGp (w0:=w0) base rfl rfl 29 (.tmp 48) (.tmp 46) rfl 32 (j:Int) 0 l0 ⟨(lastG l0).f0++[x2],(lastG l0).f1,(lastG l0).f2⟩ (.slice A3 ((lastG l0).f0.length+1) cc3) [.slice A3 ((lastG l0).f0.length+1) cc3] [.slice A0 (lastG l0).f0.length cc0,v1,.int .i64 (lastG l0).f2] ok (fun k=>oki k∨(ok k∧wc.heap.size≤k)) (fun k=>oki k∨(ok k∧wc.heap.size≤k)) rfl (by rw[tN_];rfl) rfl (Kd.R_val R0.out).1 infoStrs (by intro q hq;rw[List.mem_singleton.1 hq];exact(Kd.R_val R0.out).2) H1.out (by omega) (by omega) (show 0+1≤3 by decide) (k32_mkM _ _ _ _ R0.out (Kd.R_mono R1.out (fun _ hk=>.inl hk))) (fun _ hk=>hk) B1.out ?_;intro w2 hS hB hg2;have S2:=A_ hS;have B2:=A_ hB;have K2:=A_ (Kept.of_grown hg2 K1.out (fun k hk=>.inl (by injection hk with hk;subst hk;exact(Kd.S_R hS).1 _ rfl)));have Z2:=A_ (nT_ Z1.out hg2.size);clear hS hB hg2))
        go_ret2
        have e2:=S2.out;rw[tN_]at e2
        first|exact⟨.slice (some ⟨g,0,none⟩) l0.length cc,rfl,e2,B2.out,K2.out,Z2.out⟩|(rw[←hj]at e2;exact⟨.slice (some ⟨g,0,none⟩) l0.length cc,rfl,e2,B2.out,K2.out,Z2.out⟩)
    |false=>
      have h2:=H2.out;rw[if_neg (by decide)]at h2;clear H2
      by_cases c4:l0.length=0
      · rw[if_pos c4]at h2
        obtain⟨rfl,rfl⟩:=Prod.mk.inj (oJ_ h2);clear h2;have e10:decide (wrap64 ((l0.length:Int)-1)<0)=true:=decide_eq_true (by rw[c4];unfold wrap64;omega);clear c4;go_wp2
        go_ret2
        exact⟨_,rfl,HL1.out⟩
      · rw[if_neg c4]at h2
        obtain⟨c,hc,h3⟩:=oE_.mp h2;clear h2;have hbig:=HG.out;obtain⟨g,cap,_,_,_,eu,_⟩:=HL1.out.last (by omega);injection eu with eu1 eu2 eu3;subst eu1;clear eu2 eu3;obtain⟨j,hj⟩:∃j,l0.length-1=j:=⟨_,rfl⟩;have ej:wrap64 ((l0.length:Int)-1)=(j:Int):=by unfold wrap64;omega
        rw[ej];have e10:decide ((j:Int)<0)=false:=decide_eq_false (by omega);have p0:(0≤(j:Int))=True:=eq_true (by omega);have q0:((j:Int)<(l0.length:Int))=True:=eq_true (by omega);have HC:=A_ hc;have H3:=A_ h3;clear hc h3
        go_upto_region 9 with(fail)
        go_cut [55] (fun v55 wd2=>v55=.bool c∧Aside0 (Drawn0 wc wd2))
        case first=>
          have HQ:=HL1.out;obtain⟨g_,cap_,v0,v1,oki,eu,g0,g1,⟨hx0,hx1,hx2⟩,hff,hoki,hH⟩:=HQ.last (by omega);injection eu with eu1 eu2 eu3;injection eu1 with eu1;injection eu1 with eg _ _;subst eg;subst eu3;obtain⟨A0,cc0,rfl⟩:=Kd.R_slice g0;obtain⟨A1,cc1,rfl⟩:=Kd.R_slice g1;rw[hj]at hx0 hx1 hx2 hff hH;have hf1:=hff 1;have hf2:=hff 2;have G0:=A_ g0;have G1:=A_ g1;have HH:=A_ hH;clear g0 g1 hH;have hc:=HC.out;unfold lineRule at hc;have two:((x1.toList==([108,101,116]:List UInt8))=true∨((x1.toList==([108,101,116]:List UInt8))=false∧(x1.toList==([98,97,114]:List UInt8))=true))∨((x1.toList==([108,101,116]:List UInt8))=false∧(x1.toList==([98,97,114]:List UInt8))=false):=by
            cases (x1.toList==([108,101,116]:List UInt8)) <;> cases (x1.toList==([98,97,114]:List UInt8)) <;> simp
          rcases two with two|⟨a1,a2⟩
          · rw[if_pos (by rcases two with two|⟨_,two⟩ <;> simp[beq_iff_eq.1 two])]at hc
            obtain⟨bo,hbo,hc2⟩:=oE_.mp hc;have hce:=oJ_ hc2;have HB:=A_ hbo;have HE:=A_ hce;clear hc hbo hc2 hce HC;rcases two with a1|⟨a1,a2⟩
            all_goals
              cases bo
              case false=>
                go_wp2_with (first|(go_at_call 123;(with_reducible refine(spec_RuleOk.calls k x2 false _ HB.out).mono ?_);rintro e w' ⟨rfl,⟨nd,rfl⟩⟩))
                go_meet
                case rel=>exact⟨by rw[←HE.out];rfl,⟨⟨_,rfl⟩⟩⟩
              case true=>
                go_wp2_with (first|(go_at_call 123;(with_reducible refine(spec_RuleOk.calls k x2 true _ HB.out).mono ?_);rintro e w' ⟨rfl,⟨nd,rfl⟩⟩))
                go_meet
                case rel=>exact⟨by rw[←HE.out,tA_];simp;omega,⟨⟨_,rfl⟩⟩⟩
          · rw[if_neg (by rintro(h|h) <;> simp[h]at a1 a2)]at hc
            obtain rfl:=oJ_ hc;clear hc HC;go_wp2
            go_meet
            case rel=>exact⟨rfl,⟨Drawn0.refl _⟩⟩
        case rest=>
          obtain⟨rfl,hd⟩:=hcut;have HQ:=HL1.out.drawn hd.out;clear hd;obtain⟨g_,cap_,v0,v1,oki,eu,g0,g1,⟨hx0,hx1,hx2⟩,hff,hoki,hH⟩:=HQ.last (by omega);injection eu with eu1 eu2 eu3;injection eu1 with eu1;injection eu1 with eg _ _;subst eg;subst eu3;obtain⟨A0,cc0,rfl⟩:=Kd.R_slice g0;obtain⟨A1,cc1,rfl⟩:=Kd.R_slice g1;rw[hj]at hx0 hx1 hx2 hff hH;have hf1:=hff 1;have hf2:=hff 2;have G0:=A_ g0;have G1:=A_ g1;have HH:=A_ hH;clear g0 g1 hH;have HW:=A_ HQ;clear HL1 HQ;have h3:=H3.out;clear H3;cases c with
          |true=>
            rw[if_pos rfl]at h3;obtain⟨rfl,rfl⟩:=Prod.mk.inj (oJ_ h3);clear h3;have HS2:=A_ (lineRule_lt HC.out);clear HC
            go_wp2_with (first
              | ((with_reducible refine gate_builtin (b:=.append) (xs:=#[.tmp 81,.tmp 86]) rfl ?_);at_builtin
                 refine Kd.R_append k93 (w0:=w0) base rfl (.tmp 81) (.tmp 86) 30 93 (.agg #[.bool false,.string ⟨#[]⟩]) 24 rfl Tryz.underlying30 infoRu rfl (by decide) (by omega) (.slice A1 (lastG l0).f1.length cc1) (lastG l0).f1 ⟨x1.toList==([108,101,116]:List UInt8),x2⟩ [.bool (x1.toList==([108,101,116]:List UInt8)),.string x2] (fun k=>oki k∨(ok k∧wc.heap.size≤k)) (fun _=>False) rfl rfl (k93_mkM _ _ _ _) (fun _ hk=>hk.elim) (fun k hk=>.inr ⟨HF.out k (nT_ HW.out.K.1 hk),hk⟩) (Kd.R_mono G1.out (fun _ hk=>.inl hk)) HW.out.B HW.out.le (by have:=HS2.out;omega) ?_;intro v3 w1 ho hb hg hat;have H1:=A_ (Kd.H_grown (Kd.H_widen HH.out) hg (fun k e=>.inl (G1.out.1 k e)));have R1:=A_ (Kd.R_over' (v:=.slice A1 (lastG l0).f1.length cc1) G0.out (Kd.R_typed G1.out) (by decide) hg);have K1:=A_ (Kept.of_grown hg HW.out.K (fun k hk=>.inl (hoki k (G1.out.1 k hk)).1));obtain⟨A3,cc3,rfl⟩:=Kd.R_slice ho;have en:((lastG l0).f1++[(⟨x1.toList==([108,101,116]:List UInt8),x2⟩:S93)]).length=(lastG l0).f1.length+1:=by rw[lA_,List.length_singleton]
                 rw[en]at ho;have R0:=A_ ho;have B1:=A_ hb;have Z1:=A_ (nT_ HW.out.le hg.size);clear ho hb hg hat hx0 hx1 hx2 hff hf1 hf2)
              | ((with_reducible refine gate_store (t:=30) (p:=89) rfl ?_)
                 refine Kd.H_store kGp (w0:=w0) base rfl rfl 30 (.tmp 89) (.tmp 87) rfl 32 (j:Int) 1 l0 ⟨(lastG l0).f0,(lastG l0).f1++[⟨x1.toList==([108,101,116]:List UInt8),x2⟩],(lastG l0).f2⟩ (.slice A3 ((lastG l0).f1.length+1) cc3) [.slice A3 ((lastG l0).f1.length+1) cc3] [.slice A0 (lastG l0).f0.length cc0,.slice A1 (lastG l0).f1.length cc1,.int .i64 (lastG l0).f2] ok (fun k=>oki k∨(ok k∧wc.heap.size≤k)) (fun k=>oki k∨(ok k∧wc.heap.size≤k)) rfl (by rw[tN_];rfl) rfl (Kd.R_val R0.out).1 infoRus (by intro q hq;rw[List.mem_singleton.1 hq];exact(Kd.R_val R0.out).2) H1.out (by omega) (by omega) (show 1+1≤3 by decide) (k32_mkM _ _ _ ⟨(lastG l0).f0,(lastG l0).f1++[⟨x1.toList==([108,101,116]:List UInt8),x2⟩],(lastG l0).f2⟩ (Kd.R_mono R1.out (fun _ hk=>.inl hk)) R0.out) (fun _ hk=>hk) B1.out ?_;intro w2 hS hB hg2;have S2:=A_ hS;have B2:=A_ hB;have K2:=A_ (Kept.of_grown hg2 K1.out (fun k hk=>.inl (by injection hk with hk;subst hk;exact(Kd.S_R hS).1 _ rfl)));have Z2:=A_ (nT_ Z1.out hg2.size);clear hS hB hg2))
            go_ret2
            have e2:=S2.out;rw[tN_]at e2
            first|exact⟨.slice (some ⟨g,0,none⟩) l0.length cc,rfl,e2,B2.out,K2.out,Z2.out⟩|(rw[←hj]at e2;exact⟨.slice (some ⟨g,0,none⟩) l0.length cc,rfl,e2,B2.out,K2.out,Z2.out⟩)
          |false=>
            rw[if_neg (by decide)]at h3;clear HC
            by_cases c5:x1.toList=([119,97,105,116]:List UInt8)
            · rw[if_pos c5]at h3
              have c5b:(x1.toList==([119,97,105,116]:List UInt8))=true:=beq_iff_eq.mpr c5;clear c5;obtain⟨m,hm,h4⟩:=oE_.mp h3;obtain⟨rfl,rfl⟩:=Prod.mk.inj (oJ_ h4);have HM:=A_ hm;clear h3 hm h4
              go_wp2_with (first
                | (go_at_call 138;(with_reducible refine(spec_l2Num.calls k x2 20 m _ HM.out).mono ?_);rintro e w5 ⟨rfl,hb5⟩
                   have HW5:=A_ (HW.out.below hb5);have HH5:=A_ (Kd.H_below HH.out hb5);have G05:=A_ (Kd.R_below G0.out hb5);have G15:=A_ (Kd.R_below G1.out hb5);clear hb5)
                | ((with_reducible refine gate_store (t:=3) (p:=99) rfl ?_)
                   refine Kd.H_store kGp (w0:=w0) base rfl rfl 3 (.tmp 99) (.tmp 97) rfl 32 (j:Int) 2 l0 ⟨(lastG l0).f0,(lastG l0).f1,m⟩ (.int .i64 m) [.int .i64 m] [.slice A0 (lastG l0).f0.length cc0,.slice A1 (lastG l0).f1.length cc1,.int .i64 (lastG l0).f2] ok oki oki rfl (by rw[tN_];rfl) rfl rfl infoInt (by intro q hq;rw[List.mem_singleton.1 hq];rfl) HH5.out (by omega) (by omega) (show 2+1≤3 by decide) (k32_mkM _ _ _ ⟨(lastG l0).f0,(lastG l0).f1,m⟩ G05.out G15.out) (fun _ hk=>hk) HW5.out.B ?_;intro w2 hS hB hg2;have S2:=A_ hS;have B2:=A_ hB;have K2:=A_ (Kept.of_grown hg2 HW5.out.K (fun k hk=>.inl (by injection hk with hk;subst hk;exact(Kd.S_R hS).1 _ rfl)));have Z2:=A_ (nT_ HW5.out.le hg2.size);clear hS hB hg2))
              go_ret2
              have e2:=S2.out;rw[tN_]at e2
              first|exact⟨.slice (some ⟨g,0,none⟩) l0.length cc,rfl,e2,B2.out,K2.out,Z2.out⟩|(rw[←hj]at e2;exact⟨.slice (some ⟨g,0,none⟩) l0.length cc,rfl,e2,B2.out,K2.out,Z2.out⟩)
            · rw[if_neg c5]at h3
              have c5b:(x1.toList==([119,97,105,116]:List UInt8))=false:=bN_.mpr c5;clear c5;obtain⟨rfl,rfl⟩:=Prod.mk.inj (oJ_ h3);clear h3;go_wp2
              go_ret2
              exact⟨_,rfl,HW.out⟩
def sLoop (k:Nat):List BA→List Gp→Bool→Option (List Gp)
  | [],gs,_=>some gs
  |s::r,gs,b=>(spec_l1Cut.f k s 32).bind fun t=>(spec_l2Line.f k gs t.1 t.2.1 b).bind fun q=>sLoop k r q.1 q.2
def spec_NoticeRead.f (k:Nat)(a0:BA):Option (List Gp):=(spec_l1Split.f k a0 10).bind fun ls=>if ls.length≤1000000000 then sLoop k (ls.take 40) [] false else none
theorem nxt (i:Nat)(h:i<1000000000):(Value.int .i64 (wrap64 ((i:Int)+1)))=.int .i64 ((i+1:Nat):Int):=by
  congr 1
  show wrap64 _=_
  unfold wrap64;omega
theorem lines_none (w w1:World)(v:Value)(h:kGp.R 32 w1 w.heap.size (fun _=>True) v []):Kd.S kGp 32 w1 w.heap.size (fun _=>True) v []:=by
  obtain⟨h0,inner,ho,hr⟩:=h;exact⟨fun _=>0,h0,inner,ho,by have:=hr.1;simpa using this,fun j p hj=>by simp at hj⟩
theorem string_at {W:World}{base:Nat}{ok:Nat→Prop}{v:Value}{xs:List BA}(h:Kd.string.R 9 W base ok v xs){i:Nat}(hi:i<xs.length):
    ∃g cap,v=.slice (some ⟨g,0,none⟩) xs.length cap∧base≤g∧g<W.heap.size∧W.cell? ⟨g,i,none⟩=some (.string xs[i]):=by
  obtain⟨g,cap,rfl,hb,hl,_⟩:=Kd.R_form h (by omega);obtain⟨c,hcl,hM,hcc,_⟩:=Kd.R_elem h (bE_) (i:Int) (by omega) (by omega);have e:(i:Int).toNat=i:=by omega
  rw[e]at hM hcc;have hc:c=[.string xs[i]]:=by
    have:c=[.string (xs.getD i bE_)]:=hM;rw[this,gD_,gE_ hi];rfl
  subst hc;refine⟨g,cap,rfl,hb,hl,?_⟩;have:=hcc 0 _ rfl
  rwa [Nat.add_zero,show Kd.string.sz=1 from rfl,Nat.mul_one]at this
set_option maxHeartbeats 8000000 in
set_option maxRecDepth 100000 in
theorem spec_NoticeRead.calls (k:Nat)(a0:BA)(r:List Gp)(w:World)(h:spec_NoticeRead.f k a0=some r):
    Calls Tryz.prog 75 #[.string a0] w fun e w'=>∃v0_:Value,e=.returned (v0_)∧Kd.S kGp 32 w' w.heap.size (fun _=>True) v0_ r∧Below w.heap.size w w':=by
  unfold spec_NoticeRead.f at h;obtain⟨ls,hls,h2⟩:=oE_.mp h
  split at h2
  case isFalse=>cases h2
  rename_i hbig;have HS:=A_ hls;have H0:=A_ h2;clear h hls h2
  go_enter Tryz.func75,Tryz.ntmps75
  go_wp2_with (first
    | ((with_reducible refine gate_dst (N:=10) rfl ?_);refine Kd.R_lit kGp w.heap.size 32 ?hg (N:=10) ?hd (xs:=[]) (inner:=[]) (ok:=fun _=>True) (okp:=fun _=>False) ?hr ?hp (fun _ hk=>hk.elim) trivial (Below.refl _ _) (lL_ _) (by simp) ?_;(case hd=>rfl);(case hg=>rfl);(case hr=>first|(go_simp;done)|(go_simp;rfl));(case hp=>exact Reps.none _ _);intro v10 w10 ho hb hg hn;obtain⟨A10,c10,rfl⟩:=Kd.R_slice ho;have HL:=A_ (show Lines w w w10 w.heap.size (fun _=>True) (.slice A10 0 c10) []from⟨lines_none _ _ _ ho,hb,⟨hg.size,fun i _ hn=>absurd trivial hn⟩,hg.size⟩);clear ho hb hg hn)
    | (go_at_call 105;(with_reducible refine(spec_l1Split.calls k a0 10 ls _ HS.out).mono ?_);rintro e w12 ⟨v12,rfl,ho12,hb12⟩;obtain⟨A12,c12,rfl⟩:=Kd.R_slice ho12;have HL2:=A_ (HL.out.below hb12);have HO:=A_ ho12;have HZ:=A_ hb12.size;have HB12:=A_ hb12;clear ho12 hb12))
  have e40:(ls.take 40).length=min 40 ls.length:=lT_;have HO1:=A_ (Kd.R_tight rfl HO.out);have HL3:=A_ (show Lines w w w12 w.heap.size (fun k=>some k≠(Value.slice A12 ls.length c12).ownBlock) (.slice A10 0 c10) []from
    ⟨Kd.S_below (Kd.S_mono (Kd.S_bound HL.out.S) (fun k hk he=>by have:=Kd.R_base HO.out k he.symm;have:=hk.2.2.1;omega)) HB12.out,HL2.out.B,Kept.of_below HL2.out.B _,HL2.out.le⟩)
  clear HL HL2 HO HZ HB12 HS
  go_loopg [3,4,6] (ls.take 40).length (fun g v3 v4 v6 wx=>∃(i:Nat)(gs:List Gp)(b:Bool),v4=.bool b∧v6=.int .i64 i∧i+g=(ls.take 40).length∧Aside0 (sLoop k ((ls.take 40).drop i) gs b=some r)∧Aside0 (Lines w w wx w.heap.size (fun k=>some k≠(Value.slice A12 ls.length c12).ownBlock) v3 gs)∧Aside0 (Kd.string.R 9 wx w10.heap.size (fun k=>some k=(Value.slice A12 ls.length c12).ownBlock) (.slice A12 ls.length c12) ls))
  case atStart=>exact⟨0,[],false,rfl,rfl,by omega,⟨by simpa using H0.out⟩,HL3,HO1⟩
  case round=>
    clear H0 HL3 HO1;obtain⟨i,gs,b,rfl,rfl,hig,H,HL,HO⟩:=hrel;have hS:=Kd.S_slice HL.out.S;obtain⟨A3,c3,e3⟩:=hS;subst e3;cases gk with
    |zero=>
      have hr:gs=r:=by
        have:=H.out;rw[List.drop_of_length_le (by omega)]at this;exact oJ_ this
      subst hr
      by_cases c1:i<ls.length
      · have c1b:decide ((i:Int)<(ls.length:Int))=true:=decide_eq_true (by omega)
        have c1n:decide (i<ls.length)=true:=decide_eq_true (by omega);have c2b:decide ((i:Int)<40)=false:=decide_eq_false (by omega);have c2n:decide (i<40)=false:=decide_eq_false (by omega);clear c1;go_wp2;go_ret;exact⟨_,rfl,Kd.S_mono HL.out.S (fun _ _=>trivial),HL.out.B⟩
      · have c1b:decide ((i:Int)<(ls.length:Int))=false:=decide_eq_false (by omega)
        have c1n:decide (i<ls.length)=false:=decide_eq_false (by omega);clear c1;go_wp2;go_ret;exact⟨_,rfl,Kd.S_mono HL.out.S (fun _ _=>trivial),HL.out.B⟩
    |succ g1=>
      have hi:i<ls.length:=by omega
      have c1b:decide ((i:Int)<(ls.length:Int))=true:=decide_eq_true (by omega);have c1n:decide (i<ls.length)=true:=decide_eq_true (by omega);have c2b:decide ((i:Int)<40)=true:=decide_eq_true (by omega);have c2n:decide (i<40)=true:=decide_eq_true (by omega);obtain⟨gl,cl,eu,hb0,hb1,hx0⟩:=string_at HO.out hi;injection eu with eu1 eu2 eu3;subst eu1;subst eu3;have p0:(0≤(i:Int))=True:=eq_true (by omega);have q0:((i:Int)<(ls.length:Int))=True:=eq_true (by omega);have h1:=H.out;rw[dE_ (by omega:i<(ls.take 40).length),List.getElem_take]at h1;unfold sLoop at h1;obtain⟨⟨t1,t2,t3⟩,A1,h2⟩:=oE_.mp h1;obtain⟨⟨gs2,b2⟩,A2,h3⟩:=oE_.mp h2;have HA1:=A_ A1;have HA2:=A_ A2;have H':=A_ h3;generalize ls[i]=s at hx0 HA1;clear H h1 h2 h3 A1 A2;have q1:(i<ls.length)=True:=eq_true (by omega)
      go_wp2_with (first
        | (go_at_call 62;(with_reducible refine(spec_l1Cut.calls k s 32 t1 t2 t3 _ HA1.out).mono ?_);rintro e w' ⟨rfl,⟨nd,rfl⟩⟩)
        | (go_at_call 106
           have HQ:=A_ (HL.out.drewN nd);have HP:=A_ (Kd.R_drewN HO.out nd)
           (with_reducible refine(spec_l2Line.calls k w.heap.size (fun k=>some k≠(Value.slice (some ⟨gl,0,none⟩) ls.length c12).ownBlock) (.slice A3 gs.length c3) gs t1 t2 b gs2 b2 w _ ⟨HQ.out.S,HQ.out.B,Kept.refl _ _,HQ.out.le⟩ (fun k hk he=>by have:=Kd.R_lt HP.out k he.symm;omega) HA2.out).mono ?_)
           rintro e w5 ⟨v5,rfl,h5⟩;have H5:=A_ h5;have HK5:=A_ (HQ.out.K.then_ h5.K (fun k hk=>.inl hk));have HO5:=A_ (Kd.R_step HP.out (fun k hk hlt=>h5.K.2 k hlt (fun h=>h hk)));clear h5))
      go_roundg g1
      case measure=>omega
      case rel=>exact⟨i+1,gs2,b2,rfl,by first|rw[nxt i (by omega)]|simp,by omega,H',⟨⟨H5.out.S,H5.out.B,HK5.out,H5.out.le⟩⟩,HO5⟩
def strings_explode.f (a0:BA)(a1:Int):Option (List BA):=none
theorem strings_explode.calls (a0:BA)(a1:Int)(r:List BA)(w:World)(h:strings_explode.f a0 a1=some r):
  Calls Tryz.prog 112 #[.string a0,.int .i64 a1] w fun e w'=>∃v0_:Value,e=.returned (v0_)∧Kd.R Kd.string 9 w' w.heap.size (fun _=>True) v0_ r∧Below w.heap.size w w':=by
 cases h
theorem row_at {w:World}{A:Option Addr}{xs:List BA}(h:Kd.C Kd.string w A xs.length xs)(hn:0<xs.length):
  ∃bk o,A=some ⟨bk,o,none⟩∧bk<w.heap.size∧∀(j:Nat) x,xs[j]?=some x→w.cell? ⟨bk,o+j,none⟩=some (.string x):=by
 obtain⟨_,_,h3⟩:=h;obtain⟨ad,rfl,hc⟩:=h3 hn;have cells:∀(j:Nat) x,xs[j]?=some x→w.cell? (ad.add j)=some (.string x):=by
  intro j x hx;obtain⟨c,hl,hk,hcell⟩:=hc j x hx;have hk':c=[Value.string x]:=hk;subst hk';have:=hcell 0 (.string x) rfl;rw[show j*Kd.string.sz+0=j from by show j*1+0=j;omega]at this;exact this
 have h0:=cells 0 xs[0] (gE_ hn);obtain⟨bk,o,sp⟩:=ad;have h0':w.cell? ⟨bk,o,sp⟩=some (.string xs[0]):=h0;have hsp:sp=none:=by
  cases sp with
  |none=>rfl
  |some y=>
   unfold World.cell? at h0';simp at h0'
   split at h0' <;> simp at h0'
 subst hsp;refine⟨bk,o,rfl,?_,fun j x hx=>?_⟩
 ·rcases Nat.lt_or_ge bk w.heap.size with h|h
  ·exact h
  ·unfold World.cell? at h0'
   simp[Array.getElem?_eq_none h]at h0'
 ·have:=cells j x hx
  unfold Addr.add at this
  split at this
  ·rename_i hj;subst hj;exact this
  ·exact this
end Go.Proofs.YtloijngehifbmaaGreatDoor.P
end
section
namespace Go.Proofs.YtloijngehifbmaaGreatDoor.P
open Go.RowKit Go.Proofs.YtloijngehifbmaaGreatDoorW PrintWords PrintLast PrintMore
set_option maxHeartbeats 8000000
set_option maxRecDepth 100000
def hexS:BA:=⟨#[48,49,50,51,52,53,54,55,56,57,65,66,67,68,69,70]⟩
def figAt (k:Nat):Nat:=if k<10 then 48+k else 55+k
def figI (b:Int):Int×Bool:=if 48≤b∧b≤57 then(b-48,true)else if 65≤b∧b≤70 then(b-55,true)else(0,false)
def impl_figureValue.f (a0:Int):Option (Int×Bool):=if 0≤a0∧a0<256 then some (figI (if 97≤a0∧a0≤102 then a0-32 else a0))else none
theorem hex_at:∀k:Nat,k<16→hexS.size=16∧∃h:k<hexS.size,(hexS[k]'h).toNat=figAt k:=by decide +kernel
theorem fig_hit {k:Nat}{b:Int}(hk:k<16)(h:(figAt k:Int)=b):figI b=((k:Int),true):=by
 unfold figAt at h;unfold figI
 split at h
 ·rw[if_pos (by omega)];congr 1;omega
 ·rw[if_neg (by omega),if_pos (by omega)];congr 1;omega
theorem fig_miss {b:Int}(h:∀j:Nat,j<16→(figAt j:Int)≠b):figI b=(0,false):=by
 unfold figI
 split
 ·rename_i hh
  exact absurd (by unfold figAt;rw[if_pos (by omega)];omega) (h (b-48).toNat (by omega))
 ·split
  ·rename_i hh
   exact absurd (by unfold figAt;rw[if_neg (by omega)];omega) (h (b-55).toNat (by omega))
  ·rfl
theorem impl_figureValue.calls (a0:Int)(r0:Int)(r1:Bool)(w:World)(h:impl_figureValue.f a0=some (r0,r1)):
  Calls Tryz.prog 168 #[.int .u8 a0] w fun e w'=>e=.returned (.tuple #[.int .i64 r0,.bool r1])∧Below w.heap.size w w':=by
 unfold impl_figureValue.f at h
 split at h
 case isFalse=>cases h
 rename_i hh;have h:=sI h;obtain⟨b,hb⟩:∃b,b=(if 97≤a0∧a0≤102 then a0-32 else a0):=⟨_,rfl⟩;rw[←hb]at h;by_cases h1:97≤a0
 ·by_cases h2:a0≤102
  ·rw[if_pos ⟨h1,h2⟩]at hb
   go_enter Tryz.func168,Tryz.ntmps168;go_wp2
   go_loopw [4] (fun n w'=>∃k:Nat,k≤16∧w'=w.iter hexS k∧∀j:Nat,j<k→(figAt j:Int)≠(a0-32)) (fun _ w'=>16-w'.iterPos w.heap.size)
   case atStart=>exact⟨0,by omega,rfl,fun j hj=>absurd hj (by omega)⟩
   case round=>
    obtain⟨k,hk,rfl,hne⟩:=hrel;have hbel:∀p,Below w.heap.size w (w.iter hexS p):=fun p=>(Below.refl _ _).alloc (lL_ _) _
    by_cases hlt:k<16
    ·obtain⟨hsz,hx,hf⟩:=hex_at k hlt
     have hnx:∀ty,(Instr.next (.pointer (some ⟨w.heap.size,0,none⟩)) true ty).run Tryz.prog (w.iter hexS k)=.ok (.tuple #[.bool true,.int .i64 k,.int .i32 (figAt k:Nat)]) (w.iter hexS (k+1)):=fun ty=>by
      have hfl:figAt k<128:=by unfold figAt;split <;> omega
      rw[←hf];exact run_next_ascii w hexS k ty hx (by rw[hf];exact hfl)
     by_cases he:(figAt k:Int)=(a0-32)
     ·have hr:=fig_hit hlt he
      rw[←hb,h,pI_]at hr;obtain⟨rfl,rfl⟩:=hr;go_wp2
      go_ret2
      exact⟨rfl,hbel _⟩
     ·go_wp2
      refine⟨⟨k+1,by omega,rfl,fun j hj=>?_⟩,by simp;omega⟩;by_cases e:j=k
      ·subst e;exact he
      ·exact hne j (by omega)
    ·obtain rfl:k=16:=by omega
     have hr:=fig_miss hne;rw[←hb,h,pI_]at hr;obtain⟨rfl,rfl⟩:=hr;have hnx:∀ty,(Instr.next (.pointer (some ⟨w.heap.size,0,none⟩)) true ty).run Tryz.prog (w.iter hexS 16)=_:=fun ty=>run_next_end w hexS 16 ty (by decide)
     go_wp2
     go_ret2
     exact⟨rfl,hbel _⟩
  ·rw[if_neg (fun e=>h2 e.2)]at hb
   go_enter Tryz.func168,Tryz.ntmps168;go_wp2
   go_loopw [4] (fun n w'=>∃k:Nat,k≤16∧w'=w.iter hexS k∧∀j:Nat,j<k→(figAt j:Int)≠a0) (fun _ w'=>16-w'.iterPos w.heap.size)
   case atStart=>exact⟨0,by omega,rfl,fun j hj=>absurd hj (by omega)⟩
   case round=>
    obtain⟨k,hk,rfl,hne⟩:=hrel;have hbel:∀p,Below w.heap.size w (w.iter hexS p):=fun p=>(Below.refl _ _).alloc (lL_ _) _
    by_cases hlt:k<16
    ·obtain⟨hsz,hx,hf⟩:=hex_at k hlt
     have hnx:∀ty,(Instr.next (.pointer (some ⟨w.heap.size,0,none⟩)) true ty).run Tryz.prog (w.iter hexS k)=.ok (.tuple #[.bool true,.int .i64 k,.int .i32 (figAt k:Nat)]) (w.iter hexS (k+1)):=fun ty=>by
      have hfl:figAt k<128:=by unfold figAt;split <;> omega
      rw[←hf];exact run_next_ascii w hexS k ty hx (by rw[hf];exact hfl)
     by_cases he:(figAt k:Int)=a0
     ·have hr:=fig_hit hlt he
      rw[←hb,h,pI_]at hr;obtain⟨rfl,rfl⟩:=hr;go_wp2
      go_ret2
      exact⟨rfl,hbel _⟩
     ·go_wp2
      refine⟨⟨k+1,by omega,rfl,fun j hj=>?_⟩,by simp;omega⟩;by_cases e:j=k
      ·subst e;exact he
      ·exact hne j (by omega)
    ·obtain rfl:k=16:=by omega
     have hr:=fig_miss hne;rw[←hb,h,pI_]at hr;obtain⟨rfl,rfl⟩:=hr;have hnx:∀ty,(Instr.next (.pointer (some ⟨w.heap.size,0,none⟩)) true ty).run Tryz.prog (w.iter hexS 16)=_:=fun ty=>run_next_end w hexS 16 ty (by decide)
     go_wp2
     go_ret2
     exact⟨rfl,hbel _⟩
 ·rw[if_neg (fun e=>h1 e.1)]at hb
  go_enter Tryz.func168,Tryz.ntmps168;go_wp2
  go_loopw [4] (fun n w'=>∃k:Nat,k≤16∧w'=w.iter hexS k∧∀j:Nat,j<k→(figAt j:Int)≠a0) (fun _ w'=>16-w'.iterPos w.heap.size)
  case atStart=>exact⟨0,by omega,rfl,fun j hj=>absurd hj (by omega)⟩
  case round=>
   obtain⟨k,hk,rfl,hne⟩:=hrel;have hbel:∀p,Below w.heap.size w (w.iter hexS p):=fun p=>(Below.refl _ _).alloc (lL_ _) _
   by_cases hlt:k<16
   ·obtain⟨hsz,hx,hf⟩:=hex_at k hlt
    have hnx:∀ty,(Instr.next (.pointer (some ⟨w.heap.size,0,none⟩)) true ty).run Tryz.prog (w.iter hexS k)=.ok (.tuple #[.bool true,.int .i64 k,.int .i32 (figAt k:Nat)]) (w.iter hexS (k+1)):=fun ty=>by
     have hfl:figAt k<128:=by unfold figAt;split <;> omega
     rw[←hf];exact run_next_ascii w hexS k ty hx (by rw[hf];exact hfl)
    by_cases he:(figAt k:Int)=a0
    ·have hr:=fig_hit hlt he
     rw[←hb,h,pI_]at hr;obtain⟨rfl,rfl⟩:=hr;go_wp2
     go_ret2
     exact⟨rfl,hbel _⟩
    ·go_wp2
     refine⟨⟨k+1,by omega,rfl,fun j hj=>?_⟩,by simp;omega⟩;by_cases e:j=k
     ·subst e;exact he
     ·exact hne j (by omega)
   ·obtain rfl:k=16:=by omega
    have hr:=fig_miss hne;rw[←hb,h,pI_]at hr;obtain⟨rfl,rfl⟩:=hr;have hnx:∀ty,(Instr.next (.pointer (some ⟨w.heap.size,0,none⟩)) true ty).run Tryz.prog (w.iter hexS 16)=_:=fun ty=>run_next_end w hexS 16 ty (by decide)
    go_wp2
    go_ret2
    exact⟨rfl,hbel _⟩
end Go.Proofs.YtloijngehifbmaaGreatDoor.P
end
section
namespace Go.Proofs.YtloijngehifbmaaGreatDoor.P
open Go.RowKit Go.Proofs.YtloijngehifbmaaGreatDoorW PrintWords PrintLast PrintMore
attribute [local go_sem] max2_int min2_int max_two min_two max_three min_three max_four min_four
set_option maxHeartbeats 8000000
set_option maxRecDepth 100000
def spec_l1Norm.f (k:Nat)(a0:BA):Option (Bool):=(spec_EscNorm.f k a0).bind fun bt141=>(if bt141.2=true then(some (bt141.1.toList==a0.toList))else(some false))
theorem spec_l1Norm.mono:∀a0 k,LeO (spec_l1Norm.f k a0) (spec_l1Norm.f (k+1) a0):=by
 intro a0 k;unfold spec_l1Norm.f
 repeat' first|(with_reducible first|exact spec_EscNorm.mono _ _|exact LeO.refl _|exact LeO.none _|refine LeO.ite ?_ ?_|refine LeO.bind ?_ (fun _=>?_))|exact LeO.none _|refine LeO.ite ?_ ?_|refine LeO.bind ?_ (fun _=>?_)
theorem spec_l1Norm.calls (k:Nat)(a0:BA)(r:Bool)(w:World)(h:spec_l1Norm.f k a0=some r):
  Calls Tryz.prog 151 #[.string a0] w fun e w'=>e=.returned (.bool r)∧Below w.heap.size w w':=by
 have HB:=A_ (Below.refl w.heap.size w);unfold spec_l1Norm.f at h;have H:=h;clear h;replace H:=bindA H;obtain⟨⟨t141,t142⟩,A2,H⟩:=H;try dsimp only at H;have HF3:=A_ H;clear H;go_enter Tryz.func151,Tryz.ntmps151;go_wp2_with (first|(refine gR 119 (some 7) Tryz.func119 (spec_EscNorm.calls k a0 t141 t142 _ A2.out) ?_;rintro w4 hb;replace HB:=A_ (bS (zz6 HB) hb);(try clear hb))|((with_reducible refine atG ?_ ?_ fun K_ hK_=>?_);rfl;exact undecG)|((with_reducible refine atI ?_ fun K_ hK_=>?_);exact undecI));refine unG hK_ ?_;clear hK_ K_;obtain⟨H⟩:=HF3;replace H:=iteB H;rcases H with⟨rfl,H⟩|⟨rfl,H⟩
 ·(first|refine iteT ?_|refine iteF ?_|skip)
  obtain rfl:=sI H;(try((with_reducible refine upS ?_);go_simp));go_wp2;go_ret;exact⟨zz9,(zz6 HB)⟩
 ·(first|refine iteT ?_|refine iteF ?_|skip)
  obtain rfl:=sI H;(try((with_reducible refine upS ?_);go_simp));go_wp2;go_ret;exact⟨zz9,(zz6 HB)⟩
mutual
def spec_AddrOk.j0:Nat→Bool→BA→List BA→Bool→BA→Option (Bool)
 |0,_,_,_,_,_=>none
 |k+1,x29,x144000,x144001,x144002,x144003=>if x29=true then(some false)else(spec_AddrOk.l0 k 0 x144000 x144001 x144002 x144003)
def spec_AddrOk.l0:Nat→Int→BA→List BA→Bool→BA→Option (Bool)
 |0,_,_,_,_,_=>none
 |k+1,x3,x144000,x144001,x144002,x144003=>if x3<(x144001.length:Int)then(if 0≤x3 then((spec_l1Norm.f k (rdOf bE_ x144001 x3)).bind fun t147=>(if t147=true then(if(rdOf bE_ x144001 x3).toList=([]:List UInt8)then(some false)else(if(rdOf bE_ x144001 x3).toList=([46]:List UInt8)then(some false)else(if(rdOf bE_ x144001 x3).toList=([46,46]:List UInt8)then(some false)else(spec_AddrOk.l0 k (wrap64 (x3+1)) x144000 x144001 x144002 x144003))))else(some false)))else(none))else((spec_l1Text.f k x144000 x144001 x144002 x144003).bind fun t151=>(some (decide ((t151.size:Int)≤60))))
end
def spec_AddrOk.f (k:Nat)(a0_0:BA)(l0_1:List BA)(a0_2:Bool)(a0_3:BA):Option (Bool):=(spec_l1House.f k a0_0).bind fun t144=>(if t144=true then(if(l0_1.length:Int)>5 then(spec_AddrOk.j0 k true a0_0 l0_1 a0_2 a0_3)else((spec_l1Norm.f k a0_3).bind fun t145=>(if t145=true then(if a0_2=true then(spec_AddrOk.j0 k false a0_0 l0_1 a0_2 a0_3)else(spec_AddrOk.j0 k (a0_3.toList != ([]:List UInt8)) a0_0 l0_1 a0_2 a0_3))else(spec_AddrOk.j0 k true a0_0 l0_1 a0_2 a0_3))))else(spec_AddrOk.j0 k true a0_0 l0_1 a0_2 a0_3))
theorem spec_AddrOk.mono_l:∀k,(∀y0 y1 y2 y3 y4,LeO (spec_AddrOk.j0 k y0 y1 y2 y3 y4) (spec_AddrOk.j0 (k+1) y0 y1 y2 y3 y4))∧(∀y0 y1 y2 y3 y4,LeO (spec_AddrOk.l0 k y0 y1 y2 y3 y4) (spec_AddrOk.l0 (k+1) y0 y1 y2 y3 y4))
 |0=>by refine⟨?_,?_⟩ <;> (intros;intro r h;simp[spec_AddrOk.j0,spec_AddrOk.l0]at h)
 |k+1=>by
  obtain⟨ih0,ih1⟩:=spec_AddrOk.mono_l k;refine⟨?_,?_⟩ <;> intros <;> (first|unfold spec_AddrOk.j0|unfold spec_AddrOk.l0) <;>
  repeat' first|(with_reducible first|exact ih0 _ _ _ _ _|exact ih1 _ _ _ _ _|exact spec_l1House.mono _ _|exact spec_l1Norm.mono _ _|exact spec_l1Text.mono _ _ _ _ _|exact LeO.refl _|exact LeO.none _|refine LeO.ite ?_ ?_|refine LeO.bind ?_ (fun _=>?_))|exact LeO.none _|refine LeO.ite ?_ ?_|refine LeO.bind ?_ (fun _=>?_)
theorem spec_AddrOk.mono:∀a0 a1 a2 a3 k,LeO (spec_AddrOk.f k a0 a1 a2 a3) (spec_AddrOk.f (k+1) a0 a1 a2 a3):=by
 intro a0 a1 a2 a3 k;obtain⟨ih0,ih1⟩:=spec_AddrOk.mono_l k;unfold spec_AddrOk.f
 repeat' first|(with_reducible first|exact ih0 _ _ _ _ _|exact ih1 _ _ _ _ _|exact spec_l1House.mono _ _|exact spec_l1Norm.mono _ _|exact spec_l1Text.mono _ _ _ _ _|exact LeO.refl _|exact LeO.none _|refine LeO.ite ?_ ?_|refine LeO.bind ?_ (fun _=>?_))|exact LeO.none _|refine LeO.ite ?_ ?_|refine LeO.bind ?_ (fun _=>?_)
theorem spec_AddrOk.calls (k:Nat)(a0_0:BA)(A0_1:Option Addr)(c0_1:Nat)(l0_1:List BA)(a0_2:Bool)(a0_3:BA)(r:Bool)(w:World)(hr0_1:Kd.C Kd.string w A0_1 l0_1.length l0_1)(hc0_1:l0_1.length≤c0_1)(h:spec_AddrOk.f k a0_0 l0_1 a0_2 a0_3=some r):
  Calls Tryz.prog 121 #[.agg #[.string a0_0,.slice A0_1 l0_1.length c0_1,.bool a0_2,.string a0_3]] w fun e w'=>e=.returned (.bool r)∧Below w.heap.size w w':=by
 have hu51:=Tryz.underlying51;have HR0_1:=A_ hr0_1;have HC0_1:=A_ hc0_1;clear hr0_1 hc0_1;have HB:=A_ (Below.refl w.heap.size w);unfold spec_AddrOk.f at h;have H:=h;clear h;have HC2:=A_ H;clear H;go_enter Tryz.func121,Tryz.ntmps121;go_upto_region 1 with(first|((with_reducible refine gD (N:=1) rfl ?_);(try(refine gate_guard (by rfl) ?_;dsimp only));refine boxE 1 #[.string a0_0,.slice A0_1 l0_1.length c0_1,.bool a0_2,.string a0_3] 51 ?_;intro gb143 hg w3 hbox hb;have BK143:=A_ (hbox);have GE143:=geB hg (zz6 HB);replace HB:=A_ (bS (zz6 HB) hb);clear hb hbox hg))
 (try simp only[Act.put,lS_,l0_,lC_])
 go_cut [29] (fun v29 wc=>∃(kq:Nat)(x29_1:Bool),v29=.bool x29_1∧Aside0 (spec_AddrOk.j0 kq x29_1 a0_0 l0_1 a0_2 a0_3=some r)∧Aside0 (kq≤k)∧Aside0 (wc.heap[gb143]?=some (.cells #[.string a0_0,(.slice A0_1 l0_1.length c0_1),.bool a0_2,.string a0_3] 51 (0,0)))∧Aside0 (Below w.heap.size w wc))
 case first=>
  obtain⟨H⟩:=HC2;replace H:=bindA H;obtain⟨t144,A4,H⟩:=H;have HF5:=A_ H;clear H;obtain⟨_,_,_,_,_,_,_,_⟩:=cf4 BK143;go_wp2_with (first|(refine gR 34 (some 6) Tryz.func34 (spec_l1House.calls k a0_0 t144 _ A4.out) ?_;rintro w' ⟨nd,rfl⟩)|((with_reducible refine atG ?_ ?_ fun K_ hK_=>?_);rfl;exact undecG)|((with_reducible refine atI ?_ fun K_ hK_=>?_);exact undecI));refine unG hK_ ?_;clear hK_ K_;obtain⟨H⟩:=HF5;replace H:=iteB H;rcases H with⟨rfl,H⟩|⟨rfl,H⟩
  ·(first|refine iteT ?_|refine iteF ?_|skip)
   replace H:=iteE H;rcases H with⟨c8,H⟩|⟨c8,H⟩
   ·have c8b0:=gtT c8
    have c8b1:decide (5<l0_1.length)=true:=dT (by omega);clear c8;have H':=A_ H;clear H;obtain⟨_,_,_,_,_,_,_,_⟩:=cf4 BK143;go_wp2
    go_meet
    case rel=>exact⟨_,(true),zz0,H',⟨zz10⟩,⟨(zz18 BK143)⟩,⟨(zz19 HB GE143)⟩⟩
   ·have c8b0:=gtF c8
    have c8b1:decide (5<l0_1.length)=false:=dF (by omega);clear c8;replace H:=bindA H;obtain⟨t145,A10,H⟩:=H;have HF11:=A_ H;clear H;obtain⟨_,_,_,_,_,_,_,_⟩:=cf4 BK143;go_wp2_with (first|(go_at_call 151;(with_reducible refine(spec_l1Norm.calls k a0_3 t145 _ A10.out).mono ?_);rintro e w13 ⟨rfl,hb⟩;replace BK143:=A_ (bB (zz18 BK143) hb);replace HB:=A_ (bS (zz19 HB GE143) hb);(try clear hb))|((with_reducible refine atG ?_ ?_ fun K_ hK_=>?_);rfl;exact undecG)|((with_reducible refine atI ?_ fun K_ hK_=>?_);exact undecI));refine unG hK_ ?_;clear hK_ K_;obtain⟨H⟩:=HF11;replace H:=iteB H;rcases H with⟨rfl,H⟩|⟨rfl,H⟩
    ·(first|refine iteT ?_|refine iteF ?_|skip)
     replace H:=iteB H;rcases H with⟨rfl,H⟩|⟨rfl,H⟩
     ·have H':=A_ H
      clear H;obtain⟨_,_,_,_,_,_,_,_⟩:=cf4 BK143;go_wp2
      go_meet
      case rel=>exact⟨_,(false),zz0,H',⟨zz10⟩,⟨(zz18 BK143)⟩,⟨(zz19 HB GE143)⟩⟩
     ·have H':=A_ H
      clear H;obtain⟨_,_,_,_,_,_,_,_⟩:=cf4 BK143;go_wp2
      go_meet
      case rel=>exact⟨_,((a0_3.toList != ([]:List UInt8))),zz0,H',⟨zz10⟩,⟨(zz18 BK143)⟩,⟨(zz19 HB GE143)⟩⟩
    ·(first|refine iteT ?_|refine iteF ?_|skip)
     have H':=A_ H;clear H;(try((with_reducible refine upS ?_);go_simp));go_wp2
     go_meet
     case rel=>exact⟨_,(true),zz0,H',⟨zz10⟩,⟨(zz18 BK143)⟩,⟨(zz19 HB GE143)⟩⟩
  ·(first|refine iteT ?_|refine iteF ?_|skip)
   have H':=A_ H;clear H;(try((with_reducible refine upS ?_);go_simp));go_wp2
   go_meet
   case rel=>exact⟨_,(true),zz0,H',⟨zz10⟩,⟨(zz18 BK143)⟩,⟨(zz19 HB GE143)⟩⟩
 case rest=>
  clear HC2;obtain⟨kq,x29_1,rfl,HA,HJ1,BK143,HB⟩:=hcut;cases kq with
  |zero=>exact absurd HA.out (by simp[spec_AddrOk.j0])
  |succ kj1=>
   obtain⟨H⟩:=HA;simp only[spec_AddrOk.j0]at H;replace H:=iteB H;rcases H with⟨rfl,H⟩|⟨rfl,H⟩
   ·obtain rfl:=sI H
    go_wp2;go_ret;exact⟨zz9,(zz19 HB GE143)⟩
   ·have H':=A_ H
    clear H;go_wp2
    go_loopg [3] kj1 (fun kq v3 w'=>∃(x3_2:Int),v3=.int .i64 x3_2∧Aside0 (spec_AddrOk.l0 kq x3_2 a0_0 l0_1 a0_2 a0_3=some r)∧Aside0 (kq≤kj1)∧Aside0 (w'.heap[gb143]?=some (.cells #[.string a0_0,(.slice A0_1 l0_1.length c0_1),.bool a0_2,.string a0_3] 51 (0,0)))∧Aside0 (Below w.heap.size w w'))
    case atStart=>exact⟨(0),zz0,H',⟨lL_ _⟩,⟨(zz18 BK143)⟩,⟨(zz19 HB GE143)⟩⟩
    case round=>
     clear H';obtain⟨x3_2,rfl,HA,HK2,BK143,HB⟩:=hrel;cases gk with
     |zero=>exact absurd HA.out (by simp[spec_AddrOk.l0])
     |succ k2=>
      obtain⟨H⟩:=HA;simp only[spec_AddrOk.l0]at H;replace H:=iteEd H;rcases H with⟨c19b0,H⟩|⟨c19b0,H⟩
      ·replace H:=iteNd H
       obtain⟨c20b0,H⟩:=H;replace H:=bindA H;obtain⟨t147,A21,H⟩:=H;have HF22:=A_ H;clear H;obtain⟨_,_,_,_,_,_,_,_⟩:=cf4 BK143;obtain⟨⟨ad146,e146,hx146_0⟩,p146,q146⟩:=atB (Kd.at_string HR0_1.out x3_2);cases e146;replace hx146_0:=cbl HB hx146_0;go_wp2_with (first|(refine gR 151 (some 42) Tryz.func151 (spec_l1Norm.calls k2 (rdOf bE_ l0_1 x3_2) t147 _ A21.out) ?_;rintro w24 hb;replace BK143:=A_ (bB (zz18 BK143) hb);replace HB:=A_ (bS (zz19 HB GE143) hb);(try clear hb))|((with_reducible refine atG ?_ ?_ fun K_ hK_=>?_);rfl;exact undecG)|((with_reducible refine atI ?_ fun K_ hK_=>?_);exact undecI));refine unG hK_ ?_;clear hK_ K_;obtain⟨H⟩:=HF22;replace H:=iteB H;rcases H with⟨rfl,H⟩|⟨rfl,H⟩
       ·(first|refine iteT ?_|refine iteF ?_|skip)
        replace H:=iteEq H;rcases H with⟨c26b0,c26b1,H⟩|⟨c26b0,c26b1,c26,H⟩
        ·obtain rfl:=sI H
         obtain⟨_,_,_,_,_,_,_,_⟩:=cf4 BK143;obtain⟨⟨ad148,e148,hx148_0⟩,p148,q148⟩:=atB (Kd.at_string HR0_1.out x3_2);obtain rfl:ad146=ad148:=(by injection e148);replace hx148_0:=cbl HB hx148_0;go_wp2;go_ret;exact⟨zz9,(zz19 HB GE143)⟩
        ·replace H:=iteEq H
         rcases H with⟨c28b0,c28b1,H⟩|⟨c28b0,c28b1,c28,H⟩
         ·obtain rfl:=sI H
          obtain⟨_,_,_,_,_,_,_,_⟩:=cf4 BK143;obtain⟨⟨ad148,e148,hx148_0⟩,p148,q148⟩:=atB (Kd.at_string HR0_1.out x3_2);obtain rfl:ad146=ad148:=(by injection e148);replace hx148_0:=cbl HB hx148_0;obtain⟨⟨ad149,e149,hx149_0⟩,p149,q149⟩:=atB (Kd.at_string HR0_1.out x3_2);obtain rfl:ad146=ad149:=(by injection e149);replace hx149_0:=cbl HB hx149_0;go_wp2;go_ret;exact⟨zz9,(zz19 HB GE143)⟩
         ·replace H:=iteEq H
          rcases H with⟨c30b0,c30b1,H⟩|⟨c30b0,c30b1,c30,H⟩
          ·obtain rfl:=sI H
           obtain⟨_,_,_,_,_,_,_,_⟩:=cf4 BK143;obtain⟨⟨ad148,e148,hx148_0⟩,p148,q148⟩:=atB (Kd.at_string HR0_1.out x3_2);obtain rfl:ad146=ad148:=(by injection e148);replace hx148_0:=cbl HB hx148_0;obtain⟨⟨ad149,e149,hx149_0⟩,p149,q149⟩:=atB (Kd.at_string HR0_1.out x3_2);obtain rfl:ad146=ad149:=(by injection e149);replace hx149_0:=cbl HB hx149_0;obtain⟨⟨ad150,e150,hx150_0⟩,p150,q150⟩:=atB (Kd.at_string HR0_1.out x3_2);obtain rfl:ad146=ad150:=(by injection e150);replace hx150_0:=cbl HB hx150_0;go_wp2;go_ret;exact⟨zz9,(zz19 HB GE143)⟩
          ·have H':=A_ H
           clear H;obtain⟨_,_,_,_,_,_,_,_⟩:=cf4 BK143;obtain⟨⟨ad148,e148,hx148_0⟩,p148,q148⟩:=atB (Kd.at_string HR0_1.out x3_2);obtain rfl:ad146=ad148:=(by injection e148);replace hx148_0:=cbl HB hx148_0;obtain⟨⟨ad149,e149,hx149_0⟩,p149,q149⟩:=atB (Kd.at_string HR0_1.out x3_2);obtain rfl:ad146=ad149:=(by injection e149);replace hx149_0:=cbl HB hx149_0;obtain⟨⟨ad150,e150,hx150_0⟩,p150,q150⟩:=atB (Kd.at_string HR0_1.out x3_2);obtain rfl:ad146=ad150:=(by injection e150);replace hx150_0:=cbl HB hx150_0;go_wp2
           go_roundg k2
           case measure=>have:=HJ1.out;have:=HK2.out;omega
           case rel=>exact⟨(wrap64 (x3_2+1)),zz0,H',⟨(zz16 HJ1 HK2)⟩,⟨(zz18 BK143)⟩,⟨(zz19 HB GE143)⟩⟩
       ·(first|refine iteT ?_|refine iteF ?_|skip)
        obtain rfl:=sI H;(try((with_reducible refine upS ?_);go_simp));go_wp2;go_ret;exact⟨zz9,(zz19 HB GE143)⟩
      ·replace H:=bindA H
       obtain⟨t151,A33,H⟩:=H;obtain rfl:=sI H;obtain⟨_,_,_,_,_,_,_,_⟩:=cf4 BK143;go_wp2_with (first|(refine gR 122 (some 69) Tryz.func122 (spec_l1Text.calls k2 a0_0 _ _ l0_1 a0_2 a0_3 t151 _ ?side1 ?side2 A33.out) ?_;(case side1=>exact(zz29 HR0_1 HB));(case side2=>exact HC0_1.out);rintro w35 hb;replace BK143:=A_ (bB (zz18 BK143) hb);replace HB:=A_ (bS (zz19 HB GE143) hb);(try clear hb)));go_ret;exact⟨zz9,(zz19 HB GE143)⟩
def spec_l1Way.l0:Nat→BA→Bool→List BA→List BA→Int→BA→List BA→Bool→BA→Option (BA×List BA×Bool×BA×Bool)
 |0,_,_,_,_,_,_,_,_,_=>none
 |k+1,x6,x7,x8,x9,x10,x153000,x153001,x153002,x153003=>if x10<(x9.length:Int)then(if 0≤x10 then((spec_EscNorm.f k (rdOf bE_ x9 x10)).bind fun bt167=>(if bt167.2=true then(if x8.length<8796093022208 then(spec_l1Way.l0 k x6 x7 (x8++[bt167.1]) x9 (wrap64 (x10+1)) x153000 x153001 x153002 x153003)else(none))else(some ((⟨#[]⟩:BA),([]:List BA),false,(⟨#[]⟩:BA),false))))else(none))else((spec_EscNorm.f k x6).bind fun bt172=>((spec_PathClean.f k x8).bind fun t174=>(if bt172.2=true then((spec_AddrOk.f k x153000 t174 x7 bt172.1).bind fun t178=>(if t178=true then(some (x153000,t174,x7,bt172.1,true))else(some ((⟨#[]⟩:BA),([]:List BA),false,(⟨#[]⟩:BA),false))))else(some ((⟨#[]⟩:BA),([]:List BA),false,(⟨#[]⟩:BA),false)))))
def spec_l1Way.f (k:Nat)(a0_0:BA)(l0_1:List BA)(a0_2:Bool)(a0_3:BA)(a1:BA):Option (BA×List BA×Bool×BA×Bool):=(spec_l1Cut.f k a1 63).bind fun bt154=>((some (([]:List BA):List BA)).bind fun y157=>(if y157.length+l0_1.length<8796093022208 then((spec_l1Split.f k bt154.1 47).bind fun t163=>(spec_l1Way.l0 k bt154.2.1 bt154.2.2 (y157++l0_1) t163 0 a0_0 l0_1 a0_2 a0_3))else(none)))
def spec_l1Way.T12:Bool×List (List Nat×List Nat):=(true,[([],[]),([0],[0]),([],[]),([2],[2]),([],[]),([],[]),([1,3,4,5],[1,3,4,5]),([],[]),([7,6,3,0,1,2,3,4,5,6,7],[6,7])])
def spec_l1Way.B12:List Nat:=[0,1,0,4,0,0,63,0,255]
theorem spec_l1Way.tab12:rtab .any (opsOf Tryz.f91 12)=spec_l1Way.T12:=by kernel_rfl
theorem spec_l1Way.bits12:waitsOk spec_l1Way.T12.2 spec_l1Way.B12=true:=by kernel_rfl
theorem spec_l1Way.calls (k:Nat)(a0_0:BA)(A0_1:Option Addr)(c0_1:Nat)(l0_1:List BA)(a0_2:Bool)(a0_3:BA)(a1:BA)(r1:BA)(r2:List BA)(r3:Bool)(r4:BA)(r5:Bool)(w:World)(hr0_1:Kd.C Kd.string w A0_1 l0_1.length l0_1)(hc0_1:l0_1.length≤c0_1)(h:spec_l1Way.f k a0_0 l0_1 a0_2 a0_3 a1=some (r1,r2,r3,r4,r5)):
  Calls Tryz.prog 91 #[.agg #[.string a0_0,.slice A0_1 l0_1.length c0_1,.bool a0_2,.string a0_3],.string a1] w fun e w'=>∃v1_:Value,e=.returned (.tuple #[.agg #[.string r1,v1_,.bool r3,.string r4],.bool r5])∧Kd.R Kd.string 9 w' w.heap.size (fun _=>True) v1_ r2∧Below w.heap.size w w':=by
 have hu51:=Tryz.underlying51;have HR0_1:=A_ hr0_1;have HC0_1:=A_ hc0_1;clear hr0_1 hc0_1;have HB:=A_ (Below.refl w.heap.size w);unfold spec_l1Way.f at h;have H:=h;clear h;replace H:=bindA H;obtain⟨⟨t154,t155,t156⟩,A3,H⟩:=H;try dsimp only at H;obtain⟨y157,Ny157,H⟩:=bindY H;replace H:=iteE H;rcases H with⟨c4,H⟩|⟨c4,H⟩
 ·have LMc4:=A_ c4
  clear c4;obtain⟨y160,Ny160⟩:=toY (y157++l0_1);(first|with_reducible replace H:=bindZ Ny160 H|rw[←Ny160.out]at H|skip);replace H:=bindA H;obtain⟨t163,A5,H⟩:=H;have H':=A_ H;clear H;go_enter Tryz.func91,Tryz.ntmps91;go_wp2_with (first|(refine boxF 2 #[.string a0_0,.slice A0_1 l0_1.length c0_1,.bool a0_2,.string a0_3] 51 ?_;intro gb152 hg w6 BK152 hb;have GE152:=geB hg (zz6 HB);replace HB:=A_ (bS (zz6 HB) hb);clear hb hg)|(refine boxF 4 #[.string (⟨#[]⟩:BA),.slice none 0 0,.bool false,.string (⟨#[]⟩:BA)] 51 ?_;intro gb153 hg w7 BK153 hb;have GE153:=geB hg (zz19 HB GE152);replace HB:=A_ (bS (zz19 HB GE152) hb);have NB152_153:=A_ ((by rw[hg];exact Nat.ne_of_lt (blk_lt (zz18 BK152)):gb152≠gb153));have NB153_152:=A_ ((by rw[hg];exact Nat.ne_of_gt (blk_lt (zz18 BK152)):gb153≠gb152));replace BK152:=A_ (bB (zz18 BK152) hb);clear hb hg)|(refine gR 62 (some 18) Tryz.func62 (spec_l1Cut.calls k a1 63 t154 t155 t156 _ A3.out) ?_;rintro w' ⟨nd,rfl⟩)|((with_reducible refine gD (N:=22) rfl ?_);refine Kd.R_lit Kd.string _ 9 ?hg (N:=22) ?hd (xs:=([]:List BA)) (inner:=[]) (ok:=fun _=>True) (okp:=fun _=>True) ?hr ?hp (fun _ hk=>hk) trivial (Below.refl _ _) (lL_ _) (by simp) ?_;(case hd=>rfl);(case hg=>rfl);(case hr=>exact zz5);(case hp=>exact(Reps.none _ _));intro v158 w8 ho9 hb hg_ hnew_;clear hg_ hnew_;(first|rw[←Ny157.out]at ho9|(simp only[Int.reduceToNat]at ho9;rw[←Ny157.out]at ho9));have HO159:=A_ (Kd.R_lower ho9 (below_size (zz26 HB GE152 GE153)));replace BK152:=A_ (bB (zz18 BK152) hb);replace BK153:=A_ (bB (zz18 BK153) hb);replace HB:=A_ (bS (zz26 HB GE152 GE153) hb);clear hb ho9;have hnb10:=NB152_153.out;have hnc10:=NB153_152.out;obtain⟨_,_,_,_,_,_,_,_⟩:=cf4 BK152)|((with_reducible refine gate_builtin (b:=.append) (xs:=#[.tmp 22,.tmp 24]) rfl ?_);at_builtin;refine Kd.R_append_rows Kd.string (w0:=w) w.heap.size rfl (.tmp 22) (.tmp 24) 29 9 (.string ⟨#[]⟩) 16 rfl Tryz.underlying29 info9 rfl (by decide) (by omega) v158 y157 l0_1 _ _ _ (fun _=>True) (fun _=>False) rfl rfl ?aO ?aR (fun _ _ h=>h) (fun _ h=>h.elim) ?aF ?aB ?aS ?aL ?_;(case aR=>exact(zz29 HR0_1 HB));(case aB=>exact(zz26 HB GE152 GE153));(case aF=>exact(fun _ _=>trivial));(case aO=>exact(zz7 HO159));(case aS=>exact(below_size (zz26 HB GE152 GE153)));(case aL=>exact(zz4 LMc4));intro v161 w12 ho hb hg hat;rw[←Ny160.out]at ho;replace BK152:=A_ (blk_grown (zz18 BK152) hg (Kd.R_ne HO159.out BK152.out (by decide)));replace BK153:=A_ (blk_grown (zz18 BK153) hg (Kd.R_ne HO159.out BK153.out (by decide)));replace HB:=A_ (hb);have HO162:=A_ (ho);clear HO159;clear ho hb hg hat)|(refine gV 105 (some 27) Tryz.func105 (spec_l1Split.calls k t154 47 t163 _ A5.out) ?_;rintro v164 w13 ⟨ho0,hb⟩;have HO165:=A_ (Kd.R_lower (Kd.R_new' ho0 (Kd.R_lt (zz7 HO162))) (below_size (zz26 HB GE152 GE153)));replace HO162:=A_ (Kd.R_elder' (zz7 HO162) (Kd.R_base ho0) hb);replace BK152:=A_ (bB (zz18 BK152) hb);replace BK153:=A_ (bB (zz18 BK153) hb);replace HB:=A_ (bS (zz26 HB GE152 GE153) hb);(try clear hb ho0)))
  go_loopg [8,10] k (fun kq v8 v10 w'=>∃(x8_1:List BA)(x10_1:Int)(x154000_1:BA)(x154002_1:Bool)(x154003_1:BA),v10=.int .i64 x10_1∧Aside0 (spec_l1Way.l0 kq t155 t156 x8_1 t163 x10_1 a0_0 l0_1 a0_2 a0_3=some (r1,r2,r3,r4,r5))∧Aside0 (kq≤k)∧Aside0 (Kd.R Kd.string 9 w' w.heap.size (fun k_=>some k_≠(v164:Value).ownBlock) v8 x8_1)∧Aside0 (Kd.R Kd.string 9 w' w.heap.size (fun k_=>some k_≠(v8:Value).ownBlock) v164 t163)∧Aside0 (w'.heap[gb152]?=some (.cells #[.string a0_0,(.slice A0_1 l0_1.length c0_1),.bool a0_2,.string a0_3] 51 (0,0)))∧Aside0 (w'.heap[gb153]?=some (.cells #[.string x154000_1,(.slice none 0 0),.bool x154002_1,.string x154003_1] 51 (0,0)))∧Aside0 (Below w.heap.size w w'))
  case atStart=>exact⟨(y160),(0),((⟨#[]⟩:BA)),(false),((⟨#[]⟩:BA)),zz0,H',⟨lL_ _⟩,⟨(zz103 HO162)⟩,⟨(zz103 HO165)⟩,⟨(zz18 BK152)⟩,⟨(zz18 BK153)⟩,⟨(zz26 HB GE152 GE153)⟩⟩
  case round=>
   clear H';obtain⟨x8_1,x10_1,x154000_1,x154002_1,x154003_1,rfl,HA,HK1,HO_8,HO_9,BK152,BK153,HB⟩:=hrel;cases gk with
   |zero=>exact absurd HA.out (by simp[spec_l1Way.l0])
   |succ k1=>
    obtain⟨H⟩:=HA;simp only[spec_l1Way.l0]at H;replace H:=iteEd H;rcases H with⟨c14b0,H⟩|⟨c14b0,H⟩
    ·replace H:=iteNd H
     obtain⟨c15b0,H⟩:=H;replace H:=bindA H;obtain⟨⟨t167,t168⟩,A16,H⟩:=H;try dsimp only at H;have HF17:=A_ H;clear H;obtain⟨Ao18,co18,eo18⟩:=Kd.R_slice HO_9.out;subst eo18;obtain⟨⟨ad166,e166,hx166_0⟩,p166,q166⟩:=atB (Kd.at_string (Kd.R_reads' HO_9.out).2.2 x10_1);cases e166
     go_upto_if 43 with(first|(refine gR 119 (some 39) Tryz.func119 (spec_EscNorm.calls k1 (rdOf bE_ t163 x10_1) t167 t168 _ A16.out) ?_;rintro w19 hb;replace HO_8:=A_ (rB (zz7 HO_8) hb);replace HO_9:=A_ (rB (zz7 HO_9) hb);replace BK152:=A_ (bB (zz18 BK152) hb);replace BK153:=A_ (bB (zz18 BK153) hb);replace HB:=A_ (bS (zz26 HB GE152 GE153) hb);(try clear hb)))
     obtain⟨H⟩:=HF17;replace H:=iteB H;rcases H with⟨rfl,H⟩|⟨rfl,H⟩
     ·replace H:=iteN H
      obtain⟨c21,H⟩:=H;have LMc21:=A_ c21;clear c21;obtain⟨y169,Ny169⟩:=toY (x8_1++[t167]);(first|with_reducible replace H:=bindZ Ny169 H|rw[←Ny169.out]at H|skip);have H':=A_ H;clear H;go_wp2_with (first|((with_reducible refine gate_builtin (b:=.append) (xs:=#[.tmp 45,.tmp 47]) rfl ?_);at_builtin;refine Kd.R_append Kd.string (w0:=w) w.heap.size rfl (.tmp 45) (.tmp 47) 29 9 (.string ⟨#[]⟩) 16 rfl Tryz.underlying29 info9 rfl (by decide) (by omega) u8 x8_1 t167 [.string t167] (fun k_=>some k_≠(.slice (some ad166) t163.length co18:Value).ownBlock) (fun _=>False) rfl rfl ?aP (fun _ hk=>hk.elim) ?aF ?aO ?aB ?aS ?aL ?_;(case aP=>exact rfl);(case aB=>exact(zz26 HB GE152 GE153));(case aF=>exact(fun k_ hk=>Kd.fresh' (Kd.R_lt (zz7 HO_9)) k_ hk));(case aO=>exact(zz7 HO_8));(case aS=>exact(below_size (zz26 HB GE152 GE153)));(case aL=>exact(zz4 LMc21));intro v170 w22 ho hb hg hat;rw[←Ny169.out]at ho;replace HO_9:=A_ (Kd.R_after (ok:=(fun _=>True)) (zz107 HO_9) hg hat);replace BK152:=A_ (blk_grown (zz18 BK152) hg (Kd.R_ne HO_8.out BK152.out (by decide)));replace BK153:=A_ (blk_grown (zz18 BK153) hg (Kd.R_ne HO_8.out BK153.out (by decide)));replace HB:=A_ (hb);have HO171:=A_ (ho);clear HO_8;clear ho hb hg hat))
      go_roundg k1
      case measure=>have:=HK1.out;omega
      case rel=>exact⟨(y169),(wrap64 (x10_1+1)),(x154000_1),(x154002_1),(x154003_1),zz0,H',⟨(zz4 HK1)⟩,⟨(zz7 HO171)⟩,⟨(zz103 HO_9)⟩,⟨(zz18 BK152)⟩,⟨(zz18 BK153)⟩,⟨(zz26 HB GE152 GE153)⟩⟩
     ·simp only[oI_,pI_]at H
      obtain⟨rfl,rfl,rfl,rfl,rfl⟩:=H;have hnb23:=NB153_152.out;have hnc23:=NB152_153.out;obtain⟨_,_,_,_,_,_,_,_⟩:=cf4 BK153;go_wp2;refine pR (results_ct rfl _ _ gb153 51 #[.string (⟨#[]⟩:BA),.slice none 0 0,.bool false,.string (⟨#[]⟩:BA)] (0,0) _ rfl (zz22 BK153) Tryz.underlying51 rfl (by kernel_rfl)) rfl ?_;exact⟨_,zz9,zz68,(zz26 HB GE152 GE153)⟩
    ·replace H:=bindA H
     obtain⟨⟨t172,t173⟩,A25,H⟩:=H;try dsimp only at H;replace H:=bindA H;obtain⟨t174,A26,H⟩:=H;have HF27:=A_ H;clear H;obtain⟨Ao28,co28,eo28⟩:=Kd.R_slice HO_9.out;subst eo28;try go_wp2_with (first|(refine gR 119 (some 51) Tryz.func119 (spec_EscNorm.calls k1 t155 t172 t173 _ A25.out) ?_;rintro w29 hb;replace HO_8:=A_ (rB (zz7 HO_8) hb);replace HO_9:=A_ (rB (zz7 HO_9) hb);replace BK152:=A_ (bB (zz18 BK152) hb);replace BK153:=A_ (bB (zz18 BK153) hb);replace HB:=A_ (bS (zz26 HB GE152 GE153) hb);(try clear hb);obtain⟨Ao30,co30,eo30⟩:=Kd.R_slice HO_8.out;subst eo30));replace HO_8:=A_ (Kd.R_drew HO_8.out);replace HO_9:=A_ (Kd.R_drew HO_9.out);replace BK152:=A_ (blk_drew BK152.out);replace BK153:=A_ (blk_drew BK153.out);replace HB:=A_ (below_drew1 HB.out);refine start_ (n:=9) (S:=fun w'=>w'.cell? ⟨gb152,0,none⟩=some (.string a0_0)∧w'.cell? ⟨gb152,1,none⟩=some (.slice A0_1 l0_1.length c0_1)∧w'.cell? ⟨gb152,2,none⟩=some (.bool a0_2)∧w'.cell? ⟨gb152,3,none⟩=some (.string a0_3)) (ds:=[]) #[yF,yF,yF,yF,yF,yF,yF,yF,yF] (by kernel_rfl) rfl rfl ⟨(blk_cell BK152.out 0).trans rfl,(blk_cell BK152.out 1).trans rfl,(blk_cell BK152.out 2).trans rfl,(blk_cell BK152.out 3).trans rfl⟩ (fun hHeld=>?_);refine with_tabW spec_l1Way.tab12 spec_l1Way.bits12 (fun HT_ HW_=>?_);generalize w29.drew=w31 at HO_8 HO_9 BK152 BK153 HB hHeld ⊢;refine pureZ 0 (some 54) (yA 1 8) ?_;refine pureZ 2 (some 56) #[yT,yF,yT,yF,yF,yF,yF,yF,yF] ?_;refine pureZ 4 (some 58) #[yT,yF,yT,yF,yT,yF,yF,yF,yF] ?_;refine pureZ 5 (some 59) #[yT,yF,yT,yF,yT,yT,yF,yF,yF] ?_;refine takeZ4 1 (some 55) #[yT,yT,yT,yF,yT,yT,yF,yF,yF] hHeld ?_;refine join_ (σ:=Value×Nat) 1 (yA 8 1) (fun s_=>[(57,s_.1),(15,.pointer (some ⟨s_.2,0,none⟩)),(60,.agg #[.string a0_0,s_.1,.bool t156,.string t172])]) (fun s_ w'=>(w'.cell? ⟨gb152,0,none⟩=some (.string a0_0)∧w'.cell? ⟨gb152,1,none⟩=some (.slice A0_1 l0_1.length c0_1)∧w'.cell? ⟨gb152,2,none⟩=some (.bool a0_2)∧w'.cell? ⟨gb152,3,none⟩=some (.string a0_3))∧(Kd.R Kd.string 9 w' w.heap.size (fun k_=>some k_≠(.slice Ao30 x8_1.length co30:Value).ownBlock∧some k_≠(.slice Ao28 t163.length co28:Value).ownBlock) s_.1 t174)∧(Kd.R Kd.string 9 w' w.heap.size (fun k_=>some k_≠(s_.1:Value).ownBlock∧some k_≠(.slice Ao28 t163.length co28:Value).ownBlock) (.slice Ao30 x8_1.length co30) x8_1)∧(Kd.R Kd.string 9 w' w.heap.size (fun k_=>some k_≠(s_.1:Value).ownBlock∧some k_≠(.slice Ao30 x8_1.length co30:Value).ownBlock) (.slice Ao28 t163.length co28) t163)∧(w'.heap[gb152]?=some (.cells #[.string a0_0,.slice A0_1 l0_1.length c0_1,.bool a0_2,.string a0_3] 51 (0,0)))∧(w'.heap[gb153]?=some (.cells #[.string x154000_1,.slice none 0 0,.bool x154002_1,.string x154003_1] 51 (0,0)))∧(w'.heap[s_.2]?=some (.cells #[.string (⟨#[]⟩:BA),.slice none 0 0,.bool false,.string (⟨#[]⟩:BA)] 51 (0,0)))∧(w.heap.size≤s_.2)∧(w.heap.size≤s_.2)∧(gb152≠s_.2)∧(s_.2≠gb152)∧(gb153≠s_.2)∧(s_.2≠gb153)∧(Below w.heap.size w w')) ?_ ?_;rotate_left
     ·intro hCont
      refine twoZ 3 7 (some 57) (some 15) (yA 6 3) #[yT,yT,yT,yF,yT,yT,yF,yT,yF] (fun K hK=>?_) (fun K hK=>?_)
      ·skip
       refine goes_ Tryz.func120 (by kernel_rfl) rfl #[.slice Ao30 x8_1.length co30] (by rfl) rfl rfl zz45 ?_;with_reducible refine(spec_PathClean.calls k1 _ _ x8_1 t174 _ ?side1 ?side2 A26.out).mono ?_
       (case side1=>exact(zz46 HO_8))
       (case side2=>exact(Kd.R_reads' HO_8.out).2.1)
       rintro e w32 ⟨v175,rfl,ho0,hb⟩;refine⟨_,rfl,?_⟩;have HO176:=A_ (Kd.R_lower (Kd.R_new' (Kd.R_new' ho0 (Kd.R_lt (zz7 HO_8))) (Kd.R_lt (zz7 HO_9))) (below_size (zz26 HB GE152 GE153)));replace HO_8:=A_ (Kd.R_elder' (zz7 HO_8) (Kd.R_base ho0) hb);replace HO_9:=A_ (Kd.R_elder' (zz7 HO_9) (Kd.R_base ho0) hb);replace BK152:=A_ (bB (zz18 BK152) hb);replace BK153:=A_ (bB (zz18 BK153) hb);replace HB:=A_ (bS (zz26 HB GE152 GE153) hb);(try clear hb)
       (try clear hb2)
       (try clear hk)
       (try clear hi)
       (try clear ho0)
       obtain⟨Ao33,co33,eo33⟩:=Kd.R_slice HO176.out;(first|subst eo33|(injection eo33 with f1_ f2_ f3_;have f4_:=f1_.symm;have f5_:=f3_.symm;clear f1_ f2_ f3_;subst f4_;subst f5_));refine hK.out _ _ ⟨(blk_cell BK152.out 0).trans rfl,(blk_cell BK152.out 1).trans rfl,(blk_cell BK152.out 2).trans rfl,(blk_cell BK152.out 3).trans rfl⟩ (fun hHeld=>?_);clear hK K;refine nZ 57 ?_;refine pureZ 6 (some 60) (yA 7 2) ?_;refine oneZ 7 (some 15) (yA 8 1) (fun K hK=>?_);refine box_step ?hg (N:=15) ?hd (cs:=#[.string (⟨#[]⟩:BA),.slice none 0 0,.bool false,.string (⟨#[]⟩:BA)]) (t:=51) ?hr ?_;(case hd=>rfl);(case hg=>rfl);(case hr=>exact zz5);intro gb177 hg w34 hbox hb;replace HO_8:=A_ (rB (zz7 HO_8) hb);replace HO_9:=A_ (rB (zz7 HO_9) hb);replace HO176:=A_ (rB (zz7 HO176) hb);have BK177:=A_ (hbox);have GW177:=A_ ((by rw[hg];exact(below_size (zz26 HB GE152 GE153)):w.heap.size≤gb177));have GE177:=A_ ((by rw[hg];exact(below_size (zz26 HB GE152 GE153)):w.heap.size≤gb177));replace HB:=A_ (bS (zz26 HB GE152 GE153) hb);have NB152_177:=A_ ((by rw[hg];exact Nat.ne_of_lt (blk_lt (zz18 BK152)):gb152≠gb177));have NB177_152:=A_ ((by rw[hg];exact Nat.ne_of_gt (blk_lt (zz18 BK152)):gb177≠gb152));replace BK152:=A_ (bB (zz18 BK152) hb);have NB153_177:=A_ ((by rw[hg];exact Nat.ne_of_lt (blk_lt (zz18 BK153)):gb153≠gb177));have NB177_153:=A_ ((by rw[hg];exact Nat.ne_of_gt (blk_lt (zz18 BK153)):gb177≠gb153));replace BK153:=A_ (bB (zz18 BK153) hb);clear hb hbox hg;refine hK.out _ _ ⟨(blk_cell BK152.out 0).trans rfl,(blk_cell BK152.out 1).trans rfl,(blk_cell BK152.out 2).trans rfl,(blk_cell BK152.out 3).trans rfl⟩ (fun hHeld=>?_);clear hK K;refine nZ 15 ?_;exact norm_ viaP (hCont (.slice Ao33 t174.length co33,gb177) _ ⟨hHeld,(zz55 HO176),(zz135 HO_8),(zz135 HO_9),(zz18 BK152),(zz18 BK153),(zz18 BK177),GW177.out,GE177.out,NB152_177.out,NB177_152.out,NB153_177.out,NB177_153.out,(zz136 HB GE152 GE153 GE177)⟩)
      ·skip
       refine box_step ?hg (N:=15) ?hd (cs:=#[.string (⟨#[]⟩:BA),.slice none 0 0,.bool false,.string (⟨#[]⟩:BA)]) (t:=51) ?hr ?_;(case hd=>rfl);(case hg=>rfl);(case hr=>exact zz5);intro gb177 hg w32 hbox hb;replace HO_8:=A_ (rB (zz7 HO_8) hb);replace HO_9:=A_ (rB (zz7 HO_9) hb);have BK177:=A_ (hbox);have GW177:=A_ ((by rw[hg];exact(below_size (zz26 HB GE152 GE153)):w.heap.size≤gb177));have GE177:=A_ ((by rw[hg];exact(below_size (zz26 HB GE152 GE153)):w.heap.size≤gb177));replace HB:=A_ (bS (zz26 HB GE152 GE153) hb);have NB152_177:=A_ ((by rw[hg];exact Nat.ne_of_lt (blk_lt (zz18 BK152)):gb152≠gb177));have NB177_152:=A_ ((by rw[hg];exact Nat.ne_of_gt (blk_lt (zz18 BK152)):gb177≠gb152));replace BK152:=A_ (bB (zz18 BK152) hb);have NB153_177:=A_ ((by rw[hg];exact Nat.ne_of_lt (blk_lt (zz18 BK153)):gb153≠gb177));have NB177_153:=A_ ((by rw[hg];exact Nat.ne_of_gt (blk_lt (zz18 BK153)):gb177≠gb153));replace BK153:=A_ (bB (zz18 BK153) hb);clear hb hbox hg;refine hK.out _ _ ⟨(blk_cell BK152.out 0).trans rfl,(blk_cell BK152.out 1).trans rfl,(blk_cell BK152.out 2).trans rfl,(blk_cell BK152.out 3).trans rfl⟩ (fun hHeld=>?_);clear hK K;refine nZ 15 ?_;refine oneZ 3 (some 57) #[yT,yT,yT,yT,yT,yT,yF,yT,yF] (fun K hK=>?_);refine goes_ Tryz.func120 (by kernel_rfl) rfl #[.slice Ao30 x8_1.length co30] (by rfl) rfl rfl zz45 ?_;with_reducible refine(spec_PathClean.calls k1 _ _ x8_1 t174 _ ?side1 ?side2 A26.out).mono ?_
       (case side1=>exact(zz46 HO_8))
       (case side2=>exact(Kd.R_reads' HO_8.out).2.1)
       rintro e w33 ⟨v175,rfl,ho0,hb⟩;refine⟨_,rfl,?_⟩;have HO176:=A_ (Kd.R_lower (Kd.R_new' (Kd.R_new' ho0 (Kd.R_lt (zz7 HO_8))) (Kd.R_lt (zz7 HO_9))) (below_size (zz136 HB GE152 GE153 GE177)));replace HO_8:=A_ (Kd.R_elder' (zz7 HO_8) (Kd.R_base ho0) hb);replace HO_9:=A_ (Kd.R_elder' (zz7 HO_9) (Kd.R_base ho0) hb);replace BK152:=A_ (bB (zz18 BK152) hb);replace BK153:=A_ (bB (zz18 BK153) hb);replace BK177:=A_ (bB (zz18 BK177) hb);replace HB:=A_ (bS (zz136 HB GE152 GE153 GE177) hb);(try clear hb)
       (try clear hb2)
       (try clear hk)
       (try clear hi)
       (try clear ho0)
       obtain⟨Ao34,co34,eo34⟩:=Kd.R_slice HO176.out;(first|subst eo34|(injection eo34 with f1_ f2_ f3_;have f4_:=f1_.symm;have f5_:=f3_.symm;clear f1_ f2_ f3_;subst f4_;subst f5_));refine hK.out _ _ ⟨(blk_cell BK152.out 0).trans rfl,(blk_cell BK152.out 1).trans rfl,(blk_cell BK152.out 2).trans rfl,(blk_cell BK152.out 3).trans rfl⟩ (fun hHeld=>?_);clear hK K;refine nZ 57 ?_;refine pureZ 6 (some 60) (yA 8 1) ?_;exact norm_ viaP (hCont (.slice Ao34 t174.length co34,gb177) _ ⟨hHeld,(zz55 HO176),(zz135 HO_8),(zz135 HO_9),(zz18 BK152),(zz18 BK153),(zz18 BK177),GW177.out,GE177.out,NB152_177.out,NB177_152.out,NB153_177.out,NB177_153.out,(zz136 HB GE152 GE153 GE177)⟩)
     rintro⟨v175,gb177⟩ w35 ⟨hS_,h0_,h1_,h2_,h3_,h4_,h5_,h6_,h7_,h8_,h9_,h10_,h11_,h12_⟩;have n0_:=A_ h0_;have n1_:=A_ h1_;have n2_:=A_ h2_;have n3_:=A_ h3_;have n4_:=A_ h4_;have n5_:=A_ h5_;have n6_:=A_ h6_;have n7_:=A_ h7_;have n8_:=A_ h8_;have n9_:=A_ h9_;have n10_:=A_ h10_;have n11_:=A_ h11_;have n12_:=A_ h12_;(try dsimp only at n0_ n1_ n2_ n3_ n4_ n5_ n6_ n7_ n8_ n9_ n10_ n11_ n12_);clear HO_8;clear HO_9;clear BK152;clear BK153;clear HB;clear h0_ h1_ h2_ h3_ h4_ h5_ h6_ h7_ h8_ h9_ h10_ h11_ h12_;have HO176:=n0_;have HO_8:=n1_;have HO_9:=n2_;have BK152:=n3_;have BK153:=n4_;have BK177:=n5_;have GW177:=n6_;have GE177:=n7_;have NB152_177:=n8_;have NB177_152:=n9_;have NB153_177:=n10_;have NB177_153:=n11_;have HB:=n12_;clear n0_ n1_ n2_ n3_ n4_ n5_ n6_ n7_ n8_ n9_ n10_ n11_ n12_;have hHeld:w35.cell? ⟨gb152,0,none⟩=some (.string a0_0)∧w35.cell? ⟨gb152,1,none⟩=some (.slice A0_1 l0_1.length c0_1)∧w35.cell? ⟨gb152,2,none⟩=some (.bool a0_2)∧w35.cell? ⟨gb152,3,none⟩=some (.string a0_3):=hS_;obtain⟨Ao36,co36,eo36⟩:=Kd.R_slice HO176.out;(first|subst eo36|(injection eo36 with f1_ f2_ f3_;have f4_:=f1_.symm;have f5_:=f3_.symm;clear f1_ f2_ f3_;subst f4_;subst f5_));refine norm_ (a':=?_) ?_ ?_;rotate_left
     ·simp only[putAll,Act.put,lS_,l0_,lC_]
      rfl
     refine oneZ 8 (none) (yA 9 0) (fun K hK=>?_);have hs37:w35.cell? ⟨gb177,0,none⟩=some (.string (⟨#[]⟩:BA)):=(blk_cell BK177.out 0).trans rfl;have hfs37:=blk_frozen BK177.out 0;have hns37_0:=NB152_177.out;have hns37_1:=NB153_177.out;have hms37_0:=NB177_152.out;have hms37_1:=NB177_153.out;have hs38:w35.cell? ⟨gb177,1,none⟩=some (.slice none 0 0):=(blk_cell BK177.out 1).trans rfl;have hfs38:=blk_frozen BK177.out 1;have hns38_0:=NB152_177.out;have hns38_1:=NB153_177.out;have hms38_0:=NB177_152.out;have hms38_1:=NB177_153.out;have hs39:w35.cell? ⟨gb177,2,none⟩=some (.bool false):=(blk_cell BK177.out 2).trans rfl;have hfs39:=blk_frozen BK177.out 2;have hns39_0:=NB152_177.out;have hns39_1:=NB153_177.out;have hms39_0:=NB177_152.out;have hms39_1:=NB177_153.out;have hs40:w35.cell? ⟨gb177,3,none⟩=some (.string (⟨#[]⟩:BA)):=(blk_cell BK177.out 3).trans rfl;have hfs40:=blk_frozen BK177.out 3;have hns40_0:=NB152_177.out;have hns40_1:=NB153_177.out;have hms40_0:=NB177_152.out;have hms40_1:=NB177_153.out;refine skip_ (w1:=?_) (by rfl) rfl ?_ ?_;rotate_left
     ·go_simp
      rfl
     refine hK.out _ _ ⟨((cell_far (p:=⟨gb177,_,none⟩) NB152_177.out _).trans (((cell_far (p:=⟨gb177,_,none⟩) NB152_177.out _).trans (((cell_far (p:=⟨gb177,_,none⟩) NB152_177.out _).trans (((cell_far (p:=⟨gb177,_,none⟩) NB152_177.out _).trans (hHeld.1)))))))),((cell_far (p:=⟨gb177,_,none⟩) NB152_177.out _).trans (((cell_far (p:=⟨gb177,_,none⟩) NB152_177.out _).trans (((cell_far (p:=⟨gb177,_,none⟩) NB152_177.out _).trans (((cell_far (p:=⟨gb177,_,none⟩) NB152_177.out _).trans (hHeld.2.1)))))))),((cell_far (p:=⟨gb177,_,none⟩) NB152_177.out _).trans (((cell_far (p:=⟨gb177,_,none⟩) NB152_177.out _).trans (((cell_far (p:=⟨gb177,_,none⟩) NB152_177.out _).trans (((cell_far (p:=⟨gb177,_,none⟩) NB152_177.out _).trans (hHeld.2.2.1)))))))),((cell_far (p:=⟨gb177,_,none⟩) NB152_177.out _).trans (((cell_far (p:=⟨gb177,_,none⟩) NB152_177.out _).trans (((cell_far (p:=⟨gb177,_,none⟩) NB152_177.out _).trans (((cell_far (p:=⟨gb177,_,none⟩) NB152_177.out _).trans (hHeld.2.2.2))))))))⟩ (fun hHeld=>?_);clear hK K;refine done_ (done_of HT_.out (by kernel_rfl)) ?_;have n0_:Aside0 (Kd.R Kd.string 9 ((((w35.setCell ⟨gb177,0,none⟩ (.string a0_0)).setCell ⟨gb177,1,none⟩ (.slice Ao36 t174.length co36)).setCell ⟨gb177,2,none⟩ (.bool t156)).setCell ⟨gb177,3,none⟩ (.string t172)) w.heap.size (fun k_=>some k_≠(.slice Ao28 t163.length co28:Value).ownBlock∧some k_≠(.slice Ao36 t174.length co36:Value).ownBlock) (.slice Ao30 x8_1.length co30) x8_1):=⟨(zz23 (rt HO_8 BK177))⟩;have n1_:Aside0 (Kd.R Kd.string 9 ((((w35.setCell ⟨gb177,0,none⟩ (.string a0_0)).setCell ⟨gb177,1,none⟩ (.slice Ao36 t174.length co36)).setCell ⟨gb177,2,none⟩ (.bool t156)).setCell ⟨gb177,3,none⟩ (.string t172)) w.heap.size (fun k_=>some k_≠(.slice Ao30 x8_1.length co30:Value).ownBlock∧some k_≠(.slice Ao36 t174.length co36:Value).ownBlock) (.slice Ao28 t163.length co28) t163):=⟨(zz23 (rt HO_9 BK177))⟩;have n2_:Aside0 (Kd.R Kd.string 9 ((((w35.setCell ⟨gb177,0,none⟩ (.string a0_0)).setCell ⟨gb177,1,none⟩ (.slice Ao36 t174.length co36)).setCell ⟨gb177,2,none⟩ (.bool t156)).setCell ⟨gb177,3,none⟩ (.string t172)) w.heap.size (fun k_=>some k_≠(.slice Ao30 x8_1.length co30:Value).ownBlock∧some k_≠(.slice Ao28 t163.length co28:Value).ownBlock) (.slice Ao36 t174.length co36) t174):=⟨(zz23 (rt HO176 BK177))⟩;have n3_:Aside0 (((((w35.setCell ⟨gb177,0,none⟩ (.string a0_0)).setCell ⟨gb177,1,none⟩ (.slice Ao36 t174.length co36)).setCell ⟨gb177,2,none⟩ (.bool t156)).setCell ⟨gb177,3,none⟩ (.string t172)).heap[gb152]?=some (.cells #[.string a0_0,.slice A0_1 l0_1.length c0_1,.bool a0_2,.string a0_3] 51 (0,0))):=⟨(zz24 BK152 NB152_177)⟩;have n4_:Aside0 (((((w35.setCell ⟨gb177,0,none⟩ (.string a0_0)).setCell ⟨gb177,1,none⟩ (.slice Ao36 t174.length co36)).setCell ⟨gb177,2,none⟩ (.bool t156)).setCell ⟨gb177,3,none⟩ (.string t172)).heap[gb153]?=some (.cells #[.string x154000_1,.slice none 0 0,.bool x154002_1,.string x154003_1] 51 (0,0))):=⟨(zz24 BK153 NB153_177)⟩;have n5_:Aside0 (((((w35.setCell ⟨gb177,0,none⟩ (.string a0_0)).setCell ⟨gb177,1,none⟩ (.slice Ao36 t174.length co36)).setCell ⟨gb177,2,none⟩ (.bool t156)).setCell ⟨gb177,3,none⟩ (.string t172)).heap[gb177]?=some (.cells #[.string a0_0,.slice Ao36 t174.length co36,.bool t156,.string t172] 51 (0,0))):=⟨(zz22 BK177)⟩;have n6_:Aside0 (Below w.heap.size w ((((w35.setCell ⟨gb177,0,none⟩ (.string a0_0)).setCell ⟨gb177,1,none⟩ (.slice Ao36 t174.length co36)).setCell ⟨gb177,2,none⟩ (.bool t156)).setCell ⟨gb177,3,none⟩ (.string t172))):=⟨(zz136 HB GE152 GE153 GE177)⟩;(try clear HO_8)
     (try clear HO_9)
     (try clear HO176)
     (try clear BK152)
     (try clear BK153)
     (try clear BK177)
     (try clear HB)
     generalize ((((w35.setCell ⟨gb177,0,none⟩ (.string a0_0)).setCell ⟨gb177,1,none⟩ (.slice Ao36 t174.length co36)).setCell ⟨gb177,2,none⟩ (.bool t156)).setCell ⟨gb177,3,none⟩ (.string t172))=w41 at n0_ n1_ n2_ n3_ n4_ n5_ n6_ ⊢;have HO_8:=n0_;have HO_9:=n1_;have HO176:=n2_;have BK152:=n3_;have BK153:=n4_;have BK177:=n5_;have HB:=n6_;clear n0_ n1_ n2_ n3_ n4_ n5_ n6_;go_wp2_with (first|((with_reducible refine atG ?_ ?_ fun K_ hK_=>?_);rfl;exact undecG)|((with_reducible refine atI ?_ fun K_ hK_=>?_);exact undecI));refine unG hK_ ?_;clear hK_ K_;obtain⟨H⟩:=HF27;replace H:=iteB H;rcases H with⟨rfl,H⟩|⟨rfl,H⟩
     ·(first|refine iteT ?_|refine iteF ?_|skip)
      replace H:=bindA H;obtain⟨t178,A43,H⟩:=H;have HF44:=A_ H;clear H;have hnb45:=NB177_152.out;have hnc45:=NB152_177.out;have hnb46:=NB177_153.out;have hnc46:=NB153_177.out;obtain⟨_,_,_,_,_,_,_,_⟩:=cf4 BK177;(try((with_reducible refine upS ?_);go_simp))
      go_upto_if 67 with(first|(go_at_call 121;(with_reducible refine(spec_AddrOk.calls k1 a0_0 _ _ t174 t156 t172 t178 _ ?side1 ?side2 A43.out).mono ?_);(case side1=>exact(zz46 HO176));(case side2=>exact(Kd.R_reads' HO176.out).2.1);rintro e w48 ⟨rfl,hb⟩;replace HO_8:=A_ (rB (zz7 HO_8) hb);replace HO_9:=A_ (rB (zz7 HO_9) hb);replace HO176:=A_ (rB (zz7 HO176) hb);replace BK152:=A_ (bB (zz18 BK152) hb);replace BK153:=A_ (bB (zz18 BK153) hb);replace BK177:=A_ (bB (zz18 BK177) hb);replace HB:=A_ (bS (zz136 HB GE152 GE153 GE177) hb);(try clear hb)))
      obtain⟨H⟩:=HF44;replace H:=iteB H;rcases H with⟨rfl,H⟩|⟨rfl,H⟩
      ·simp only[oI_,pI_]at H
       obtain⟨rfl,rfl,rfl,rfl,rfl⟩:=H;have hnb50:=NB177_152.out;have hnc50:=NB152_177.out;have hnb51:=NB177_153.out;have hnc51:=NB153_177.out;obtain⟨_,_,_,_,_,_,_,_⟩:=cf4 BK177;have hnb53:=NB153_152.out;have hnc53:=NB152_153.out;obtain⟨_,_,_,_,_,_,_,_⟩:=cf4 BK153;go_wp2;refine pR (results_ct rfl _ _ gb153 51 #[.string a0_0,.slice Ao36 t174.length co36,.bool t156,.string t172] (0,0) _ rfl (zz22 BK153) Tryz.underlying51 rfl (by kernel_rfl)) rfl ?_;exact⟨_,zz9,(zz23 (rt HO176 BK153)),(zz136 HB GE152 GE153 GE177)⟩
      ·simp only[oI_,pI_]at H
       obtain⟨rfl,rfl,rfl,rfl,rfl⟩:=H;have hnb55:=NB153_152.out;have hnc55:=NB152_153.out;have hnb56:=NB153_177.out;have hnc56:=NB177_153.out;obtain⟨_,_,_,_,_,_,_,_⟩:=cf4 BK153;go_wp2;refine pR (results_ct rfl _ _ gb153 51 #[.string (⟨#[]⟩:BA),.slice none 0 0,.bool false,.string (⟨#[]⟩:BA)] (0,0) _ rfl (zz22 BK153) Tryz.underlying51 rfl (by kernel_rfl)) rfl ?_;exact⟨_,zz9,zz68,(zz136 HB GE152 GE153 GE177)⟩
     ·(first|refine iteT ?_|refine iteF ?_|skip)
      simp only[oI_,pI_]at H;obtain⟨rfl,rfl,rfl,rfl,rfl⟩:=H;have hnb58:=NB153_152.out;have hnc58:=NB152_153.out;have hnb59:=NB153_177.out;have hnc59:=NB177_153.out;obtain⟨_,_,_,_,_,_,_,_⟩:=cf4 BK153;(try((with_reducible refine upS ?_);go_simp));go_wp2;refine pR (results_ct rfl _ _ gb153 51 #[.string (⟨#[]⟩:BA),.slice none 0 0,.bool false,.string (⟨#[]⟩:BA)] (0,0) _ rfl (zz22 BK153) Tryz.underlying51 rfl (by kernel_rfl)) rfl ?_;exact⟨_,zz9,zz68,(zz136 HB GE152 GE153 GE177)⟩
 ·exact absurd H (by simp)
def spec_AddrText.f (k:Nat)(a0_0:BA)(l0_1:List BA)(a0_2:Bool)(a0_3:BA):Option (BA):=(spec_AddrOk.f k a0_0 l0_1 a0_2 a0_3).bind fun t216=>(if t216=true then((spec_l1Text.f k a0_0 l0_1 a0_2 a0_3).bind fun t217=>(some t217))else(some (⟨#[]⟩:BA)))
theorem spec_AddrText.mono:∀a0 a1 a2 a3 k,LeO (spec_AddrText.f k a0 a1 a2 a3) (spec_AddrText.f (k+1) a0 a1 a2 a3):=by
 intro a0 a1 a2 a3 k;unfold spec_AddrText.f
 repeat' first|(with_reducible first|exact spec_AddrOk.mono _ _ _ _ _|exact spec_l1Text.mono _ _ _ _ _|exact LeO.refl _|exact LeO.none _|refine LeO.ite ?_ ?_|refine LeO.bind ?_ (fun _=>?_))|exact LeO.none _|refine LeO.ite ?_ ?_|refine LeO.bind ?_ (fun _=>?_)
theorem spec_AddrText.calls (k:Nat)(a0_0:BA)(A0_1:Option Addr)(c0_1:Nat)(l0_1:List BA)(a0_2:Bool)(a0_3:BA)(r:BA)(w:World)(hr0_1:Kd.C Kd.string w A0_1 l0_1.length l0_1)(hc0_1:l0_1.length≤c0_1)(h:spec_AddrText.f k a0_0 l0_1 a0_2 a0_3=some r):
  Calls Tryz.prog 93 #[.agg #[.string a0_0,.slice A0_1 l0_1.length c0_1,.bool a0_2,.string a0_3]] w fun e w'=>e=.returned (.string r)∧Below w.heap.size w w':=by
 have hu51:=Tryz.underlying51;have HR0_1:=A_ hr0_1;have HC0_1:=A_ hc0_1;clear hr0_1 hc0_1;have HB:=A_ (Below.refl w.heap.size w);unfold spec_AddrText.f at h;have H:=h;clear h;replace H:=bindA H;obtain⟨t216,A2,H⟩:=H;have HF3:=A_ H;clear H;go_enter Tryz.func93,Tryz.ntmps93;go_upto_if 5 with(first|(refine boxF 1 #[.string a0_0,.slice A0_1 l0_1.length c0_1,.bool a0_2,.string a0_3] 51 ?_;intro gb215 hg w4 BK215 hb;have GE215:=geB hg (zz6 HB);replace HB:=A_ (bS (zz6 HB) hb);clear hb hg;obtain⟨_,_,_,_,_,_,_,_⟩:=cf4 BK215)|(refine gR 121 (some 4) Tryz.func121 (spec_AddrOk.calls k a0_0 _ _ l0_1 a0_2 a0_3 t216 _ ?side1 ?side2 A2.out) ?_;(case side1=>exact(zz29 HR0_1 HB));(case side2=>exact HC0_1.out);rintro w6 hb;replace BK215:=A_ (bB (zz18 BK215) hb);replace HB:=A_ (bS (zz19 HB GE215) hb);(try clear hb)))
 obtain⟨H⟩:=HF3;replace H:=iteB H;rcases H with⟨rfl,H⟩|⟨rfl,H⟩
 ·replace H:=bindA H
  obtain⟨t217,A8,H⟩:=H;obtain rfl:=sI H;obtain⟨_,_,_,_,_,_,_,_⟩:=cf4 BK215;go_wp2_with (first|(refine gR 122 (some 7) Tryz.func122 (spec_l1Text.calls k a0_0 _ _ l0_1 a0_2 a0_3 t217 _ ?side1 ?side2 A8.out) ?_;(case side1=>exact(zz29 HR0_1 HB));(case side2=>exact HC0_1.out);rintro w10 hb;replace BK215:=A_ (bB (zz18 BK215) hb);replace HB:=A_ (bS (zz19 HB GE215) hb);(try clear hb)));go_ret;exact⟨zz9,(zz19 HB GE215)⟩
 ·obtain rfl:=sI H
  go_wp2;go_ret;exact⟨zz9,(zz19 HB GE215)⟩
def spec_l11Said.f (k:Nat)(a0:Int)(a1:BA)(a2:BA):Option (List BA×(List (S93))×Int):=if a0=1 then((spec_NoticeRead.f k a1).bind fun t299=>((spec_NoticeFor.f k t299 a2).bind fun bt302=>(some (bt302.1,bt302.2.1,bt302.2.2))))else(if a0=3 then((spec_l11Barred.f a2).bind fun bt309=>(some (bt309.1,bt309.2.1,bt309.2.2)))else((spec_NoticeFor.f k (([]:List (S32))) a2).bind fun bt319=>(some (bt319.1,bt319.2.1,bt319.2.2))))
theorem spec_l11Said.calls (k:Nat)(a0:Int)(a1:BA)(a2:BA)(r1:List BA)(r2:List (S93))(r3:Int)(w:World)(h:spec_l11Said.f k a0 a1 a2=some (r1,r2,r3)):
  Calls Tryz.prog 37 #[.int .i64 a0,.string a1,.string a2] w fun e w'=>∃v0_ v1_:Value,e=.returned (.agg #[v0_,v1_,.int .i64 r3])∧Kd.R Kd.string 9 w' w.heap.size (fun _=>True) v0_ r1∧Kd.R k93 93 w' w.heap.size (fun _=>True) v1_ r2∧Below w.heap.size w w':=by
 have hu32:=Tryz.underlying32;have HB:=A_ (Below.refl w.heap.size w);unfold spec_l11Said.f at h;have H:=h;clear h;have HF4:=A_ H;clear H;go_enter Tryz.func37,Tryz.ntmps37;go_upto_if 8 with(first|(refine boxF 6 #[.slice none 0 0,.slice none 0 0,.int .i64 0] 32 ?_;intro gb298 hg w5 BK298 hb;have GE298:=geB hg (zz6 HB);replace HB:=A_ (bS (zz6 HB) hb);clear hb hg))
 obtain⟨H⟩:=HF4;replace H:=iteEq H;rcases H with⟨c6b0,c6b1,H⟩|⟨c6b0,c6b1,c6,H⟩
 ·(first|rw[c6b0]|(simp only[i64_w,i32_w];rw[c6b0])|skip)
  replace H:=bindA H;obtain⟨t299,A7,H⟩:=H;replace H:=bindA H;obtain⟨⟨t302,t305,t308⟩,A8,H⟩:=H;try dsimp only at H;simp only[oI_,pI_]at H;obtain⟨rfl,rfl,rfl⟩:=H;go_wp2_with (first|(refine gV 75 (some 11) Tryz.func75 (spec_NoticeRead.calls k a1 t299 _ A7.out) ?_;rintro v300 w9 ⟨ho0,hb⟩;have HO301:=A_ (Kd.S_lower (Kd.S_newB ho0 (zz18 BK298)) (below_size (zz19 HB GE298)));replace BK298:=A_ (bB (zz18 BK298) hb);replace HB:=A_ (bS (zz19 HB GE298) hb);(try clear hb ho0);obtain⟨Ao10,co10,eo10⟩:=Kd.S_slice HO301.out;subst eo10)|((with_reducible refine gC (f:=74) rfl ?_);refine gsL (some 13) Tryz.func74 #[.slice Ao10 t299.length co10,.string a2] ?_;(with_reducible refine(spec_NoticeFor.calls k _ _ t299 a2 t302 t305 t308 _ ?side1 ?side2 A8.out).mono ?_);(case side1=>exact(zz137 HO301));(case side2=>exact(Kd.S_reads' HO301.out).2.1);rintro e w11 ⟨v303,v306,rfl,ho0,ho1,hb⟩;refine⟨_,rfl,?_⟩;replace HO301:=A_ (Kd.S_mono (Kd.S_told (Kd.S_told (Kd.S_old (zz48 HO301) hb) (Kd.R_base ho0)) (Kd.R_base ho1)) (fun _ h_=>h_.1));have HO304:=A_ (Kd.R_lower ho0 (below_size (zz19 HB GE298)));have HO307:=A_ (Kd.R_lower ho1 (below_size (zz19 HB GE298)));replace BK298:=A_ (bB (zz18 BK298) hb);replace HB:=A_ (bS (zz19 HB GE298) hb);(try clear hb ho0 ho1);obtain⟨Ao12,co12,eo12⟩:=Kd.R_slice HO304.out;subst eo12;obtain⟨_,_,_,_,_,_⟩:=cf3 BK298;obtain⟨Ao14,co14,eo14⟩:=Kd.R_slice HO307.out;subst eo14));refine pR (results_cell_row rfl _ _ gb298 32 #[.slice Ao12 t302.length co12,.slice Ao14 t305.length co14,.int .i64 t308] (0,0) _ rfl (zz25 BK298) Tryz.underlying32 rfl (by kernel_rfl)) rfl ?_;exact⟨_,_,zz9,(zz23 (rt HO304 BK298)),(zz23 (rt HO307 BK298)),(zz19 HB GE298)⟩
 ·(first|rw[c6b0]|(simp only[i64_w,i32_w];rw[c6b0])|skip)
  replace H:=iteEq H;rcases H with⟨c15b0,c15b1,H⟩|⟨c15b0,c15b1,c15,H⟩
  ·replace H:=bindA H
   obtain⟨⟨t309,t312,t315⟩,A16,H⟩:=H;try dsimp only at H;simp only[oI_,pI_]at H;obtain⟨rfl,rfl,rfl⟩:=H;go_wp2_with (first|((with_reducible refine gC (f:=76) rfl ?_);refine gsL (some 17) Tryz.func76 #[.string a2] ?_;(with_reducible refine(spec_l11Barred.calls a2 t309 t312 t315 _ A16.out).mono ?_);rintro e w17 ⟨v310,v313,rfl,ho0,ho1,hb⟩;refine⟨_,rfl,?_⟩;have HO311:=A_ (Kd.R_lower ho0 (below_size (zz19 HB GE298)));have HO314:=A_ (Kd.R_lower ho1 (below_size (zz19 HB GE298)));replace BK298:=A_ (bB (zz18 BK298) hb);replace HB:=A_ (bS (zz19 HB GE298) hb);(try clear hb ho0 ho1);obtain⟨Ao18,co18,eo18⟩:=Kd.R_slice HO311.out;subst eo18;obtain⟨_,_,_,_,_,_⟩:=cf3 BK298;obtain⟨Ao20,co20,eo20⟩:=Kd.R_slice HO314.out;subst eo20));refine pR (results_cell_row rfl _ _ gb298 32 #[.slice Ao18 t309.length co18,.slice Ao20 t312.length co20,.int .i64 t315] (0,0) _ rfl (zz25 BK298) Tryz.underlying32 rfl (by kernel_rfl)) rfl ?_;exact⟨_,_,zz9,(zz23 (rt HO311 BK298)),(zz23 (rt HO314 BK298)),(zz19 HB GE298)⟩
  ·obtain⟨y316,Ny316⟩:=toY (([]:List (S32)))
   (first|with_reducible replace H:=bindZ Ny316 H|rw[←Ny316.out]at H|skip)
   replace H:=bindA H;obtain⟨⟨t319,t322,t325⟩,A21,H⟩:=H;try dsimp only at H;simp only[oI_,pI_]at H;obtain⟨rfl,rfl,rfl⟩:=H;go_wp2_with (first|((with_reducible refine gD (N:=18) rfl ?_);refine Kd.S_lit k32 _ 32 ?hg (N:=18) ?hd (xs:=([]:List (S32))) (inner:=[]) (ok:=fun _=>True) (okp:=fun _=>True) ?hr ?hp (fun _ hk=>hk) trivial (Below.refl _ _) (lL_ _) (by simp) ?_;(case hd=>rfl);(case hg=>rfl);(case hr=>exact zz5);(case hp=>exact(Reps.none _ _));intro v317 w22 ho23 hb hg_ hnew_;clear hg_ hnew_;(first|rw[←Ny316.out]at ho23|(simp only[Int.reduceToNat]at ho23;rw[←Ny316.out]at ho23));have HO318:=A_ (Kd.S_lower (Kd.S_newB ho23 (zz18 BK298)) (below_size (zz19 HB GE298)));replace BK298:=A_ (bB (zz18 BK298) hb);replace HB:=A_ (bS (zz19 HB GE298) hb);clear hb ho23;obtain⟨Ao24,co24,eo24⟩:=Kd.S_slice HO318.out;subst eo24)|((with_reducible refine gC (f:=74) rfl ?_);refine gsL (some 20) Tryz.func74 #[.slice Ao24 y316.length co24,.string a2] ?_;(with_reducible refine(spec_NoticeFor.calls k _ _ y316 a2 t319 t322 t325 _ ?side1 ?side2 A21.out).mono ?_);(case side1=>exact(zz137 HO318));(case side2=>exact(Kd.S_reads' HO318.out).2.1);rintro e w25 ⟨v320,v323,rfl,ho0,ho1,hb⟩;refine⟨_,rfl,?_⟩;replace HO318:=A_ (Kd.S_mono (Kd.S_told (Kd.S_told (Kd.S_old (zz48 HO318) hb) (Kd.R_base ho0)) (Kd.R_base ho1)) (fun _ h_=>h_.1));have HO321:=A_ (Kd.R_lower ho0 (below_size (zz19 HB GE298)));have HO324:=A_ (Kd.R_lower ho1 (below_size (zz19 HB GE298)));replace BK298:=A_ (bB (zz18 BK298) hb);replace HB:=A_ (bS (zz19 HB GE298) hb);(try clear hb ho0 ho1);obtain⟨Ao26,co26,eo26⟩:=Kd.R_slice HO321.out;subst eo26;obtain⟨_,_,_,_,_,_⟩:=cf3 BK298;obtain⟨Ao28,co28,eo28⟩:=Kd.R_slice HO324.out;subst eo28));refine pR (results_cell_row rfl _ _ gb298 32 #[.slice Ao26 t319.length co26,.slice Ao28 t322.length co28,.int .i64 t325] (0,0) _ rfl (zz25 BK298) Tryz.underlying32 rfl (by kernel_rfl)) rfl ?_;exact⟨_,_,zz9,(zz23 (rt HO321 BK298)),(zz23 (rt HO324 BK298)),(zz19 HB GE298)⟩
def spec_l71Addr.l0:Nat→Int→List Int→Int→BA→List BA→Bool→BA→Option (BA×Int)
 |0,_,_,_,_,_,_,_=>none
 |k+1,x4,x1000,x1001,x812000,x812001,x812002,x812003=>if x4>0 then((spec_l6Rd_of.f k x1000 x1001 (([(⟨#[97]⟩:BA),(⟨#[98]⟩:BA),(⟨#[99]⟩:BA),(⟨#[110,111,116,105,99,101]⟩:BA)]:List BA))).bind fun bt817=>(if x812001.length<8796093022208 then(spec_l71Addr.l0 k (wrap64 (x4-1)) x1000 bt817.2 x812000 (x812001++[bt817.1]) x812002 x812003)else(none)))else((spec_l6Rd_pick.f k x1000 x1001 8).bind fun bt822=>(if bt822.1=0 then((spec_l6Rd_of.f k x1000 bt822.2 (([(⟨#[]⟩:BA),(⟨#[97]⟩:BA),(⟨#[98,37,51,68]⟩:BA)]:List BA))).bind fun bt827=>((spec_AddrText.f k x812000 x812001 true bt827.1).bind fun t829=>(some (t829,bt827.2))))else((spec_AddrText.f k x812000 x812001 x812002 x812003).bind fun t830=>(some (t830,bt822.2)))))
def spec_l71Addr.f (k:Nat)(s0_0:List Int)(s0_1:Int):Option (BA×Int):=(spec_l71Houses.f).bind fun t805=>((spec_l6Rd_pick.f k s0_0 s0_1 4).bind fun bt808=>(if 0≤bt808.1 then(if bt808.1<(t805.length:Int)then((spec_l6Rd_pick.f k s0_0 bt808.2 3).bind fun bt812=>(spec_l71Addr.l0 k bt812.1 s0_0 bt812.2 (rdOf bE_ t805 bt808.1) ([]:List BA) false (⟨#[]⟩:BA)))else(none))else(none)))
theorem spec_l71Addr.mono_l:∀k,(∀y0 y1 y2 y3 y4 y5 y6,LeO (spec_l71Addr.l0 k y0 y1 y2 y3 y4 y5 y6) (spec_l71Addr.l0 (k+1) y0 y1 y2 y3 y4 y5 y6))
 |0=>by intros;intro r h;simp[spec_l71Addr.l0]at h
 |k+1=>by
  have ih0:=spec_l71Addr.mono_l k;intros;unfold spec_l71Addr.l0;repeat' first|(with_reducible first|exact ih0 _ _ _ _ _ _ _|exact spec_AddrText.mono _ _ _ _ _|exact spec_l6Rd_of.mono _ _ _ _|exact spec_l6Rd_pick.mono _ _ _ _|exact LeO.refl _|exact LeO.none _|refine LeO.ite ?_ ?_|refine LeO.bind ?_ (fun _=>?_))|exact LeO.none _|refine LeO.ite ?_ ?_|refine LeO.bind ?_ (fun _=>?_)
theorem spec_l71Addr.mono:∀a0 a1 k,LeO (spec_l71Addr.f k a0 a1) (spec_l71Addr.f (k+1) a0 a1):=by
 intro a0 a1 k;have ih0:=spec_l71Addr.mono_l k;unfold spec_l71Addr.f
 repeat' first|(with_reducible first|exact ih0 _ _ _ _ _ _ _|exact spec_AddrText.mono _ _ _ _ _|exact spec_l6Rd_of.mono _ _ _ _|exact spec_l6Rd_pick.mono _ _ _ _|exact LeO.refl _|exact LeO.none _|refine LeO.ite ?_ ?_|refine LeO.bind ?_ (fun _=>?_))|exact LeO.none _|refine LeO.ite ?_ ?_|refine LeO.bind ?_ (fun _=>?_)
def spec_l71Addr.T5:Bool×List (List Nat×List Nat):=(true,[([],[]),([0],[0]),([],[]),([],[]),([2,3],[2,3]),([4],[4]),([1,5,4],[1,5]),([0,1,2,3,4,5,6],[]),([7,6,6,0,1,2,3,4,5,6],[6,7])])
def spec_l71Addr.B5:List Nat:=[0,1,0,0,12,28,63,127,255]
theorem spec_l71Addr.tab5:rtab .any (opsOf Tryz.f110 5)=spec_l71Addr.T5:=by kernel_rfl
theorem spec_l71Addr.bits5:waitsOk spec_l71Addr.T5.2 spec_l71Addr.B5=true:=by kernel_rfl
theorem spec_l71Addr.calls (k:Nat)(g:Nat)(s0_0:List Int)(s0_1:Int)(r1:BA)(r2:Int)(w0 w:World)(hI:IsS105 w0 w g s0_0 s0_1)(hB:Below w0.heap.size w0 w)(h:spec_l71Addr.f k s0_0 s0_1=some (r1,r2)):
  Calls Tryz.prog 110 #[.pointer (some ⟨g,0,none⟩)] w fun e w'=>e=.returned (.string r1)∧IsS105 w0 w' g s0_0 r2∧Below w0.heap.size w0 w'∧KeepBut w w' g none:=by
 have hu51:=Tryz.underlying51;have HI0:=A_ hI;have HK:=A_ (KeepBut.refl w g none);have HL:=A_ hB.size;clear hI;have HW0:=A_ hB.size;have HB:=A_ hB;clear hB;unfold spec_l71Addr.f at h;have H:=h;clear h;replace H:=bindA H;obtain⟨t805,A2,H⟩:=H;replace H:=bindA H;obtain⟨⟨t808,t809⟩,A3,H⟩:=H;try dsimp only at H;replace H:=iteE H;rcases H with⟨c4,H⟩|⟨c4,H⟩
 ·have c4b0:=dT c4
  clear c4;replace H:=iteNd H;obtain⟨c5b0,H⟩:=H;replace H:=bindA H;obtain⟨⟨t812,t813⟩,A6,H⟩:=H;try dsimp only at H;have H':=A_ H;clear H;go_enter Tryz.func110,Tryz.ntmps110;go_wp2_with (first|(refine gV 107 (some 5) Tryz.func107 (spec_l71Houses.calls  t805 _ A2.out) ?_;rintro v806 w7 ⟨ho0,hb⟩;have HO807:=A_ (Kd.R_lower ho0 (keep_size (w:=w) (g:=g) (row:=none) (zz38 HK)));replace HK:=A_ (KeepBut.trans (zz38 HK) (KeepBut.of_below hb g none) (.inl rfl));replace HB:=A_ (bS (zz39 HB HI0) hb);replace HI0:=A_ (IsS105.below (zz37 HI0) hb);(try clear hb ho0))|(refine gR 81 (some 7) Tryz.func81 (spec_l6Rd_pick.calls k g s0_0 s0_1 4 t808 t809 w0 _ ?side1 ?side2 A3.out) ?_;(case side1=>exact(zz37 HI0));(case side2=>exact(zz39 HB HI0));rintro w8 ⟨hi,hb,hk⟩;replace HO807:=A_ (Kd.R_mono (Kd.R_keep (IsS105.apart (show IsS105 w0 _ g s0_0 s0_1 from(zz37 HI0)) (zz7 HO807) (by decide)) hk (fun _ h=>h.2)) (fun _ h=>h.1));replace HK:=A_ (KeepBut.trans (zz38 HK) hk (.inl rfl));replace HB:=A_ (hb);replace HI0:=A_ (hi);(try clear hb hk hi);obtain⟨Ao9,co9,eo9⟩:=Kd.R_slice HO807.out;subst eo9;have p810:0≤(t808:Int):=ofD;have q810:t808<(t805.length:Int):=ofD;obtain⟨ad810,e810,hx810_0⟩:=Kd.at_string (Kd.R_reads' HO807.out).2.2 t808 p810 q810;cases e810;replace p810:=eq_true p810;replace q810:=eq_true q810)|(refine boxF 3 #[.string (⟨#[]⟩:BA),.slice none 0 0,.bool false,.string (⟨#[]⟩:BA)] 51 ?_;intro gb811 hg w10 BK811 hb;replace HO807:=A_ (rB (zz7 HO807) hb);replace HB:=A_ (bS (zz39 HB HI0) hb);have GW811:=A_ ((by rw[hg];exact(keep_size (w:=w) (g:=g) (row:=none) (zz38 HK)):w.heap.size≤gb811));have GE811:=A_ ((nT_ HW0.out (by rw[hg];exact(keep_size (w:=w) (g:=g) (row:=none) (zz38 HK)):w.heap.size≤gb811):w0.heap.size≤gb811));replace HK:=A_ (KeepBut.trans (zz38 HK) (KeepBut.of_below hb g none) (.inl rfl));have NB0_811:=A_ ((by rw[hg];exact Nat.ne_of_lt (IsS105.lt (show IsS105 w0 _ g s0_0 t809 from(zz37 HI0))):g≠gb811));have NB811_0:=A_ ((by rw[hg];exact Nat.ne_of_gt (IsS105.lt (show IsS105 w0 _ g s0_0 t809 from(zz37 HI0))):gb811≠g));replace HI0:=A_ (IsS105.below (zz37 HI0) hb);clear hb hg;have hnb11:=NB811_0.out;have hnc11:=NB0_811.out;obtain⟨_,_,_,_,_,_,_,_⟩:=cf4 BK811)|(refine gR 81 (some 12) Tryz.func81 (spec_l6Rd_pick.calls k g s0_0 t809 3 t812 t813 w0 _ ?side1 ?side2 A6.out) ?_;(case side1=>exact(zz50 HI0 NB0_811));(case side2=>exact(zz51 HB HI0 GE811));rintro w13 ⟨hi,hb,hk⟩;replace HO807:=A_ (Kd.R_mono (Kd.R_keep (IsS105.apart (show IsS105 w0 _ g s0_0 t809 from(zz50 HI0 NB0_811)) (by(with_reducible repeat(first|apply Kd.R_alloc|apply Kd.R_drewN|apply Kd.R_drew));exact(Kd.R_mono (Kd.R_far (p:=⟨gb811,3,none⟩) (Kd.R_far (p:=⟨gb811,2,none⟩) (Kd.R_far (p:=⟨gb811,1,none⟩) (Kd.R_far (p:=⟨gb811,0,none⟩) (Kd.R_types HO807.out BK811.out (by decide)) (fun _ hk=>hk.2) (.string (rdOf bE_ t805 t808))) (fun _ hk=>hk.2) (.slice none 0 0)) (fun _ hk=>hk.2) (.bool false)) (fun _ hk=>hk.2) (.string (⟨#[]⟩:BA))) (fun _ h_=>h_.1))) (by decide)) hk (fun _ h=>h.2)) (fun _ h=>h.1));replace BK811:=A_ (KeepBut.blk hk (g':=gb811) (o:=.cells #[.string (rdOf bE_ t805 t808),.slice none 0 0,.bool false,.string (⟨#[]⟩:BA)] 51 (0,0)) (zz22 BK811) NB811_0.out (by simp));replace HK:=A_ (KeepBut.trans (zz54 HK GW811) hk (.inl rfl));replace HB:=A_ (hb);replace HI0:=A_ (hi);(try clear hb hk hi)))
  go_loopg [4] k (fun kq v4 w'=>∃(x4_1:Int)(x1001_1:Int)(x812001_1:List BA)(u812001:Value),v4=.int .i64 x4_1∧Aside0 (spec_l71Addr.l0 kq x4_1 s0_0 x1001_1 (rdOf bE_ t805 t808) x812001_1 false (⟨#[]⟩:BA)=some (r1,r2))∧Aside0 (kq≤k)∧Aside0 (Kd.R Kd.string 9 w' w.heap.size (fun _=>True) u812001 x812001_1)∧Aside0 (w'.heap[gb811]?=some (.cells #[.string (rdOf bE_ t805 t808),u812001,.bool false,.string (⟨#[]⟩:BA)] 51 (0,0)))∧Aside0 (IsS105 w0 w' g s0_0 x1001_1)∧Aside0 (KeepBut w w' g none)∧Aside0 (Below w0.heap.size w0 w'))
  case atStart=>exact⟨(t812),(t813),(([]:List BA)),(.slice none 0 0),zz0,H',⟨lL_ _⟩,⟨zz68⟩,⟨(zz18 BK811)⟩,⟨(zz50 HI0 NB0_811)⟩,⟨(zz54 HK GW811)⟩,⟨(zz51 HB HI0 GE811)⟩⟩
  case round=>
   clear H';obtain⟨x4_1,x1001_1,x812001_1,u812001,rfl,HA,HK1,HO_812001,BK811,HI0,HK,HB⟩:=hrel;cases gk with
   |zero=>exact absurd HA.out (by simp[spec_l71Addr.l0])
   |succ k1=>
    obtain⟨H⟩:=HA;simp only[spec_l71Addr.l0]at H;replace H:=iteEg H;rcases H with⟨c14b0,H⟩|⟨c14b0,H⟩
    ·obtain⟨y814,Ny814⟩:=toY (([(⟨#[97]⟩:BA),(⟨#[98]⟩:BA),(⟨#[99]⟩:BA),(⟨#[110,111,116,105,99,101]⟩:BA)]:List BA))
     (first|with_reducible replace H:=bindZ Ny814 H|rw[←Ny814.out]at H|skip)
     replace H:=bindA H;obtain⟨⟨t817,t818⟩,A15,H⟩:=H;try dsimp only at H;replace H:=iteN H;obtain⟨c16,H⟩:=H;have LMc16:=A_ c16;clear c16;obtain⟨y819,Ny819⟩:=toY (x812001_1++[t817]);(first|with_reducible replace H:=bindZ Ny819 H|rw[←Ny819.out]at H|skip);have H':=A_ H;clear H;try go_wp2;replace HO_812001:=A_ (Kd.R_drew HO_812001.out);replace BK811:=A_ (blk_drew BK811.out);replace HI0:=A_ (IsS105.drew HI0.out);replace HK:=A_ (keep_drew HK.out);replace HB:=A_ (below_drew1 HB.out);refine start_ (n:=9) (S:=fun w'=>w'.cell? ⟨gb811,0,none⟩=some (.string (rdOf bE_ t805 t808))∧w'.cell? ⟨gb811,1,none⟩=some (u812001)∧w'.cell? ⟨gb811,2,none⟩=some (.bool false)∧w'.cell? ⟨gb811,3,none⟩=some (.string (⟨#[]⟩:BA))) (ds:=[8]) #[yF,yF,yF,yF,yF,yF,yF,yF,yF] (by kernel_rfl) rfl rfl ⟨(blk_cell BK811.out 0).trans rfl,(blk_cell BK811.out 1).trans rfl,(blk_cell BK811.out 2).trans rfl,(blk_cell BK811.out 3).trans rfl⟩ (fun hHeld=>?_);refine with_tabW spec_l71Addr.tab5 spec_l71Addr.bits5 (fun HT_ HW_=>?_);generalize wr.drew=w17 at HO_812001 BK811 HI0 HK HB hHeld ⊢;refine pureZ 0 (some 17) (yA 1 8) ?_;refine pureZ 2 (some 19) #[yT,yF,yT,yF,yF,yF,yF,yF,yF] ?_;refine takeZ4 1 (some 18) (yA 3 6) hHeld ?_;refine oneZ 3 (some 20) (yA 4 5) (fun K hK=>?_);refine Kd.R_lit_step Kd.string _ 9 ?hg (N:=20) ?hd (xs:=([(⟨#[97]⟩:BA),(⟨#[98]⟩:BA),(⟨#[99]⟩:BA),(⟨#[110,111,116,105,99,101]⟩:BA)]:List BA)) (inner:=[.string (⟨#[97]⟩:BA),.string (⟨#[98]⟩:BA),.string (⟨#[99]⟩:BA),.string (⟨#[110,111,116,105,99,101]⟩:BA)]) (ok:=fun _=>True) (okp:=fun _=>True) ?hr ?hp (fun _ hk=>hk) trivial (Below.refl _ _) (lL_ _) (by simp) ?_;(case hd=>rfl);(case hg=>rfl);(case hr=>exact zz5);(case hp=>exact(Reps.one (show Kd.M Kd.string _ _ _ (⟨#[97]⟩:BA) [.string (⟨#[97]⟩:BA)]from rfl) (Reps.one (show Kd.M Kd.string _ _ _ (⟨#[98]⟩:BA) [.string (⟨#[98]⟩:BA)]from rfl) (Reps.one (show Kd.M Kd.string _ _ _ (⟨#[99]⟩:BA) [.string (⟨#[99]⟩:BA)]from rfl) (Reps.one (show Kd.M Kd.string _ _ _ (⟨#[110,111,116,105,99,101]⟩:BA) [.string (⟨#[110,111,116,105,99,101]⟩:BA)]from rfl) (Reps.none _ _))))));intro v815 w18 ho19 hb hg_ hnew_;clear hg_ hnew_;(first|rw[←Ny814.out]at ho19|(simp only[Int.reduceToNat]at ho19;rw[←Ny814.out]at ho19));have HO816:=A_ (Kd.R_lower (Kd.R_new' ho19 (Kd.R_lt (zz7 HO_812001))) (keep_size (w:=w) (g:=g) (row:=none) (zz54 HK GW811)));replace HO_812001:=A_ (Kd.R_elder' (zz7 HO_812001) (Kd.R_base ho19) hb);replace BK811:=A_ (bB (zz18 BK811) hb);replace HK:=A_ (KeepBut.trans (zz54 HK GW811) (KeepBut.of_below hb g none) (.inl rfl));replace HB:=A_ (bS (zz51 HB HI0 GE811) hb);replace HI0:=A_ (IsS105.below (zz50 HI0 NB0_811) hb);clear hb ho19;obtain⟨Ao20,co20,eo20⟩:=Kd.R_slice HO816.out;(first|subst eo20|(injection eo20 with f1_ f2_ f3_;have f4_:=f1_.symm;have f5_:=f3_.symm;clear f1_ f2_ f3_;subst f4_;subst f5_));refine hK.out _ _ ⟨(blk_cell BK811.out 0).trans rfl,(blk_cell BK811.out 1).trans rfl,(blk_cell BK811.out 2).trans rfl,(blk_cell BK811.out 3).trans rfl⟩ (fun hHeld=>?_);clear hK K;refine nZ 20 ?_;refine oneZ 4 (some 21) (yA 5 4) (fun K hK=>?_);refine goes_ Tryz.func49 (by kernel_rfl) rfl #[.pointer (some ⟨g,0,none⟩),.slice Ao20 y814.length co20] (by rfl) rfl rfl zz45 ?_;with_reducible refine(spec_l6Rd_of.calls k1 g s0_0 x1001_1 _ _ y814 t817 t818 w0 _ ?side1 ?side2 ?side3 ?side4 ?side5 A15.out).mono ?_
     (case side1=>exact(zz50 HI0 NB0_811))
     (case side2=>exact(zz51 HB HI0 GE811))
     (case side3=>exact(zz46 HO816))
     (case side4=>exact(Kd.R_reads' HO816.out).2.1)
     (case side5=>exact far_slice (IsS105.own_ne HI0.out HO816.out (by decide)))
     rintro e w21 ⟨rfl,hi,hb,hk⟩;refine⟨_,rfl,?_⟩;replace HO_812001:=A_ (Kd.R_mono (Kd.R_keep (IsS105.apart (show IsS105 w0 _ g s0_0 x1001_1 from(zz50 HI0 NB0_811)) (zz7 HO_812001) (by decide)) hk (fun _ h=>h.2)) (fun _ h=>h.1));replace BK811:=A_ (KeepBut.blk hk (g':=gb811) (o:=.cells #[.string (rdOf bE_ t805 t808),u812001,.bool false,.string (⟨#[]⟩:BA)] 51 (0,0)) (zz18 BK811) NB811_0.out (by simp));replace HO816:=A_ (Kd.R_mono (Kd.R_keep (IsS105.apart (show IsS105 w0 _ g s0_0 x1001_1 from(zz50 HI0 NB0_811)) (zz7 HO816) (by decide)) hk (fun _ h=>h.2)) (fun _ h=>h.1));replace HK:=A_ (KeepBut.trans (zz54 HK GW811) hk (.inl rfl));replace HB:=A_ (hb);replace HI0:=A_ (hi);(try clear hb)
     (try clear hb2)
     (try clear hk)
     (try clear hi)
     refine hK.out _ _ ⟨(blk_cell BK811.out 0).trans rfl,(blk_cell BK811.out 1).trans rfl,(blk_cell BK811.out 2).trans rfl,(blk_cell BK811.out 3).trans rfl⟩ (fun hHeld=>?_);clear hK K;refine nZ 21 ?_;refine oneZ 5 (some 22) (yA 6 3) (fun K hK=>?_);refine value_ (w1:=?_) (v:=?_) (by rfl) rfl ?_ ?_;rotate_left 2
     ·go_simp
      constructor
      ·rfl
      ·rfl
     refine hK.out _ _ ⟨(blk_cell (blk_alloc BK811.out _) 0).trans rfl,(blk_cell (blk_alloc BK811.out _) 1).trans rfl,(blk_cell (blk_alloc BK811.out _) 2).trans rfl,(blk_cell (blk_alloc BK811.out _) 3).trans rfl⟩ (fun hHeld=>?_);clear hK K;refine nZ 22 ?_;refine oneZ 6 (some 23) (yA 7 2) (fun K hK=>?_);refine Kd.R_append_step Kd.string w.heap.size (by rfl) (.tmp 18) (.tmp 22) 29 9 (.string ⟨#[]⟩) 16 rfl Tryz.underlying29 info9 rfl (by decide) (by omega) u812001 x812001_1 t817 [.string t817] (fun k_=>some k_≠(.slice Ao20 y814.length co20:Value).ownBlock) (fun _=>False) rfl rfl ?aP (fun _ hk=>hk.elim) ?aF ?aO (Below.refl _ _) ?aS ?aL ?_;(case aP=>exact rfl)
     (case aF=>exact(fun k_ hk=>Kd.fresh' (Kd.R_lt (zz7 HO816)) k_ hk))
     (case aO=>exact(zz103 HO_812001))
     (case aS=>exact(keep_size (w:=w) (g:=g) (row:=none) (zz54 HK GW811)))
     (case aL=>exact(zz4 LMc16))
     intro v820 w22 ho hb hg hat;rw[←Ny819.out]at ho;replace BK811:=A_ (blk_grown (zz18 BK811) hg (Kd.R_ne HO_812001.out BK811.out (by decide)));replace HO816:=A_ (Kd.R_after (ok:=(fun _=>True)) (zz7 HO816) hg hat);replace HB:=A_ (below_weaken (zz51 HB HI0 GE811) HL.out hb);replace HI0:=A_ (IsS105.grown (zz50 HI0 NB0_811) hg (IsS105.own_ne HI0.out HO_812001.out (by decide)));replace HK:=A_ (KeepBut.trans (zz54 HK GW811) (KeepBut.of_grown hg g) (Kd.R_base2 HO_812001.out));have HO821:=A_ (ho);clear HO_812001;clear ho hb hg hat;obtain⟨Ao23,co23,eo23⟩:=Kd.R_slice HO821.out;(first|subst eo23|(injection eo23 with f1_ f2_ f3_;have f4_:=f1_.symm;have f5_:=f3_.symm;clear f1_ f2_ f3_;subst f4_;subst f5_));refine hK.out _ _ ⟨(blk_cell BK811.out 0).trans rfl,(blk_cell BK811.out 1).trans rfl,(blk_cell BK811.out 2).trans rfl,(blk_cell BK811.out 3).trans rfl⟩ (fun hHeld=>?_);clear hK K;refine nZ 23 ?_;refine pureZ 7 (some 24) (yA 8 1) ?_;refine last_ (i:=8) (N:=none) (yA 9 0) rfl rfl (one_of HT_.out (by kernel_rfl)) (by decide) (fun K hK=>?_);have hs24:w22.cell? ⟨gb811,1,none⟩=some (u812001):=(blk_cell BK811.out 1).trans rfl;have hfs24:=blk_frozen BK811.out 1;refine skip_ (w1:=?_) (by rfl) rfl ?_ ?_;rotate_left
     ·go_simp
      rfl
     refine hK.out _ _ ?_;clear hK K;refine done_ (done_of HT_.out (by kernel_rfl)) ?_;try go_wp2
     go_roundg k1
     case measure=>have:=HK1.out;omega
     case rel=>exact⟨(wrap64 (x4_1-1)),(t818),(y819),(.slice Ao23 y819.length co23),zz0,H',⟨(zz4 HK1)⟩,⟨(zz23 (rt HO821 BK811))⟩,⟨(zz30 BK811)⟩,⟨(zz50 HI0 NB0_811)⟩,⟨(zz54 HK GW811)⟩,⟨(zz51 HB HI0 GE811)⟩⟩
    ·replace H:=bindA H
     obtain⟨⟨t822,t823⟩,A25,H⟩:=H;try dsimp only at H;have HF26:=A_ H;clear H;go_upto_if 27 with(first|(refine gR 81 (some 26) Tryz.func81 (spec_l6Rd_pick.calls k1 g s0_0 x1001_1 8 t822 t823 w0 _ ?side1 ?side2 A25.out) ?_;(case side1=>exact(zz50 HI0 NB0_811));(case side2=>exact(zz51 HB HI0 GE811));rintro w27 ⟨hi,hb,hk⟩;replace HO_812001:=A_ (Kd.R_mono (Kd.R_keep (IsS105.apart (show IsS105 w0 _ g s0_0 x1001_1 from(zz50 HI0 NB0_811)) (zz7 HO_812001) (by decide)) hk (fun _ h=>h.2)) (fun _ h=>h.1));replace BK811:=A_ (KeepBut.blk hk (g':=gb811) (o:=.cells #[.string (rdOf bE_ t805 t808),u812001,.bool false,.string (⟨#[]⟩:BA)] 51 (0,0)) (zz18 BK811) NB811_0.out (by simp));replace HK:=A_ (KeepBut.trans (zz54 HK GW811) hk (.inl rfl));replace HB:=A_ (hb);replace HI0:=A_ (hi);(try clear hb hk hi)))
     obtain⟨H⟩:=HF26;replace H:=iteEq H;rcases H with⟨c28b0,c28b1,H⟩|⟨c28b0,c28b1,c28,H⟩
     ·(first|rw[c28b0]|(simp only[i64_w,i32_w];rw[c28b0])|skip)
      obtain⟨y824,Ny824⟩:=toY (([(⟨#[]⟩:BA),(⟨#[97]⟩:BA),(⟨#[98,37,51,68]⟩:BA)]:List BA));(first|with_reducible replace H:=bindZ Ny824 H|rw[←Ny824.out]at H|skip);replace H:=bindA H;obtain⟨⟨t827,t828⟩,A29,H⟩:=H;try dsimp only at H;replace H:=bindA H;obtain⟨t829,A30,H⟩:=H;simp only[oI_,pI_]at H;obtain⟨rfl,rfl⟩:=H;have hnb31:=NB811_0.out;have hnc31:=NB0_811.out;obtain⟨_,_,_,_,_,_,_,_⟩:=cf4 BK811;go_wp2_with (first|((with_reducible refine gD (N:=30) rfl ?_);refine Kd.R_lit Kd.string _ 9 ?hg (N:=30) ?hd (xs:=([(⟨#[]⟩:BA),(⟨#[97]⟩:BA),(⟨#[98,37,51,68]⟩:BA)]:List BA)) (inner:=[.string (⟨#[]⟩:BA),.string (⟨#[97]⟩:BA),.string (⟨#[98,37,51,68]⟩:BA)]) (ok:=fun _=>True) (okp:=fun _=>True) ?hr ?hp (fun _ hk=>hk) trivial (Below.refl _ _) (lL_ _) (by simp) ?_;(case hd=>rfl);(case hg=>rfl);(case hr=>exact zz5);(case hp=>exact(Reps.one (show Kd.M Kd.string _ _ _ (⟨#[]⟩:BA) [.string (⟨#[]⟩:BA)]from rfl) (Reps.one (show Kd.M Kd.string _ _ _ (⟨#[97]⟩:BA) [.string (⟨#[97]⟩:BA)]from rfl) (Reps.one (show Kd.M Kd.string _ _ _ (⟨#[98,37,51,68]⟩:BA) [.string (⟨#[98,37,51,68]⟩:BA)]from rfl) (Reps.none _ _)))));intro v825 w33 ho34 hb hg_ hnew_;clear hg_ hnew_;(first|rw[←Ny824.out]at ho34|(simp only[Int.reduceToNat]at ho34;rw[←Ny824.out]at ho34));have HO826:=A_ (Kd.R_lower (Kd.R_new' ho34 (Kd.R_lt (zz140 HO_812001 BK811))) (keep_size (w:=w) (g:=g) (row:=none) (zz54 HK GW811)));replace HO_812001:=A_ (Kd.R_elder' (zz140 HO_812001 BK811) (Kd.R_base ho34) hb);replace BK811:=A_ (bB (g:=gb811) (o:=.cells #[.string (rdOf bE_ t805 t808),u812001,.bool true,.string (⟨#[]⟩:BA)] 51 (0,0)) (zz31 BK811) hb);replace HK:=A_ (KeepBut.trans (zz54 HK GW811) (KeepBut.of_below hb g none) (.inl rfl));replace HB:=A_ (bS (zz51 HB HI0 GE811) hb);replace HI0:=A_ (IsS105.below (show IsS105 w0 (w27.setCell ⟨gb811,2,none⟩ (.bool true)) g s0_0 t823 from(zz50 HI0 NB0_811)) hb);clear hb ho34;obtain⟨Ao35,co35,eo35⟩:=Kd.R_slice HO826.out;subst eo35)|(refine gR 49 (some 31) Tryz.func49 (spec_l6Rd_of.calls k1 g s0_0 t823 _ _ y824 t827 t828 w0 _ ?side1 ?side2 ?side3 ?side4 ?side5 A29.out) ?_;(case side1=>exact(zz50 HI0 NB0_811));(case side2=>exact(zz51 HB HI0 GE811));(case side3=>exact(zz46 HO826));(case side4=>exact(Kd.R_reads' HO826.out).2.1);(case side5=>exact far_slice (IsS105.own_ne HI0.out HO826.out (by decide)));rintro w36 ⟨hi,hb,hk⟩;replace HO_812001:=A_ (Kd.R_mono (Kd.R_keep (IsS105.apart (show IsS105 w0 _ g s0_0 t823 from(zz50 HI0 NB0_811)) (zz7 HO_812001) (by decide)) hk (fun _ h=>h.2)) (fun _ h=>h.1));replace BK811:=A_ (KeepBut.blk hk (g':=gb811) (o:=.cells #[.string (rdOf bE_ t805 t808),u812001,.bool true,.string (⟨#[]⟩:BA)] 51 (0,0)) (zz18 BK811) NB811_0.out (by simp));replace HO826:=A_ (Kd.R_mono (Kd.R_keep (IsS105.apart (show IsS105 w0 _ g s0_0 t823 from(zz50 HI0 NB0_811)) (zz7 HO826) (by decide)) hk (fun _ h=>h.2)) (fun _ h=>h.1));replace HK:=A_ (KeepBut.trans (zz54 HK GW811) hk (.inl rfl));replace HB:=A_ (hb);replace HI0:=A_ (hi);(try clear hb hk hi);obtain⟨_,_,_,_,_,_,_,_⟩:=cf4 BK811;obtain⟨Ao38,co38,eo38⟩:=Kd.R_slice HO_812001.out;subst eo38)|((with_reducible refine gC (f:=93) rfl ?_);refine gsL (some 34) Tryz.func93 #[.agg #[.string (rdOf bE_ t805 t808),.slice Ao38 x812001_1.length co38,.bool true,.string t827]] ?_;(with_reducible refine(spec_AddrText.calls k1 (rdOf bE_ t805 t808) _ _ x812001_1 true t827 t829 _ ?side1 ?side2 A30.out).mono ?_);(case side1=>exact(by refine(Kd.R_reads' (e:=9) (base:=w.heap.size) (ok:=fun k_=>(True∧some k_≠(.slice Ao35 y824.length co35:Value).ownBlock)) (n:=x812001_1.length) (c:=co38) ?_).2.2;exact(zz141 HO_812001 BK811)));(case side2=>exact(Kd.R_reads' HO_812001.out).2.1);rintro e w39 ⟨rfl,hb⟩;refine⟨_,rfl,?_⟩;replace HO_812001:=A_ (rB (zz141 HO_812001 BK811) hb);replace HO826:=A_ (rB (zz141 HO826 BK811) hb);replace BK811:=A_ (bB (g:=gb811) (o:=.cells #[.string (rdOf bE_ t805 t808),.slice Ao38 x812001_1.length co38,.bool true,.string t827] 51 (0,0)) (by first|((repeat(first|(with_reducible first|exact BK811.out|refine blk_drewN ?_ _|refine blk_drew ?_|refine blk_alloc ?_ _|apply blk_put)|exact BK811.out));all_goals rfl;done)|(apply blk_put (i:=3);exact BK811.out;all_goals rfl)) hb);replace HK:=A_ (KeepBut.trans (zz54 HK GW811) (KeepBut.of_below hb g none) (.inl rfl));replace HB:=A_ (bS (zz51 HB HI0 GE811) hb);replace HI0:=A_ (IsS105.below (show IsS105 w0 (w36.setCell ⟨gb811,3,none⟩ (.string t827)) g s0_0 t828 from(zz50 HI0 NB0_811)) hb);(try clear hb)));go_ret;exact⟨zz9,(zz50 HI0 NB0_811),(zz51 HB HI0 GE811),(zz54 HK GW811)⟩
     ·(first|rw[c28b0]|(simp only[i64_w,i32_w];rw[c28b0])|skip)
      replace H:=bindA H;obtain⟨t830,A40,H⟩:=H;simp only[oI_,pI_]at H;obtain⟨rfl,rfl⟩:=H;have hnb41:=NB811_0.out;have hnc41:=NB0_811.out;obtain⟨_,_,_,_,_,_,_,_⟩:=cf4 BK811;obtain⟨Ao43,co43,eo43⟩:=Kd.R_slice HO_812001.out;subst eo43;go_wp2_with (first|(refine gR 93 (some 34) Tryz.func93 (spec_AddrText.calls k1 (rdOf bE_ t805 t808) _ _ x812001_1 false (⟨#[]⟩:BA) t830 _ ?side1 ?side2 A40.out) ?_;(case side1=>exact(zz46 HO_812001));(case side2=>exact(Kd.R_reads' HO_812001.out).2.1);rintro w44 hb;replace HO_812001:=A_ (rB (zz7 HO_812001) hb);replace BK811:=A_ (bB (zz18 BK811) hb);replace HK:=A_ (KeepBut.trans (zz54 HK GW811) (KeepBut.of_below hb g none) (.inl rfl));replace HB:=A_ (bS (zz51 HB HI0 GE811) hb);replace HI0:=A_ (IsS105.below (zz50 HI0 NB0_811) hb);(try clear hb)));go_ret;exact⟨zz9,(zz50 HI0 NB0_811),(zz51 HB HI0 GE811),(zz54 HK GW811)⟩
 ·exact absurd H (by simp)
end Go.Proofs.YtloijngehifbmaaGreatDoor.P
end
