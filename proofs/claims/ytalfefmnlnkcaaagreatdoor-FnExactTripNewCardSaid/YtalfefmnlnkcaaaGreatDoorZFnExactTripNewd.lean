/- FnExactTripNew holds of the given program at every input: the program's TripNew returns what the reference's returns. No condition. -/
import Derived.Test.YtalfefmnlnkcaaaGreatDoorZFnExactTripNewb
import Derived.Test.YtalfefmnlnkcaaaGreatDoorZFnExactTripNewc
import Derived.Lib.IndexAny
import Derived.Maps.Own
import Derived.Maps.OwnSet
import Derived.Carry
import Derived.SizedLaws
import Derived.ChangeSlices
import Derived.Test.YtalfefmnlnkcaaaGreatDoorRows
import Derived.Test.YtalfefmnlnkcaaaGreatDoorCards
import Derived.Test.YtalfefmnlnkcaaaGreatDoorTie
import Derived.LaidMore
import Derived.Lay
import Derived.SevenTiedAt
import Derived.Stop.Joined
import Derived.Lib.SmallJoins
import Derived.SliceStrings
import Derived.WalkKit
import Derived.ProofKit
import Derived.OpenShut
import Derived.ShutString
import Derived.ChangeOld
import Derived.Below
import Derived.Test.YtalfefmnlnkcaaaGreatDoorZFnExactTripNewa

set_option linter.unusedVariables false
set_option linter.unusedSimpArgs false
section
namespace Go.Proofs.YtalfefmnlnkcaaaGreatDoor.P
open Go.RowKit Go.Proofs.YtalfefmnlnkcaaaGreatDoorW PrintWords PrintLast PrintMore
attribute [local go_sem] max2_int min2_int max_two min_two max_three min_three max_four min_four
set_option maxHeartbeats 8000000
set_option maxRecDepth 100000
def spec_AddrRead.f (k:Nat)(a0:BA):Option (BA×List BA×Bool×BA×Bool):=(spec_l1Cut.f k a0 35).bind fun bt204=>(if(a0.size:Int)>60 then(some ((⟨#[]⟩:BA),([]:List BA),false,(⟨#[]⟩:BA),false))else(if(bt204.1.size:Int)<2 then(some ((⟨#[]⟩:BA),([]:List BA),false,(⟨#[]⟩:BA),false))else(if 0≤2 then(if 2≤(bt204.1.size:Int)then(if(bt204.1.extract 0 2).toList=([47,47]:List UInt8)then((spec_l1Whole.f k (bt204.1.extract 2 bt204.1.size)).bind fun bt207=>(some (bt207.1,bt207.2.1,bt207.2.2.1,bt207.2.2.2.1,bt207.2.2.2.2)))else(some ((⟨#[]⟩:BA),([]:List BA),false,(⟨#[]⟩:BA),false)))else(none))else(none))))
theorem spec_AddrRead.calls (k:Nat)(a0:BA)(r1:BA)(r2:List BA)(r3:Bool)(r4:BA)(r5:Bool)(w:World)(h:spec_AddrRead.f k a0=some (r1,r2,r3,r4,r5)):
  Calls Tryz.prog 48 #[.string a0] w fun e w'=>∃v1_:Value,e=.returned (.tuple #[.agg #[.string r1,v1_,.bool r3,.string r4],.bool r5])∧Kd.R Kd.string 9 w' w.heap.size (fun _=>True) v1_ r2∧Below w.heap.size w w':=by
 have hu70:=Tryz.underlying70;have HB:=A_ (Below.refl w.heap.size w);unfold spec_AddrRead.f at h;have H:=h;clear h;replace H:=bindA H;obtain⟨⟨t204,t205,t206⟩,A2,H⟩:=H;try dsimp only at H;have HF3:=A_ H;clear H;go_enter Tryz.func48,Tryz.ntmps48;go_wp2_with (first|((with_reducible refine gD (N:=2) rfl ?_);(try(refine gate_guard (by rfl) ?_;dsimp only));refine boxE 2 #[.string (⟨#[]⟩:BA),.slice none 0 0,.bool false,.string (⟨#[]⟩:BA)] 70 ?_;intro gb203 hg w4 hbox hb;have BK203:=A_ (hbox);have GE203:=geB hg (zz1 HB);replace HB:=A_ (bS (zz1 HB) hb);clear hb hbox hg)|(refine gR 69 (some 9) Tryz.func69 (spec_l1Cut.calls k a0 35 t204 t205 t206 _ A2.out) ?_;rintro w' ⟨nd,rfl⟩)|((with_reducible refine atG ?_ ?_ fun K_ hK_=>?_);rfl;exact undecG)|((with_reducible refine atI ?_ fun K_ hK_=>?_);exact undecI));refine unG hK_ ?_;clear hK_ K_;obtain⟨H⟩:=HF3;replace H:=iteE H;rcases H with⟨c5,H⟩|⟨c5,H⟩
 ·have c5b0:=gtT c5
  have c5b1:decide (60<a0.size)=true:=dT (by omega);(first|refine iteT ?_|refine iteF ?_|skip);clear c5;(first|rw[c5b0]|(simp only[i64_w,i32_w];rw[c5b0])|skip);simp only[oI_,pI_]at H;obtain⟨rfl,rfl,rfl,rfl,rfl⟩:=H;obtain⟨_,_,_,_,_,_,_,_⟩:=cf4 BK203;(try((with_reducible refine upS ?_);go_simp));go_wp2;refine pR (results_ct rfl _ _ gb203 70 #[.string (⟨#[]⟩:BA),.slice none 0 0,.bool false,.string (⟨#[]⟩:BA)] (0,0) _ rfl (zz82 BK203) Tryz.underlying70 rfl (by kernel_rfl)) rfl ?_;exact⟨_,zz0,zz24,(zz37 HB GE203)⟩
 ·have c5b0:=gtF c5
  have c5b1:decide (60<a0.size)=false:=dF (by omega);(first|refine iteT ?_|refine iteF ?_|skip);clear c5;(first|rw[c5b0]|(simp only[i64_w,i32_w];rw[c5b0])|skip);replace H:=iteE H;rcases H with⟨c7,H⟩|⟨c7,H⟩
  ·have c7b0:=dT c7
   have c7b1:decide (t204.size<2)=true:=dT (by omega);clear c7;simp only[oI_,pI_]at H;obtain⟨rfl,rfl,rfl,rfl,rfl⟩:=H;obtain⟨_,_,_,_,_,_,_,_⟩:=cf4 BK203;go_wp2;refine pR (results_ct rfl _ _ gb203 70 #[.string (⟨#[]⟩:BA),.slice none 0 0,.bool false,.string (⟨#[]⟩:BA)] (0,0) _ rfl (zz82 BK203) Tryz.underlying70 rfl (by kernel_rfl)) rfl ?_;exact⟨_,zz0,zz24,(zz37 HB GE203)⟩
  ·have c7b0:=dF c7
   have c7b1:decide (t204.size<2)=false:=dF (by omega);clear c7;replace H:=iteE H;rcases H with⟨c9,H⟩|⟨c9,H⟩
   ·have c9b0:=eq_true c9
    have c9b1:=dT c9;clear c9;replace H:=iteN H;obtain⟨c10,H⟩:=H;have c10b0:=eq_true c10;have c10b1:=dT c10;clear c10;replace H:=iteEq H;rcases H with⟨c11b0,c11b1,H⟩|⟨c11b0,c11b1,c11,H⟩
    ·have c12b0:=eq_true (ofD:2≤(t204.size:Int))
     replace H:=bindA H;obtain⟨⟨t207,t208,t211,t212,t213⟩,A13,H⟩:=H;try dsimp only at H;simp only[oI_,pI_]at H;obtain⟨rfl,rfl,rfl,rfl,rfl⟩:=H;go_wp2_with (first|(refine gV 70 (some 29) Tryz.func70 (spec_l1Whole.calls k (t204.extract 2 t204.size) t207 t208 t211 t212 t213 _ A13.out) ?_;rintro v209 w14 ⟨ho0,hb⟩;have HO210:=A_ (Kd.R_lower ho0 (below_size (zz37 HB GE203)));replace BK203:=A_ (bB (zz36 BK203) hb);replace HB:=A_ (bS (zz37 HB GE203) hb);(try clear hb ho0);obtain⟨_,_,_,_,_,_,_,_⟩:=cf4 BK203;obtain⟨Ao16,co16,eo16⟩:=Kd.R_slice HO210.out;subst eo16));refine pR (results_ct rfl _ _ gb203 70 #[.string t207,.slice Ao16 t208.length co16,.bool t211,.string t212] (0,0) _ rfl (zz82 BK203) Tryz.underlying70 rfl (by kernel_rfl)) rfl ?_;exact⟨_,zz0,(zz87 (rt HO210 BK203)),(zz37 HB GE203)⟩
    ·simp only[oI_,pI_]at H
     obtain⟨rfl,rfl,rfl,rfl,rfl⟩:=H;obtain⟨_,_,_,_,_,_,_,_⟩:=cf4 BK203;go_wp2;refine pR (results_ct rfl _ _ gb203 70 #[.string (⟨#[]⟩:BA),.slice none 0 0,.bool false,.string (⟨#[]⟩:BA)] (0,0) _ rfl (zz82 BK203) Tryz.underlying70 rfl (by kernel_rfl)) rfl ?_;exact⟨_,zz0,zz24,(zz37 HB GE203)⟩
   ·exact absurd H (by simp)
def spec_l11Norm.f (k:Nat)(a0:BA):Option (Bool):=(spec_AddrRead.f k a0).bind fun bt217=>(if bt217.2.2.2.2=true then((spec_AddrText.f k bt217.1 bt217.2.1 bt217.2.2.1 bt217.2.2.2.1).bind fun t225=>(some (t225.toList==a0.toList)))else(some false))
theorem spec_l11Norm.calls (k:Nat)(a0:BA)(r:Bool)(w:World)(h:spec_l11Norm.f k a0=some r):
  Calls Tryz.prog 20 #[.string a0] w fun e w'=>e=.returned (.bool r)∧Below w.heap.size w w':=by
 have hu70:=Tryz.underlying70;have HB:=A_ (Below.refl w.heap.size w);unfold spec_l11Norm.f at h;have H:=h;clear h;replace H:=bindA H;obtain⟨⟨t217,t218,t221,t222,t223⟩,A2,H⟩:=H;try dsimp only at H;have HF3:=A_ H;clear H;go_enter Tryz.func20,Tryz.ntmps20;go_wp2_with (first|(refine gV 48 (some 7) Tryz.func48 (spec_AddrRead.calls k a0 t217 t218 t221 t222 t223 _ A2.out) ?_;rintro v219 w4 ⟨ho0,hb⟩;have HO220:=A_ (Kd.R_lower ho0 (below_size (zz1 HB)));replace HB:=A_ (bS (zz1 HB) hb);(try clear hb ho0))|(refine boxF 3 #[.string (⟨#[]⟩:BA),.slice none 0 0,.bool false,.string (⟨#[]⟩:BA)] 70 ?_;intro gb224 hg w5 BK224 hb;replace HO220:=A_ (rB (zz6 HO220) hb);have GE224:=geB hg (zz1 HB);replace HB:=A_ (bS (zz1 HB) hb);clear hb hg;obtain⟨_,_,_,_,_,_,_,_⟩:=cf4 BK224;obtain⟨Ao7,co7,eo7⟩:=Kd.R_slice HO220.out;subst eo7)|((with_reducible refine gate_store (t:=70) (p:=3) rfl ?_);refine store_event (t:=70) (p:=3) (v:=?vo_w8) (w1:=((((w5.setCell ⟨gb224,0,none⟩ (.string t217)).setCell ⟨gb224,1,none⟩ (.slice Ao7 t218.length co7)).setCell ⟨gb224,2,none⟩ (.bool t221)).setCell ⟨gb224,3,none⟩ (.string t222))) ?hg ?ho ?hn ?hr ?_;(case ho=>rfl);(case hg=>rfl);(case hn=>rfl);(case hr=>exact zz4);intro w8 hw;have n0_:Aside0 (Kd.R Kd.string 9 w8 w.heap.size (fun _=>True) (.slice Ao7 t218.length co7) t218):=⟨(by rw[hw];exact(zz87 (rt HO220 BK224)))⟩;have n1_:Aside0 (w8.heap[gb224]?=some (.cells #[.string t217,.slice Ao7 t218.length co7,.bool t221,.string t222] 70 (0,0))):=⟨(by rw[hw];exact(zz82 BK224))⟩;have n2_:Aside0 (Below w.heap.size w w8):=⟨(by rw[hw];exact(zz37 HB GE224))⟩;clear hw;clear HO220;clear BK224;clear HB;have HO220:=n0_;have BK224:=n1_;have HB:=n2_;clear n0_ n1_ n2_)|((with_reducible refine atG ?_ ?_ fun K_ hK_=>?_);rfl;exact undecG)|((with_reducible refine atI ?_ fun K_ hK_=>?_);exact undecI));refine unG hK_ ?_;clear hK_ K_;obtain⟨H⟩:=HF3;replace H:=iteB H;rcases H with⟨rfl,H⟩|⟨rfl,H⟩
 ·(first|refine iteT ?_|refine iteF ?_|skip)
  replace H:=bindA H;obtain⟨t225,A10,H⟩:=H;obtain rfl:=sI H;obtain⟨_,_,_,_,_,_,_,_⟩:=cf4 BK224;(try((with_reducible refine upS ?_);go_simp))
  go_wp2_with (first|(go_at_call 49;(with_reducible refine(spec_AddrText.calls k t217 _ _ t218 t221 t222 t225 _ ?side1 ?side2 A10.out).mono ?_);(case side1=>exact(zz83 HO220));(case side2=>exact(Kd.R_reads' HO220.out).2.1);rintro e w12 ⟨rfl,hb⟩;replace HO220:=A_ (rB (zz6 HO220) hb);replace BK224:=A_ (bB (zz36 BK224) hb);replace HB:=A_ (bS (zz37 HB GE224) hb);(try clear hb)))
  go_ret;exact⟨zz0,(zz37 HB GE224)⟩
 ·(first|refine iteT ?_|refine iteF ?_|skip)
  obtain rfl:=sI H;(try((with_reducible refine upS ?_);go_simp));go_wp2;go_ret;exact⟨zz0,(zz37 HB GE224)⟩
end Go.Proofs.YtalfefmnlnkcaaaGreatDoor.P
end
section
namespace Go.Proofs.YtalfefmnlnkcaaaGreatDoor.P
open Go.RowKit Go.Proofs.YtalfefmnlnkcaaaGreatDoorW PrintWords PrintLast PrintMore
def impl_hear.f (k:Nat)(nm:BA)(hs:List Hz)(sn:List BA)(addr:BA):Option (List Hz×List BA):=
  if hs.length<1000000 then(impl_readAddress.f k addr).bind fun a=>if a.2.2.2.2=false∨60≤sn.length then some (hs,sn)else
    (slices_Contains_string_string.f k sn addr).bind fun c=>if c=true then some (hs,sn)else
      if(hzAt (tnHouse nm a.1 hs) (tnIdx a.1 hs)).f2=true∨1000000≤(hzAt (tnHouse nm a.1 hs) (tnIdx a.1 hs)).f5.length then none else some (tnAdd nm a.1 addr hs,sn++[addr])
  else none
set_option maxHeartbeats 8000000 in
set_option maxRecDepth 100000 in
theorem hear_walk (k T:Nat)(ok:Nat→Prop)(v2 v3 v4:Value)(nm addr:BA)(now:Int)(hs:List Hz)(sn:List BA)(lk:List Lz)(hs':List Hz)(sn':List BA)(w0 w:World)(hT:Tr w0 w w T 27 ok #[.string nm,.int .i64 now,v2,v3,v4] v2 v3 v4 hs sn lk)(hfr:∀k,w.heap.size≤k→ok k)(h:impl_hear.f k nm hs sn addr=some (hs',sn')):
    Calls Tryz.prog 23 #[.pointer (some ⟨T,0,none⟩),.string addr] w fun e w'=>e=.returned (.tuple #[])∧∃v2' v3',Tr w0 w w' T 27 ok #[.string nm,.int .i64 now,v2',v3',v4] v2' v3' v4 hs' sn' lk:=by
  obtain⟨A2,c2,rfl⟩:=Kd.S_slice hT.S2;obtain⟨A3,c3,rfl⟩:=Kd.R_slice hT.R3;have hu:=Tryz.underlying43;have hu2:=Tryz.underlying27;have hu3:=Tryz.underlying70;unfold impl_hear.f at h
  split at h
  case isFalse=>cases h
  rename_i hsm;obtain⟨⟨r1,r2,r3,r4,r5⟩,e1,h⟩:=oE_.mp h;simp only at h;have HE:=A_ e1;have HC:=A_ h;have HT:=A_ hT;clear h e1 hT
  go_enter Tryz.func23,Tryz.ntmps23
  go_upto_region 1 with(first|(go_at_call 52;refine(impl_readAddress.calls k addr r1 r2 r3 r4 r5 _ HE.out).mono ?_;rintro e w2 ⟨v1,rfl,hr,hb⟩;obtain⟨B1,b1,rfl⟩:=Kd.R_slice hr;have HB2:=A_ hb;clear hr hb)|((with_reducible refine gate_dst (N:=4) rfl ?_);refine box_event ?hg (N:=4) ?hd (cs:=#[.string (⟨#[]⟩:BA),.slice none 0 0,.bool false,.string (⟨#[]⟩:BA)]) (t:=70) ?hr ?_;(case hd=>rfl);(case hg=>rfl);(case hr=>first|(go_simp;done)|(go_simp;rfl));intro gx hg w3 hbox hb;have BKx:=A_ hbox;have SX:=A_ (below_step HB2.out hb);have GX:=A_ (show w.heap.size≤gx from by rw[hg];exact HB2.out.size);clear hb hg hbox;have hx0:=blk_cell BKx.out 0;have hf0:=blk_frozen BKx.out 0;have hx1:=blk_cell BKx.out 1;have hf1:=blk_frozen BKx.out 1;have hx2:=blk_cell BKx.out 2;have hf2:=blk_frozen BKx.out 2;have hx3:=blk_cell BKx.out 3;have hf3:=blk_frozen BKx.out 3))
  have hb:=set4_below SX.out GX.out (.string r1) (.slice B1 r2.length b1) (.bool r3) (.string r4);replace BKx:=A_ (put4 BKx.out (.string r1) (.slice B1 r2.length b1) (.bool r3) (.string r4));clear SX hx0 hx1 hx2 hx3 hf0 hf1 hf2 hf3 HB2 HE;generalize ((((w3.setCell ⟨gx,0,none⟩ (Value.string r1)).setCell ⟨gx,1,none⟩ (Value.slice B1 r2.length b1)).setCell ⟨gx,2,none⟩ (Value.bool r3)).setCell ⟨gx,3,none⟩ (Value.string r4))=w4 at *
  have HX:=A_ (HT.out.start hb);have HF:=A_ (okN_fresh hfr hb);have HB:=A_ hb;have hy3:w4.cell? ⟨T,3,none⟩=some (.slice A3 sn.length c3):=(blk_cell HX.out.box 3).trans rfl;have hc:=HC.out;clear hb HC hfr
  by_cases c1:r5=false∨60≤sn.length
  · rw[if_pos c1]at hc
    obtain⟨rfl,rfl⟩:=Prod.mk.inj (oJ_ hc);clear hc;have c2':r5=false∨(r5=true∧60≤sn.length):=by cases r5 <;> simp_all
    clear c1;rcases c2' with rfl|⟨rfl,c3'⟩
    · go_wp2
      (try simp only[Exit.inBlock,Exit.then])
      refine bodyPost_ret (results_none rfl _ _ _) rfl ?_;exact⟨rfl,_,_,HT.out.finish HB.out HX.out⟩
    · have d1:decide (60≤(sn.length:Int))=true:=decide_eq_true (by omega)
      have d2:decide (60≤sn.length)=true:=decide_eq_true c3';go_wp2
      (try simp only[Exit.inBlock,Exit.then])
      refine bodyPost_ret (results_none rfl _ _ _) rfl ?_;exact⟨rfl,_,_,HT.out.finish HB.out HX.out⟩
  rw[if_neg c1]at hc;obtain⟨c,ec,hc⟩:=oE_.mp hc;have HE:=A_ ec;clear ec;have c4:sn.length<60:=by apply Nat.lt_of_not_le;intro h;exact c1 (.inr h)
  obtain rfl:r5=true:=by cases r5 <;> simp_all
  clear c1;have d1:decide (60≤(sn.length:Int))=false:=decide_eq_false (by omega);have d2:decide (60≤sn.length)=false:=decide_eq_false (by omega);cases c with
  |true=>
    rw[if_pos rfl]at hc;obtain⟨rfl,rfl⟩:=Prod.mk.inj (oJ_ hc);clear hc
    go_wp2_with (first|(go_at_call 53;refine(slices_Contains_string_string.calls k A3 c3 sn addr true _ (Kd.R_reads' HX.out.R3).2.2 (Kd.R_reads' HX.out.R3).2.1 HE.out).mono ?_;rintro e w5 ⟨rfl,hd⟩;replace HX:=A_ (HX.out.below hd.below);clear hd))
    (try simp only[Exit.inBlock,Exit.then])
    refine bodyPost_ret (results_none rfl _ _ _) rfl ?_;exact⟨rfl,_,_,HT.out.finish HB.out HX.out⟩
  |false=>
    rw[if_neg (by decide)]at hc
    split at hc
    case isTrue=>cases hc
    rename_i c5';obtain⟨rfl,rfl⟩:=Prod.mk.inj (oJ_ hc);clear hc;have QF:(hzAt (tnHouse nm r1 hs) (tnIdx r1 hs)).f2=false:=by
      cases hv:(hzAt (tnHouse nm r1 hs) (tnIdx r1 hs)).f2 with
      |false=>rfl
      |true=>exact absurd (.inl hv) c5'
    have QL:(hzAt (tnHouse nm r1 hs) (tnIdx r1 hs)).f5.length<1000000:=by
      apply Nat.lt_of_not_le;intro h;exact c5' (.inr h)
    clear c5';have HQF:=A_ QF;have HQL:=A_ QL;clear QF QL
    go_upto_region 3 with(first
      | (go_at_call 53;refine(slices_Contains_string_string.calls k A3 c3 sn addr false _ (Kd.R_reads' HX.out.R3).2.2 (Kd.R_reads' HX.out.R3).2.1 HE.out).mono ?_;rintro e w5 ⟨rfl,hd⟩;replace HX:=A_ (HX.out.below hd.below);clear hd hy3;have hy3:w5.cell? ⟨T,3,none⟩=some (.slice A3 sn.length c3):=(blk_cell HX.out.box 3).trans rfl)
      | ((with_reducible refine gate_builtin (b:=.append) (xs:=#[.tmp 34,.tmp 36]) rfl ?_);at_builtin
         refine Kd.R_append Kd.string (w0:=w0) w0.heap.size rfl (.tmp 34) (.tmp 36) 22 9 (.string ⟨#[]⟩) 16 rfl Tryz.underlying22 infoSt rfl (by decide) (by omega) (.slice A3 sn.length c3) sn addr [.string addr] (okN w w4 ok) (fun _=>False) rfl rfl rfl (fun _ hk=>hk.elim) (fun k hk=>HF.out k (nT_ HX.out.K.1 hk)) HX.out.R3 HX.out.B HX.out.hle (by omega) ?_;intro v1 w6 ho hb hg hat;obtain⟨A5,c5,rfl⟩:=Kd.R_slice ho;have en:(sn++[addr]).length=sn.length+1:=by rw[lA_,List.length_singleton]
         replace HX:=A_ (HX.out.seen hg ho hb hat);rw[en]at ho;have hy3:w6.cell? ⟨T,3,none⟩=some (.slice A3 sn.length c3):=(blk_cell HX.out.box 3).trans rfl;have hg3:=blk_frozen HX.out.box 3;clear ho hb hg hat))
    replace HX:=A_ (HX.out.set 3 (.slice A5 (sn++[addr]).length c5) _ rfl);rw[en]at HX;clear hy3 hg3;generalize (w6.setCell ⟨T,3,none⟩ (.slice A5 (sn.length+1) c5))=w7 at HX ⊢;have hy0:w7.cell? ⟨gx,0,none⟩=some (.string r1):=(blk_cell (HX.out.keepB BKx.out GX.out (fun e=>by have:=HT.out.lt;have:=GX.out;omega)) 0).trans rfl
    go_upto_region 4 with(first|(go_at_call 54;refine(houseOf_walk T (okN w w4 ok) (.slice A2 hs.length c2) (.slice A5 (sn.length+1) c5) v4 nm r1 now hs (sn++[addr]) lk w0 _ HX.out.here (fun k hk=>HF.out k (nT_ HX.out.K.1 hk)) hsm).mono ?_;rintro e w8 ⟨g,cap,rfl,hx⟩;replace HX:=A_ (HX.out.then_ hx);clear hx hy0))
    have hj0:=tnIdx_lt nm r1 hs;have hl0:=tnHouse_len nm r1 hs;obtain⟨hs1,e1⟩:∃x,tnHouse nm r1 hs=x:=⟨_,rfl⟩;obtain⟨j,e2⟩:∃x,tnIdx r1 hs=x:=⟨_,rfl⟩;obtain⟨q,hq⟩:∃x,hzAt hs1 j=x:=⟨_,rfl⟩;rw[e1,e2]at HQF HQL;rw[e1]at HX hj0 hl0;rw[e2]at hj0;rw[hq]at HQF HQL;have EA:=A_ (show tnAdd nm r1 addr hs=hs1.set j (hzTodo q addr)from by unfold tnAdd;rw[e1,e2,hq]);rw[e2];clear e1 e2;obtain⟨u3,u4,u7,oki,g3,g4,g7,hcc,hfr,hoki,hH⟩:=HX.out.lend j hj0;rw[hq]at hcc;have hqf:=HQF.out;have hy2:w8.cell? ⟨g,j*8+2,none⟩=some (.bool false):=by rw[←hqf];exact hcc 2 _ rfl
    clear u3 u4 u7 oki g3 g4 g7 hcc hfr hoki hH hqf HQF;refine start_ (n:=15) (S:=fun w'=>w'.cell? ⟨g,j*8+2,none⟩=some (.bool false)∧True) (ds:=[]) #[false,false,false,false,false,false,false,false,false,false,false,false,false,false,false] (by kernel_rfl) rfl rfl ⟨hy2,trivial⟩ (fun hHeld=>?_);replace HX:=A_ HX.out.drew;clear hy2;generalize w8.drew=w9 at HX hHeld ⊢;refine rgP 0 (some 44) #[true,false,false,false,false,false,false,false,false,false,false,false,false,false,false] ?_;refine rgP 1 (some 45) #[true,true,false,false,false,false,false,false,false,false,false,false,false,false,false] ?_;refine rgP 2 (some 46) #[true,true,true,false,false,false,false,false,false,false,false,false,false,false,false] ?_;refine rgT 3 (some 47) #[true,true,true,true,false,false,false,false,false,false,false,false,false,false,false] hHeld ?_;refine rgP 4 (some 48) #[true,true,true,true,true,false,false,false,false,false,false,false,false,false,false] ?_;refine rgU 5 (some 49) #[true,true,true,true,true,true,false,false,false,false,false,false,false,false,false] ?_;refine rgU 6 (some 50) #[true,true,true,true,true,true,true,false,false,false,false,false,false,false,false] ?_;refine rgU 7 (some 51) #[true,true,true,true,true,true,true,true,false,false,false,false,false,false,false] ?_;refine rgU 8 (some 52) #[true,true,true,true,true,true,true,true,true,false,false,false,false,false,false] ?_;refine rgU 9 (some 53) #[true,true,true,true,true,true,true,true,true,true,false,false,false,false,false] ?_;refine rgU 10 (some 54) #[true,true,true,true,true,true,true,true,true,true,true,false,false,false,false] ?_;refine rgU 11 (some 55) #[true,true,true,true,true,true,true,true,true,true,true,true,false,false,false] ?_;refine rgU 12 (some 56) #[true,true,true,true,true,true,true,true,true,true,true,true,true,false,false] ?_;refine rgU 13 (some 57) #[true,true,true,true,true,true,true,true,true,true,true,true,true,true,false] ?_;refine rgP 14 (some 58) #[true,true,true,true,true,true,true,true,true,true,true,true,true,true,true] ?_;refine done_ (by kernel_rfl) ?_;clear hHeld;have hql:=HQL.out;clear HQL;obtain⟨u3,u4,u7,oki,g3,g4,g7,hcc,hfr,hoki,hH⟩:=HX.out.lend j (by omega);rw[hq]at g3 g4 g7 hcc hH;obtain⟨B7,b7,rfl⟩:=Kd.R_slice g7;have hy7:w9.cell? ⟨g,j*8+7,none⟩=some (.slice B7 q.f5.length b7):=hcc 7 _ rfl;have hz7:=hfr 7;have G3:=A_ g3;have G4:=A_ g4;have G7:=A_ g7;have HO:=A_ hoki;have HH:=A_ hH;clear g3 g4 g7 hcc hfr hoki hH;have F2:=A_ (HX.out.fresh2 (fun k hk=>HF.out k (nT_ HX.out.K.1 hk)))
    go_wp2_with (first
      | ((with_reducible refine gate_builtin (b:=.append) (xs:=#[.tmp 63,.tmp 66]) rfl ?_);at_builtin
         refine Kd.R_append k76 (w0:=w0) w0.heap.size rfl (.tmp 63) (.tmp 66) 41 76 (.agg #[.string ⟨#[]⟩,.int .i64 0]) 24 rfl Tryz.underlying41 infoIt rfl (by decide) (by omega) (.slice B7 q.f5.length b7) q.f5 ⟨addr,0⟩ [.string addr,.int .i64 0] (fun k=>oki k∨((okS (okN w w4 ok) (.slice A5 (sn.length+1) c5) v4) k∧w9.heap.size≤k)) (fun _=>False) rfl rfl (k76_mkM _ _ _ ⟨addr,0⟩) (fun _ hk=>hk.elim) (fun k hk=>.inr ⟨F2.out k hk,hk⟩) (Kd.R_mono G7.out (fun _ hk=>.inl hk)) HX.out.B HX.out.hle (by omega) ?_;intro v1 w10 ho hb hg hat;have H1:=A_ (Kd.H_grown (Kd.H_widen HH.out) hg (fun k e=>.inl (G7.out.1 k e)));have R3:=A_ (Kd.R_over' (v:=(.slice B7 q.f5.length b7)) G3.out (Kd.R_typed G7.out) (by decide) hg);have R4:=A_ (Kd.R_over' (v:=(.slice B7 q.f5.length b7)) G4.out (Kd.R_typed G7.out) (by decide) hg);have K1:=A_ (Kept.of_grown (S:=(okS (okN w w4 ok) (.slice A5 (sn.length+1) c5) v4)) hg (Kept.refl w9 _) (fun k hk=>.inl (HO.out k (G7.out.1 k hk)).1));obtain⟨B8,b8,rfl⟩:=Kd.R_slice ho;have en7:(q.f5++[(⟨addr,0⟩:S76)]).length=q.f5.length+1:=by rw[lA_,List.length_singleton]
         rw[en7]at ho;have R7:=A_ ho;have B1:=A_ hb;clear ho hb hg hat)
      | ((with_reducible refine gate_store (t:=41) (p:=69) rfl ?_)
         refine Kd.H_store kHz (w0:=w0) w0.heap.size rfl rfl 41 (.tmp 69) (.tmp 67) rfl 43 (j:Int) 7 hs1 (hzTodo q addr) (.slice B8 (q.f5.length+1) b8) [.slice B8 (q.f5.length+1) b8] (hzC q u3 u4 (.slice B7 q.f5.length b7)) (okS (okN w w4 ok) (.slice A5 (sn.length+1) c5) v4) (fun k=>oki k∨((okS (okN w w4 ok) (.slice A5 (sn.length+1) c5) v4) k∧w9.heap.size≤k)) (fun k=>oki k∨((okS (okN w w4 ok) (.slice A5 (sn.length+1) c5) v4) k∧w9.heap.size≤k)) rfl (by rw[tN_];rfl) rfl (Kd.R_val R7.out).1 infoSI1 (by intro y hy;rw[List.mem_singleton.1 hy];exact(Kd.R_val R7.out).2) H1.out (by omega) (by omega) (show 7+1≤8 by decide) (k43_mkM _ _ _ (hzTodo q addr) (Kd.R_mono R3.out (fun _ hk=>.inl hk)) (Kd.R_mono R4.out (fun _ hk=>.inl hk)) R7.out) (fun _ hk=>hk) B1.out ?_;intro w11 hS hB hg2;rw[tN_]at hS;replace HX:=A_ (HX.out.houses (Kept.of_grown hg2 K1.out (fun k hk=>.inl (by injection hk with hk;subst hk;exact(Kd.S_R hS).1 _ rfl))) hS hB);clear hS hB hg2))
    (try simp only[Exit.inBlock,Exit.then])
    refine bodyPost_end (results_none rfl _ _ _) rfl ?_;rw[EA.out];exact⟨rfl,_,_,HT.out.finish HB.out HX.out⟩
theorem Tr.out {w wk wd:World}{T ty:Nat}{ok:Nat→Prop}{cs:Array Value}{v2 v3 v4:Value}{hs:List Hz}{sn:List BA}{lk:List Lz}(h:Tr w wk wd T ty ok cs v2 v3 v4 hs sn lk):Kd.S kHz 43 wd w.heap.size (fun k=>some k≠v3.ownBlock) v2 hs∧Kd.string.R 9 wd w.heap.size (fun _=>True) v3 sn∧kLz.R 83 wd w.heap.size (fun _=>True) v4 lk∧Below w.heap.size w wd:=
 ⟨Kd.S_mono h.S2 (fun k hk=>hk.2),Kd.R_mono h.R3 (fun _ _=>trivial),Kd.R_mono h.R4 (fun _ _=>trivial),h.B⟩
def hearAll (k:Nat)(nm:BA):List BA→List Hz→List BA→Option (List Hz×List BA)
 | [],hs,sn=>some (hs,sn)
 |s::r,hs,sn=>(impl_hear.f k nm hs sn s).bind fun a=>hearAll k nm r a.1 a.2
def impl_TripNew.f (k:Nat)(a0:BA)(l1:List BA):Option (BA×Int×List Hz×List BA×List Lz×Bool):=
 (impl_isName.f k a0).bind fun b=>if b=false∨12<l1.length then some (⟨#[]⟩,0,[],[],[],false)else(hearAll k a0 l1 [] []).bind fun r=>some (a0,0,r.1,r.2,[],true)
set_option maxHeartbeats 8000000 in
set_option maxRecDepth 100000 in
theorem impl_TripNew.calls (k:Nat)(a0:BA)(A1:Option Addr)(c1:Nat)(l1:List BA)(r1:BA)(r2:Int)(r3:List Hz)(r4:List BA)(r5:List Lz)(r6:Bool)(w:World)(hr1:Kd.C Kd.string w A1 l1.length l1)(hc1:l1.length≤c1)(h:impl_TripNew.f k a0 l1=some (r1,r2,r3,r4,r5,r6)):
  Calls Tryz.prog 8 #[.string a0,.slice A1 l1.length c1] w fun e w'=>∃v2_ v3_ v4_:Value,e=.returned (.tuple #[.agg #[.string r1,.int .i64 r2,v2_,v3_,v4_],.bool r6])∧Kd.S kHz 43 w' w.heap.size (fun k_=>some k_≠(v3_:Value).ownBlock) v2_ r3∧Kd.R Kd.string 9 w' w.heap.size (fun _=>True) v3_ r4∧Kd.R kLz 83 w' w.heap.size (fun _=>True) v4_ r5∧Below w.heap.size w w':=by
 have hu2:=Tryz.underlying27;unfold impl_TripNew.f at h;obtain⟨b,hb0,h⟩:=oE_.mp h;have HN:=A_ hb0;have HR:=A_ hr1;have HB:=A_ (Below.refl w.heap.size w);clear hb0 hr1 hc1
 by_cases c0:b=false∨12<l1.length
 ·rw[if_pos c0]at h
  obtain⟨rfl,rfl,rfl,rfl,rfl,rfl⟩:(⟨#[]⟩:BA)=r1∧(0:Int)=r2∧[]=r3∧[]=r4∧[]=r5∧false=r6:=by simpa using h
  have c0':b=false∨(b=true∧12<l1.length):=by cases b <;> simp_all
  clear h c0
  go_enter Tryz.func8,Tryz.ntmps8
  have d1:12<l1.length→decide (12<(l1.length:Int))=true:=fun h=>decide_eq_true (by omega)
  have d2:12<l1.length→decide (12<l1.length)=true:=fun h=>decide_eq_true h
  rcases c0' with rfl|⟨rfl,c0⟩
  case' inl=>clear d1 d2
  case' inr=>replace d1:=d1 c0;replace d2:=d2 c0;clear c0
  all_goals
   go_wp2_with (first|((with_reducible refine gate_dst (N:=4) rfl ?_);refine box_event ?hg (N:=4) ?hd (cs:=#[.string (⟨#[]⟩:BA),.int .i64 0,.slice none 0 0,.slice none 0 0,.slice none 0 0]) (t:=27) ?hr ?_;(case hd=>rfl);(case hg=>rfl);(case hr=>first|(go_simp;done)|(go_simp;rfl));intro gr hg w2 hbox hb;have BKr:=A_ hbox;have GR:=A_ (show w.heap.size≤gr from by rw[hg];exact lL_ _);replace HB:=A_ (below_step HB.out hb);clear hb hg hbox)|(go_at_call 22;refine(impl_isName.calls k a0 _ _ HN.out).mono ?_;rintro e w3 ⟨rfl,hd⟩;have hb:=hd.below;clear hd;replace BKr:=A_ (blk_below BKr.out hb);replace HB:=A_ (below_step HB.out hb);clear hb;have hx0:=blk_cell BKr.out 0;have hf0:=blk_frozen BKr.out 0;have hx1:=blk_cell BKr.out 1;have hf1:=blk_frozen BKr.out 1;have hx2:=blk_cell BKr.out 2;have hf2:=blk_frozen BKr.out 2;have hx3:=blk_cell BKr.out 3;have hf3:=blk_frozen BKr.out 3;have hx4:=blk_cell BKr.out 4;have hf4:=blk_frozen BKr.out 4))
   have hb:=set5_below HB.out GR.out (.string bE_) (.int .i64 0) (.slice none 0 0) (.slice none 0 0) (.slice none 0 0);replace BKr:=A_ (put5 BKr.out (.string bE_) (.int .i64 0) (.slice none 0 0) (.slice none 0 0) (.slice none 0 0));refine bodyPost_ret (results_ct rfl _ _ gr 27 #[.string bE_,.int .i64 0,.slice none 0 0,.slice none 0 0,.slice none 0 0] (0,0) _ rfl BKr.out Tryz.underlying27 rfl (by kernel_rfl)) rfl ?_;exact⟨.slice none 0 0,.slice none 0 0,.slice none 0 0,rfl,Kd.S_nil _ _ _ _ _,Kd.R_nil _ _ _ _ _,Kd.R_nil _ _ _ _ _,hb⟩
 ·rw[if_neg c0]at h
  obtain⟨⟨hs',sn'⟩,hall,h⟩:=oE_.mp h;obtain⟨rfl,rfl,rfl,rfl,rfl,rfl⟩:a0=r1∧(0:Int)=r2∧hs'=r3∧sn'=r4∧[]=r5∧true=r6:=by simpa using h
  have c1':l1.length≤12:=by apply Nat.le_of_not_lt;intro h;exact c0 (.inr h)
  obtain rfl:b=true:=by cases b <;> simp_all
  have d1:decide (12<(l1.length:Int))=false:=decide_eq_false (by omega);have d2:decide (12<l1.length)=false:=decide_eq_false (by omega);have HA:=A_ hall;clear h c0 hall
  go_enter Tryz.func8,Tryz.ntmps8
  go_upto_region 4 with(first|((with_reducible refine gate_dst (N:=4) rfl ?_);refine box_event ?hg (N:=4) ?hd (cs:=#[.string (⟨#[]⟩:BA),.int .i64 0,.slice none 0 0,.slice none 0 0,.slice none 0 0]) (t:=27) ?hr ?_;(case hd=>rfl);(case hg=>rfl);(case hr=>first|(go_simp;done)|(go_simp;rfl));intro gr hg w2 hbox hb;have BKr:=A_ hbox;have GR:=A_ (show w.heap.size≤gr from by rw[hg];exact lL_ _);have GR9:=GR;replace HB:=A_ (below_step HB.out hb);clear hb hg hbox)|(go_at_call 22;refine(impl_isName.calls k a0 _ _ HN.out).mono ?_;rintro e w3 ⟨rfl,hd⟩;have hb:=hd.below;clear hd;replace BKr:=A_ (blk_below BKr.out hb);replace HB:=A_ (below_step HB.out hb);clear hb)|((with_reducible refine gate_dst (N:=6) rfl ?_);refine box_event ?hg (N:=6) ?hd (cs:=#[.string (⟨#[]⟩:BA),.int .i64 0,.slice none 0 0,.slice none 0 0,.slice none 0 0]) (t:=27) ?hr ?_;(case hd=>rfl);(case hg=>rfl);(case hr=>first|(go_simp;done)|(go_simp;rfl));intro gt hg w4 hbox hb;have BKt:=A_ hbox;have GT:=A_ (show w.heap.size≤gt from by rw[hg];exact HB.out.size);have NRT:=A_ (show gr≠gt from by rw[hg];exact Nat.ne_of_lt (blk_lt BKr.out));replace BKr:=A_ (blk_below BKr.out hb);replace HB:=A_ (below_step HB.out hb);clear hb hg hbox;have hx0:=blk_cell BKt.out 0;have hf0:=blk_frozen BKt.out 0;have hx1:=blk_cell BKt.out 1;have hf1:=blk_frozen BKt.out 1;have hx2:=blk_cell BKt.out 2;have hf2:=blk_frozen BKt.out 2;have hx3:=blk_cell BKt.out 3;have hf3:=blk_frozen BKt.out 3;have hx4:=blk_cell BKt.out 4;have hf4:=blk_frozen BKt.out 4))
  have hb:=set5_below HB.out GT.out (.string a0) (.int .i64 0) (.slice none 0 0) (.slice none 0 0) (.slice none 0 0);replace BKr:=A_ (set5_blk BKr.out NRT.out (.string a0) (.int .i64 0) (.slice none 0 0) (.slice none 0 0) (.slice none 0 0));replace BKt:=A_ (put5 BKt.out (.string a0) (.int .i64 0) (.slice none 0 0) (.slice none 0 0) (.slice none 0 0));replace HB:=A_ hb;clear hb hx0 hf0 hx1 hf1 hx2 hf2 hx3 hf3 hx4 hf4;generalize (((((w4.setCell ⟨gt,0,none⟩ (Value.string a0)).setCell ⟨gt,1,none⟩ (Value.int IntKind.i64 0)).setCell ⟨gt,2,none⟩ (Value.slice none 0 0)).setCell ⟨gt,3,none⟩ (Value.slice none 0 0)).setCell ⟨gt,4,none⟩ (Value.slice none 0 0))=w5 at *
  have HX:=A_ (show Tr w w5 w5 gt 27 (fun k=>w5.heap.size≤k) #[.string a0,.int .i64 0,.slice none 0 0,.slice none 0 0,.slice none 0 0] (.slice none 0 0) (.slice none 0 0) (.slice none 0 0) [] [] []from⟨Kd.S_nil _ _ _ _ _,Kd.R_nil _ _ _ _ _,Kd.R_nil _ _ _ _ _,HB.out,Kept.refl _ _,GT.out,fun k hk e=>by have:=blk_lt BKt.out;omega,BKt.out⟩);have NN:=A_ (show ¬((w5.heap.size≤gr)∨gr=gt)from fun h=>h.elim (fun h=>by have:=blk_lt BKr.out;omega) NRT.out);clear HB BKt GR GT NRT HN;go_wp2
  go_loopg [22] l1.length (fun g v22 wx=>∃(i:Nat)(hs:List Hz)(sn:List BA)(v2 v3:Value),v22=.int .i64 i∧i+g=l1.length∧Aside0 (hearAll k a0 (l1.drop i) hs sn=some (hs',sn'))∧Aside0 (Tr w w5 wx gt 27 (fun k=>w5.heap.size≤k) #[.string a0,.int .i64 0,v2,v3,.slice none 0 0] v2 v3 (.slice none 0 0) hs sn []))
  case atStart=>exact⟨0,[],[],_,_,rfl,by omega,by rw[List.drop_zero];exact HA,HX⟩
  case round=>
   clear HX HA;obtain⟨i,hs,sn,v2,v3,rfl,hig,HA,HX⟩:=hrel;cases gk with
   |zero=>
    have hlt:decide ((i:Int)<(l1.length:Int))=false:=decide_eq_false (by omega);have hlt2:decide (i<l1.length)=false:=decide_eq_false (by omega);have ha:=HA.out;rw[List.drop_of_length_le (by omega)]at ha;obtain⟨rfl,rfl⟩:=Prod.mk.inj (oJ_ ha);clear ha HA;have BKq:=A_ (blk_kept BKr.out HX.out.K NN.out);obtain⟨hy0,hy1,hy2,hy3,hy4⟩:=cells5 HX.out.box;have hq0:=blk_cell BKq.out 0;have hqf0:=blk_frozen BKq.out 0;have hq1:=blk_cell BKq.out 1;have hqf1:=blk_frozen BKq.out 1;have hq2:=blk_cell BKq.out 2;have hqf2:=blk_frozen BKq.out 2;have hq3:=blk_cell BKq.out 3;have hqf3:=blk_frozen BKq.out 3;have hq4:=blk_cell BKq.out 4;have hqf4:=blk_frozen BKq.out 4;obtain⟨A2,c2,rfl⟩:=Kd.S_slice HX.out.S2;obtain⟨A3,c3,rfl⟩:=Kd.R_slice HX.out.R3;go_wp2;have HO:=HX.out.out;have hq:=put5 BKq.out (.string a0) (.int .i64 0) (.slice A2 hs.length c2) (.slice A3 sn.length c3) (.slice none 0 0);have g0:w.heap.size≤gr:=GR9.out;have hs2:=Kd.S_far (p:=⟨gr,4,none⟩) (Kd.S_far (p:=⟨gr,3,none⟩) (Kd.S_far (p:=⟨gr,2,none⟩) (Kd.S_far (p:=⟨gr,1,none⟩) (Kd.S_far (p:=⟨gr,0,none⟩) (Kd.S_types HO.1 BKq.out (by decide)) (fun _ hk=>hk.2) (.string a0)) (fun _ hk=>hk.2) (.int .i64 0)) (fun _ hk=>hk.2) (.slice A2 hs.length c2)) (fun _ hk=>hk.2) (.slice A3 sn.length c3)) (fun _ hk=>hk.2) (.slice none 0 0);have hs3:=Kd.R_far (p:=⟨gr,4,none⟩) (Kd.R_far (p:=⟨gr,3,none⟩) (Kd.R_far (p:=⟨gr,2,none⟩) (Kd.R_far (p:=⟨gr,1,none⟩) (Kd.R_far (p:=⟨gr,0,none⟩) (Kd.R_types HO.2.1 BKq.out (by decide)) (fun _ hk=>hk.2) (.string a0)) (fun _ hk=>hk.2) (.int .i64 0)) (fun _ hk=>hk.2) (.slice A2 hs.length c2)) (fun _ hk=>hk.2) (.slice A3 sn.length c3)) (fun _ hk=>hk.2) (.slice none 0 0);refine bodyPost_ret (results_ct rfl _ _ gr 27 #[.string a0,.int .i64 0,.slice A2 hs.length c2,.slice A3 sn.length c3,.slice none 0 0] (0,0) _ rfl hq Tryz.underlying27 rfl (by kernel_rfl)) rfl ?_;exact⟨_,_,_,rfl,Kd.S_mono hs2 (fun _ hk=>hk.1),Kd.R_mono hs3 (fun _ _=>trivial),Kd.R_nil _ _ _ _ _,set5_below HX.out.B g0 _ _ _ _ _⟩
   |succ g1=>
    have hi:i<l1.length:=by omega
    have hlt:decide ((i:Int)<(l1.length:Int))=true:=decide_eq_true (by omega);have hlt2:decide (i<l1.length)=true:=decide_eq_true (by omega);have p0:(0≤(i:Int))=True:=eq_true (by omega);have q0:((i:Int)<(l1.length:Int))=True:=eq_true (by omega);have q1:(i<l1.length)=True:=eq_true (by omega);obtain⟨bk,o,ea,hb0,hcells⟩:=row_at HR.out (by omega);subst ea;have hx:=hcells i _ (gE_ hi);replace hx:=(HX.out.B.cell hb0).trans hx;have ha:=HA.out;rw[dE_ hi]at ha;generalize l1[i]=s at hx ha;obtain⟨⟨hs1,sn1⟩,e1,ha⟩:=oE_.mp ha;have HE:=A_ e1;replace HA:=A_ ha;clear hcells hb0 e1 ha
    go_wp2_with (first|(go_at_call 23;refine(hear_walk k gt (fun k=>w5.heap.size≤k) v2 v3 (.slice none 0 0) a0 s 0 hs sn [] hs1 sn1 w _ HX.out.here (fun k hk=>nT_ HX.out.K.1 hk) HE.out).mono ?_;rintro e w9 ⟨rfl,v2',v3',hx9⟩;replace HX:=A_ (HX.out.then_ hx9);clear hx9))
    go_roundg g1
    case measure=>omega
    case rel=>exact⟨i+1,hs1,sn1,v2',v3',by simp,by omega,HA,HX⟩
def hasL (l:List BA)(x:BA):Bool:=l.any fun s=>decide (s=x)
theorem hasL_iff {l:List BA}{x:BA}:hasL l x=true↔x∈l:=by unfold hasL;simp
def spIdx (n:BA)(l:List Hz):Int:=if tnIdx n l<l.length then(tnIdx n l:Int)else -1
def spec_l12Hear.f (k:Nat)(nm:BA)(now:Int)(hs:List Hz)(sn:List BA)(lk:List Lz)(addr:BA):Option (List Hz×List BA):=
  if hs.length<1000000∧sn.length<1000000 then(if hasL sn addr=true then some (hs,sn)else(spec_AddrRead.f k addr).bind fun a=>if a.2.2.2.2=false∨60≤sn.length then some (hs,sn)else
    (spec_l12House.f k nm now hs (sn++[addr]) lk a.1).bind fun i=>
      if i≠spIdx a.1 hs∨1000000≤(hzAt (tnHouse nm a.1 hs) (tnIdx a.1 hs)).f5.length then none else some (tnAdd nm a.1 addr hs,sn++[addr]))
  else none
set_option maxHeartbeats 8000000 in
set_option maxRecDepth 100000 in
theorem l12Hear_walk (k:Nat)(ok:Nat→Prop)(v2 v3 v4:Value)(nm addr:BA)(now:Int)(hs:List Hz)(sn:List BA)(lk:List Lz)(hs':List Hz)(sn':List BA)(w0 w:World)(hR:Rw w0 w w ok v2 v3 v4 hs sn lk)(hfr:∀k,w.heap.size≤k→ok k)(h:spec_l12Hear.f k nm now hs sn lk addr=some (hs',sn')):
    Calls Tryz.prog 21 #[.agg #[.string nm,.int .i64 now,v2,v3,v4],.string addr] w fun e w'=>∃v2' v3',e=.returned (.agg #[.string nm,.int .i64 now,v2',v3',v4])∧Rw w0 w w' ok v2' v3' v4 hs' sn' lk:=by
  obtain⟨A2,c2,rfl⟩:=Kd.S_slice hR.S2;obtain⟨A3,c3,rfl⟩:=Kd.R_slice hR.R3;obtain⟨A4,c4,rfl⟩:=Kd.R_slice hR.R4;have hu:=Tryz.underlying43;have hu2:=Tryz.underlying27;have hu3:=Tryz.underlying70;unfold spec_l12Hear.f at h
  split at h
  case isFalse=>cases h
  rename_i hsm;obtain⟨hsm,hsn⟩:=hsm;have HC:=A_ h;have HR:=A_ hR;clear h hR
  go_enter Tryz.func21,Tryz.ntmps21
  go_upto_region 1 with(first|((with_reducible refine gate_dst (N:=2) rfl ?_);refine box_event ?hg (N:=2) ?hd (cs:=#[.string nm,.int .i64 now,.slice A2 hs.length c2,.slice A3 sn.length c3,.slice A4 lk.length c4]) (t:=27) ?hr ?_;(case hd=>rfl);(case hg=>rfl);(case hr=>first|(go_simp;done)|(go_simp;rfl));intro gt hg w2 hbox hb;have BKt:=A_ hbox;have GT:=A_ (show w.heap.size≤gt from by rw[hg];exact lL_ _);have HB:=A_ hb;clear hb hg hbox)|((with_reducible refine gate_dst (N:=4) rfl ?_);refine box_event ?hg (N:=4) ?hd (cs:=#[.string (⟨#[]⟩:BA),.int .i64 0,.slice none 0 0,.slice none 0 0,.slice none 0 0]) (t:=27) ?hr ?_;(case hd=>rfl);(case hg=>rfl);(case hr=>first|(go_simp;done)|(go_simp;rfl));intro gr hg w3 hbox hb;have BKr:=A_ hbox;have GR:=A_ (show w.heap.size≤gr from by rw[hg];exact HB.out.size);have NRT:=A_ (show gr≠gt from by rw[hg];exact Nat.ne_of_gt (blk_lt BKt.out));replace BKt:=A_ (blk_below BKt.out hb);replace HB:=A_ (below_step HB.out hb);clear hb hg hbox))
  have HX:=A_ (HR.out.start HB.out GT.out BKt.out);have HF:=A_ (okN_fresh hfr HB.out);have hy3:w3.cell? ⟨gt,3,none⟩=some (.slice A3 sn.length c3):=(blk_cell HX.out.box 3).trans rfl;clear hfr BKt;go_wp2
  go_loopg [5] sn.length (fun g v5 wx=>∃i:Nat,v5=.int .i64 i∧i+g=sn.length∧wx=w3∧Aside0 (addr∈sn.drop i↔addr∈sn))
  case atStart=>exact⟨0,rfl,by omega,rfl,⟨by simp⟩⟩
  case round=>
    obtain⟨i,rfl,hig,hw,HI⟩:=hrel;subst hw;cases gk with
    |succ g1=>
      have hi:i<sn.length:=by omega
      have hlt:decide ((i:Int)<(sn.length:Int))=true:=decide_eq_true (by omega);have hlt2:decide (i<sn.length)=true:=decide_eq_true (by omega);have p0:(0≤(i:Int))=True:=eq_true (by omega);have q0:((i:Int)<(sn.length:Int))=True:=eq_true (by omega);have q1:(i<sn.length)=True:=eq_true (by omega);obtain⟨bk,o,ea,hb0,hcells⟩:=row_at (Kd.R_reads' HX.out.R3).2.2 (by omega);subst ea;have hx:=hcells i _ (gE_ hi);have hid:=HI.out;rw[dE_ hi]at hid;generalize sn[i]=s at hx hid;clear HI hcells hb0
      by_cases c1:s=addr
      · have hin:addr∈sn:=hid.1 (by rw[c1];exact List.mem_cons_self ..)
        have c1b:(s.toList==addr.toList)=true:=by rw[c1];simp
        have hc:=HC.out;rw[if_pos (hasL_iff.2 hin)]at hc;obtain⟨rfl,rfl⟩:=Prod.mk.inj (oJ_ hc);clear hc HC c1 hid hin;obtain⟨hy0,hy1,hy2,hy3,hy4⟩:=cells5 HX.out.box;have hr0:=blk_cell BKr.out 0;have hrf0:=blk_frozen BKr.out 0;have hr1:=blk_cell BKr.out 1;have hrf1:=blk_frozen BKr.out 1;have hr2:=blk_cell BKr.out 2;have hrf2:=blk_frozen BKr.out 2;have hr3:=blk_cell BKr.out 3;have hrf3:=blk_frozen BKr.out 3;have hr4:=blk_cell BKr.out 4;have hrf4:=blk_frozen BKr.out 4;have hn1:=NRT.out;have hn2:=NRT.out.symm;go_wp2;have hR2:=(HR.out.finish HB.out GT.out HX.out).put5 BKr.out GR.out (.string nm) (.int .i64 now) (.slice A2 hs.length c2) (.slice (some ⟨bk,o,none⟩) sn.length c3) (.slice A4 lk.length c4);have hq:=put5 BKr.out (.string nm) (.int .i64 now) (.slice A2 hs.length c2) (.slice (some ⟨bk,o,none⟩) sn.length c3) (.slice A4 lk.length c4);refine bodyPost_ret (results_cell_row rfl _ _ gr 27 #[.string nm,.int .i64 now,.slice A2 hs.length c2,.slice (some ⟨bk,o,none⟩) sn.length c3,.slice A4 lk.length c4] (0,0) _ rfl hq Tryz.underlying27 rfl (by kernel_rfl)) rfl ?_;exact⟨_,_,rfl,hR2⟩
      · have c1b:(s.toList==addr.toList)=false:=bN_.mpr (fun e=>c1 (Go.Proofs.YtalfefmnlnkcaaaGreatDoor.B.toList_inj.1 e))
        have HI:=A_ (show addr∈sn.drop (i+1)↔addr∈sn from by rw[←hid,List.mem_cons];exact⟨.inr,fun h=>h.elim (fun e=>absurd e.symm c1) id⟩);clear c1 hid;go_wp2
        go_roundg g1
        case measure=>omega
        case rel=>exact⟨i+1,by simp,by omega,rfl,HI⟩
    |zero=>
      have hlt:decide ((i:Int)<(sn.length:Int))=false:=decide_eq_false (by omega);have hlt2:decide (i<sn.length)=false:=decide_eq_false (by omega);have hnin:¬addr∈sn:=fun e=>by
        have:=HI.out.2 e;rw[List.drop_of_length_le (by omega)]at this;cases this
      have hc:=HC.out;rw[if_neg (fun e=>hnin (hasL_iff.1 e))]at hc;clear hnin HI HC;obtain⟨⟨r1,r2,r3,r4,r5⟩,e1,h⟩:=oE_.mp hc;simp only at h;have HE:=A_ e1;have HC:=A_ h;clear e1 h hc
      go_upto_region 7 with(first|(go_at_call 48;refine(spec_AddrRead.calls k addr r1 r2 r3 r4 r5 _ HE.out).mono ?_;rintro e w12 ⟨v1,rfl,hr,hb⟩;obtain⟨B1,b1,rfl⟩:=Kd.R_slice hr;have HB2:=A_ hb;clear hr hb)|((with_reducible refine gate_dst (N:=6) rfl ?_);refine box_event ?hg (N:=6) ?hd (cs:=#[.string (⟨#[]⟩:BA),.slice none 0 0,.bool false,.string (⟨#[]⟩:BA)]) (t:=70) ?hr ?_;(case hd=>rfl);(case hg=>rfl);(case hr=>first|(go_simp;done)|(go_simp;rfl));intro gx hg w13 hbox hb;have BKx:=A_ hbox;have SX:=A_ (below_step HB2.out hb);have GX:=A_ (show wr.heap.size≤gx from by rw[hg];exact HB2.out.size);clear hb hg hbox;have hx0:=blk_cell BKx.out 0;have hf0:=blk_frozen BKx.out 0;have hx1:=blk_cell BKx.out 1;have hf1:=blk_frozen BKx.out 1;have hx2:=blk_cell BKx.out 2;have hf2:=blk_frozen BKx.out 2;have hx3:=blk_cell BKx.out 3;have hf3:=blk_frozen BKx.out 3))
      have hb:=set4_below SX.out GX.out (.string r1) (.slice B1 r2.length b1) (.bool r3) (.string r4);replace BKx:=A_ (put4 BKx.out (.string r1) (.slice B1 r2.length b1) (.bool r3) (.string r4));clear SX hx0 hx1 hx2 hx3 hf0 hf1 hf2 hf3 HB2 HE hy3;generalize ((((w13.setCell ⟨gx,0,none⟩ (Value.string r1)).setCell ⟨gx,1,none⟩ (Value.slice B1 r2.length b1)).setCell ⟨gx,2,none⟩ (Value.bool r3)).setCell ⟨gx,3,none⟩ (Value.string r4))=w4 at *
      have hnx:gx≠gt:=fun e=>by have:=HX.out.lt;have:=GX.out;omega
      have hnr:gx≠gr:=fun e=>by have:=blk_lt BKr.out;have:=GX.out;omega
      have GXw:=A_ (show w.heap.size≤gx from nT_ HB.out.size GX.out);replace HX:=A_ (HR.out.start (HB.out.trans (hb.mono HB.out.size)) GT.out ((hb.block gt HX.out.lt).trans HX.out.box));replace HB:=A_ (HB.out.trans (hb.mono HB.out.size));replace BKr:=A_ (blk_below BKr.out hb);replace HF:=A_ (show ∀k,w4.heap.size≤k→okN w w4 ok k from fun k hk=>⟨(HF.out k (nT_ hb.size hk)).1,fun e=>by omega⟩);have NX:=A_ hnx;clear hb GX hnx hnr;have hy3:w4.cell? ⟨gt,3,none⟩=some (.slice A3 sn.length c3):=(blk_cell HX.out.box 3).trans rfl;have hc:=HC.out;clear HC
      by_cases c1:r5=false∨60≤sn.length
      · rw[if_pos c1]at hc
        obtain⟨rfl,rfl⟩:=Prod.mk.inj (oJ_ hc);clear hc;have c2':r5=false∨(r5=true∧60≤sn.length):=by cases r5 <;> simp_all
        clear c1;have d1:60≤sn.length→decide (60≤(sn.length:Int))=true:=fun h=>decide_eq_true (by omega)
        have d2:60≤sn.length→decide (60≤sn.length)=true:=fun h=>decide_eq_true h
        rcases c2' with rfl|⟨rfl,c3'⟩
        case' inl=>clear d1 d2
        case' inr=>replace d1:=d1 c3';replace d2:=d2 c3';clear c3'
        all_goals
          clear hy3;obtain⟨hy0,hy1,hy2,hy3,hy4⟩:=cells5 HX.out.box;have hr0:=blk_cell BKr.out 0;have hrf0:=blk_frozen BKr.out 0;have hr1:=blk_cell BKr.out 1;have hrf1:=blk_frozen BKr.out 1;have hr2:=blk_cell BKr.out 2;have hrf2:=blk_frozen BKr.out 2;have hr3:=blk_cell BKr.out 3;have hrf3:=blk_frozen BKr.out 3;have hr4:=blk_cell BKr.out 4;have hrf4:=blk_frozen BKr.out 4;have hn1:=NRT.out;have hn2:=NRT.out.symm;go_wp2;have hR2:=(HR.out.finish HB.out GT.out HX.out).put5 BKr.out GR.out (.string nm) (.int .i64 now) (.slice A2 hs.length c2) (.slice A3 sn.length c3) (.slice A4 lk.length c4);have hq:=put5 BKr.out (.string nm) (.int .i64 now) (.slice A2 hs.length c2) (.slice A3 sn.length c3) (.slice A4 lk.length c4);refine bodyPost_ret (results_cell_row rfl _ _ gr 27 #[.string nm,.int .i64 now,.slice A2 hs.length c2,.slice A3 sn.length c3,.slice A4 lk.length c4] (0,0) _ rfl hq Tryz.underlying27 rfl (by kernel_rfl)) rfl ?_;exact⟨_,_,rfl,hR2⟩
      rw[if_neg c1]at hc;obtain⟨ci,ec,hc⟩:=oE_.mp hc;have HE:=A_ ec;clear ec
      split at hc
      case isTrue=>cases hc
      rename_i c5';obtain⟨rfl,rfl⟩:=Prod.mk.inj (oJ_ hc);have cq4:sn.length<60:=by apply Nat.lt_of_not_le;intro h;exact c1 (.inr h)
      obtain rfl:r5=true:=by cases r5 <;> simp_all
      have eci:ci=spIdx r1 hs:=by
        rcases Decidable.em (ci=spIdx r1 hs)with h|h
        · exact h
        · exact absurd (.inl h) c5'
      have QL:(hzAt (tnHouse nm r1 hs) (tnIdx r1 hs)).f5.length<1000000:=by
        apply Nat.lt_of_not_le;intro h;exact c5' (.inr h)
      have HQL:=A_ QL;clear c1 c5' QL hc;have d1:decide (60≤(sn.length:Int))=false:=decide_eq_false (by omega);have d2:decide (60≤sn.length)=false:=decide_eq_false (by omega)
      go_upto_region 10 with(first
        | ((with_reducible refine gate_builtin (b:=.append) (xs:=#[.tmp 39,.tmp 41]) rfl ?_);at_builtin
           refine Kd.R_append Kd.string (w0:=w0) w0.heap.size rfl (.tmp 39) (.tmp 41) 22 9 (.string ⟨#[]⟩) 16 rfl Tryz.underlying22 infoSt rfl (by decide) (by omega) (.slice A3 sn.length c3) sn addr [.string addr] (okN w w4 ok) (fun _=>False) rfl rfl rfl (fun _ hk=>hk.elim) (fun k hk=>HF.out k (nT_ HX.out.K.1 hk)) HX.out.R3 HX.out.B HX.out.hle (by omega) ?_;intro v1 w6 ho hb hg hat;obtain⟨A5,c5,rfl⟩:=Kd.R_slice ho;have en:(sn++[addr]).length=sn.length+1:=by rw[lA_,List.length_singleton]
           replace HX:=A_ (HX.out.seen hg ho hb hat);rw[en]at ho;have hy3:w6.cell? ⟨gt,3,none⟩=some (.slice A3 sn.length c3):=(blk_cell HX.out.box 3).trans rfl;have hg3:=blk_frozen HX.out.box 3;clear ho hb hg hat))
      replace HX:=A_ (HX.out.set 3 (.slice A5 (sn++[addr]).length c5) _ rfl);rw[en]at HX;clear hy3 hg3;generalize (w6.setCell ⟨gt,3,none⟩ (.slice A5 (sn.length+1) c5))=w7 at HX ⊢;have hx0:w7.cell? ⟨gx,0,none⟩=some (.string r1):=(blk_cell (HX.out.keepB BKx.out GXw.out NX.out) 0).trans rfl;obtain⟨hy0,hy1,hy2,hy3,hy4⟩:=cells5 HX.out.box
      go_upto_region 11 with(first|(go_at_call 50;have en2:=en;refine(calls_of_args (by rw[en2]) (spec_l12House.calls k nm now A2 c2 hs A5 c5 (sn++[addr]) A4 c4 lk r1 ci _ (Kd.S_reads' HX.out.S2).2.2 (Kd.S_reads' HX.out.S2).2.1 (Kd.R_reads' HX.out.R3).2.2 (by rw[en2];exact(Kd.R_reads' HX.out.R3).2.1) (Kd.R_reads' HX.out.R4).2.2 (Kd.R_reads' HX.out.R4).2.1 HE.out)).mono ?_;rintro e w8 ⟨rfl,hb⟩;replace HX:=A_ (HX.out.below hb);clear hb hx0 hy0 hy1 hy2 hy3 hy4 en2))
      subst eci;have hx0:w8.cell? ⟨gx,0,none⟩=some (.string r1):=(blk_cell (HX.out.keepB BKx.out GXw.out NX.out) 0).trans rfl;obtain⟨hy0,hy1,hy2,hy3,hy4⟩:=cells5 HX.out.box;clear HE
      go_upto_if 49 with(fail)
      go_cut [8] (fun v8 wc=>v8=.int .i64 (tnIdx r1 hs)∧∃g cap,Aside0 (Tr w0 w4 wc gt 27 (okN w w4 ok) #[.string nm,.int .i64 now,.slice (some ⟨g,0,none⟩) (tnHouse nm r1 hs).length cap,.slice A5 (sn.length+1) c5,.slice A4 lk.length c4] (.slice (some ⟨g,0,none⟩) (tnHouse nm r1 hs).length cap) (.slice A5 (sn.length+1) c5) (.slice A4 lk.length c4) (tnHouse nm r1 hs) (sn++[addr]) lk))
      case first=>
        by_cases c6:tnIdx r1 hs<hs.length
        · have es:spIdx r1 hs=(tnIdx r1 hs:Int):=if_pos c6
          have d3:decide ((tnIdx r1 hs:Int)<0)=false:=decide_eq_false (by omega);have ht:tnHouse nm r1 hs=hs:=if_pos c6;rw[es];clear hx0 hy0 hy1 hy2 hy3 hy4;obtain⟨g,cap,eu,_,_,_⟩:=Kd.S_form HX.out.S2 (by omega);injection eu with eu1 eu2 eu3;subst eu1;subst eu3;clear eu2;have HT:=A_ ht;clear es ht c6;go_wp2
          go_meet
          case rel=>rw[HT.out];exact⟨rfl,g,_,HX⟩
        · have es:spIdx r1 hs=-1:=if_neg c6
          have e2:tnIdx r1 hs=hs.length:=by have:=tnIdx_le r1 hs;omega
          have ht:tnHouse nm r1 hs=hs++[tnNew nm r1]:=if_neg c6;have d3:decide ((-1:Int)<0)=true:=rfl;rw[es];obtain⟨m,hm⟩:∃m,hs.length+1=m:=⟨_,rfl⟩;have ej:wrap64 ((m:Int)-1)=(hs.length:Int):=by unfold wrap64;omega
          have en3:(hs++[tnNew nm r1]).length=m:=by rw[lA_,List.length_singleton];exact hm
          have HT:=A_ ht;have HI2:=A_ e2;have HN3:=A_ en3;clear es ht c6 e2 en3
          go_upto_region 13 with(first
            | ((with_reducible refine gate_dst (N:=56) rfl ?_);refine Kd.R_lit Kd.string w0.heap.size 9 ?hg (N:=56) ?hd (xs:=[nm]) (inner:=[.string nm]) (ok:=fun _=>True) (okp:=fun _=>False) ?hr ?hp (fun _ hk=>hk.elim) trivial HX.out.B HX.out.hle (by simp) ?_;(case hd=>rfl);(case hg=>rfl);(case hr=>first|(go_simp;done)|(go_simp;rfl));(case hp=>exact Reps.one rfl (Reps.none _ _));intro v32 w32 ho32 hb32 hg32 hn32;obtain⟨A32,c32,rfl⟩:=Kd.R_slice ho32;have HO32:=A_ ho32;have HB32:=A_ hb32;have HG32:=A_ hg32;have HN32:=A_ hn32;clear ho32 hb32 hg32 hn32)
            | ((with_reducible refine gate_dst (N:=57) rfl ?_);refine Kd.R_lit k98 w0.heap.size 98 ?hg (N:=57) ?hd (xs:=[]) (inner:=[]) (ok:=fun _=>True) (okp:=fun _=>False) ?hr ?hp (fun _ hk=>hk.elim) trivial HB32.out (nT_ HX.out.hle HG32.out.size) (by simp) ?_;(case hd=>rfl);(case hg=>rfl);(case hr=>first|(go_simp;done)|(go_simp;rfl));(case hp=>exact Reps.none _ _);intro v33 w33 ho33 hb33 hg33 hn33;obtain⟨A33,c33,rfl⟩:=Kd.R_slice ho33;have HO33:=A_ ho33;have HB33:=A_ hb33;have HG33:=A_ hg33;have HN33:=A_ hn33;clear ho33 hb33 hg33 hn33)
            | ((with_reducible refine gate_builtin (b:=.append) (xs:=#[.tmp 51,.tmp 60]) rfl ?_);at_builtin
               obtain⟨b32,e32,l32⟩:=HN32.out;obtain⟨b33,e33,l33⟩:=HN33.out;have hbl:Below w8.heap.size w8 w33:=⟨HB33.out.os.trans HX.out.B.os.symm,HB33.out.tape.trans HX.out.B.tape.symm,HB33.out.output.trans HX.out.B.output.symm,nT_ HG32.out.size HG33.out.size,fun k hk=>(HG33.out.block k (Nat.lt_of_lt_of_le hk HG32.out.size) (by simp)).trans (HG32.out.block k hk (by simp))⟩;obtain⟨okp,hM,hokp,hnew,hS⟩:=fresh_house (x:=tnNew nm r1) (w3:=w33) HX.out.S2 (HX.out.fresh2 (fun k hk=>HF.out k (nT_ HX.out.K.1 hk))) (fun k hk=>hbl.block k hk) hbl.size (Kd.R_grown HO32.out HG33.out (fun _ _=>by simp)) HO33.out (Kd.R_nil k76 _ _ _ _) (fun k hk=>by rw[e32]at hk;injection hk with hk;omega) (fun k hk=>by rw[e33]at hk;injection hk with hk;have:=HG32.out.size;omega) (fun k hk=>by simp[Value.ownBlock]at hk);refine Kd.S_append kHz (w0:=w0) (W:=w33) w0.heap.size rfl (.tmp 51) (.tmp 60) 24 43 (.agg #[.string ⟨#[]⟩,.int .i64 0,.bool false,.slice none 0 0,.slice none 0 0,.int .i64 0,.int .i64 0,.slice none 0 0]) 120 rfl Tryz.underlying24 infoHz rfl (by decide) (by omega) (.slice A2 hs.length c2) hs (tnNew nm r1) [.string r1,.int .i64 0,.bool false,.slice A32 [nm].length c32,.slice A33 [].length c33,.int .i64 0,.int .i64 0,.slice none 0 0] (okS (okN w w4 ok) (.slice A5 (sn.length+1) c5) (.slice A4 lk.length c4)) okp rfl rfl hM hokp hnew hS (HX.out.below hbl).B (HX.out.below hbl).hle (by omega) ?_;intro v1 w1 hS1 hB1 hG1 hat;obtain⟨g,cap,rfl,_,_,_⟩:=Kd.S_form hS1 (by simp);rw[HN3.out]at hS1 ⊢;have HQ:=A_ (HX.out.more hbl hG1 hS1 hB1);clear hM hokp hnew hS hS1 hB1 hG1 hat hbl e32 e33 l32 l33 hx0 hy0 hy1 hy2 hy3 hy4;have hz2:w1.cell? ⟨gt,2,none⟩=some (.slice A2 hs.length c2):=(blk_cell HQ.out.box 2).trans rfl;have hz1:=blk_frozen HQ.out.box 2))
          replace HQ:=A_ (HQ.out.set 2 (.slice (some ⟨g,0,none⟩) m cap) _ rfl);clear hz2 hz1 HX;generalize (w1.setCell ⟨gt,2,none⟩ (.slice (some ⟨g,0,none⟩) m cap))=w9 at HQ ⊢;have hz2:w9.cell? ⟨gt,2,none⟩=some (.slice (some ⟨g,0,none⟩) m cap):=(blk_cell HQ.out.box 2).trans rfl;go_wp2
          go_meet
          case rel=>
            rw[HT.out,HI2.out,HN3.out];exact⟨by first|rw[ej]|rw[show(m:Int)-1=(hs.length:Int)from by omega],g,cap,HQ⟩
      case rest=>
        obtain⟨rfl,g,cap,HX1⟩:=hcut;clear hx0 hy0 hy1 hy2 hy3 hy4 HX;have HX:=HX1;clear HX1;have hj0:=tnIdx_lt nm r1 hs;have hl0:=tnHouse_len nm r1 hs;obtain⟨hs1,e1⟩:∃x,tnHouse nm r1 hs=x:=⟨_,rfl⟩;obtain⟨j,e2⟩:∃x,tnIdx r1 hs=x:=⟨_,rfl⟩;obtain⟨q,hq⟩:∃x,hzAt hs1 j=x:=⟨_,rfl⟩;rw[e1,e2]at HQL;rw[e1]at HX hj0 hl0;rw[e2]at hj0;rw[hq]at HQL;have EA:=A_ (show tnAdd nm r1 addr hs=hs1.set j (hzTodo q addr)from by unfold tnAdd;rw[e1,e2,hq]);rw[e2];have hlen:hs1.length<2000000:=by omega
        obtain⟨n,hn⟩:∃n,hs1.length=n:=⟨_,rfl⟩;rw[hn]at HX hj0 hlen;clear e1 e2 hl0 hn;have p0:(0≤(j:Int))=True:=eq_true (by omega);have q0:((j:Int)<(n:Int))=True:=eq_true (by omega);have q1:(j<n)=True:=eq_true (by omega);have hql:=HQL.out;clear HQL;obtain⟨u3,u4,u7,oki,g3,g4,g7,hcc,hfr,hoki,hH⟩:=HX.out.lend j (by omega);rw[hq]at g3 g4 g7 hcc hH;obtain⟨B7,b7,rfl⟩:=Kd.R_slice g7;have hy7:wc.cell? ⟨g,j*8+7,none⟩=some (.slice B7 q.f5.length b7):=hcc 7 _ rfl;have hz7:=hfr 7;have G3:=A_ g3;have G4:=A_ g4;have G7:=A_ g7;have HO:=A_ hoki;have HH:=A_ hH;clear g3 g4 g7 hcc hfr hoki hH;have hy2:wc.cell? ⟨gt,2,none⟩=some (.slice (some ⟨g,0,none⟩) n cap):=(blk_cell HX.out.box 2).trans rfl;rename_i hK_;refine hK_ _ _ ?_;clear hK_
        go_step
        go_upto_region 14 with(fail)
        refine start_ (n:=16) (S:=fun w'=>w'.cell? ⟨gt,2,none⟩=some (.slice (some ⟨g,0,none⟩) n cap)∧w'.cell? ⟨g,j*8+7,none⟩=some (.slice B7 q.f5.length b7)) (ds:=[15]) #[false,false,false,false,false,false,false,false,false,false,false,false,false,false,false,false] (by kernel_rfl) rfl rfl ⟨hy2,hy7⟩ (fun hHeld=>?_);replace HX:=A_ HX.out.drew;replace G3:=A_ (Kd.R_drew G3.out);replace G4:=A_ (Kd.R_drew G4.out);replace G7:=A_ (Kd.R_drew G7.out);replace HH:=A_ (Kd.H_drew HH.out);replace hy7:=hHeld.2;clear hy2 hz7;generalize wc.drew=w8 at HX G3 G4 G7 HH hHeld hy7 ⊢;have F2:=A_ (HX.out.fresh2 (fun k hk=>HF.out k (nT_ HX.out.K.1 hk)));refine rgP 0 (some 67) #[true,false,false,false,false,false,false,false,false,false,false,false,false,false,false,false] ?_;refine rgP 2 (some 69) #[true,false,true,false,false,false,false,false,false,false,false,false,false,false,false,false] ?_;refine rgP 3 (some 70) #[true,false,true,true,false,false,false,false,false,false,false,false,false,false,false,false] ?_;refine rgP 5 (some 72) #[true,false,true,true,false,true,false,false,false,false,false,false,false,false,false,false] ?_;refine rgT 1 (some 68) #[true,true,true,true,false,true,false,false,false,false,false,false,false,false,false,false] hHeld ?_;refine rgT 4 (some 71) #[true,true,true,true,true,true,false,false,false,false,false,false,false,false,false,false] hHeld ?_;refine rgP 6 (some 73) #[true,true,true,true,true,true,true,false,false,false,false,false,false,false,false,false] ?_;refine rgP 7 (some 74) #[true,true,true,true,true,true,true,true,false,false,false,false,false,false,false,false] ?_;refine rgT 8 (some 75) #[true,true,true,true,true,true,true,true,true,false,false,false,false,false,false,false] hHeld ?_;refine rgP 9 (some 76) #[true,true,true,true,true,true,true,true,true,true,false,false,false,false,false,false] ?_;refine rgP 10 (some 77) #[true,true,true,true,true,true,true,true,true,true,true,false,false,false,false,false] ?_;refine rgO 11 78 (.slice (some ⟨w8.heap.size,0,none⟩) 1 1) (w8.alloc (.cells #[.string addr,.int .i64 0] 76)) #[true,true,true,true,true,true,true,true,true,true,true,true,false,false,false,false] ?_ (fun hHeld=>?_)
        · exact⟨(World.cell?_alloc_lt _ _ _ (wb_ _ _ hHeld.1)).trans hHeld.1,(World.cell?_alloc_lt _ _ _ (wb_ _ _ hHeld.2)).trans hHeld.2⟩
        refine one_ (i:=12) (N:=some 79) #[true,true,true,true,true,true,true,true,true,true,true,true,true,false,false,false] rfl rfl (by kernel_rfl) (by decide) (fun K hK=>?_);refine Kd.R_append_step k76 (w0:=w0) (W:=w8) w0.heap.size (by rfl) (.tmp 75) (.tmp 78) 41 76 (.agg #[.string ⟨#[]⟩,.int .i64 0]) 24 (by rfl) Tryz.underlying41 infoIt rfl (by decide) (by omega) (.slice B7 q.f5.length b7) q.f5 ⟨addr,0⟩ [.string addr,.int .i64 0] (fun k=>oki k∨((okS (okN w w4 ok) (.slice A5 (sn.length+1) c5) (.slice A4 lk.length c4)) k∧w8.heap.size≤k)) (fun _=>False) (by rfl) (by rfl) (k76_mkM _ _ _ ⟨addr,0⟩) (fun _ hk=>hk.elim) (fun k hk=>.inr ⟨F2.out k hk,hk⟩) (Kd.R_mono G7.out (fun _ hk=>.inl hk)) HX.out.B HX.out.hle (by omega) ?_;intro v1 w1 ho hb hg hat;have H1:=A_ (Kd.H_grown (Kd.H_widen HH.out) hg (fun k e=>.inl (G7.out.1 k e)));have R3:=A_ (Kd.R_over' (v:=.slice B7 q.f5.length b7) G3.out (Kd.R_typed G7.out) (by decide) hg);have R4:=A_ (Kd.R_over' (v:=.slice B7 q.f5.length b7) G4.out (Kd.R_typed G7.out) (by decide) hg);have K1:=A_ (Kept.of_grown (S:=(okS (okN w w4 ok) (.slice A5 (sn.length+1) c5) (.slice A4 lk.length c4))) hg (Kept.refl w8 _) (fun k hk=>.inl (HO.out k (G7.out.1 k hk)).1));obtain⟨B8,b8,rfl⟩:=Kd.R_slice ho;have en7:(q.f5++[(⟨addr,0⟩:S76)]).length=q.f5.length+1:=by rw[lA_,List.length_singleton]
        rw[en7]at ho ⊢;have hneg:some g≠(Value.slice B7 q.f5.length b7).ownBlock:=fun e=>(HO.out g (G7.out.1 g e.symm)).2 rfl
        have hnet:some gt≠(Value.slice B7 q.f5.length b7).ownBlock:=fun e=>HX.out.nT gt (HO.out gt (G7.out.1 gt e.symm)).1.1.1 rfl
        have hz0:=cell_grown hg hy7 hneg;have R7:=A_ ho;have B1:=A_ hb;have hzf:=(Kd.H_at H1.out (by omega) (by omega)).2 7;rw[tN_,show kHz.sz=8 from rfl]at hzf;have HP:=A_ (Kd.S_seg0 H1.out (by omega) (by omega) (seg:=[.slice B8 (q.f5.length+1) b8]) (j:=7) (show 7+1≤8 by decide) (x':=hzTodo q addr) (k43_mkM _ _ _ (hzTodo q addr) (Kd.R_mono R3.out (fun _ hk=>.inl hk)) (Kd.R_mono R4.out (fun _ hk=>.inl hk)) R7.out) (fun _ hk=>hk));refine hK.out _ _ ⟨cell_grown hg ((blk_cell HX.out.box 2).trans rfl) hnet,hz0⟩ (fun hHeld=>?_);clear hK K ho hb hg hat hneg hnet hHeld hy7;refine rgN 79 ?_;refine rgP 13 (some 80) #[true,true,true,true,true,true,true,true,true,true,true,true,true,true,false,false] ?_;refine rgP 14 (some 81) #[true,true,true,true,true,true,true,true,true,true,true,true,true,true,true,false] ?_;refine rgL 15 (w1.setCell ⟨g,j*8+7,none⟩ (.slice B8 (q.f5.length+1) b8)) #[true,true,true,true,true,true,true,true,true,true,true,true,true,true,true,true] ?_;refine done_ (by kernel_rfl) ?_;have hp1:=HP.out.1;have hp2:=HP.out.2;rw[tN_,show kHz.sz=8 from rfl]at hp1 hp2;replace HX:=A_ (HX.out.houses (wd:=w1.setCell ⟨g,j*8+7,none⟩ (.slice B8 (q.f5.length+1) b8)) (Kept.of_grown hp2 K1.out (fun k hk=>.inl (by injection hk with hk;subst hk;exact(Kd.S_R HX.out.S2).1 _ rfl))) hp1 (B1.out.setCell (p:=⟨g,j*8+7,none⟩) (Kd.S_base HX.out.S2 _ rfl) _));clear hp1 hp2 HP hz0 hzf H1 R3 R4 R7 K1 B1 G3 G4 G7 HO HH;generalize (w1.setCell ⟨g,j*8+7,none⟩ (.slice B8 (q.f5.length+1) b8))=w9 at HX ⊢;replace BKr:=A_ (HX.out.keepB BKr.out GR.out NRT.out);obtain⟨hy0,hy1,hy2,hy3,hy4⟩:=cells5 HX.out.box;have hr0:=blk_cell BKr.out 0;have hrf0:=blk_frozen BKr.out 0;have hr1:=blk_cell BKr.out 1;have hrf1:=blk_frozen BKr.out 1;have hr2:=blk_cell BKr.out 2;have hrf2:=blk_frozen BKr.out 2;have hr3:=blk_cell BKr.out 3;have hrf3:=blk_frozen BKr.out 3;have hr4:=blk_cell BKr.out 4;have hrf4:=blk_frozen BKr.out 4;have hn1:=NRT.out;have hn2:=NRT.out.symm;go_wp2;have hR2:=(HR.out.finish HB.out GT.out HX.out).put5 BKr.out GR.out (.string nm) (.int .i64 now) (.slice (some ⟨g,0,none⟩) n cap) (.slice A5 (sn.length+1) c5) (.slice A4 lk.length c4);have hq:=put5 BKr.out (.string nm) (.int .i64 now) (.slice (some ⟨g,0,none⟩) n cap) (.slice A5 (sn.length+1) c5) (.slice A4 lk.length c4);refine bodyPost_ret (results_cell_row rfl _ _ gr 27 #[.string nm,.int .i64 now,.slice (some ⟨g,0,none⟩) n cap,.slice A5 (sn.length+1) c5,.slice A4 lk.length c4] (0,0) _ rfl hq Tryz.underlying27 rfl (by kernel_rfl)) rfl ?_;rw[EA.out];exact⟨_,_,rfl,hR2⟩
theorem R_empty {α:Type}{d:Kd α}{e base:Nat}{ok:Nat→Prop}{w:World}{v:Value}(h:d.R e w base ok v []):d.R e w base (fun k=>some k=v.ownBlock) v []:=by
 obtain⟨h0,inner,hown,hr⟩:=h;exact⟨fun k hk=>hk.symm,inner,hown,hr.1,fun j p hp=>by simp at hp⟩
theorem R_set5 {α:Type}{d:Kd α}{e base g t:Nat}{ok:Nat→Prop}{w:World}{v:Value}{xs:List α}{a0 b0 c0 d0 e0:Value}(h:d.R e w base ok v xs)(hb:w.heap[g]?=some (.cells #[a0,b0,c0,d0,e0] t (0,0)))(ht:∀q,q∈e::d.E→q≠t)(a1 a2 a3 a4 a5:Value):
  d.R e (((((w.setCell ⟨g,0,none⟩ a1).setCell ⟨g,1,none⟩ a2).setCell ⟨g,2,none⟩ a3).setCell ⟨g,3,none⟩ a4).setCell ⟨g,4,none⟩ a5) base (fun k=>ok k∧k≠g) v xs:=
 Kd.R_far (p:=⟨g,4,none⟩) (Kd.R_far (p:=⟨g,3,none⟩) (Kd.R_far (p:=⟨g,2,none⟩) (Kd.R_far (p:=⟨g,1,none⟩) (Kd.R_far (p:=⟨g,0,none⟩) (Kd.R_types h hb ht) (fun _ hk=>hk.2) a1) (fun _ hk=>hk.2) a2) (fun _ hk=>hk.2) a3) (fun _ hk=>hk.2) a4) (fun _ hk=>hk.2) a5
def l12All (k:Nat)(nm:BA):List BA→List Hz→List BA→Option (List Hz×List BA)
 | [],hs,sn=>some (hs,sn)
 |s::r,hs,sn=>(spec_l11Norm.f k s).bind fun b=>if b=true then(spec_l12Hear.f k nm 0 hs sn [] s).bind fun a=>l12All k nm r a.1 a.2 else l12All k nm r hs sn
def spec_TripNew.f (k:Nat)(a0:BA)(l1:List BA):Option (BA×Int×List Hz×List BA×List Lz×Bool):=
 (spec_l2Name.f k a0).bind fun b=>if b=false∨12<l1.length then some (⟨#[]⟩,0,[],[],[],false)else(l12All k a0 l1 [] []).bind fun r=>some (a0,0,r.1,r.2,[],true)
set_option maxHeartbeats 8000000 in
set_option maxRecDepth 100000 in
theorem spec_TripNew.calls (k:Nat)(a0:BA)(A1:Option Addr)(c1:Nat)(l1:List BA)(r1:BA)(r2:Int)(r3:List Hz)(r4:List BA)(r5:List Lz)(r6:Bool)(w:World)(hr1:Kd.C Kd.string w A1 l1.length l1)(hc1:l1.length≤c1)(h:spec_TripNew.f k a0 l1=some (r1,r2,r3,r4,r5,r6)):
  Calls Tryz.prog 6 #[.string a0,.slice A1 l1.length c1] w fun e w'=>∃v2_ v3_ v4_:Value,e=.returned (.tuple #[.agg #[.string r1,.int .i64 r2,v2_,v3_,v4_],.bool r6])∧Kd.S kHz 43 w' w.heap.size (fun k_=>some k_≠(v3_:Value).ownBlock) v2_ r3∧Kd.R Kd.string 9 w' w.heap.size (fun _=>True) v3_ r4∧Kd.R kLz 83 w' w.heap.size (fun _=>True) v4_ r5∧Below w.heap.size w w':=by
 have hu2:=Tryz.underlying27;unfold spec_TripNew.f at h;obtain⟨b,hb0,h⟩:=oE_.mp h;have HN:=A_ hb0;have HR:=A_ hr1;have HB:=A_ (Below.refl w.heap.size w);clear hb0 hr1 hc1
 by_cases c0:b=false∨12<l1.length
 ·rw[if_pos c0]at h
  obtain⟨rfl,rfl,rfl,rfl,rfl,rfl⟩:(⟨#[]⟩:BA)=r1∧(0:Int)=r2∧[]=r3∧[]=r4∧[]=r5∧false=r6:=by simpa using h
  have c0':b=false∨(b=true∧12<l1.length):=by cases b <;> simp_all
  clear h c0
  go_enter Tryz.func6,Tryz.ntmps6
  have d1:12<l1.length→decide (12<(l1.length:Int))=true:=fun h=>decide_eq_true (by omega)
  have d2:12<l1.length→decide (12<l1.length)=true:=fun h=>decide_eq_true h
  rcases c0' with rfl|⟨rfl,c0⟩
  case' inl=>clear d1 d2
  case' inr=>replace d1:=d1 c0;replace d2:=d2 c0;clear c0
  all_goals
   go_wp2_with (first|((with_reducible refine gate_dst (N:=4) rfl ?_);refine box_event ?hg (N:=4) ?hd (cs:=#[.string (⟨#[]⟩:BA),.int .i64 0,.slice none 0 0,.slice none 0 0,.slice none 0 0]) (t:=27) ?hr ?_;(case hd=>rfl);(case hg=>rfl);(case hr=>first|(go_simp;done)|(go_simp;rfl));intro gr hg w2 hbox hb;have BKr:=A_ hbox;have GR:=A_ (show w.heap.size≤gr from by rw[hg];exact lL_ _);replace HB:=A_ (below_step HB.out hb);clear hb hg hbox)|(go_at_call 19;refine(spec_l2Name.calls k a0 _ _ HN.out).mono ?_;rintro e w3 ⟨rfl,hd⟩;have hb:=hd.below;clear hd;replace BKr:=A_ (blk_below BKr.out hb);replace HB:=A_ (below_step HB.out hb);clear hb;have hx0:=blk_cell BKr.out 0;have hf0:=blk_frozen BKr.out 0;have hx1:=blk_cell BKr.out 1;have hf1:=blk_frozen BKr.out 1;have hx2:=blk_cell BKr.out 2;have hf2:=blk_frozen BKr.out 2;have hx3:=blk_cell BKr.out 3;have hf3:=blk_frozen BKr.out 3;have hx4:=blk_cell BKr.out 4;have hf4:=blk_frozen BKr.out 4))
   have hb:=set5_below HB.out GR.out (.string bE_) (.int .i64 0) (.slice none 0 0) (.slice none 0 0) (.slice none 0 0);replace BKr:=A_ (put5 BKr.out (.string bE_) (.int .i64 0) (.slice none 0 0) (.slice none 0 0) (.slice none 0 0));refine bodyPost_ret (results_ct rfl _ _ gr 27 #[.string bE_,.int .i64 0,.slice none 0 0,.slice none 0 0,.slice none 0 0] (0,0) _ rfl BKr.out Tryz.underlying27 rfl (by kernel_rfl)) rfl ?_;exact⟨.slice none 0 0,.slice none 0 0,.slice none 0 0,rfl,Kd.S_nil _ _ _ _ _,Kd.R_nil _ _ _ _ _,Kd.R_nil _ _ _ _ _,hb⟩
 ·rw[if_neg c0]at h
  obtain⟨⟨hs',sn'⟩,hall,h⟩:=oE_.mp h;obtain⟨rfl,rfl,rfl,rfl,rfl,rfl⟩:a0=r1∧(0:Int)=r2∧hs'=r3∧sn'=r4∧[]=r5∧true=r6:=by simpa using h
  have c1':l1.length≤12:=by apply Nat.le_of_not_lt;intro h;exact c0 (.inr h)
  obtain rfl:b=true:=by cases b <;> simp_all
  have d1:decide (12<(l1.length:Int))=false:=decide_eq_false (by omega);have d2:decide (12<l1.length)=false:=decide_eq_false (by omega);have HA:=A_ hall;clear h c0 hall
  go_enter Tryz.func6,Tryz.ntmps6
  go_upto_region 4 with(first|((with_reducible refine gate_dst (N:=4) rfl ?_);refine box_event ?hg (N:=4) ?hd (cs:=#[.string (⟨#[]⟩:BA),.int .i64 0,.slice none 0 0,.slice none 0 0,.slice none 0 0]) (t:=27) ?hr ?_;(case hd=>rfl);(case hg=>rfl);(case hr=>first|(go_simp;done)|(go_simp;rfl));intro gr hg w2 hbox hb;have BKr:=A_ hbox;have GR:=A_ (show w.heap.size≤gr from by rw[hg];exact lL_ _);have GR9:=GR;replace HB:=A_ (below_step HB.out hb);clear hb hg hbox)|(go_at_call 19;refine(spec_l2Name.calls k a0 _ _ HN.out).mono ?_;rintro e w3 ⟨rfl,hd⟩;have hb:=hd.below;clear hd;replace BKr:=A_ (blk_below BKr.out hb);replace HB:=A_ (below_step HB.out hb);clear hb)|((with_reducible refine gate_dst (N:=18) rfl ?_);refine Kd.R_lit (Kd.tag (fun _=>0) kHz) w.heap.size 43 ?hg (N:=18) ?hd (xs:=[]) (inner:=[]) (ok:=fun _=>True) (okp:=fun _=>False) ?hr ?hp (fun _ hk=>hk.elim) trivial HB.out HB.out.size (by simp) ?_;(case hd=>rfl);(case hg=>rfl);(case hr=>first|(go_simp;done)|(go_simp;rfl));(case hp=>exact Reps.none _ _);intro v18 w18 ho hb hg hn;obtain⟨A18,f18,e0⟩:=Kd.R_slice ho;rw[List.length_nil]at e0;subst e0;have E18:=A_ ho;have W18:=A_ hn;have NR18:=A_ (show ∀k,some k=(Value.slice A18 0 f18).ownBlock→k≠gr from fun k hk=>by obtain⟨b,e,hb⟩:=hn;rw[e]at hk;injection hk with hk;have:=blk_lt BKr.out;omega);replace BKr:=A_ (blk_grown BKr.out hg (by simp));skip;replace HB:=A_ hb;clear ho hb hg hn)|((with_reducible refine gate_dst (N:=19) rfl ?_);refine Kd.R_lit Kd.string w.heap.size 9 ?hg (N:=19) ?hd (xs:=[]) (inner:=[]) (ok:=fun _=>True) (okp:=fun _=>False) ?hr ?hp (fun _ hk=>hk.elim) trivial HB.out HB.out.size (by simp) ?_;(case hd=>rfl);(case hg=>rfl);(case hr=>first|(go_simp;done)|(go_simp;rfl));(case hp=>exact Reps.none _ _);intro v19 w19 ho hb hg hn;obtain⟨A19,f19,e0⟩:=Kd.R_slice ho;rw[List.length_nil]at e0;subst e0;have E19:=A_ ho;have W19:=A_ hn;have NR19:=A_ (show ∀k,some k=(Value.slice A19 0 f19).ownBlock→k≠gr from fun k hk=>by obtain⟨b,e,hb⟩:=hn;rw[e]at hk;injection hk with hk;have:=blk_lt BKr.out;omega);replace BKr:=A_ (blk_grown BKr.out hg (by simp));replace E18:=A_ (Kd.R_grown E18.out hg (fun _ _=>by simp));replace HB:=A_ hb;clear ho hb hg hn)|((with_reducible refine gate_dst (N:=20) rfl ?_);refine Kd.R_lit kLz w.heap.size 83 ?hg (N:=20) ?hd (xs:=[]) (inner:=[]) (ok:=fun _=>True) (okp:=fun _=>False) ?hr ?hp (fun _ hk=>hk.elim) trivial HB.out HB.out.size (by simp) ?_;(case hd=>rfl);(case hg=>rfl);(case hr=>first|(go_simp;done)|(go_simp;rfl));(case hp=>exact Reps.none _ _);intro v20 w20 ho hb hg hn;obtain⟨A20,f20,e0⟩:=Kd.R_slice ho;rw[List.length_nil]at e0;subst e0;have E20:=A_ ho;have W20:=A_ hn;have NR20:=A_ (show ∀k,some k=(Value.slice A20 0 f20).ownBlock→k≠gr from fun k hk=>by obtain⟨b,e,hb⟩:=hn;rw[e]at hk;injection hk with hk;have:=blk_lt BKr.out;omega);replace BKr:=A_ (blk_grown BKr.out hg (by simp));replace E18:=A_ (Kd.R_grown E18.out hg (fun _ _=>by simp));replace E19:=A_ (Kd.R_grown E19.out hg (fun _ _=>by simp));replace HB:=A_ hb;clear ho hb hg hn)|((with_reducible refine gate_dst (N:=6) rfl ?_);refine box_event ?hg (N:=6) ?hd (cs:=#[.string (⟨#[]⟩:BA),.int .i64 0,.slice none 0 0,.slice none 0 0,.slice none 0 0]) (t:=27) ?hr ?_;(case hd=>rfl);(case hg=>rfl);(case hr=>first|(go_simp;done)|(go_simp;rfl));intro gt hg w4 hbox hb;have BKt:=A_ hbox;have GT:=A_ (show w.heap.size≤gt from by rw[hg];exact HB.out.size);have GTw:=GT;have NRT:=A_ (show gr≠gt from by rw[hg];exact Nat.ne_of_lt (blk_lt BKr.out));replace BKr:=A_ (blk_below BKr.out hb);replace E18:=A_ (Kd.R_below E18.out hb);replace E19:=A_ (Kd.R_below E19.out hb);replace E20:=A_ (Kd.R_below E20.out hb);replace HB:=A_ (below_step HB.out hb);clear hb hg hbox;have hx0:=blk_cell BKt.out 0;have hf0:=blk_frozen BKt.out 0;have hx1:=blk_cell BKt.out 1;have hf1:=blk_frozen BKt.out 1;have hx2:=blk_cell BKt.out 2;have hf2:=blk_frozen BKt.out 2;have hx3:=blk_cell BKt.out 3;have hf3:=blk_frozen BKt.out 3;have hx4:=blk_cell BKt.out 4;have hf4:=blk_frozen BKt.out 4))
  have hb:=set5_below HB.out GT.out (.string a0) (.int .i64 0) (.slice A18 0 f18) (.slice A19 0 f19) (.slice A20 0 f20);have ET:=A_ BKt.out;replace BKr:=A_ (set5_blk BKr.out NRT.out (.string a0) (.int .i64 0) (.slice A18 0 f18) (.slice A19 0 f19) (.slice A20 0 f20));replace BKt:=A_ (put5 BKt.out (.string a0) (.int .i64 0) (.slice A18 0 f18) (.slice A19 0 f19) (.slice A20 0 f20));have F18:=Kd.R_mono (Kd.R_types (R_set5 E18.out ET.out (by decide) (.string a0) (.int .i64 0) (.slice A18 0 f18) (.slice A19 0 f19) (.slice A20 0 f20)) BKr.out (by decide)) (ok':=(fun k=>k≠gt∧k≠gr)) (fun k hk=>⟨hk.1.2,hk.2⟩);have F19:=Kd.R_mono (Kd.R_types (R_set5 E19.out ET.out (by decide) (.string a0) (.int .i64 0) (.slice A18 0 f18) (.slice A19 0 f19) (.slice A20 0 f20)) BKr.out (by decide)) (ok':=(fun k=>k≠gt∧k≠gr)) (fun k hk=>⟨hk.1.2,hk.2⟩);have F20:=Kd.R_mono (Kd.R_types (R_set5 E20.out ET.out (by decide) (.string a0) (.int .i64 0) (.slice A18 0 f18) (.slice A19 0 f19) (.slice A20 0 f20)) BKr.out (by decide)) (ok':=(fun k=>k≠gt∧k≠gr)) (fun k hk=>⟨hk.1.2,hk.2⟩);have N34:=A_ (show ∀k,some k=(Value.slice A18 0 f18).ownBlock→some k≠(Value.slice A19 0 f19).ownBlock from fun k hk e=>by obtain⟨cells,hc⟩:=Kd.R_typed F18 k hk.symm;exact Kd.R_ne F19 hc (by decide) e);have N35:=A_ (show ∀k,some k=(Value.slice A18 0 f18).ownBlock→some k≠(Value.slice A20 0 f20).ownBlock from fun k hk e=>by obtain⟨cells,hc⟩:=Kd.R_typed F18 k hk.symm;exact Kd.R_ne F20 hc (by decide) e);have HX:=A_ (show Rw w w (((((w4.setCell ⟨gt,0,none⟩ (Value.string a0)).setCell ⟨gt,1,none⟩ (Value.int IntKind.i64 0)).setCell ⟨gt,2,none⟩ (Value.slice A18 0 f18)).setCell ⟨gt,3,none⟩ (Value.slice A19 0 f19)).setCell ⟨gt,4,none⟩ (Value.slice A20 0 f20)) (fun k=>k≠gt∧k≠gr) (.slice A18 0 f18) (.slice A19 0 f19) (.slice A20 0 f20) [] [] []from⟨⟨_,Kd.R_mono (R_empty F18) (fun k hk=>⟨⟨F18.1 k hk.symm,N35.out k hk⟩,N34.out k hk⟩)⟩,F19,F20,hb,Kept.of_below hb _,lL_ _⟩);clear hb E18 E19 E20 W18 W19 W20 NR18 NR19 NR20 N34 N35 F18 F19 F20 ET HB HN hx0 hf0 hx1 hf1 hx2 hf2 hx3 hf3 hx4 hf4;generalize (((((w4.setCell ⟨gt,0,none⟩ (Value.string a0)).setCell ⟨gt,1,none⟩ (Value.int IntKind.i64 0)).setCell ⟨gt,2,none⟩ (Value.slice A18 0 f18)).setCell ⟨gt,3,none⟩ (Value.slice A19 0 f19)).setCell ⟨gt,4,none⟩ (Value.slice A20 0 f20))=w5 at *
  go_wp2
  go_loopg [7] l1.length (fun g v7 wx=>∃(i:Nat)(hs:List Hz)(sn:List BA)(v2 v3:Value),v7=.int .i64 i∧i+g=l1.length∧Aside0 (l12All k a0 (l1.drop i) hs sn=some (hs',sn'))∧Aside0 (Rw w w wx (fun k=>k≠gt∧k≠gr) v2 v3 (.slice A20 0 f20) hs sn [])∧Aside0 (wx.heap[gt]?=some (.cells #[.string a0,.int .i64 0,v2,v3,.slice A20 0 f20] 27 (0,0)))∧Aside0 (wx.heap[gr]?=some (.cells #[.string ⟨#[]⟩,.int .i64 0,.slice none 0 0,.slice none 0 0,.slice none 0 0] 27 (0,0))))
  case atStart=>exact⟨0,[],[],_,_,rfl,by omega,by rw[List.drop_zero];exact HA,HX,BKt,BKr⟩
  case round=>
   clear HX HA BKt BKr;obtain⟨i,hs,sn,v2,v3,rfl,hig,HA,HX,BKt,BKr⟩:=hrel;obtain⟨A2,c2,rfl⟩:=Kd.S_slice HX.out.S2;obtain⟨A3,c3,rfl⟩:=Kd.R_slice HX.out.R3;cases gk with
   |zero=>
    have hlt:decide ((i:Int)<(l1.length:Int))=false:=decide_eq_false (by omega);have hlt2:decide (i<l1.length)=false:=decide_eq_false (by omega);have ha:=HA.out;rw[List.drop_of_length_le (by omega)]at ha;obtain⟨rfl,rfl⟩:=Prod.mk.inj (oJ_ ha);clear ha HA;obtain⟨hy0,hy1,hy2,hy3,hy4⟩:=cells5 BKt.out;have hq0:=blk_cell BKr.out 0;have hqf0:=blk_frozen BKr.out 0;have hq1:=blk_cell BKr.out 1;have hqf1:=blk_frozen BKr.out 1;have hq2:=blk_cell BKr.out 2;have hqf2:=blk_frozen BKr.out 2;have hq3:=blk_cell BKr.out 3;have hqf3:=blk_frozen BKr.out 3;have hq4:=blk_cell BKr.out 4;have hqf4:=blk_frozen BKr.out 4;have hn1:=NRT.out;have hn2:=NRT.out.symm;go_wp2;have hR2:=HX.out.put5 BKr.out GR9.out (.string a0) (.int .i64 0) (.slice A2 hs.length c2) (.slice A3 sn.length c3) (.slice A20 0 f20);have hq:=put5 BKr.out (.string a0) (.int .i64 0) (.slice A2 hs.length c2) (.slice A3 sn.length c3) (.slice A20 0 f20);refine bodyPost_ret (results_ct rfl _ _ gr 27 #[.string a0,.int .i64 0,.slice A2 hs.length c2,.slice A3 sn.length c3,.slice A20 0 f20] (0,0) _ rfl hq Tryz.underlying27 rfl (by kernel_rfl)) rfl ?_;exact⟨_,_,_,rfl,Kd.S_mono hR2.S2 (fun _ hk=>hk.2),Kd.R_mono hR2.R3 (fun _ _=>trivial),Kd.R_mono hR2.R4 (fun _ _=>trivial),hR2.B⟩
   |succ g1=>
    have hi:i<l1.length:=by omega
    have hlt:decide ((i:Int)<(l1.length:Int))=true:=decide_eq_true (by omega);have hlt2:decide (i<l1.length)=true:=decide_eq_true (by omega);have p0:(0≤(i:Int))=True:=eq_true (by omega);have q0:((i:Int)<(l1.length:Int))=True:=eq_true (by omega);have q1:(i<l1.length)=True:=eq_true (by omega);obtain⟨bk,o,ea,hb0,hcells⟩:=row_at HR.out (by omega);subst ea;have hx:=hcells i _ (gE_ hi);have ha:=HA.out;rw[dE_ hi]at ha;generalize l1[i]=s at hx ha;have HXW:=A_ hx;have HBW:=A_ hb0;replace hx:=(HX.out.B.cell hb0).trans hx;obtain⟨nb,e1,ha⟩:=oE_.mp ha;have HE:=A_ e1;clear hcells hb0 e1 HA;cases nb with
    |false=>
     rw[if_neg (by decide)]at ha;have HA:=A_ ha;clear ha
     go_wp2_with (first|(go_at_call 20;refine(spec_l11Norm.calls k s _ _ HE.out).mono ?_;rintro e w9 ⟨rfl,hb⟩;replace HX:=A_ (HX.out.below hb);replace BKt:=A_ (blk_below BKt.out hb);replace BKr:=A_ (blk_below BKr.out hb);clear hb))
     go_roundg g1
     case measure=>omega
     case rel=>exact⟨i+1,hs,sn,_,_,by simp,by omega,HA,HX,BKt,BKr⟩
    |true=>
     rw[if_pos rfl]at ha;obtain⟨⟨hs1,sn1⟩,e2,ha⟩:=oE_.mp ha;have HA:=A_ ha;have HE2:=A_ e2;clear ha e2
     go_upto_region 8 with(first|(go_at_call 20;refine(spec_l11Norm.calls k s _ _ HE.out).mono ?_;rintro e w9 ⟨rfl,hb⟩;replace HX:=A_ (HX.out.below hb);replace BKt:=A_ (blk_below BKt.out hb);replace BKr:=A_ (blk_below BKr.out hb);clear hb hx))
     have hx:=(HX.out.B.cell HBW.out).trans HXW.out;clear HE;refine start_ (n:=7) (S:=fun w'=>(w'.cell? ⟨gt,0,none⟩=some (.string a0)∧w'.cell? ⟨gt,1,none⟩=some (.int .i64 0)∧w'.cell? ⟨gt,2,none⟩=some (.slice A2 hs.length c2)∧w'.cell? ⟨gt,3,none⟩=some (.slice A3 sn.length c3)∧w'.cell? ⟨gt,4,none⟩=some (.slice A20 0 f20))∧w'.cell? ⟨bk,o+i,none⟩=some (.string s)) (ds:=[6]) #[false,false,false,false,false,false,false] (by kernel_rfl) rfl rfl ⟨cells5 BKt.out,hx⟩ (fun hHeld=>?_);replace HX:=A_ (HX.out.below (below_drew (Below.refl _ _)));replace BKt:=A_ (blk_drew BKt.out);replace BKr:=A_ (blk_drew BKr.out);clear hx;generalize w9.drew=w10 at HX BKt BKr hHeld ⊢;refine rgT (hy:=Or.inl ⟨by rfl,by rintro w' ⟨⟨s0,s1,s2,s3,s4⟩,s5⟩;go_simp;with_reducible rfl⟩) 0 (some 33) #[true,false,false,false,false,false,false] hHeld ?_;refine rgP 1 (some 34) #[true,true,false,false,false,false,false] ?_;refine rgP 2 (some 35) #[true,true,true,false,false,false,false] ?_;refine rgP 3 (some 36) #[true,true,true,true,false,false,false] ?_;refine rgT (hy:=Or.inl ⟨by rfl,by rintro w' ⟨⟨s0,s1,s2,s3,s4⟩,s5⟩;go_simp;with_reducible rfl⟩) 4 (some 37) #[true,true,true,true,true,false,false] hHeld ?_;refine one_ (i:=5) (N:=some 38) #[true,true,true,true,true,true,false] rfl rfl (by kernel_rfl) (by decide) (fun K hK=>?_);refine callv_ (f:=21) Tryz.func21 (by kernel_rfl) rfl #[.agg #[.string a0,.int .i64 0,.slice A2 hs.length c2,.slice A3 sn.length c3,.slice A20 0 f20],.string s] (by rfl) rfl (.func 21) rfl rfl (by simp[Act.eval]) ?_;refine(l12Hear_walk k (fun k=>k≠gt∧k≠gr) (.slice A2 hs.length c2) (.slice A3 sn.length c3) (.slice A20 0 f20) a0 s 0 hs sn [] hs1 sn1 w _ HX.out.here (fun k hk=>⟨fun e=>by have:=blk_lt BKt.out;omega,fun e=>by have:=blk_lt BKr.out;omega⟩) HE2.out).mono ?_;rintro e w12 ⟨v2',v3',rfl,hR2⟩;refine⟨_,rfl,?_⟩;replace BKt:=A_ (blk_kept BKt.out hR2.K (fun h=>h.1 rfl));replace BKr:=A_ (blk_kept BKr.out hR2.K (fun h=>h.2 rfl));replace HX:=A_ (HX.out.then_ hR2);have hx:=(HX.out.B.cell HBW.out).trans HXW.out;obtain⟨D2,f2,rfl⟩:=Kd.S_slice HX.out.S2;obtain⟨D3,f3,rfl⟩:=Kd.R_slice HX.out.R3;have hq0:=blk_cell BKt.out 0;have hqf0:=blk_frozen BKt.out 0;have hq1:=blk_cell BKt.out 1;have hqf1:=blk_frozen BKt.out 1;have hq2:=blk_cell BKt.out 2;have hqf2:=blk_frozen BKt.out 2;have hq3:=blk_cell BKt.out 3;have hqf3:=blk_frozen BKt.out 3;have hq4:=blk_cell BKt.out 4;have hqf4:=blk_frozen BKt.out 4;refine hK.out _ _ ⟨cells5 BKt.out,hx⟩ (fun hHeld=>?_);clear hK K hR2 hx hHeld;refine rgN 38 ?_;refine rgL 6 (((((w12.setCell ⟨gt,0,none⟩ (Value.string a0)).setCell ⟨gt,1,none⟩ (Value.int IntKind.i64 0)).setCell ⟨gt,2,none⟩ (Value.slice D2 hs1.length f2)).setCell ⟨gt,3,none⟩ (Value.slice D3 sn1.length f3)).setCell ⟨gt,4,none⟩ (Value.slice A20 0 f20)) #[true,true,true,true,true,true,true] ?_;refine done_ (by kernel_rfl) ?_;replace HX:=A_ (HX.out.put5 BKt.out GTw.out (.string a0) (.int .i64 0) (.slice D2 hs1.length f2) (.slice D3 sn1.length f3) (.slice A20 0 f20));replace BKr:=A_ (set5_blk BKr.out NRT.out (.string a0) (.int .i64 0) (.slice D2 hs1.length f2) (.slice D3 sn1.length f3) (.slice A20 0 f20));replace BKt:=A_ (put5 BKt.out (.string a0) (.int .i64 0) (.slice D2 hs1.length f2) (.slice D3 sn1.length f3) (.slice A20 0 f20));clear hq0 hqf0 hq1 hqf1 hq2 hqf2 hq3 hqf3 hq4 hqf4;generalize (((((w12.setCell ⟨gt,0,none⟩ (Value.string a0)).setCell ⟨gt,1,none⟩ (Value.int IntKind.i64 0)).setCell ⟨gt,2,none⟩ (Value.slice D2 hs1.length f2)).setCell ⟨gt,3,none⟩ (Value.slice D3 sn1.length f3)).setCell ⟨gt,4,none⟩ (Value.slice A20 0 f20))=w13 at HX BKr BKt ⊢;go_wp2
     go_roundg g1
     case measure=>omega
     case rel=>exact⟨i+1,hs1,sn1,_,_,by simp,by omega,HA,HX,BKt,BKr⟩
theorem R_rd {α:Type}{d:Kd α}{e base n c:Nat}{w:World}{ok:Nat→Prop}{A:Option Addr}{xs:List α}(h:d.R e w base ok (.slice A n c) xs):Kd.C d w A xs.length xs∧xs.length≤c:=by
  obtain⟨h1,h2,h3⟩:=Kd.R_reads' h;exact⟨h3,by omega⟩
theorem S_rd {α:Type}{d:Kd α}{e base n c:Nat}{w:World}{ok:Nat→Prop}{A:Option Addr}{xs:List α}(h:Kd.S d e w base ok (.slice A n c) xs):Kd.C d w A xs.length xs∧xs.length≤c:=by
  obtain⟨h1,h2,h3⟩:=Kd.S_reads' h;exact⟨h3,by omega⟩
def laws_FnExactTripNew.f (k:Nat)(a0:BA)(l1:List BA):Option Bool:=
  if(a0.size:Int)>1048576 then some true else(laws_szStringS.f k l1 1048576).bind fun t=>if t<0 then some true else
    (laws_toStringS.f k l1).bind fun b=>(spec_TripNew.f k a0 b).bind fun s=>(impl_TripNew.f k a0 b).bind fun g=>
    (laws_eqTrip.f k g.1 g.2.1 g.2.2.1 g.2.2.2.1 g.2.2.2.2.1 s.1 s.2.1 s.2.2.1 s.2.2.2.1 s.2.2.2.2.1).bind fun e=>(laws_eqStringS.f k b b).bind fun e2=>(laws_markStringS.f k b 1).bind fun mb=>
    (laws_markTrip.f k g.2.2.1 g.2.2.2.1 g.2.2.2.2.1 1).bind fun mt=>(laws_heldTrip.f k g.1 g.2.1 mt.2.1 mt.2.2.1 mt.2.2.2 1).bind fun q=>
      if e=true∧e2=true∧g.2.2.2.2.2=s.2.2.2.2.2∧0≤mb.1∧0≤q∧q=mt.1 then some true else none
set_option maxHeartbeats 8000000 in
set_option maxRecDepth 100000 in
theorem laws_FnExactTripNew.calls (k:Nat)(a0:BA)(A1:Option Addr)(c1:Nat)(l1:List BA)(w:World)(hr1:Kd.C Kd.string w A1 l1.length l1)(hc1:l1.length≤c1)(h:laws_FnExactTripNew.f k a0 l1=some true):
    Calls Tryz.prog 3 #[.string a0,.slice A1 l1.length c1] w fun e w'=>e=.returned (.bool true)∧Below w.heap.size w w':=by
  have huT:=Tryz.underlying27;have HB:=A_ (Below.refl w.heap.size w);have HR:=A_ hr1;clear hr1;unfold laws_FnExactTripNew.f at h
  by_cases z1:(a0.size:Int)>1048576
  · have z1b:decide (1048576<(a0.size:Int))=true:=decide_eq_true z1
    have z1n:decide (1048576<a0.size)=true:=decide_eq_true (by omega);clear z1 h
    go_enter Tryz.func3,Tryz.ntmps3
    go_wp2;go_ret;exact⟨rfl,HB.out⟩
  rw[if_neg z1]at h;have z1b:decide (1048576<(a0.size:Int))=false:=decide_eq_false z1;have z1n:decide (1048576<a0.size)=false:=decide_eq_false (by omega);clear z1;obtain⟨t,ht,h1⟩:=oE_.mp h;have HT:=A_ ht;clear ht h
  by_cases d1:t<0
  · have d1b:decide (t<0)=true:=decide_eq_true d1
    clear d1 h1
    go_enter Tryz.func3,Tryz.ntmps3
    go_wp2_with (first|(go_at_call 5;refine(laws_szStringS.calls k A1 c1 l1 1048576 t _ (Kd.C_below HR.out HB.out) hc1 HT.out).mono ?_;rintro e w3 ⟨rfl,hd⟩;have hb:=hd.below;replace HB:=A_ (below_step HB.out hb);clear hb hd))
    go_ret;exact⟨rfl,HB.out⟩
  have d1b:decide (t<0)=false:=decide_eq_false d1;rw[if_neg d1]at h1;clear d1;obtain⟨b,hb,h2⟩:=oE_.mp h1;obtain⟨⟨s1,s2,s3,s4,s5,s6⟩,hs,h3⟩:=oE_.mp h2;obtain⟨⟨g1,g2,g3,g4,g5,g6⟩,hg,h4⟩:=oE_.mp h3;obtain⟨e1,he,h5⟩:=oE_.mp h4;obtain⟨e2,he2,h6⟩:=oE_.mp h5;obtain⟨⟨mb,lb⟩,hmb,h7⟩:=oE_.mp h6;obtain⟨⟨mt,m2,m3,m4⟩,hmt,h8⟩:=oE_.mp h7;obtain⟨q,hq,h9⟩:=oE_.mp h8;have hc:e1=true∧e2=true∧g6=s6∧0≤mb∧0≤q∧q=mt:=by
    split at h9
    · assumption
    · cases h9
  obtain⟨rfl,rfl,rfl,mb0,q0,rfl⟩:=hc;have FB:=A_ hb;have FS:=A_ hs;have FG:=A_ hg;have FE:=A_ he;have FE2:=A_ he2;have FMB:=A_ hmb;have FMT:=A_ hmt;have FQ:=A_ hq;have n0:decide (q<0)=false:=decide_eq_false (by omega);have n1:decide (mb<0)=false:=decide_eq_false (by omega);have n2:(q != q)=false:=by simp
  have n3:(g6 != g6)=false:=by simp
  clear h1 h2 h3 h4 h5 h6 h7 h8 h9 hb hs hg he he2 hmb hmt hq mb0 q0
  go_enter Tryz.func3,Tryz.ntmps3
  go_upto_region 8 with(first
    | (go_at_call 5;refine(laws_szStringS.calls k A1 c1 l1 1048576 t _ (Kd.C_below HR.out HB.out) hc1 HT.out).mono ?_;rintro e w3 ⟨rfl,hd⟩;have hb:=hd.below;replace HB:=A_ (below_step HB.out hb);clear hb hd)
    | (go_at_call 7;refine(laws_toStringS.calls k A1 c1 l1 b _ (Kd.C_below HR.out HB.out) hc1 FB.out).mono ?_;rintro e w4 ⟨vb,rfl,hrb,hb⟩;obtain⟨B1,b1,rfl⟩:=Kd.R_slice hrb;have RB:=A_ hrb;replace HB:=A_ (below_step HB.out hb);clear hb hrb)
    | (go_at_call 6;refine(spec_TripNew.calls k a0 B1 b1 b s1 s2 s3 s4 s5 g6 _ (R_rd RB.out).1 (R_rd RB.out).2 FS.out).mono ?_;rintro e w5 ⟨u2,u3,u4,rfl,y2,y3,y4,hb⟩;obtain⟨S2,S2c,rfl⟩:=Kd.S_slice y2;obtain⟨S3,S3c,rfl⟩:=Kd.R_slice y3;obtain⟨S4,S4c,rfl⟩:=Kd.R_slice y4;have Y2:=A_ (S_rd y2);have Y3:=A_ (R_rd y3);have Y4:=A_ (R_rd y4);have SX:=A_ (Below.refl w5.heap.size w5);replace HB:=A_ (below_step HB.out hb);clear hb y2 y3 y4 RB)
    | ((with_reducible refine gate_dst (N:=6) rfl ?_);refine box_event ?hg (N:=6) ?hd (cs:=#[.string (⟨#[]⟩:BA),.int .i64 0,.slice none 0 0,.slice none 0 0,.slice none 0 0]) (t:=27) ?hr ?_;(case hd=>rfl);(case hg=>rfl);(case hr=>first|(go_simp;done)|(go_simp;rfl));intro gs hg w6 hbox hb;have BKs:=A_ hbox;have GS:=A_ (show w5.heap.size≤gs from by rw[hg];exact lL_ _);replace SX:=A_ (below_step SX.out hb);clear hb hg hbox;have xs0:=blk_cell BKs.out 0;have xsf0:=blk_frozen BKs.out 0;have xs1:=blk_cell BKs.out 1;have xsf1:=blk_frozen BKs.out 1;have xs2:=blk_cell BKs.out 2;have xsf2:=blk_frozen BKs.out 2;have xs3:=blk_cell BKs.out 3;have xsf3:=blk_frozen BKs.out 3;have xs4:=blk_cell BKs.out 4;have xsf4:=blk_frozen BKs.out 4))
  have hb:=set5_below SX.out GS.out (Value.string s1) (Value.int IntKind.i64 s2) (Value.slice S2 s3.length S2c) (Value.slice S3 s4.length S3c) (Value.slice S4 s5.length S4c);replace BKs:=A_ (put5 BKs.out (Value.string s1) (Value.int IntKind.i64 s2) (Value.slice S2 s3.length S2c) (Value.slice S3 s4.length S3c) (Value.slice S4 s5.length S4c));clear SX GS xs0 xsf0 xs1 xsf1 xs2 xsf2 xs3 xsf3 xs4 xsf4;generalize (((((w6.setCell ⟨gs,0,none⟩ (Value.string s1)).setCell ⟨gs,1,none⟩ (Value.int IntKind.i64 s2)).setCell ⟨gs,2,none⟩ (Value.slice S2 s3.length S2c)).setCell ⟨gs,3,none⟩ (Value.slice S3 s4.length S3c)).setCell ⟨gs,4,none⟩ (Value.slice S4 s5.length S4c))=w8 at *
  replace HB:=A_ (below_step HB.out hb);replace Y2:=A_ (⟨Kd.C_below Y2.out.1 hb,Y2.out.2⟩:Kd.C kHz w8 S2 s3.length s3∧s3.length≤S2c);replace Y3:=A_ (⟨Kd.C_below Y3.out.1 hb,Y3.out.2⟩:Kd.C Kd.string w8 S3 s4.length s4∧s4.length≤S3c);replace Y4:=A_ (⟨Kd.C_below Y4.out.1 hb,Y4.out.2⟩:Kd.C k83 w8 S4 s5.length s5∧s5.length≤S4c);clear hb;have HM:=A_ (Below.refl w8.heap.size w8);have HB8:=A_ HB.out;have BS8:=A_ BKs.out
  go_upto_region 9 with(first|(go_at_call 7;refine(laws_toStringS.calls k A1 c1 l1 b _ (Kd.C_below HR.out HB.out) hc1 FB.out).mono ?_;rintro e w9 ⟨vb,rfl,hrb,hb⟩;obtain⟨B1,b1,rfl⟩:=Kd.R_slice hrb;have RX:=A_ hrb;have LX:=A_ (Kd.R_lt hrb);have L89:=A_ hb.size;replace HB:=A_ (below_step HB.out hb);replace HM:=A_ (below_step HM.out hb);replace BKs:=A_ (blk_below BKs.out hb);clear hb hrb))
  go_upto_region 10 with(first
    | (go_at_call 8;refine(impl_TripNew.calls k a0 B1 b1 b g1 g2 g3 g4 g5 g6 _ (R_rd RX.out).1 (R_rd RX.out).2 FG.out).mono ?_;rintro e w10 ⟨u2,u3,u4,rfl,y2,y3,y4,hb⟩;obtain⟨G2,G2c,rfl⟩:=Kd.S_slice y2;obtain⟨G3,G3c,rfl⟩:=Kd.R_slice y3;obtain⟨G4,G4c,rfl⟩:=Kd.R_slice y4;have X2:=A_ (Kd.S_bound y2);have X3:=A_ (Kd.R_bound y3);have X4:=A_ (Kd.R_bound y4);have Z4:=A_ y4;have LZ:=A_ (lL_ w10.heap.size);have L9:=A_ hb.size;have SX:=A_ (Below.refl w10.heap.size w10);replace HB:=A_ (below_step HB.out hb);replace HM:=A_ (below_step HM.out hb);replace BKs:=A_ (blk_below BKs.out hb);replace RX:=A_ (Kd.R_below RX.out hb);clear hb y2 y3 y4)
    | ((with_reducible refine gate_dst (N:=9) rfl ?_);refine box_event ?hg (N:=9) ?hd (cs:=#[.string (⟨#[]⟩:BA),.int .i64 0,.slice none 0 0,.slice none 0 0,.slice none 0 0]) (t:=27) ?hr ?_;(case hd=>rfl);(case hg=>rfl);(case hr=>first|(go_simp;done)|(go_simp;rfl));intro gg hg w11 hbox hb;have BKg:=A_ hbox;have GG:=A_ (show w10.heap.size≤gg from by rw[hg];exact lL_ _);replace SX:=A_ (below_step SX.out hb);clear hb hg hbox;have xg0:=blk_cell BKg.out 0;have xgf0:=blk_frozen BKg.out 0;have xg1:=blk_cell BKg.out 1;have xgf1:=blk_frozen BKg.out 1;have xg2:=blk_cell BKg.out 2;have xgf2:=blk_frozen BKg.out 2;have xg3:=blk_cell BKg.out 3;have xgf3:=blk_frozen BKg.out 3;have xg4:=blk_cell BKg.out 4;have xgf4:=blk_frozen BKg.out 4))
  have hb:=set5_below SX.out GG.out (Value.string g1) (Value.int IntKind.i64 g2) (Value.slice G2 g3.length G2c) (Value.slice G3 g4.length G3c) (Value.slice G4 g5.length G4c);replace BKg:=A_ (put5 BKg.out (Value.string g1) (Value.int IntKind.i64 g2) (Value.slice G2 g3.length G2c) (Value.slice G3 g4.length G3c) (Value.slice G4 g5.length G4c));clear SX xg0 xgf0 xg1 xgf1 xg2 xgf2 xg3 xgf3 xg4 xgf4;generalize (((((w11.setCell ⟨gg,0,none⟩ (Value.string g1)).setCell ⟨gg,1,none⟩ (Value.int IntKind.i64 g2)).setCell ⟨gg,2,none⟩ (Value.slice G2 g3.length G2c)).setCell ⟨gg,3,none⟩ (Value.slice G3 g4.length G3c)).setCell ⟨gg,4,none⟩ (Value.slice G4 g5.length G4c))=w12 at *
  replace HB:=A_ (below_step HB.out hb);replace HM:=A_ (below_step HM.out hb);replace BKs:=A_ (blk_below BKs.out hb);replace RX:=A_ (Kd.R_below RX.out hb);replace X2:=A_ (Kd.S_below X2.out hb);replace X3:=A_ (Kd.R_below X3.out hb);replace X4:=A_ (Kd.R_below X4.out hb);replace LZ:=A_ (nT_ LZ.out (Below.size hb));clear hb;have G9:=A_ (nT_ L9.out GG.out);obtain⟨yg0,yg1,yg2,yg3,yg4⟩:=cells5 BKg.out;obtain⟨ys0,ys1,ys2,ys3,ys4⟩:=cells5 BKs.out
  go_upto_region 15 with(first
    | (go_at_call 9;refine(laws_eqTrip.calls k g1 g2 G2 G2c g3 G3 G3c g4 G4 G4c g5 s1 s2 S2 S2c s3 S3 S3c s4 S4 S4c s5 true _ (S_rd X2.out).1 (S_rd X2.out).2 (R_rd X3.out).1 (R_rd X3.out).2 (R_rd X4.out).1 (R_rd X4.out).2 (Kd.C_below Y2.out.1 HM.out) Y2.out.2 (Kd.C_below Y3.out.1 HM.out) Y3.out.2 (Kd.C_below Y4.out.1 HM.out) Y4.out.2 FE.out).mono ?_;rintro e w13 ⟨rfl,hb⟩;replace HB:=A_ (below_step HB.out hb);replace HM:=A_ (below_step HM.out hb);replace BKs:=A_ (blk_below BKs.out hb);replace BKg:=A_ (blk_below BKg.out hb);replace RX:=A_ (Kd.R_below RX.out hb);replace X2:=A_ (Kd.S_below X2.out hb);replace X3:=A_ (Kd.R_below X3.out hb);replace X4:=A_ (Kd.R_below X4.out hb);replace LZ:=A_ (nT_ LZ.out (Below.size hb));clear hb yg0 yg1 yg2 yg3 yg4 ys0 ys1 ys2 ys3 ys4)
    | (go_at_call 7;refine(laws_toStringS.calls k A1 c1 l1 b _ (Kd.C_below HR.out HB.out) hc1 FB.out).mono ?_;rintro e w14 ⟨vb,rfl,hrb,hb⟩;obtain⟨B2,b2,rfl⟩:=Kd.R_slice hrb;have RT:=A_ hrb;replace HB:=A_ (below_step HB.out hb);replace HM:=A_ (below_step HM.out hb);replace BKs:=A_ (blk_below BKs.out hb);replace BKg:=A_ (blk_below BKg.out hb);replace RX:=A_ (Kd.R_below RX.out hb);replace X2:=A_ (Kd.S_below X2.out hb);replace X3:=A_ (Kd.R_below X3.out hb);replace X4:=A_ (Kd.R_below X4.out hb);replace LZ:=A_ (nT_ LZ.out (Below.size hb));clear hb hrb)
    | (go_at_call 10;refine(laws_eqStringS.calls k B1 b1 b B2 b2 b true _ (R_rd RX.out).1 (R_rd RX.out).2 (R_rd RT.out).1 (R_rd RT.out).2 FE2.out).mono ?_;rintro e w15 ⟨rfl,hd⟩;have hb:=hd.below;replace HB:=A_ (below_step HB.out hb);replace HM:=A_ (below_step HM.out hb);replace BKs:=A_ (blk_below BKs.out hb);replace BKg:=A_ (blk_below BKg.out hb);replace RX:=A_ (Kd.R_below RX.out hb);replace X2:=A_ (Kd.S_below X2.out hb);replace X3:=A_ (Kd.R_below X3.out hb);replace X4:=A_ (Kd.R_below X4.out hb);replace LZ:=A_ (nT_ LZ.out (Below.size hb));clear hb hd RT))
  go_upto_region 19 with(first
    | (go_at_call 11;refine(laws_markStringS.calls k (fun k_=>some k_=(Value.slice B1 b.length b1).ownBlock) (.slice B1 b.length b1) b 1 mb lb w8 _ HM.out (Kd.R_tight rfl RX.out) FMB.out).mono ?_;rintro e w16 ⟨rfl,ho,hb,hk⟩;
       have NB:=A_ (show ∀k_,w9.heap.size≤k_→¬some k_=(Value.slice B1 b.length b1).ownBlock from fun k_ h1 h2=>by have:=LX.out k_ h2.symm;omega);replace X2:=A_ (Kd.S_kept X2.out hk (fun k_ h1=>NB.out k_ h1.2.1));replace X3:=A_ (Kd.R_kept X3.out hk (fun k_ h1=>NB.out k_ h1.2.1));replace X4:=A_ (Kd.R_kept X4.out hk (fun k_ h1=>NB.out k_ h1.2.1));replace BKg:=A_ (blk_kept BKg.out hk (NB.out _ G9.out));replace BKs:=A_ ((hb.block gs (blk_lt BS8.out)).trans BS8.out);replace LZ:=A_ (nT_ LZ.out hk.1);replace HM:=A_ hb;clear hb hk ho RX;obtain⟨yg0,yg1,yg2,yg3,yg4⟩:=cells5 BKg.out;obtain⟨ys0,ys1,ys2,ys3,ys4⟩:=cells5 BKs.out)
    | (go_at_call 9;refine(laws_eqTrip.calls k g1 g2 G2 G2c g3 G3 G3c g4 G4 G4c g5 s1 s2 S2 S2c s3 S3 S3c s4 S4 S4c s5 true _ (S_rd X2.out).1 (S_rd X2.out).2 (R_rd X3.out).1 (R_rd X3.out).2 (R_rd X4.out).1 (R_rd X4.out).2 (Kd.C_below Y2.out.1 HM.out) Y2.out.2 (Kd.C_below Y3.out.1 HM.out) Y3.out.2 (Kd.C_below Y4.out.1 HM.out) Y4.out.2 FE.out).mono ?_;rintro e w17 ⟨rfl,hb⟩;replace HM:=A_ (below_step HM.out hb);replace BKs:=A_ (blk_below BKs.out hb);replace BKg:=A_ (blk_below BKg.out hb);replace X2:=A_ (Kd.S_below X2.out hb);replace X3:=A_ (Kd.R_below X3.out hb);replace X4:=A_ (Kd.R_below X4.out hb);replace LZ:=A_ (nT_ LZ.out (Below.size hb));clear hb yg0 yg1 yg2 yg3 yg4 ys0 ys1 ys2 ys3 ys4))
  obtain⟨yg0,yg1,yg2,yg3,yg4⟩:=cells5 BKg.out;have T3:=A_ (show ∀k_,some k_=(Value.slice G4 g5.length G4c).ownBlock→∃cells,w10.heap[k_]?=some (.cells cells 83 (0,0))from fun k_ hk=>Kd.R_typed Z4.out k_ hk.symm);have BG10:=A_ BKg.out
  go_upto_region 20 with(first|(go_at_call 12;refine(laws_markTrip.calls k _ g1 g2 (.slice G2 g3.length G2c) (.slice G3 g4.length G3c) (.slice G4 g5.length G4c) g3 g4 g5 1 q m2 m3 m4 w8 _ (Kd.S_lower X2.out L89.out) (Kd.R_mono (Kd.R_lower X3.out L89.out) (fun _ _=>trivial)) (Kd.R_mono (Kd.R_lower X4.out L89.out) (fun _ _=>trivial)) (fun k_ hk=>Nat.lt_of_lt_of_le hk.2.2.1 LZ.out) (fun k_ hk=>hk.1) (fun k_ hk he=>by obtain⟨_,_,_,qq,hq,cells,hc⟩:=hk;obtain⟨cells2,hc2⟩:=T3.out k_ he;rw[hc]at hc2;simp only[oI_,Obj.cells.injEq]at hc2;obtain⟨_,rfl,_⟩:=hc2;revert hq;decide) HM.out FMT.out).mono ?_;rintro e w18 ⟨rfl,k2,k3,k4,hb,hk⟩;replace BKg:=A_ (blk_kept BKg.out hk (fun h=>h.elim (fun h=>by have hh:=h.2.2.1;have hg:=GG.out;omega) (fun h=>h.elim (fun h=>Kd.R_ne X3.out BKg.out (by decide) h) (fun h=>Kd.R_ne X4.out BKg.out (by decide) h))));replace BKs:=A_ ((hb.block gs (blk_lt BS8.out)).trans BS8.out);replace HM:=A_ hb;have P2:=A_ k2;have P3:=A_ k3;have P4:=A_ k4;clear hb hk k2 k3 k4 X2 X3 X4 yg0 yg1 yg2 yg3 yg4;obtain⟨yg0,yg1,yg2,yg3,yg4⟩:=cells5 BKg.out))
  have N2:=A_ (Kd.S_reads' P2.out).1;have N3:=A_ (Kd.R_reads' P3.out).1;have N4:=A_ (Kd.R_reads' P4.out).1
  go_upto_region 26 with(first|(go_at_call 13;have en2:=N2.out;have en3:=N3.out;have en4:=N4.out;refine(calls_of_args (by rw[en2,en3,en4]) (laws_heldTrip.calls k g1 g2 G2 G2c m2 G3 G3c m3 G4 G4c m4 1 q _ (S_rd P2.out).1 (S_rd P2.out).2 (R_rd P3.out).1 (R_rd P3.out).2 (R_rd P4.out).1 (R_rd P4.out).2 FQ.out)).mono ?_;rintro e w19 ⟨rfl,hb⟩;replace HM:=A_ (below_step HM.out hb);replace BKs:=A_ (blk_below BKs.out hb);replace BKg:=A_ (blk_below BKg.out hb);replace P2:=A_ (Kd.S_below P2.out hb);replace P3:=A_ (Kd.R_below P3.out hb);replace P4:=A_ (Kd.R_below P4.out hb);clear hb en2 en3 en4 yg0 yg1 yg2 yg3 yg4;obtain⟨yg0,yg1,yg2,yg3,yg4⟩:=cells5 BKg.out))
  have HB2:=A_ (below_step HB8.out HM.out)
  go_upto_region 27 with(first
    | (go_at_call 7;refine(laws_toStringS.calls k A1 c1 l1 b _ (Kd.C_below HR.out HB2.out) hc1 FB.out).mono ?_;rintro e w20 ⟨vb,rfl,hrb,hb⟩;obtain⟨B3,b3,rfl⟩:=Kd.R_slice hrb;have RT:=A_ hrb;replace HM:=A_ (below_step HM.out hb);replace BKs:=A_ (blk_below BKs.out hb);replace BKg:=A_ (blk_below BKg.out hb);replace P2:=A_ (Kd.S_below P2.out hb);replace P3:=A_ (Kd.R_below P3.out hb);replace P4:=A_ (Kd.R_below P4.out hb);clear hb hrb yg0 yg1 yg2 yg3 yg4)
    | (go_at_call 8;refine(impl_TripNew.calls k a0 B3 b3 b g1 g2 g3 g4 g5 g6 _ (R_rd RT.out).1 (R_rd RT.out).2 FG.out).mono ?_;rintro e w21 ⟨u2,u3,u4,rfl,y2,y3,y4,hb⟩;obtain⟨H2,H2c,rfl⟩:=Kd.S_slice y2;obtain⟨H3,H3c,rfl⟩:=Kd.R_slice y3;obtain⟨H4,H4c,rfl⟩:=Kd.R_slice y4;have Y5:=A_ (S_rd y2);have Y6:=A_ (R_rd y3);have Y7:=A_ (R_rd y4);have SX:=A_ (Below.refl w21.heap.size w21);replace HM:=A_ (below_step HM.out hb);replace BKs:=A_ (blk_below BKs.out hb);replace BKg:=A_ (blk_below BKg.out hb);replace P2:=A_ (Kd.S_below P2.out hb);replace P3:=A_ (Kd.R_below P3.out hb);replace P4:=A_ (Kd.R_below P4.out hb);clear hb y2 y3 y4 RT)
    | ((with_reducible refine gate_dst (N:=14) rfl ?_);refine box_event ?hg (N:=14) ?hd (cs:=#[.string (⟨#[]⟩:BA),.int .i64 0,.slice none 0 0,.slice none 0 0,.slice none 0 0]) (t:=27) ?hr ?_;(case hd=>rfl);(case hg=>rfl);(case hr=>first|(go_simp;done)|(go_simp;rfl));intro gh hg w22 hbox hb;have BKh:=A_ hbox;have GH:=A_ (show w21.heap.size≤gh from by rw[hg];exact lL_ _);replace SX:=A_ (below_step SX.out hb);clear hb hg hbox;have xh0:=blk_cell BKh.out 0;have xhf0:=blk_frozen BKh.out 0;have xh1:=blk_cell BKh.out 1;have xhf1:=blk_frozen BKh.out 1;have xh2:=blk_cell BKh.out 2;have xhf2:=blk_frozen BKh.out 2;have xh3:=blk_cell BKh.out 3;have xhf3:=blk_frozen BKh.out 3;have xh4:=blk_cell BKh.out 4;have xhf4:=blk_frozen BKh.out 4))
  have hb:=set5_below SX.out GH.out (Value.string g1) (Value.int IntKind.i64 g2) (Value.slice H2 g3.length H2c) (Value.slice H3 g4.length H3c) (Value.slice H4 g5.length H4c);replace BKh:=A_ (put5 BKh.out (Value.string g1) (Value.int IntKind.i64 g2) (Value.slice H2 g3.length H2c) (Value.slice H3 g4.length H3c) (Value.slice H4 g5.length H4c));clear SX GH xh0 xhf0 xh1 xhf1 xh2 xhf2 xh3 xhf3 xh4 xhf4;generalize (((((w22.setCell ⟨gh,0,none⟩ (Value.string g1)).setCell ⟨gh,1,none⟩ (Value.int IntKind.i64 g2)).setCell ⟨gh,2,none⟩ (Value.slice H2 g3.length H2c)).setCell ⟨gh,3,none⟩ (Value.slice H3 g4.length H3c)).setCell ⟨gh,4,none⟩ (Value.slice H4 g5.length H4c))=w23 at *
  replace HM:=A_ (below_step HM.out hb);replace BKs:=A_ (blk_below BKs.out hb);replace BKg:=A_ (blk_below BKg.out hb);replace P2:=A_ (Kd.S_below P2.out hb);replace P3:=A_ (Kd.R_below P3.out hb);replace P4:=A_ (Kd.R_below P4.out hb);replace Y5:=A_ (⟨Kd.C_below Y5.out.1 hb,Y5.out.2⟩:Kd.C kHz w23 H2 g3.length g3∧g3.length≤H2c);replace Y6:=A_ (⟨Kd.C_below Y6.out.1 hb,Y6.out.2⟩:Kd.C Kd.string w23 H3 g4.length g4∧g4.length≤H3c);replace Y7:=A_ (⟨Kd.C_below Y7.out.1 hb,Y7.out.2⟩:Kd.C k83 w23 H4 g5.length g5∧g5.length≤H4c);clear hb;obtain⟨ys0,ys1,ys2,ys3,ys4⟩:=cells5 BKs.out;obtain⟨yh0,yh1,yh2,yh3,yh4⟩:=cells5 BKh.out
  go_upto_region 29 with(first
    | (go_at_call 9;refine(laws_eqTrip.calls k g1 g2 H2 H2c g3 H3 H3c g4 H4 H4c g5 s1 s2 S2 S2c s3 S3 S3c s4 S4 S4c s5 true _ Y5.out.1 Y5.out.2 Y6.out.1 Y6.out.2 Y7.out.1 Y7.out.2 (Kd.C_below Y2.out.1 HM.out) Y2.out.2 (Kd.C_below Y3.out.1 HM.out) Y3.out.2 (Kd.C_below Y4.out.1 HM.out) Y4.out.2 FE.out).mono ?_;rintro e w24 ⟨rfl,hb⟩;replace HM:=A_ (below_step HM.out hb);replace BKs:=A_ (blk_below BKs.out hb);replace BKg:=A_ (blk_below BKg.out hb);replace P2:=A_ (Kd.S_below P2.out hb);replace P3:=A_ (Kd.R_below P3.out hb);replace P4:=A_ (Kd.R_below P4.out hb);clear hb ys0 ys1 ys2 ys3 ys4 yh0 yh1 yh2 yh3 yh4))
  obtain⟨yg0,yg1,yg2,yg3,yg4⟩:=cells5 BKg.out
  go_wp2_with (first|(go_at_call 13;have en2:=N2.out;have en3:=N3.out;have en4:=N4.out;refine(calls_of_args (by rw[en2,en3,en4]) (laws_heldTrip.calls k g1 g2 G2 G2c m2 G3 G3c m3 G4 G4c m4 1 q _ (S_rd P2.out).1 (S_rd P2.out).2 (R_rd P3.out).1 (R_rd P3.out).2 (R_rd P4.out).1 (R_rd P4.out).2 FQ.out)).mono ?_;rintro e w19 ⟨rfl,hb⟩;replace HM:=A_ (below_step HM.out hb);replace BKs:=A_ (blk_below BKs.out hb);replace BKg:=A_ (blk_below BKg.out hb);replace P2:=A_ (Kd.S_below P2.out hb);replace P3:=A_ (Kd.R_below P3.out hb);replace P4:=A_ (Kd.R_below P4.out hb);clear hb en2 en3 en4 yg0 yg1 yg2 yg3 yg4))
  go_ret;exact⟨rfl,below_step HB8.out HM.out⟩
end Go.Proofs.YtalfefmnlnkcaaaGreatDoor.P
end
section
namespace Go.Proofs.YtalfefmnlnkcaaaGreatDoor.Tx
open Go.RowKit Go.Proofs.YtalfefmnlnkcaaaGreatDoor.P Go.Proofs.YtalfefmnlnkcaaaGreatDoorW PrintWords PrintLast PrintMore Go.Proofs.YtalfefmnlnkcaaaGreatDoor.B
theorem size_one (n:Int):(strOfNums [n]).size=1:=by simp[strOfNums,ByteArray.size]
theorem mark_l (d:Nat):∀(k:Nat)(x:Int)(t:BA),0≤x→x<2^d→x<4611686018427387904→d<k→t.size+d≤1000→∃r,laws_markText.l0 k x t=some r:=by
 induction d with
 |zero=>
  intro k x t h0 h1 _ hk ht;obtain⟨k,rfl⟩:∃m,k=m+1:=⟨k-1,by omega⟩;simp only[laws_markText.l0];rw[if_neg (by omega),if_pos (by omega)];exact⟨_,rfl⟩
 |succ d ih=>
  intro k x t h0 h1 h2 hk ht;obtain⟨k,rfl⟩:∃m,k=m+1:=⟨k-1,by omega⟩;simp only[laws_markText.l0]
  by_cases hx:x>0
  ·rw[if_pos hx]
   simp only[oB_,size_one];rw[if_pos (by omega)];have e:Int.tdiv x 10=x / 10:=Int.tdiv_eq_ediv_of_nonneg h0;have hp:(2:Int)^(d+1)=2*2^d:=by rw[Int.pow_succ];omega
   rw[e,w64 (n:=x / 10) (by omega) (by omega)];refine ih k _ _ (by omega) (by omega) (by omega) (by omega) ?_;rw[sA_,size_one];omega
  ·rw[if_neg hx,if_pos (by omega)]
   exact⟨_,rfl⟩
theorem mark_ev (x:Int)(h0:0≤x)(h1:x<4611686018427387904):∃r,Ev (fun k=>laws_markText.f k x) r:=by
 by_cases h:x≤0
 ·exact⟨_,by unfold laws_markText.f;simp only[h,if_true];exact Ev.now _⟩
 ·obtain⟨r,hr⟩:=mark_l 62 63 x ⟨#[]⟩ h0 (by omega) h1 (by omega) (by decide)
  refine⟨r,Ev.of (fun k=>laws_markText.mono _ k) (k:=63) ?_⟩;unfold laws_markText.f;rw[if_neg h];exact hr
noncomputable def mt (x:Int):BA:=Classical.epsilon fun r=>Ev (fun k=>laws_markText.f k x) r
theorem mt_ev (x:Int)(h0:0≤x)(h1:x<4611686018427387904):Ev (fun k=>laws_markText.f k x) (mt x):=Classical.epsilon_spec (mark_ev x h0 h1)
def Marked (l:List BA)(x:Int):Prop:=∀j,j<l.length→rdOf bE_ l j=mt (x+j)
theorem markS_l (n:Nat)(x:Int)(hn:n<1152921504606846976)(h0:0≤x)(h1:x<1152921504606846976)(d:Nat):∀(i:Nat)(l:List BA),l.length=n→i+d=n →
  (∀j,j<i→rdOf bE_ l j=mt (x+j)) →
  ∃l',Ev (fun k=>laws_markStringS.l0 k l (x+i) i) (x+n,l')∧l'.length=n∧Marked l' x:=by
 induction d with
 |zero=>
  intro i l hl hi hm;obtain rfl:i=n:=by omega
  refine⟨l,Ev.of (fun k=>laws_markStringS.mono_l k _ _ _) (k:=1) ?_,hl,fun j hj=>hm j (by omega)⟩;simp only[laws_markStringS.l0];rw[if_neg (by omega)]
 |succ d ih=>
  intro i l hl hi hm;have hlen:(l.set i (mt (x+i))).length=n:=by rw[List.length_set];exact hl
  obtain⟨l',h,h2,h3⟩:=ih (i+1) (l.set i (mt (x+i))) hlen (by omega) (fun j hj=>by
   unfold rdOf;rw[gD_];simp only[tN_];rcases Nat.lt_or_ge j i with hji|hji
   ·rw[List.getElem?_set_ne (by omega)]
    have:=hm j hji;unfold rdOf at this;rw[gD_]at this
    simpa using this
   ·obtain rfl:j=i:=by omega
    rw[List.getElem?_set_self (by omega)];rfl)
  refine⟨l',Ev.step (f:=fun k=>(laws_markText.f k (x+i)).bind fun t=>laws_markStringS.l0 k (l.set i t) (x+(i+1:Nat)) (i+1:Nat)) (fun k=>?_) (Ev.bind (mt_ev (x+i) (by omega) (by omega)) h),h2,h3⟩;simp only[laws_markStringS.l0];rw[if_pos (by omega)]
  congr 1
  funext t
  rw[if_pos (by omega),w64 (n:=x+i+1) (by omega) (by omega),w64 (n:=(i:Int)+1) (by omega) (by omega)];simp only[tN_];rw[show x+(i:Int)+1=x+((i+1:Nat):Int)from by omega,show(i:Int)+1=((i+1:Nat):Int)from by omega]
theorem markS_ev (l:List BA)(x:Int)(hn:l.length<1152921504606846976)(h0:0≤x)(h1:x<1152921504606846976):
  ∃l',Ev (fun k=>laws_markStringS.f k l x) (x+l.length,l')∧l'.length=l.length∧Marked l' x:=by
 obtain⟨l',h,h2,h3⟩:=markS_l l.length x hn h0 h1 l.length 0 l rfl (by omega) (fun j hj=>by omega);refine⟨l',?_,h2,h3⟩;unfold laws_markStringS.f
 simpa using h
theorem heldS_l (l:List BA)(x:Int)(hn:l.length<1152921504606846976)(h0:0≤x)(h1:x<1152921504606846976)(hm:Marked l x)(d:Nat):∀(i:Nat),i+d=l.length →
  Ev (fun k=>laws_heldStringS.l0 k l (x+i) i) (x+l.length):=by
 induction d with
 |zero=>
  intro i hi;refine Ev.of (fun k=>laws_heldStringS.mono_l k _ _ _) (k:=1) ?_;simp only[laws_heldStringS.l0];rw[if_neg (by omega),show(i:Nat)=l.length from by omega]
 |succ d ih=>
  intro i hi;refine Ev.step (f:=fun k=>(laws_markText.f k (x+i)).bind fun t=>if(rdOf bE_ l (i:Int)).toList=t.toList then laws_heldStringS.l0 k l (x+(i+1:Nat)) (i+1:Nat)else some (-1)) (fun k=>?_) (Ev.bind (mt_ev (x+i) (by omega) (by omega)) ?_)
  ·simp only[laws_heldStringS.l0]
   rw[if_pos (by omega),if_pos (by omega),w64 (n:=x+i+1) (by omega) (by omega),w64 (n:=(i:Int)+1) (by omega) (by omega),show x+(i:Int)+1=x+((i+1:Nat):Int)from by omega,show(i:Int)+1=((i+1:Nat):Int)from by omega]
  ·have:=hm i (by omega)
   simp only[this,if_true];exact ih (i+1) (by omega)
theorem heldS_ev (l:List BA)(x:Int)(hn:l.length<1152921504606846976)(h0:0≤x)(h1:x<1152921504606846976)(hm:Marked l x):Ev (fun k=>laws_heldStringS.f k l x) (x+l.length):=by
 unfold laws_heldStringS.f;have:=heldS_l l x hn h0 h1 hm l.length 0 (by omega)
 simpa using this
theorem eqS_l (l:List BA)(hn:l.length<1152921504606846976)(d:Nat):∀(i:Nat),i+d=l.length→Ev (fun k=>laws_eqStringS.l0 k l l i) true:=by
 induction d with
 |zero=>
  intro i hi;refine Ev.of (fun k=>laws_eqStringS.mono_l k _ _ _) (k:=1) ?_;simp only[laws_eqStringS.l0];rw[if_neg (by omega)]
 |succ d ih=>
  intro i hi;refine Ev.step (f:=fun k=>laws_eqStringS.l0 k l l (i+1:Nat)) (fun k=>?_) (ih (i+1) (by omega));simp only[laws_eqStringS.l0];rw[if_pos (by omega),if_pos (by omega),if_pos (by omega),if_pos trivial,w64 (n:=(i:Int)+1) (by omega) (by omega),show(i:Int)+1=((i+1:Nat):Int)from by omega]
theorem eqS_ev (l:List BA)(hn:l.length<1152921504606846976):Ev (fun k=>laws_eqStringS.f k l l) true:=by
 unfold laws_eqStringS.f;simp only[if_true];exact eqS_l l hn l.length 0 (by omega)
end Go.Proofs.YtalfefmnlnkcaaaGreatDoor.Tx
end
section
namespace Go.Proofs.YtalfefmnlnkcaaaGreatDoor.Tr
open Go.RowKit Go.Proofs.YtalfefmnlnkcaaaGreatDoor.P Go.Proofs.YtalfefmnlnkcaaaGreatDoorW PrintWords PrintLast PrintMore Go.Proofs.YtalfefmnlnkcaaaGreatDoor.B
abbrev MR:=S98
abbrev MI:=S76
abbrev MK:=S83
abbrev MH:=S43
theorem rd_MI {l:List MI}{i:Nat}(h:i<l.length):rd_T76 l (i:Int)=l[i]:=by
 simp[rd_T76,List.getD,gE_ h]
theorem rd_MH {l:List MH}{i:Nat}(h:i<l.length):rd_T43 l (i:Int)=l[i]:=by
 simp[rd_T43,List.getD,gE_ h]
theorem rd_S {l:List BA}{i:Nat}(h:i<l.length):rdOf bE_ l (i:Int)=l[i]:=by
 simp[rdOf,List.getD,gE_ h]
theorem nn (i:Nat):(0:Int)≤(i:Int):=by omega
theorem eqS_l (l:List BA)(hl:l.length≤1048576)(d:Nat):∀(i:Nat),i+d=l.length→Ev (fun k=>laws_eqStringS.l0 k l l (i:Int)) true:=by
 induction d with
 |zero=>
  intro i hi;refine Ev_succ ?_;simp only[laws_eqStringS.l0,show ¬((i:Int)<(l.length:Int))from by omega,if_false];exact Ev.now _
 |succ d ih=>
  intro i hi;have hlt:i<l.length:=by omega
  have w1:wrap64 ((i:Int)+1)=((i+1:Nat):Int):=by rw[w64 (by omega) (by omega)];rfl
  have next:=ih (i+1) (by omega);refine Ev_succ ?_;simp only[laws_eqStringS.l0,show(i:Int)<(l.length:Int)from by omega,nn i,if_true,bne_self_eq_false,bF_,if_false,oB_];rw[w1];exact next
theorem eqS_ev (l:List BA)(hl:l.length≤1048576):Ev (fun k=>laws_eqStringS.f k l l) true:=by
 unfold laws_eqStringS.f;simp only[if_true];exact eqS_l l hl l.length 0 (by omega)
theorem eqR_l (l:List MR)(hl:l.length≤1048576)(d:Nat):∀(i:Nat),i+d=l.length→Ev (fun k=>laws_eqRuleS.l0 k l l (i:Int)) true:=by
 induction d with
 |zero=>
  intro i hi;refine Ev_succ ?_;simp only[laws_eqRuleS.l0,show ¬((i:Int)<(l.length:Int))from by omega,if_false];exact Ev.now _
 |succ d ih=>
  intro i hi;have hlt:i<l.length:=by omega
  have w1:wrap64 ((i:Int)+1)=((i+1:Nat):Int):=by rw[w64 (by omega) (by omega)];rfl
  have next:=ih (i+1) (by omega);refine Ev_succ ?_;simp only[laws_eqRuleS.l0,laws_eqRule.f,show(i:Int)<(l.length:Int)from by omega,nn i,if_true,bne_self_eq_false,bF_,if_false,oB_];rw[w1];exact next
theorem eqR_ev (l:List MR)(hl:l.length≤1048576):Ev (fun k=>laws_eqRuleS.f k l l) true:=by
 unfold laws_eqRuleS.f;simp only[if_true];exact eqR_l l hl l.length 0 (by omega)
theorem eqI_l (l:List MI)(hl:l.length≤1048576)(d:Nat):∀(i:Nat),i+d=l.length→Ev (fun k=>laws_eqItemS.l0 k l l (i:Int)) true:=by
 induction d with
 |zero=>
  intro i hi;refine Ev_succ ?_;simp only[laws_eqItemS.l0,show ¬((i:Int)<(l.length:Int))from by omega,if_false];exact Ev.now _
 |succ d ih=>
  intro i hi;have hlt:i<l.length:=by omega
  have w1:wrap64 ((i:Int)+1)=((i+1:Nat):Int):=by rw[w64 (by omega) (by omega)];rfl
  have next:=ih (i+1) (by omega);refine Ev_succ ?_;simp only[laws_eqItemS.l0,laws_eqItem.f,show(i:Int)<(l.length:Int)from by omega,nn i,if_true,bne_self_eq_false,bF_,if_false,oB_];rw[w1];exact next
theorem eqI_ev (l:List MI)(hl:l.length≤1048576):Ev (fun k=>laws_eqItemS.f k l l) true:=by
 unfold laws_eqItemS.f;simp only[if_true];exact eqI_l l hl l.length 0 (by omega)
theorem eqK_l (l:List MK)(hl:l.length≤1048576)(d:Nat):∀(i:Nat),i+d=l.length→Ev (fun k=>laws_eqLookS.l0 k l l (i:Int)) true:=by
 induction d with
 |zero=>
  intro i hi;refine Ev_succ ?_;simp only[laws_eqLookS.l0,show ¬((i:Int)<(l.length:Int))from by omega,if_false];exact Ev.now _
 |succ d ih=>
  intro i hi;have hlt:i<l.length:=by omega
  have w1:wrap64 ((i:Int)+1)=((i+1:Nat):Int):=by rw[w64 (by omega) (by omega)];rfl
  have next:=ih (i+1) (by omega);refine Ev_succ ?_;simp only[laws_eqLookS.l0,laws_eqLook.f,show(i:Int)<(l.length:Int)from by omega,nn i,if_true,bne_self_eq_false,bF_,if_false,oB_];rw[w1];exact next
theorem eqK_ev (l:List MK)(hl:l.length≤1048576):Ev (fun k=>laws_eqLookS.f k l l) true:=by
 unfold laws_eqLookS.f;simp only[if_true];exact eqK_l l hl l.length 0 (by omega)
theorem eqH_l (l:List MH)(hl:l.length≤1048576)(hs:∀h∈l,h.f3.f0.length≤1048576∧h.f3.f1.length≤1048576∧h.f5.length≤1048576)(d:Nat):∀(i:Nat),i+d=l.length→Ev (fun k=>laws_eqHouseS.l0 k l l (i:Int)) true:=by
 induction d with
 |zero=>
  intro i hi;refine Ev_succ ?_;simp only[laws_eqHouseS.l0,show ¬((i:Int)<(l.length:Int))from by omega,if_false];exact Ev.now _
 |succ d ih=>
  intro i hi;have hlt:i<l.length:=by omega
  have w1:wrap64 ((i:Int)+1)=((i+1:Nat):Int):=by rw[w64 (by omega) (by omega)];rfl
  have next:=ih (i+1) (by omega);refine Ev_succ ?_;obtain⟨s0,s1,s2⟩:=hs _ (List.getElem_mem hlt);simp only[laws_eqHouseS.l0,show(i:Int)<(l.length:Int)from by omega,nn i,if_true,rd_MH hlt];rw[w1];refine Ev.bind (a:=true) ?_ ?_
  ·unfold laws_eqHouse.f
   simp only[if_true,bne_self_eq_false,bF_,if_false,ne_eq,not_true_eq_false,beq_self_eq_true];refine Ev.bind (a:=true) ?_ ?_
   ·unfold laws_eqGroup.f
    refine Ev.bind (eqS_ev _ s0) ?_;simp only[if_true];refine Ev.bind (eqR_ev _ s1) ?_;simp only[if_true];exact Ev.now _
   ·simp only[if_true]
    refine Ev.bind (eqI_ev _ s2) ?_;simp only[if_true];exact Ev.now _
  ·simp only[if_true]
   exact next
theorem eqH_ev (l:List MH)(hl:l.length≤1048576)(hs:∀h∈l,h.f3.f0.length≤1048576∧h.f3.f1.length≤1048576∧h.f5.length≤1048576):Ev (fun k=>laws_eqHouseS.f k l l) true:=by
 unfold laws_eqHouseS.f;simp only[if_true];exact eqH_l l hl hs l.length 0 (by omega)
theorem eqT_ev (f0:BA)(f1:Int)(f2:List MH)(f3:List BA)(f4:List MK)(h2:f2.length≤1048576)(hs:∀h∈f2,h.f3.f0.length≤1048576∧h.f3.f1.length≤1048576∧h.f5.length≤1048576)(h3:f3.length≤1048576)(h4:f4.length≤1048576):
  Ev (fun k=>laws_eqTrip.f k f0 f1 f2 f3 f4 f0 f1 f2 f3 f4) true:=by
 unfold laws_eqTrip.f;simp only[if_true,bne_self_eq_false,bF_,if_false,ne_eq,not_true_eq_false];refine Ev.bind (eqH_ev f2 h2 hs) ?_;simp only[if_true];refine Ev.bind (eqS_ev f3 h3) ?_;simp only[if_true];refine Ev.bind (eqK_ev f4 h4) ?_;simp only[if_true];exact Ev.now _
theorem szS_l (l:List BA)(hl:l.length≤17592186044416)(hs:∀s∈l,s.size≤4611686018427387904)(d:Nat):∀(i:Nat)(x:Int),i+d=l.length→0≤x→x≤1048576 →
  ∃r:Int,Ev (fun k=>laws_szStringS.l0 k l x (i:Int)) r∧r≤1048576∧(0≤r→∀s∈l.drop i,s.size≤1048576):=by
 induction d with
 |zero=>
  intro i x hi h0 h1;refine⟨x,Ev_succ ?_,h1,fun _ p hp=>?_⟩
  ·simp only[laws_szStringS.l0,show ¬((i:Int)<(l.length:Int))from by omega,if_false]
   exact Ev.now _
  ·rw[List.drop_eq_nil_of_le (by omega)]at hp;cases hp
 |succ d ih=>
  intro i x hi h0 h1;have hlt:i<l.length:=by omega
  have hr:=rd_S hlt;have w1:wrap64 ((i:Int)+1)=((i+1:Nat):Int):=by rw[w64 (by omega) (by omega)];rfl
  have f1:(i:Int)<(l.length:Int):=by omega
  have z0:=hs l[i] (List.getElem_mem hlt);rw[dE_ hlt];generalize l[i]=p at hr z0 ⊢;have w2:wrap64 (x-(p.size:Int))=x-(p.size:Int):=w64 (by omega) (by omega)
  by_cases hn:x-(p.size:Int)<0
  ·refine⟨-1,Ev_succ ?_,by omega,fun h=>by omega⟩
   simp only[laws_szStringS.l0,f1,nn i,if_true,hr,w2,hn,oB_,show((-1:Int)<0)from by omega];exact Ev.now _
  ·obtain⟨r,er,r2,r3⟩:=ih (i+1) (x-(p.size:Int)) (by omega) (by omega) (by omega)
   refine⟨r,Ev_succ ?_,r2,fun h s hq=>?_⟩
   ·simp only[laws_szStringS.l0,f1,nn i,if_true,hr,w2,hn,if_false,oB_]
    rw[w1];exact er
   ·rcases List.mem_cons.1 hq with rfl|hq
    ·omega
    ·exact r3 h s hq
theorem szS_ev (l:List BA)(hl:l.length≤17592186044416)(hs:∀s∈l,s.size≤4611686018427387904)(x:Int)(h0:0≤x)(h1:x≤1048576):
  ∃r:Int,Ev (fun k=>laws_szStringS.f k l x) r∧r≤1048576∧(0≤r→l.length≤1048576∧∀s∈l,s.size≤1048576):=by
 unfold laws_szStringS.f;have w1:wrap64 (x-(l.length:Int))=x-(l.length:Int):=w64 (by omega) (by omega);rw[w1]
 by_cases c1:x-(l.length:Int)<0
 ·exact⟨-1,by simp only[c1,if_true];exact Ev.now _,by omega,fun h=>by omega⟩
 ·obtain⟨r,e,h2,h3⟩:=szS_l l hl hs l.length 0 (x-(l.length:Int)) (by omega) (by omega) (by omega)
  refine⟨r,by simp only[c1,if_false];exact e,h2,fun h=>⟨by omega,?_⟩⟩
  simpa using h3 h
theorem set_next {α β:Type}(f:α→β)(l:List α)(z:β){i d:Nat}(hi:i+(d+1)=l.length)(h:i<l.length):
  ((l.take i).map f++List.replicate (d+1) z).set i (f l[i])=(l.take (i+1)).map f++List.replicate d z:=by
 have e:((l.take i).map f).length=i:=by rw[List.length_map,lT_];omega
 rw[List.set_append_right i _ (by omega),e,Nat.sub_self,List.replicate_succ,l0_,List.take_succ_eq_append_getElem h,List.map_append,List.append_assoc];rfl
theorem fill_len {α β:Type}(f:α→β)(l:List α)(z:β){i d:Nat}(hi:i+(d+1)=l.length):(i:Int)<(((l.take i).map f++List.replicate (d+1) z).length:Int):=by
 rw[lA_,List.length_map,lT_,List.length_replicate];omega
theorem toS_l (l:List BA)(hl:l.length≤1048576)(d:Nat):∀(i:Nat),i+d=l.length→Ev (fun k=>laws_toStringS.l0 k l ((l.take i).map id++List.replicate d (⟨#[]⟩:BA)) (i:Int)) (l.map id):=by
 induction d with
 |zero=>
  intro i hi;refine Ev_succ ?_;simp only[laws_toStringS.l0,show ¬((i:Int)<(l.length:Int))from by omega,if_false];rw[List.take_of_length_le (by omega),List.replicate_zero,List.append_nil];exact Ev.now _
 |succ d ih=>
  intro i hi;have hlt:i<l.length:=by omega
  have w1:wrap64 ((i:Int)+1)=((i+1:Nat):Int):=by rw[w64 (by omega) (by omega)];rfl
  have f1:(i:Int)<(l.length:Int):=by omega
  refine Ev_succ ?_;simp only[laws_toStringS.l0,f1,fill_len id l (⟨#[]⟩:BA) hi,nn i,if_true,rd_S hlt,tN_,oB_];rw[w1,show l[i]=id l[i]from rfl,set_next id l _ hi hlt];exact ih (i+1) (by omega)
theorem toS_ev (l:List BA)(hl:l.length≤1048576):Ev (fun k=>laws_toStringS.f k l) l:=by
 have:=toS_l l hl l.length 0 (Nat.zero_add _);rw[List.take_zero,List.map_nil,List.nil_append,List.map_id]at this;unfold laws_toStringS.f;simp only[nn,if_true,tN_,show l.length≤17592186044416 from by omega];exact this
end Go.Proofs.YtalfefmnlnkcaaaGreatDoor.Tr
end
section
namespace Go.Proofs.YtalfefmnlnkcaaaGreatDoor.Ad
open Go.RowKit Go.Proofs.YtalfefmnlnkcaaaGreatDoor.P Go.Proofs.YtalfefmnlnkcaaaGreatDoorW PrintWords PrintLast PrintMore Go.Proofs.YtalfefmnlnkcaaaGreatDoor.B
theorem plain_all:∀n:Nat,n<256→spec_l1Plain.f (n:Int)=some (plainB (UInt8.ofNat n)):=by decide +kernel
theorem of_toNat (c:UInt8):UInt8.ofNat c.toNat=c:=UInt8.ofNat_toNat
theorem nums_one (n:Nat)(h:n<256):strOfNums [(n:Int)%256]=ofL [UInt8.ofNat n]:=by
 unfold strOfNums ofL;simp only[List.map_cons,List.map_nil,ByteArray.mk.injEq]
 congr 2
 rw[show((n:Int)%256)=(n:Int)from by omega];simp
theorem drop_at {l:List UInt8}{i:Nat}(h:i<l.length):l.drop i=l[i]::l.drop (i+1):=dE_ h
theorem bt_get (s:BA)(i:Nat)(h:i<(L s).length):bt s i=(((L s)[i]).toNat:Int):=by
 rw[bt_L,gD_,gE_ h];rfl
theorem app_nil (a:BA):a++ofL []=a:=by apply L_inj;rw[L_app,L_of,List.append_nil]
theorem bt_at {s:BA}{i:Nat}{c:UInt8}{l:List UInt8}(h:(L s).drop i=c::l):i<s.size∧bt s i=(c.toNat:Int)∧(L s).drop (i+1)=l:=by
 have hl:i<(L s).length:=by
  rcases Nat.lt_or_ge i (L s).length with h'|h'
  ·exact h'
  ·rw[List.drop_eq_nil_of_le h']at h;cases h
 have hd:(L s).drop i=(L s)[i]::(L s).drop (i+1):=dE_ hl;rw[h]at hd;injection hd with h1 h2;refine⟨by rw[←L_size];exact hl,?_,h2.symm⟩;rw[bt_L,gD_,gE_ hl,←h1];rfl
theorem bt_end {s:BA}{i:Nat}(h:(L s).drop i=[]):s.size≤i:=by
 rw[←L_size];exact List.drop_eq_nil_iff.1 h
theorem u8_eq {a b:UInt8}:((a.toNat:Int)=(b.toNat:Int))↔a=b:=by
 constructor
 ·intro h;exact UInt8.toNat_inj.1 (by omega)
 ·intro h;rw[h]
theorem rd_at {l:List BA}{i:Nat}(h:i<l.length):rdOf bE_ l (i:Int)=l[i]:=by
 unfold rdOf;rw[gD_,tN_,gE_ h];rfl
theorem hex_all:∀n:Nat,n<256→spec_l1Hex.f 2 (n:Int)=some (match hexN (UInt8.ofNat n)with|some x=>(x:Int)|none=>-1):=by decide +kernel
theorem sign_all:∀n:Nat,n<256→(spec_l1Sign.f (n:Int)).map L=some [37,fig (n / 16),fig (n%16)]:=by decide +kernel
theorem hex_ev (c:UInt8):Ev (fun k=>spec_l1Hex.f k (c.toNat:Int)) (match hexN c with|some x=>(x:Int)|none=>-1):=by
 refine Ev.of (fun k=>spec_l1Hex.mono _ k) (k:=2) ?_;have:=hex_all c.toNat c.toNat_lt
 rwa [of_toNat]at this
theorem sign_f (n:Nat)(h:n<256):spec_l1Sign.f (n:Int)=some (ofL [37,fig (n / 16),fig (n%16)]):=by
 have:=sign_all n h;obtain⟨s,hs,e⟩:=Option.map_eq_some_iff.1 this;rw[hs,←e,of_L]
theorem enc_ev (s acc:BA)(i n:Nat)(h:n<256)(hi:i<1000000)(ha:acc.size≤1000000){r:BA×Bool}
  (H:Ev (fun k=>spec_EscNorm.l0 k s (acc++ofL (encN n)) (i+1:Nat)) r):Ev (fun k=>spec_EscNorm.j2 k s acc (i:Int) (n:Int)) r:=by
 refine Ev.step (fun k=>?_) H;have hw:wrap64 ((i:Int)+1)=((i+1:Nat):Int):=by rw[w64 (by omega) (by omega)];omega
 simp only[spec_EscNorm.j2];rw[show((n:Int)%256)=(n:Int)from by omega,plain_all n h];simp only[oB_]
 by_cases hp:plainB (UInt8.ofNat n)=true
 ·have e:=nums_one n h
  rw[show((n:Int)%256)=(n:Int)from by omega]at e;have he:encN n=[UInt8.ofNat n]:=by unfold encN;rw[if_pos hp]
  have hz:=ofL_size [UInt8.ofNat n];rw[if_pos hp,e,if_pos (by simp at hz;omega),hw,he]
 ·have he:encN n=[37,fig (n / 16),fig (n%16)]:=by unfold encN;rw[if_neg hp]
  rw[if_neg hp,sign_f n h];simp only[oB_];have hz:=ofL_size [37,fig (n / 16),fig (n%16)];rw[if_pos (by simp at hz;omega),hw,he]
def escR (acc:BA)(o:Option (List UInt8)):BA×Bool:=match o with
 |some r=>(acc++ofL r,true)
 |none=>(⟨#[]⟩,false)
theorem escR_map (acc:BA)(x:List UInt8)(o:Option (List UInt8)):escR acc (o.map (x++·))=escR (acc++ofL x) o:=by
 cases o with
 |none=>rfl
 |some r=>simp only[escR,Option.map_some,ofL_app,ByteArray.append_assoc]
theorem esc_l (s:BA)(hs:s.size≤60)(n:Nat):∀(i:Nat)(acc:BA),i≤s.size→s.size-i≤n→acc.size≤3*i →
  Ev (fun k=>spec_EscNorm.l0 k s acc (i:Int)) (escR acc (esc ((L s).drop i))):=by
 have hL:=L_size s
 induction n with
 |zero=>
  intro i acc hi hn ha;refine Ev.of (fun k=>spec_EscNorm.mono_l k |>.1 _ _ _) (k:=1) ?_;simp only[spec_EscNorm.l0];rw[if_neg (by omega),List.drop_eq_nil_of_le (by omega)];simp only[esc,escR];rw[app_nil]
 |succ n ih=>
  intro i acc hi hn ha
  by_cases hlt:i<s.size
  ·have hlt':i<(L s).length:=by omega
   rw[drop_at hlt'];have hb:=bt_get s i hlt'
   by_cases hc:(L s)[i]=37
   ·have hb37:bt s i=37:=by rw[hb,hc];rfl
    have w2:wrap64 ((i:Int)+2)=((i+2:Nat):Int):=by rw[w64 (by omega) (by omega)];omega
    have w1:wrap64 ((i:Int)+1)=((i+1:Nat):Int):=by rw[w64 (by omega) (by omega)];omega
    rw[hc]
    by_cases h2:i+2<s.size
    ·have g1:i+1<(L s).length:=by omega
     have g2:i+2<(L s).length:=by omega
     rw[drop_at g1,drop_at g2];have b1:=bt_get s (i+1) g1;have b2:=bt_get s (i+2) g2;have q1:=hex_ev (L s)[i+1];have q2:=hex_ev (L s)[i+2];have l1:=@hexN_lt (L s)[i+1];have l2:=@hexN_lt (L s)[i+2];generalize (L s)[i+1]=ca at b1 q1 l1 ⊢;generalize (L s)[i+2]=cb at b2 q2 l2 ⊢;have e3:i+2+1=i+3:=rfl;have bad:Ev (fun k=>spec_EscNorm.j1 k s acc (i:Int) true) ((⟨#[]⟩:BA),false):=
      Ev.of (fun k=>spec_EscNorm.mono_l k |>.2.2 _ _ _ _) (k:=1) (by simp[spec_EscNorm.j1])
     refine Ev.step (f:=fun k=>(spec_l1Hex.f k (ca.toNat:Int)).bind fun t=>if t<0 then spec_EscNorm.j1 k s acc (i:Int) true else(spec_l1Hex.f k (cb.toNat:Int)).bind fun t2=>spec_EscNorm.j1 k s acc (i:Int) (decide (t2<0))) (fun k=>?_) ?_
     ·simp only[spec_EscNorm.l0]
      rw[if_pos (by omega),if_pos (by omega),if_pos hb37,w2,w1,if_neg (by omega),if_pos (by omega),if_pos (by omega),b1]
      congr 1
      funext t
      by_cases ht:t<0
      ·rw[if_pos ht,if_pos ht]
      ·rw[if_neg ht,if_neg ht,if_pos (by omega),if_pos (by omega),b2]
     ·refine Ev.bind q1 ?_
      cases ha':hexN ca with
      |none=>
       rw[esc_bad1 _ _ ha'];simp only[show((-1:Int)<0)from by omega,if_true];exact bad
      |some x=>
       have hx:=l1 ha';simp only[show ¬((x:Int)<0)from by omega,if_false];refine Ev.bind q2 ?_;cases hb':hexN cb with
       |none=>
        rw[esc_bad2 _ _ hb'];simp only[show decide ((-1:Int)<0)=true from by decide];exact bad
       |some y=>
        have hy:=l2 hb';simp only[show decide ((y:Int)<0)=false from by simp];rw[ha']at q1;rw[hb']at q2;refine Ev.step (f:=fun k=>(spec_l1Hex.f k (ca.toNat:Int)).bind fun t=>(spec_l1Hex.f k (cb.toNat:Int)).bind fun t2=>spec_EscNorm.j2 k s acc ((i+2:Nat):Int) (wrap64 (wrap64 (t*16)+t2))) (fun k=>?_) ?_
        ·simp only[spec_EscNorm.j1]
         rw[if_neg (by simp),w1,w2,if_pos (by omega),if_pos (by omega),b1]
         congr 1
         funext t
         rw[if_pos (by omega),if_pos (by omega),b2]
        ·refine Ev.bind q1 (Ev.bind q2 ?_)
         rw[esc_sign _ ha' hb'];rw[show wrap64 (wrap64 ((x:Int)*16)+(y:Int))=((x*16+y:Nat):Int)from by rw[w64 (n:=(x:Int)*16) (by omega) (by omega),w64 (by omega) (by omega)];omega];refine enc_ev s acc (i+2) (x*16+y) (by omega) (by omega) (by omega) ?_;rw[escR_map];exact ih (i+2+1) _ (by omega) (by omega) (by have z:=ofL_size (encN (x*16+y));have:=encN_len (x*16+y);rw[sA_];omega)
    ·rw[esc_short (by rw[List.length_drop];omega)]
     refine Ev.of (fun k=>spec_EscNorm.mono_l k |>.1 _ _ _) (k:=2) ?_;simp only[spec_EscNorm.l0,spec_EscNorm.j1];rw[if_pos (by omega),if_pos (by omega),if_pos hb37,w2,if_pos (by omega)];rfl
   ·have hb37:¬bt s i=37:=by
     rw[hb];intro e;exact hc (UInt8.toNat_inj.1 (by have:(37:UInt8).toNat=37:=rfl;omega))
    rw[esc_plain _ hc];have hlt8:=(L s)[i].toNat_lt;refine Ev.step (f:=fun k=>spec_EscNorm.j2 k s acc (i:Int) (((L s)[i].toNat:Nat):Int)) (fun k=>?_) ?_
    ·simp only[spec_EscNorm.l0]
     rw[if_pos (by omega),if_pos (by omega),if_neg hb37,hb,w64 (by omega) (by omega)]
    ·refine enc_ev s acc i _ (by omega) (by omega) (by omega) ?_
     rw[escR_map];exact ih (i+1) _ (by omega) (by omega) (by have z:=ofL_size (encN (L s)[i].toNat);have:=encN_len (L s)[i].toNat;rw[sA_];omega)
  ·refine Ev.of (fun k=>spec_EscNorm.mono_l k |>.1 _ _ _) (k:=1) ?_
   simp only[spec_EscNorm.l0];rw[if_neg (by omega),List.drop_eq_nil_of_le (by omega)];simp only[esc,escR];rw[app_nil]
theorem escNorm_ev (s:BA):Ev (fun k=>spec_EscNorm.f k s) (escNorm s):=by
 unfold spec_EscNorm.f escNorm
 by_cases h:s.size>60
 ·simp only[show((s.size:Int)>60)from by omega,if_true,h]
  exact Ev.now _
 ·simp only[show ¬((s.size:Int)>60)from by omega,if_false,h]
  have:=esc_l s (by omega) s.size 0 ⟨#[]⟩ (by omega) (by omega) (lL_ 0);simp only[List.drop_zero]at this;have e:escR (⟨#[]⟩:BA) (esc (L s))=escO (esc (L s)):=by
   unfold escR escO;cases esc (L s)with
   |none=>rfl
   |some r=>simp only[pI_,and_true];apply L_inj;rw[L_app];rfl
  rw[←e];exact this
theorem norm_ev (s:BA):Ev (fun k=>spec_l1Norm.f k s) (isNorm s):=by
 unfold spec_l1Norm.f isNorm;refine Ev.bind (escNorm_ev s) ?_
 by_cases h:(escNorm s).2=true
 ·simp only[h,if_true,tA_]
  exact Ev.now _
 ·simp only[h,if_false,fA_]
  exact Ev.now _
theorem spec_house_l (s:BA)(hs:s.size≤140737488351232)(d:Nat):∀(k:Nat)(i:Nat),i+d=s.size→d<k →
  spec_l1House.l0 k s (i:Int)=some (smallFrom s d i&&(decide (1≤s.size)&&decide (s.size≤5))):=by
 induction d with
 |zero=>
  intro k i h hk;obtain⟨k,rfl⟩:∃m,k=m+1:=⟨k-1,by omega⟩;simp only[spec_l1House.l0,smallFrom,spec_l6In.f];rw[if_neg (by omega)]
  by_cases h1:1≤s.size
  ·rw[if_pos (by omega)];simp[h1];omega
  ·rw[if_neg (by omega)];simp[h1]
 |succ d ih=>
  intro k i h hk;obtain⟨k,rfl⟩:∃m,k=m+1:=⟨k-1,by omega⟩;simp only[spec_l1House.l0,smallFrom];rw[if_pos (by omega),if_pos (by omega)]
  by_cases h1:bt s i<97
  ·rw[if_pos h1,if_pos h1];rfl
  ·rw[if_neg h1,if_neg h1]
   by_cases h2:bt s i>122
   ·rw[if_pos h2,if_pos h2];rfl
   ·rw[if_neg h2,if_neg h2,w64 (by omega) (by omega)]
    exact ih k (i+1) (by omega) (by omega)
theorem house_ev (s:BA)(hs:s.size≤140737488351232):Ev (fun k=>spec_l1House.f k s) (isHouse s):=by
 refine Ev.of (fun k=>spec_l1House.mono _ k) (k:=s.size+1) ?_;unfold spec_l1House.f;have:=spec_house_l s hs s.size (s.size+1) 0 (by omega) (by omega);rw[show((0:Nat):Int)=0 from rfl]at this;rw[this];unfold isHouse isSmall;cases smallFrom s s.size 0 <;> simp
structure Parts (ps:List BA):Prop where
 few:ps.length≤1000
 short:∀p∈ps,p.size≤1048576
def fin (asks:Bool)(ask b:BA):BA:=if asks=true then(b++⟨#[63]⟩)++ask else b
theorem path_end (acc house:BA)(parts:List BA)(asks:Bool)(ask:BA)(i:Nat)(hi:i=parts.length)(ha:acc.size≤2000000000)(hq:ask.size≤1048576):
  Ev (fun k=>spec_l1Path.l0 k acc (i:Int) house parts asks ask) (fin asks ask acc):=by
 refine Ev.of (fun k=>spec_l1Path.mono_l k _ _ _ _ _ _) (k:=1) ?_;simp only[spec_l1Path.l0,fin];rw[if_neg (by omega)]
 by_cases h:asks=true
 ·rw[if_pos h,if_pos h,if_pos (by omega),if_pos (by omega)]
 ·rw[if_neg h,if_neg h]
theorem path_l (house:BA)(parts:List BA)(asks:Bool)(ask:BA)(hP:Parts parts)(hq:ask.size≤1048576)(d:Nat):∀(i:Nat)(acc:BA),i+d=parts.length→1≤i→(acc.size:Int)≤1+(i:Int)*1048577 →
  Ev (fun k=>spec_l1Path.l0 k acc (i:Int) house parts asks ask) (fin asks ask ((parts.drop i).foldl (fun a q=>(a++⟨#[47]⟩)++q) acc)):=by
 have hf:=hP.few
 induction d with
 |zero=>
  intro i acc hi _ ha;rw[List.drop_eq_nil_of_le (by omega)];exact path_end acc house parts asks ask i (by omega) (by omega) hq
 |succ d ih=>
  intro i acc hi h1 ha;have hlt:i<parts.length:=by omega
  have hz:=hP.short parts[i] (List.getElem_mem hlt);rw[dE_ hlt,List.foldl_cons];have h47:(⟨#[47]⟩:BA).size=1:=rfl;have hsz:((acc++(⟨#[47]⟩:BA))++parts[i]).size=acc.size+1+parts[i].size:=by rw[sA_,sA_,h47]
  have f1:(i:Int)<(parts.length:Int):=by omega
  have f2:(i:Int)>0:=by omega
  have f3:acc.size+1≤9223372036854775807:=by omega
  have f4:0≤(i:Int):=by omega
  have f5:acc.size+1+parts[i].size≤9223372036854775807:=by omega
  have hw:wrap64 ((i:Int)+1)=((i+1:Nat):Int):=by rw[w64 (by omega) (by omega)];omega
  have h:=ih (i+1) ((acc++(⟨#[47]⟩:BA))++parts[i]) (by omega) (by omega) (by rw[hsz];omega);refine Ev.step (fun k=>?_) h;simp only[spec_l1Path.l0];rw[if_pos f1,if_pos f2,if_pos f3,if_pos f4,rd_at hlt,if_pos f5,hw]
theorem path_ev (house:BA)(parts:List BA)(asks:Bool)(ask:BA)(hP:Parts parts)(hq:ask.size≤1048576):
  Ev (fun k=>spec_l1Path.f k house parts asks ask) (pathB parts asks ask):=by
 unfold spec_l1Path.f
 match parts,hP with
 | [],hP=>
  have:=path_end ⟨#[47]⟩ house [] asks ask 0 rfl (by decide) hq;exact this
 |p::r,hP=>
  have hz:=hP.short p List.mem_cons_self;have hs:((⟨#[47]⟩:BA)++p).size=1+p.size:=by rw[sA_];rfl
  refine Ev.step (fun k=>?_) (path_l house (p::r) asks ask hP hq r.length 1 ((⟨#[47]⟩:BA)++p) (by simp;omega) (by omega) (by omega));have h47:(⟨#[47]⟩:BA).size=1:=rfl;have hr0:rdOf bE_ (p::r) 0=p:=rfl;simp only[spec_l1Path.l0];have f1:(0:Int)<((p::r).length:Int):=by simp only[List.length_cons];omega
  have f5:(⟨#[47]⟩:BA).size+p.size≤9223372036854775807:=by omega
  rw[if_pos f1,if_neg (by omega),if_pos (by omega),hr0,if_pos f5,w64 (by omega) (by omega)];rfl
theorem path_size (parts:List BA)(asks:Bool)(ask:BA)(hP:Parts parts)(hq:ask.size≤1048576):(pathB parts asks ask).size≤2000000000:=by
 have hf:=hP.few;have hb:((body parts).size:Int)≤1+(parts.length:Int)*1048577:=by
  match parts,hP with
  | [],_=>simp[body];decide
  |p::r,hP=>
   have key:∀(r:List BA)(acc:BA),(∀q∈r,q.size≤1048576)→((r.foldl (fun a q=>(a++⟨#[47]⟩)++q) acc).size:Int)≤(acc.size:Int)+(r.length:Int)*1048577:=by
    intro r
    induction r with
    |nil=>intro acc _;simp
    |cons q r ih=>
     intro acc h;have:=ih ((acc++⟨#[47]⟩)++q) (fun x hx=>h x (List.mem_cons_of_mem _ hx));have hq:=h q List.mem_cons_self;have h47:(⟨#[47]⟩:BA).size=1:=rfl;rw[List.foldl_cons];rw[sA_,sA_]at this;simp only[List.length_cons];omega
   have:=key r ((⟨#[47]⟩:BA)++p) (fun x hx=>hP.short x (List.mem_cons_of_mem _ hx));have hz:=hP.short p List.mem_cons_self;have hs:((⟨#[47]⟩:BA)++p).size=1+p.size:=by rw[sA_];rfl
   simp only[body,List.length_cons];omega
 unfold pathB;have h63:(⟨#[63]⟩:BA).size=1:=rfl
 split
 ·rw[sA_,sA_];omega
 ·omega
theorem text_ev (house:BA)(parts:List BA)(asks:Bool)(ask:BA)(hP:Parts parts)(hq:ask.size≤1048576)(hh:house.size≤1048576):
  Ev (fun k=>spec_l1Text.f k house parts asks ask) (textB house parts asks ask):=by
 unfold spec_l1Text.f;have hz:=path_size parts asks ask hP hq;simp only[show 2+house.size≤9223372036854775807 from by omega,if_true];refine Ev.bind (path_ev house parts asks ask hP hq) ?_;simp only[show 2+house.size+(pathB parts asks ask).size≤9223372036854775807 from by omega,if_true];exact Ev.now _
theorem ok_l (house:BA)(parts:List BA)(asks:Bool)(ask:BA)(hP:Parts parts)(hq:ask.size≤1048576)(hh:house.size≤1048576)(d:Nat):∀(i:Nat),i+d=parts.length →
  Ev (fun k=>spec_AddrOk.l0 k (i:Int) house parts asks ask) ((parts.drop i).all partOk&&decide ((textB house parts asks ask).size≤60)):=by
 have hf:=hP.few
 induction d with
 |zero=>
  intro i hi;rw[List.drop_eq_nil_of_le (by omega)];simp only[List.all_nil,tA_];refine Ev.step (f:=fun k=>(spec_l1Text.f k house parts asks ask).bind fun t=>some (decide ((t.size:Int)≤60))) (fun k=>?_) (Ev.bind (text_ev house parts asks ask hP hq hh) ?_)
  ·simp only[spec_AddrOk.l0]
   rw[if_neg (by omega)]
  ·have e:decide (((textB house parts asks ask).size:Int)≤60)=decide ((textB house parts asks ask).size≤60):=by rw[Bool.eq_iff_iff];simp;omega
   rw[e];exact Ev.now _
 |succ d ih=>
  intro i hi;have hlt:i<parts.length:=by omega
  rw[dE_ hlt,List.all_cons];refine Ev.step (f:=fun k=>(spec_l1Norm.f k parts[i]).bind fun t=>if t=true then(if parts[i].toList=[]then some false else if parts[i].toList=[46]then some false else if parts[i].toList=[46,46]then some false else spec_AddrOk.l0 k ((i+1:Nat):Int) house parts asks ask)else some false) (fun k=>?_) (Ev.bind (norm_ev parts[i]) ?_)
  ·simp only[spec_AddrOk.l0]
   rw[if_pos (by omega),if_pos (by omega),rd_at hlt,w64 (by omega) (by omega)];rfl
  ·by_cases h1:isNorm parts[i]=true
   ·by_cases h2:parts[i].toList=[]
    ·simp only[h1,h2,if_true]
     rw[show partOk parts[i]=false from by simp[partOk,h2]];exact Ev.now _
    ·by_cases h3:parts[i].toList=[46]
     ·simp only[h1,h3,if_true]
      rw[show partOk parts[i]=false from by simp[partOk,h3]];exact Ev.now _
     ·by_cases h4:parts[i].toList=[46,46]
      ·simp only[h1,h4,if_true]
       rw[show partOk parts[i]=false from by simp[partOk,h4]];exact Ev.now _
      ·simp only[h1,h2,h3,h4,if_true,if_false]
       rw[show partOk parts[i]=true from by simp[partOk,h1,h2,h3,h4],tA_];exact ih (i+1) (by omega)
   ·simp only[h1,if_false]
    rw[show partOk parts[i]=false from by simp[partOk,h1]];exact Ev.now _
theorem addrOk_ev (house:BA)(parts:List BA)(asks:Bool)(ask:BA)(hP:Parts parts)(hq:ask.size≤1048576)(hh:house.size≤1048576):
  Ev (fun k=>spec_AddrOk.f k house parts asks ask) (addrOk house parts asks ask):=by
 have hf:=hP.few;have bad:∀r,r=false→Ev (fun k=>spec_AddrOk.j0 k true house parts asks ask) r:=fun r hr=>by
  subst hr;exact Ev.of (fun k=>spec_AddrOk.mono_l k |>.1 _ _ _ _ _) (k:=1) (by simp[spec_AddrOk.j0])
 have good:Ev (fun k=>spec_AddrOk.j0 k false house parts asks ask) (parts.all partOk&&decide ((textB house parts asks ask).size≤60)):=by
  refine Ev.step (fun k=>?_) (by simpa using ok_l house parts asks ask hP hq hh parts.length 0 (by omega));simp[spec_AddrOk.j0]
 unfold spec_AddrOk.f;refine Ev.bind (house_ev house (by omega)) ?_
 by_cases h1:isHouse house=true
 ·simp only[h1,if_true]
  by_cases h2:parts.length≤5
  ·simp only[show ¬((parts.length:Int)>5)from by omega,if_false]
   refine Ev.bind (norm_ev ask) ?_
   by_cases h3:isNorm ask=true
   ·simp only[h3,if_true]
    by_cases h4:asks=true
    ·simp only[h4,if_true]
     rw[h4]at good;rw[show addrOk house parts true ask=(parts.all partOk&&decide ((textB house parts true ask).size≤60))from by simp[addrOk,h1,h2,h3]];exact good
    ·rw[show(fun k=>if asks=true then spec_AddrOk.j0 k false house parts asks ask else spec_AddrOk.j0 k (ask.toList != []) house parts asks ask)=(fun k=>spec_AddrOk.j0 k (ask.toList != []) house parts asks ask)from by funext k;rw[if_neg h4]]
     by_cases h5:ask.toList=[]
     ·obtain rfl:asks=false:=by simpa using h4
      simp only[h5,bne_self_eq_false,bF_,if_false];rw[show addrOk house parts false ask=(parts.all partOk&&decide ((textB house parts false ask).size≤60))from by simp[addrOk,h1,h2,h3,h5]];exact good
     ·rw[show(ask.toList != ([]:List UInt8))=true from by simp[h5]]
      exact bad _ (by simp[addrOk,h4,h5])
   ·simp only[h3,if_false]
    exact bad _ (by simp[addrOk,h3])
  ·simp only[show(parts.length:Int)>5 from by omega,if_true]
   exact bad _ (by simp[addrOk,h2])
 ·simp only[h1,if_false]
  exact bad _ (by simp[addrOk,h1])
theorem addrText_ev (house:BA)(parts:List BA)(asks:Bool)(ask:BA)(hP:Parts parts)(hq:ask.size≤1048576)(hh:house.size≤1048576):
  Ev (fun k=>spec_AddrText.f k house parts asks ask) (addrText house parts asks ask):=by
 unfold spec_AddrText.f addrText;refine Ev.bind (addrOk_ev house parts asks ask hP hq hh) ?_
 by_cases h:addrOk house parts asks ask=true
 ·simp only[h,if_true]
  exact Ev.bind (text_ev house parts asks ask hP hq hh) (Ev.now _)
 ·simp only[h,if_false]
  exact Ev.now _
def ints (l:List UInt8):List Int:=l.map fun c=>(c.toNat:Int)
theorem ints_app (a b:List UInt8):ints (a++b)=ints a++ints b:=by simp[ints]
theorem ints_len (a:List UInt8):(ints a).length=a.length:=by simp[ints]
theorem nums_ints (l:List UInt8):strOfNums (ints l)=ofL l:=by
 unfold strOfNums ofL ints;rw[List.map_map]
 congr 2
 have h:((fun n:Int=>UInt8.ofNat n.toNat) ∘ fun c:UInt8=>(c.toNat:Int))=id:=by funext c;simp
 exact(congrArg (fun f=>List.map f l) h).trans (List.map_id l)
theorem figv_all:∀n:Nat,n<256→impl_figureValue.f (n:Int)=some (match hexN (UInt8.ofNat n)with|some x=>((x:Int),true)|none=>(0,false)):=by decide +kernel
theorem figv (c:UInt8):impl_figureValue.f (c.toNat:Int)=some (match hexN c with|some x=>((x:Int),true)|none=>(0,false)):=by
 have:=figv_all c.toNat c.toNat_lt
 rwa [of_toNat]at this
theorem stands_all:∀n:Nat,n<256→impl_standsForItself.f (n:Int)=some (plainB (UInt8.ofNat n)):=by decide +kernel
def hexT:BA:=⟨#[48,49,50,51,52,53,54,55,56,57,65,66,67,68,69,70]⟩
theorem put_all:∀n:Nat,n<256→(plainB (UInt8.ofNat n)=true→[(n:Int)]=ints (encN n))∧(plainB (UInt8.ofNat n)=false→0≤(n:Int) / 16∧(n:Int) / 16<16∧0≤Go.bits .and .u8 (n:Int) 15∧Go.bits .and .u8 (n:Int) 15<16 ∧
  ([37,bt hexT ((n:Int) / 16),bt hexT (Go.bits .and .u8 (n:Int) 15)]:List Int)=ints (encN n)):=by decide +kernel
theorem sign_i (s:BA)(i:Nat)(hs:s.size≤60)(hi:i<s.size):
  impl_signByte.f s (i:Int)=some (if h:i+2<(L s).length then(match hexN ((L s)[i+1]'(by omega)),hexN ((L s)[i+2]'h)with|some x,some y=>(((x*16+y:Nat):Int),true)|_,_=>(0,false))else(0,false)):=by
 have hL:=L_size s;unfold impl_signByte.f;rw[w64 (n:=(s.size:Int)-i) (by omega) (by omega)]
 by_cases h:i+2<(L s).length
 ·rw[dif_pos h,if_neg (by omega),w64 (n:=(i:Int)+1) (by omega) (by omega),w64 (n:=(i:Int)+2) (by omega) (by omega),if_pos (by omega),if_pos (by omega)]
  have b1:=bt_get s (i+1) (by omega);have b2:=bt_get s (i+2) h;have l1:=@hexN_lt ((L s)[i+1]'(by omega))
  have l2:=@hexN_lt ((L s)[i+2]'h)
  rw[show((i:Int)+1)=((i+1:Nat):Int)from by omega,show((i:Int)+2)=((i+2:Nat):Int)from by omega,b1,b2];generalize (L s)[i+1]'(by omega)=ca at l1 ⊢
  generalize (L s)[i+2]'h=cb at l2 ⊢
  rw[figv ca,figv cb];simp only[oB_];rw[if_pos (by omega),if_pos (by omega)];cases ha:hexN ca with
  |none=>simp
  |some x=>
   cases hb:hexN cb with
   |none=>simp
   |some y=>
    have:=l1 ha;have:=l2 hb;simp only[if_true];rw[w64 (n:=(x:Int)*16) (by omega) (by omega),w64 (by omega) (by omega)]
    congr 2
    omega
 ·rw[dif_neg h,if_pos (by omega)]
theorem enc_i (s:BA)(acc:List UInt8)(n:Nat)(j:Int)(h:n<256)(ha:acc.length≤1000000)(k:Nat):
  ((impl_standsForItself.f (n:Int)).bind fun t=>(if t=true then(if(ints acc).length<140737488355328 then(impl_EscNorm.l0 k s (ints acc++[(n:Int)]) j)else(none))else(if 0≤((n:Int) / 16)then(if((n:Int) / 16)<16 then(if 0≤(Go.bits .and .u8 (n:Int) 15)then(if(Go.bits .and .u8 (n:Int) 15)<16 then((some (([37,bt (⟨#[48,49,50,51,52,53,54,55,56,57,65,66,67,68,69,70]⟩:BA) ((n:Int) / 16),bt (⟨#[48,49,50,51,52,53,54,55,56,57,65,66,67,68,69,70]⟩:BA) (Go.bits .and .u8 (n:Int) 15)]:List Int):List Int)).bind fun y=>(if(ints acc).length+y.length<140737488355328 then(impl_EscNorm.l0 k s (ints acc++y) j)else(none)))else(none))else(none))else(none))else(none))))=impl_EscNorm.l0 k s (ints (acc++encN n)) j:=by
 obtain⟨p1,p2⟩:=put_all n h;rw[stands_all n h];simp only[oB_];have hl:=ints_len acc;cases hp:plainB (UInt8.ofNat n)with
 |true=>rw[if_pos rfl,if_pos (by omega),ints_app,p1 hp]
 |false=>
  obtain⟨q1,q2,q3,q4,q5⟩:=p2 hp;rw[if_neg (by simp),if_pos q1,if_pos q2,if_pos q3,if_pos q4];unfold hexT at q5;rw[q5];have:=encN_len n;have:=ints_len (encN n);rw[if_pos (by omega),ints_app]
theorem esc_i (s:BA)(hs:s.size≤60)(n:Nat):∀(i:Nat)(acc:List UInt8),i≤s.size→s.size-i≤n→acc.length≤3*i →
  Ev (fun k=>impl_EscNorm.l0 k s (ints acc) (i:Int)) (escR (ofL acc) (esc ((L s).drop i))):=by
 have hL:=L_size s
 induction n with
 |zero=>
  intro i acc hi hn ha;refine Ev.of (fun k=>impl_EscNorm.mono_l k |> fun h=>h _ _ _) (k:=1) ?_;simp only[impl_EscNorm.l0];rw[if_neg (by omega),List.drop_eq_nil_of_le (by omega)];simp only[esc,escR];rw[app_nil,nums_ints]
 |succ n ih=>
  intro i acc hi hn ha
  by_cases hlt:i<s.size
  ·have hlt':i<(L s).length:=by omega
   rw[drop_at hlt'];have hb:=bt_get s i hlt'
   by_cases hc:(L s)[i]=37
   ·have hb37:bt s i=37:=by rw[hb,hc];rfl
    have w3:wrap64 (wrap64 ((i:Int)+2)+1)=((i+2+1:Nat):Int):=by rw[w64 (n:=(i:Int)+2) (by omega) (by omega),w64 (by omega) (by omega)];omega
    rw[hc];have sg:=sign_i s i hs hlt;refine Ev_succ ?_;simp only[impl_EscNorm.l0];simp only[show((i:Int)<(s.size:Int))from by omega,show((0:Int)≤(i:Int))from by omega,hb37,if_true,sg,oB_,w3]
    by_cases h2:i+2<(L s).length
    ·have g1:i+1<(L s).length:=by omega
     rw[drop_at g1,drop_at h2];simp only[h2,dif_pos];generalize (L s)[i+1]'g1=ca
     generalize (L s)[i+2]'h2=cb
     cases ha':hexN ca with
     |none=>
      rw[esc_bad1 _ _ ha'];simp only[bF_,if_false];exact Ev.now _
     |some x=>
      cases hb':hexN cb with
      |none=>
       rw[esc_bad2 _ _ hb'];simp only[bF_,if_false];exact Ev.now _
      |some y=>
       have hx:=hexN_lt ha';have hy:=hexN_lt hb';rw[esc_sign _ ha' hb',escR_map];simp only[if_true];refine Ev.congr (fun k=>enc_i s acc (x*16+y) _ (by omega) (by omega) k) ?_;have:=encN_len (x*16+y);rw[←ofL_app];exact ih (i+2+1) _ (by omega) (by omega) (by rw[lA_];omega)
    ·rw[esc_short (by rw[List.length_drop];omega)]
     simp only[h2,dif_neg,not_false_eq_true,bF_,if_false];exact Ev.now _
   ·have hb37:¬bt s i=37:=by
     rw[hb];intro e;exact hc (UInt8.toNat_inj.1 (by have:(37:UInt8).toNat=37:=rfl;omega))
    rw[esc_plain _ hc];have hlt8:=(L s)[i].toNat_lt;have w1:wrap64 ((i:Int)+1)=((i+1:Nat):Int):=by rw[w64 (by omega) (by omega)];omega
    refine Ev_succ ?_;simp only[impl_EscNorm.l0];simp only[show((i:Int)<(s.size:Int))from by omega,show((0:Int)≤(i:Int))from by omega,hb37,if_true,if_false,w1];rw[escR_map];simp only[hb];refine Ev.congr (fun k=>enc_i s acc (L s)[i].toNat _ (by omega) (by omega) k) ?_;have hz:=encN_len (L s)[i].toNat;rw[←ofL_app];refine ih (i+1) _ (by omega) (by omega) ?_;rw[lA_];omega
  ·refine Ev.of (fun k=>impl_EscNorm.mono_l k |> fun h=>h _ _ _) (k:=1) ?_
   simp only[impl_EscNorm.l0];rw[if_neg (by omega),List.drop_eq_nil_of_le (by omega)];simp only[esc,escR];rw[app_nil,nums_ints]
theorem escNorm_i (s:BA):Ev (fun k=>impl_EscNorm.f k s) (escNorm s):=by
 unfold impl_EscNorm.f escNorm
 by_cases h:s.size>60
 ·simp only[show((s.size:Int)>60)from by omega,if_true,h]
  exact Ev.now _
 ·simp only[show ¬((s.size:Int)>60)from by omega,if_false,h]
  have:=esc_i s (by omega) s.size 0 [] (by omega) (by omega) (lL_ 0);simp only[List.drop_zero]at this;have e:escR (ofL []) (esc (L s))=escO (esc (L s)):=by
   unfold escR escO;cases esc (L s)with
   |none=>rfl
   |some r=>simp only[pI_,and_true];apply L_inj;rw[L_app];rfl
  rw[←e];exact this
theorem norm_i (s:BA):Ev (fun k=>impl_isNormal.f k s) (isNorm s):=by
 unfold impl_isNormal.f isNorm;refine Ev.bind (escNorm_i s) ?_
 by_cases h:(escNorm s).2=true
 ·simp only[h,if_true,tA_]
  exact Ev.now _
 ·simp only[h,if_false,fA_]
  exact Ev.now _
theorem small_i (s:BA)(hs:s.size≤140737488351232)(d:Nat):∀(k:Nat)(i:Nat),i+d=s.size→d<k →
  impl_allSmallLetters.l0 k s (i:Int)=some (smallFrom s d i):=by
 induction d with
 |zero=>
  intro k i h hk;obtain⟨k,rfl⟩:∃m,k=m+1:=⟨k-1,by omega⟩;simp only[impl_allSmallLetters.l0,smallFrom];rw[if_neg (by omega)]
 |succ d ih=>
  intro k i h hk;obtain⟨k,rfl⟩:∃m,k=m+1:=⟨k-1,by omega⟩;simp only[impl_allSmallLetters.l0,smallFrom];rw[if_pos (by omega),if_pos (by omega)]
  by_cases h1:bt s i<97
  ·rw[if_pos h1,if_pos h1]
  ·rw[if_neg h1,if_neg h1]
   by_cases h2:bt s i>122
   ·rw[if_pos h2,if_pos h2]
   ·rw[if_neg h2,if_neg h2,w64 (by omega) (by omega)]
    exact ih k (i+1) (by omega) (by omega)
theorem smalls_i (s:BA)(hs:s.size≤140737488351232):Ev (fun k=>impl_allSmallLetters.f k s) (isSmall s):=by
 refine Ev.of (fun k=>impl_allSmallLetters.mono _ k) (k:=s.size+1) ?_;exact small_i s hs s.size (s.size+1) 0 (by omega) (by omega)
theorem house_i (s:BA)(hs:s.size≤140737488351232):Ev (fun k=>impl_isHouse.f k s) (isHouse s):=by
 unfold impl_isHouse.f isHouse
 by_cases h1:1≤s.size
 ·simp only[show((s.size:Int)≥1)from by omega,if_true,h1,decide_true,tA_]
  by_cases h2:s.size≤5
  ·simp only[show((s.size:Int)≤5)from by omega,if_true,h2,decide_true,tA_]
   exact Ev.bind (smalls_i s hs) (Ev.now _)
  ·simp only[show ¬((s.size:Int)≤5)from by omega,if_false,h2,decide_false,fA_]
   exact Ev.now _
 ·simp only[show ¬((s.size:Int)≥1)from by omega,if_false,h1,decide_false,fA_]
  exact Ev.now _
theorem L_fold:∀(r:List BA)(acc:BA),L (r.foldl (fun a q=>(a++⟨#[47]⟩)++q) acc)=L acc++Lib.joinTail [47] (r.map L)
 | [],acc=>by simp[Lib.joinTail]
 |q::r,acc=>by
  rw[List.foldl_cons,L_fold r,L_app,L_app];simp[Lib.joinTail,L]
theorem L_body (ps:List BA):L (body ps)=47::Lib.join (ps.map L) [47]:=by
 cases ps with
 |nil=>rfl
 |cons p r=>
  unfold body;rw[L_fold,List.map_cons,Lib.join_cons,L_app];rfl
theorem body_join (ps:List BA):(⟨#[47]⟩:BA)++ofL (Lib.join (ps.map L) [47])=body ps:=by
 apply L_inj;rw[L_app,L_of,L_body];rfl
theorem join_len (ps:List BA):(Lib.join (ps.map L) [47]).length+1=(body ps).size:=by
 rw[←L_size,L_body];simp
theorem path_i (parts:List BA)(asks:Bool)(ask house:BA)(hP:Parts parts)(hq:ask.size≤1048576):impl_writePath.f house parts asks ask=some (pathB parts asks ask):=by
 have hz:=path_size parts false ask hP hq;have hb:pathB parts false ask=body parts:=rfl;rw[hb]at hz;have hj:=join_len parts;have hf:=hP.few;unfold impl_writePath.f strings_Join.f;have e47:L (⟨#[47]⟩:BA)=[47]:=rfl;rw[e47,if_pos ⟨by omega,by omega⟩];simp only[oB_];have hs:=ofL_size (Lib.join (parts.map L) [47]);rw[if_pos (by omega),body_join]
 by_cases h:asks=true
 ·rw[if_pos h,if_pos (by omega),if_pos (by omega)]
  unfold pathB;rw[if_pos h,ByteArray.append_assoc]
 ·rw[if_neg h]
  unfold pathB;rw[if_neg h]
theorem text_i (house:BA)(parts:List BA)(asks:Bool)(ask:BA)(hP:Parts parts)(hq:ask.size≤1048576)(hh:house.size≤1048576):
  impl_writeAddr.f house parts asks ask=some (textB house parts asks ask):=by
 have hz:=path_size parts asks ask hP hq;unfold impl_writeAddr.f;rw[if_pos (by omega),path_i parts asks ask house hP hq];simp only[oB_];rw[if_pos (by omega)];rfl
def okEnd (house:BA)(parts:List BA)(asks:Bool)(ask:BA):Bool:=isNorm ask&&(asks||ask.toList==[])&&decide ((textB house parts asks ask).size≤60)
theorem ok_i (house:BA)(parts:List BA)(asks:Bool)(ask:BA)(hP:Parts parts)(hq:ask.size≤1048576)(hh:house.size≤1048576)(d:Nat):∀(i:Nat),i+d=parts.length →
  Ev (fun k=>impl_AddrOk.l0 k parts (parts.length:Int) (i:Int) house parts asks ask) ((parts.drop i).all partOk&&okEnd house parts asks ask):=by
 have hf:=hP.few
 induction d with
 |zero=>
  intro i hi;rw[List.drop_eq_nil_of_le (by omega)];simp only[List.all_nil,tA_];refine Ev_succ ?_;simp only[impl_AddrOk.l0];simp only[show ¬((i:Int)<(parts.length:Int))from by omega,if_false,text_i house parts asks ask hP hq hh,oB_];refine Ev.bind (norm_i ask) ?_;unfold okEnd;have e:decide (((textB house parts asks ask).size:Int)≤60)=decide ((textB house parts asks ask).size≤60):=by rw[Bool.eq_iff_iff];simp;omega
  by_cases h3:isNorm ask=true
  ·simp only[h3,if_true,tA_,e]
   by_cases h4:asks=true
   ·simp only[h4,if_true,Bool.true_or,tA_]
    exact Ev.now _
   ·by_cases h5:ask.toList=[]
    ·simp only[h4,if_false,h5,if_true,beq_self_eq_true,Bool.or_true,tA_]
     exact Ev.now _
    ·simp only[h4,if_false,h5,show(ask.toList==([]:List UInt8))=false from by simp[h5],Bool.or_false,fA_]
     exact Ev.now _
  ·simp only[h3,if_false,fA_]
   exact Ev.now _
 |succ d ih=>
  intro i hi;have hlt:i<parts.length:=by omega
  rw[dE_ hlt,List.all_cons];refine Ev_succ ?_;simp only[impl_AddrOk.l0];have w1:wrap64 ((i:Int)+1)=((i+1:Nat):Int):=by rw[w64 (by omega) (by omega)];omega
  simp only[show((i:Int)<(parts.length:Int))from by omega,show((0:Int)≤(i:Int))from by omega,if_true,rd_at hlt,w1]
  by_cases h2:parts[i].toList=[]
  ·simp only[h2,if_true]
   rw[show partOk parts[i]=false from by simp[partOk,h2]];exact Ev.now _
  ·by_cases h3:parts[i].toList=[46]
   ·simp only[h2,h3,if_true,if_false]
    rw[show partOk parts[i]=false from by simp[partOk,h3]]
    first|exact Ev.now _|simpa using Ev.now _
   ·by_cases h4:parts[i].toList=[46,46]
    ·simp only[h2,h3,h4,if_true,if_false]
     rw[show partOk parts[i]=false from by simp[partOk,h4]]
     first|exact Ev.now _|simpa using Ev.now _
    ·simp only[h2,h3,h4,if_false]
     refine Ev.bind (norm_i parts[i]) ?_
     by_cases h1:isNorm parts[i]=true
     ·simp only[h1,if_true]
      rw[show partOk parts[i]=true from by simp[partOk,h1,h2,h3,h4],tA_];exact ih (i+1) (by omega)
     ·simp only[h1,if_false]
      rw[show partOk parts[i]=false from by simp[partOk,h1]];exact Ev.now _
theorem okEnd_is (house:BA)(parts:List BA)(asks:Bool)(ask:BA):addrOk house parts asks ask=(isHouse house&&decide (parts.length≤5)&&(parts.all partOk&&okEnd house parts asks ask)):=by
 unfold addrOk okEnd;cases isHouse house <;> cases decide (parts.length≤5) <;> cases isNorm ask <;> cases (asks||ask.toList==[]) <;> cases parts.all partOk <;> rfl
theorem addrOk_i (house:BA)(parts:List BA)(asks:Bool)(ask:BA)(hP:Parts parts)(hq:ask.size≤1048576)(hh:house.size≤1048576):
  Ev (fun k=>impl_AddrOk.f k house parts asks ask) (addrOk house parts asks ask):=by
 have hf:=hP.few;have bad:Ev (fun k=>impl_AddrOk.j0 k true house parts asks ask) false:=Ev_succ (by simp only[impl_AddrOk.j0,if_true];exact Ev.now _);unfold impl_AddrOk.f;rw[okEnd_is];refine Ev.bind (house_i house (by omega)) ?_
 by_cases h1:isHouse house=true
 ·simp only[h1,if_true,tA_]
  by_cases h2:parts.length≤5
  ·rw[show decide ((parts.length:Int)>5)=false from by simp;omega]
   simp only[h2,decide_true,tA_];refine Ev_succ ?_;simp only[impl_AddrOk.j0,bF_,if_false];have:=ok_i house parts asks ask hP hq hh parts.length 0 (by omega)
   simpa using this
  ·rw[show decide ((parts.length:Int)>5)=true from by simp;omega]
   simp only[h2,decide_false,fA_];exact bad
 ·simp only[h1,if_false,fA_]
  exact bad
def cutL (c:UInt8):List UInt8→List UInt8×List UInt8×Bool
 | []=>([],[],false)
 |x::xs=>if x=c then([],xs,true)else(x::(cutL c xs).1,(cutL c xs).2)
theorem cutL_false {c:UInt8}:∀ {l:List UInt8},(cutL c l).2.2=false→(cutL c l).1=l∧(cutL c l).2.1=[]
 | [],_=>by simp[cutL]
 |x::xs,h=>by
  unfold cutL at h ⊢
  by_cases e:x=c
  ·rw[if_pos e]at h;cases h
  ·rw[if_neg e]at h ⊢
   have:=cutL_false (l:=xs) h;exact⟨by rw[this.1],this.2⟩
theorem cutL_true {c:UInt8}:∀ {l:List UInt8},(cutL c l).2.2=true→l=(cutL c l).1++c::(cutL c l).2.1
 | [],h=>by simp[cutL]at h
 |x::xs,h=>by
  unfold cutL at h ⊢
  by_cases e:x=c
  ·rw[if_pos e,e];rfl
  ·rw[if_neg e]at h ⊢
   have:=cutL_true (l:=xs) h
   show x::xs=x::((cutL c xs).1++c::(cutL c xs).2.1)
   rw[←this]
theorem cutL_len {c:UInt8}:∀(l:List UInt8),(cutL c l).1.length+(cutL c l).2.1.length≤l.length∧((cutL c l).2.2=true→(cutL c l).1.length+(cutL c l).2.1.length+1=l.length)
 | []=>by simp[cutL]
 |x::xs=>by
  unfold cutL
  by_cases e:x=c
  ·rw[if_pos e];simp
  ·rw[if_neg e]
   have:=cutL_len (c:=c) xs;simp only[List.length_cons];exact⟨by omega,fun h=>by have:=this.2 h;omega⟩
def cutB (c:UInt8)(s:BA):BA×BA×Bool:=(ofL (cutL c (L s)).1,ofL (cutL c (L s)).2.1,(cutL c (L s)).2.2)
theorem cut_l (s:BA)(c:UInt8)(hs:s.size≤140737488351232):∀(l:List UInt8)(i:Nat),(L s).drop i=l →
  Ev (fun k=>spec_l1Cut.l0 k s (c.toNat:Int) (i:Int)) (ofL ((L s).take i++(cutL c l).1),ofL (cutL c l).2.1,(cutL c l).2.2)
 | [],i,h=>by
  have:=bt_end h;have n1:¬((i:Int)<(s.size:Int)):=by omega
  refine Ev_succ ?_;simp only[spec_l1Cut.l0,n1,if_false];have e:(L s).take i=L s:=List.take_of_length_le (by rw[L_size];omega);simp only[cutL,e,List.append_nil,of_L];exact Ev.now _
 |x::xs,i,h=>by
  obtain⟨hi,hb,hd⟩:=bt_at h;refine Ev_succ ?_;have e1:wrap64 ((i:Int)+1)=((i+1:Nat):Int):=by rw[w64 (by omega) (by omega)];rfl
  have f1:(i:Int)<(s.size:Int):=by omega
  have f2:(0:Int)≤(i:Int):=by omega
  have f3:(i:Int)≤(s.size:Int):=by omega
  have f4:(0:Int)≤((i+1:Nat):Int):=by omega
  have f5:((i+1:Nat):Int)≤(s.size:Int):=by omega
  simp only[spec_l1Cut.l0,e1,f1,f2,f3,f4,f5,if_true,hb,u8_eq];unfold cutL
  by_cases e:x=c
  ·simp only[e,if_true]
   have a1:s.extract 0 ((i:Int)).toNat=ofL ((L s).take i++[]):=by
    apply L_inj;rw[L_ext,L_of];simp
   have a2:s.extract ((((i+1:Nat):Int))).toNat s.size=ofL xs:=by
    apply L_inj;rw[L_ext,L_of,tN_,hd,List.take_of_length_le];rw[←hd,List.length_drop,L_size];omega
   rw[a1,a2];exact Ev.now _
  ·simp only[e,if_false]
   have:=cut_l s c hs xs (i+1) hd;have ht:(L s).take (i+1)++(cutL c xs).1=(L s).take i++(x::(cutL c xs).1):=by
    have hl:i<(L s).length:=by rw[L_size];exact hi
    have:(L s)[i]=x:=by
     have hd2:(L s).drop i=(L s)[i]::(L s).drop (i+1):=dE_ hl;rw[h]at hd2;injection hd2 with h1 h2;exact h1.symm
    rw[List.take_succ_eq_append_getElem hl,this];simp
   rw[ht]at this;exact this
theorem cut_ev (s:BA)(c:UInt8)(hs:s.size≤140737488351232):Ev (fun k=>spec_l1Cut.f k s (c.toNat:Int)) (cutB c s):=by
 have:=cut_l s c hs (L s) 0 rfl;simp only[List.take_zero,List.nil_append]at this;exact this
def splitN (c:UInt8):Nat→List UInt8→List (List UInt8)
 |0,l=>[l]
 |n+1,l=>(cutL c l).1::(if(cutL c l).2.2=true then splitN c n (cutL c l).2.1 else[])
def splitL (c:UInt8)(l:List UInt8):List (List UInt8):=splitN c (l.length+1) l
theorem splitN_eq (c:UInt8):∀(n m:Nat)(l:List UInt8),l.length<n→l.length<m→splitN c n l=splitN c m l
 |0,_,l,h,_=>absurd h (by omega)
 |_+1,0,l,_,h=>absurd h (by omega)
 |n+1,m+1,l,h1,h2=>by
  simp only[splitN]
  by_cases e:(cutL c l).2.2=true
  ·have:=(cutL_len (c:=c) l).2 e
   rw[if_pos e,if_pos e,splitN_eq c n m _ (by omega) (by omega)]
  ·rw[if_neg e,if_neg e]
theorem splitL_eq (c:UInt8)(l:List UInt8):splitL c l=(cutL c l).1::(if(cutL c l).2.2=true then splitL c (cutL c l).2.1 else[]):=by
 unfold splitL;rw[splitN]
 by_cases e:(cutL c l).2.2=true
 ·have:=(cutL_len (c:=c) l).2 e
  rw[if_pos e,if_pos e,splitN_eq c _ ((cutL c l).2.1.length+1) _ (by omega) (by omega)]
 ·rw[if_neg e,if_neg e]
theorem splitN_len (c:UInt8):∀(n:Nat)(l:List UInt8),(splitN c n l).length≤l.length+1
 |0,l=>by simp[splitN]
 |n+1,l=>by
  simp only[splitN]
  by_cases e:(cutL c l).2.2=true
  ·have:=(cutL_len (c:=c) l).2 e
   have ih:=splitN_len c n (cutL c l).2.1;rw[if_pos e];simp only[List.length_cons];omega
  ·rw[if_neg e];simp
theorem splitL_len (c:UInt8)(l:List UInt8):(splitL c l).length≤l.length+1:=splitN_len c _ l
theorem split_l (c:UInt8)(n:Nat):∀(s:BA)(acc:List BA),s.size<n→s.size≤1000000000→acc.length+s.size≤2000000000 →
  Ev (fun k=>spec_l1Split.l0 k (c.toNat:Int) acc s true) (acc++(splitL c (L s)).map ofL):=by
 induction n with
 |zero=>intro s acc h;exact absurd h (by omega)
 |succ n ih=>
  intro s acc h h1 h2;refine Ev_succ ?_;simp only[spec_l1Split.l0,if_true];refine Ev.bind (cut_ev s c (by omega)) ?_;have g1:acc.length<8796093022208:=by omega
  simp only[g1,if_true];rw[splitL_eq];have hl:=cutL_len (c:=c) (L s);rw[L_size]at hl
  by_cases e:(cutL c (L s)).2.2=true
  ·have e':(cutB c s).2.2=true:=e
   have hz:(ofL (cutL c (L s)).2.1).size=(cutL c (L s)).2.1.length:=ofL_size _;have:=hl.2 e;have ih':=ih (ofL (cutL c (L s)).2.1) (acc++[ofL (cutL c (L s)).1]) (by omega) (by omega) (by simp only[lA_,List.length_singleton];omega);rw[if_pos e];simp only[cutB,e];rw[L_of]at ih'
   simpa using ih'
  ·have e':(cutL c (L s)).2.2=false:=by simpa using e
   rw[if_neg e];simp only[cutB,e'];refine Ev_succ ?_;simp only[spec_l1Split.l0];simp;exact Ev.now _
theorem split_ev (s:BA)(c:UInt8)(hs:s.size≤1000000000):Ev (fun k=>spec_l1Split.f k s (c.toNat:Int)) ((splitL c (L s)).map ofL):=by
 have:=split_l c (s.size+1) s [] (by omega) hs (by simp;omega);rw[List.nil_append]at this;exact this
def isName (s:BA):Bool:=decide (1≤s.size)&&decide (s.size≤8)&&isSmall s
theorem spec_name_l (s:BA)(hs:s.size≤140737488351232)(d:Nat):∀(k:Nat)(i:Nat),i+d=s.size→d<k →
  spec_l2Name.l0 k s (i:Int)=some (smallFrom s d i&&(decide (1≤s.size)&&decide (s.size≤8))):=by
 induction d with
 |zero=>
  intro k i h hk;obtain⟨k,rfl⟩:∃m,k=m+1:=⟨k-1,by omega⟩;simp only[spec_l2Name.l0,smallFrom,spec_l6In.f];rw[if_neg (by omega)]
  by_cases h1:1≤s.size
  ·rw[if_pos (by omega)];simp[h1];omega
  ·rw[if_neg (by omega)];simp[h1]
 |succ d ih=>
  intro k i h hk;obtain⟨k,rfl⟩:∃m,k=m+1:=⟨k-1,by omega⟩;simp only[spec_l2Name.l0,smallFrom];rw[if_pos (by omega),if_pos (by omega)]
  by_cases h1:bt s i<97
  ·rw[if_pos h1,if_pos h1];rfl
  ·rw[if_neg h1,if_neg h1]
   by_cases h2:bt s i>122
   ·rw[if_pos h2,if_pos h2];rfl
   ·rw[if_neg h2,if_neg h2,w64 (by omega) (by omega)]
    exact ih k (i+1) (by omega) (by omega)
theorem name_ev (s:BA)(hs:s.size≤140737488351232):Ev (fun k=>spec_l2Name.f k s) (isName s):=by
 refine Ev.of (fun k=>spec_l2Name.mono _ k) (k:=s.size+1) ?_;unfold spec_l2Name.f;have:=spec_name_l s hs s.size (s.size+1) 0 (by omega) (by omega);rw[show((0:Nat):Int)=0 from rfl]at this;rw[this];unfold isName isSmall;cases smallFrom s s.size 0 <;> simp

end Go.Proofs.YtalfefmnlnkcaaaGreatDoor.Ad
end
section
namespace Go.Proofs.YtalfefmnlnkcaaaGreatDoor.Ad
open Go.RowKit Go.Proofs.YtalfefmnlnkcaaaGreatDoorW PrintWords Go.Proofs.YtalfefmnlnkcaaaGreatDoor.B
abbrev A5:=BA×List BA×Bool×BA×Bool
def none5:A5:=((⟨#[]⟩:BA),([]:List BA),false,(⟨#[]⟩:BA),false)
def escAll:List BA→Option (List BA)
 | []=>some []
 |q::qs=>if(escNorm q).2=true then(escAll qs).map ((escNorm q).1 :: ·)else none
def clean1 (acc:List BA)(p:BA):List BA:=
 if p.toList=[]then acc else if p.toList=[46]then acc else if p.toList=[46,46]then acc.take (acc.length-1)else acc++[p]
def pathClean (ps:List BA):List BA:=ps.foldl clean1 []
def wayO (house:BA)(base:List BA)(way:BA):A5:=
 match escAll ((splitL 47 (L (cutB 63 way).1)).map ofL)with
 |none=>none5
 |some ps=>if(escNorm (cutB 63 way).2.1).2=true then(if addrOk house (pathClean (base++ps)) (cutB 63 way).2.2 (escNorm (cutB 63 way).2.1).1=true then(house,pathClean (base++ps),(cutB 63 way).2.2,(escNorm (cutB 63 way).2.1).1,true)else none5)else none5
def houseL:List UInt8→List UInt8×List UInt8
 | []=>([],[])
 |x::xs=>if x=47∨x=63 then([],x::xs)else(x::(houseL xs).1,(houseL xs).2)
def wholeO (rest:BA):A5:=wayO (smallB (ofL (houseL (L rest)).1)) [] (ofL (houseL (L rest)).2)
def readO (raw:BA):A5:=
 if raw.size>60 then none5 else if(cutB 35 raw).1.size<2 then none5 else if(L (cutB 35 raw).1).take 2=[47,47]then wholeO ((cutB 35 raw).1.extract 2 (cutB 35 raw).1.size)else none5
def Fine (a:A5):Prop:=a=none5∨(a.2.2.2.2=true∧addrOk a.1 a.2.1 a.2.2.1 a.2.2.2.1=true)
theorem fine_none:Fine none5:=Or.inl rfl
theorem fine_way (h:BA)(b:List BA)(w:BA):Fine (wayO h b w):=by
 unfold wayO
 split
 ·exact fine_none
 ·split
  ·split
   ·rename_i hh
    exact Or.inr ⟨rfl,hh⟩
   ·exact fine_none
  ·exact fine_none
theorem fine_read (raw:BA):Fine (readO raw):=by
 unfold readO
 split
 ·exact fine_none
 ·split
  ·exact fine_none
  ·split
   ·exact fine_way _ _ _
   ·exact fine_none
theorem isHouse_size {s:BA}(h:isHouse s=true):s.size≤5:=by
 unfold isHouse at h;simp only[aE_,decide_eq_true_eq]at h;exact h.1.2
theorem clean1_mem {acc:List BA}{p x:BA}(h:x∈clean1 acc p):x∈acc∨x=p:=by
 unfold clean1 at h
 split at h
 ·exact Or.inl h
 ·split at h
  ·exact Or.inl h
  ·split at h
   ·exact Or.inl (List.mem_of_mem_take h)
   ·rcases List.mem_append.1 h with h|h
    ·exact Or.inl h
    ·exact Or.inr (List.mem_singleton.1 h)
theorem clean1_len (acc:List BA)(p:BA):(clean1 acc p).length≤acc.length+1:=by
 unfold clean1
 split
 ·omega
 ·split
  ·omega
  ·split
   ·rw[lT_];omega
   ·simp
theorem cleanF_mem:∀ {ps acc:List BA} {x:BA},x∈ps.foldl clean1 acc→x∈acc∨x∈ps
 | [],acc,x,h=>Or.inl h
 |p::ps,acc,x,h=>by
  rw[List.foldl_cons]at h;rcases cleanF_mem h with h|h
  ·rcases clean1_mem h with h|h
   ·exact Or.inl h
   ·exact Or.inr (by rw[h];exact List.mem_cons_self)
  ·exact Or.inr (List.mem_cons_of_mem _ h)
theorem cleanF_len:∀(ps acc:List BA),(ps.foldl clean1 acc).length≤acc.length+ps.length
 | [],acc=>by simp
 |p::ps,acc=>by
  rw[List.foldl_cons];have:=cleanF_len ps (clean1 acc p);have:=clean1_len acc p;simp only[List.length_cons];omega
end Go.Proofs.YtalfefmnlnkcaaaGreatDoor.Ad
end
section
namespace Go.Proofs.YtalfefmnlnkcaaaGreatDoor.Ad
open Go.RowKit Go.Proofs.YtalfefmnlnkcaaaGreatDoor.P Go.Proofs.YtalfefmnlnkcaaaGreatDoorW PrintWords PrintLast PrintMore Go.Proofs.YtalfefmnlnkcaaaGreatDoor.B
theorem index_cut (c:UInt8):∀l:List UInt8,Lib.indexByte l c=if(cutL c l).2.2=true then(((cutL c l).1.length:Nat):Int)else -1
 | []=>rfl
 |x::xs=>by
  unfold Lib.indexByte cutL
  by_cases h:x=c
  ·subst h;simp
  ·have hb:(x==c)=false:=by simp[h]
   simp only[hb,h,if_false,bF_,index_cut c xs]
   by_cases h2:(cutL c xs).2.2=true
   ·simp only[h2,if_true]
    have:((((cutL c xs).1.length:Nat):Int) == -1)=false:=by simp
    rw[this];simp
   ·simp only[h2,if_false,bF_]
    rfl
theorem cut_parts {c:UInt8}{s:BA}(h:(cutL c (L s)).2.2=true):
  s.extract 0 (cutL c (L s)).1.length=ofL (cutL c (L s)).1∧s.extract ((cutL c (L s)).1.length+1) s.size=ofL (cutL c (L s)).2.1∧(cutL c (L s)).1.length+1≤s.size:=by
 have e:=cutL_true h;have hn:=(cutL_len (c:=c) (L s)).2 h;rw[L_size]at hn;generalize (cutL c (L s)).1=a at *
 generalize (cutL c (L s)).2.1=b at *
 have e':s.data.toList=a++c::b:=e;refine⟨?_,?_,by omega⟩
 ·apply L_inj
  rw[L_ext,L_of,e'];simp
 ·apply L_inj
  have:(a++c::b).drop (a.length+1)=b:=by rw[List.drop_append];simp
  rw[L_ext,L_of,e',this,List.take_of_length_le (by omega)]
theorem cut_i (s:BA)(c:UInt8)(hs:s.size≤140737488351232):strings_Cut.f s ⟨#[c]⟩=some (cutB c s):=by
 have e1:L (⟨#[c]⟩:BA)=[c]:=rfl;have e2:(⟨#[c]⟩:BA).size=1:=rfl;unfold strings_Cut.f stringslite_Cut.f stringslite_Index.f cutB;rw[e1];simp only[oB_,index_cut,e2]
 by_cases h:(cutL c (L s)).2.2=true
 ·obtain⟨h1,h2,h3⟩:=cut_parts h
  simp only[h,if_true];rw[if_pos (by omega),if_pos (by omega),if_pos (by omega),w64 (by omega) (by omega),if_pos (by omega),if_pos (by omega)];simp only[oB_,tN_];rw[h1,show(((cutL c (L s)).1.length:Int)+((1:Nat):Int)).toNat=(cutL c (L s)).1.length+1 from by omega,h2]
 ·simp only[h,if_false,bF_]
  rw[if_neg (by decide)];obtain⟨g1,g2⟩:=cutL_false (c:=c) (l:=L s) (by simpa using h);simp only[oB_,g1,g2,of_L]
  first|done|rfl
theorem count_cut_false {c:UInt8}:∀ {l:List UInt8},Lib.countByte l c=0→(cutL c l).2.2=false
 | [],_=>rfl
 |x::xs,h=>by
  unfold Lib.countByte at h;unfold cutL
  by_cases e:x=c
  ·subst e;simp at h
  ·rw[if_neg e]
   have h':Lib.countByte xs c=0:=by unfold Lib.countByte;rw[List.count_cons]at h;omega
   exact count_cut_false h'
theorem count_cut_true {c:UInt8}{m:Nat}:∀ {l:List UInt8},Lib.countByte l c=m+1→(cutL c l).2.2=true∧Lib.countByte (cutL c l).2.1 c=m
 | [],h=>by simp[Lib.countByte]at h
 |x::xs,h=>by
  unfold Lib.countByte at h;unfold cutL
  by_cases e:x=c
  ·subst e
   rw[if_pos rfl];refine⟨rfl,?_⟩;unfold Lib.countByte;rw[List.count_cons_self]at h;exact Nat.succ.inj h
  ·rw[if_neg e]
   have h':Lib.countByte xs c=m+1:=by
    unfold Lib.countByte;rw[List.count_cons_of_ne e]at h;exact h
   exact count_cut_true h'
theorem w64n0 (a:Nat)(h:a<4611686018427387904):wrap64 ((a:Int)+0)=(a:Int):=by rw[w64 (by omega) (by omega)];omega
theorem w64n1 (a:Nat)(h:a<4611686018427387904):wrap64 ((a:Int)+1)=((a+1:Nat):Int):=by rw[w64 (by omega) (by omega)];omega
theorem w64n2 (a:Nat)(h:a<4611686018427387904):wrap64 ((a:Int)+((1:Nat):Int))=((a+1:Nat):Int):=by rw[w64 (by omega) (by omega)];omega
theorem w64b {n m:Nat}(h:n+1≤m)(hm:m≤1000000000):n<4611686018427387904:=by omega
theorem w64d {n m:Nat}(h:n+m≤2000000000):n<4611686018427387904:=by omega
theorem ci_lt (a m:Nat):(a:Int)<((a+(m+1):Nat):Int):=by omega
theorem ci_neg (n:Nat):¬((n:Int)<0):=by omega
theorem ci_nn (n:Nat):(0:Int)≤(n:Int):=by omega
theorem ci_le {n s:Nat}(h:n+1≤s):(n:Int)≤(s:Int):=by omega
theorem ci_le1 {n s:Nat}(h:n+1≤s):((n+1:Nat):Int)≤(s:Int):=by omega
theorem ci_l6 {a m l:Nat}(h:l=a+(m+2)):(a:Int)<(l:Int):=by omega
theorem set_mid (a:List BA)(m:Nat)(p e:BA):(a++List.replicate (m+1) e).set a.length p=(a++[p])++List.replicate m e:=by
 rw[List.set_append_right _ _ (lL_ _),Nat.sub_self,List.replicate_succ,l0_,List.append_assoc];rfl
theorem take_mid (a b:List BA)(p:BA):((a++[p])++b).take (a.length+1)=a++[p]:=by
 rw[List.take_append_of_le_length (by simp)];exact List.take_of_length_le (by simp)
theorem split_li (c:UInt8):∀(m:Nat)(s:BA)(a:List BA),Lib.countByte (L s) c=m→s.size≤1000000000→a.length+m≤2000000000 →
  Ev (fun k=>strings_genSplit.l0 k s ⟨#[c]⟩ 0 ((a.length+m:Nat):Int) (a++List.replicate (m+1) (⟨#[]⟩:BA)) (a.length:Int)) (a++(splitL c (L s)).map ofL):=by
 intro m;have e1:L (⟨#[c]⟩:BA)=[c]:=rfl;have e2:(⟨#[c]⟩:BA).size=1:=rfl
 induction m with
 |zero=>
  intro s a hc hs ha;have hf:=count_cut_false hc;obtain⟨g1,g2⟩:=cutL_false hf;rw[splitL_eq,hf];refine Ev_succ ?_;simp only[strings_genSplit.l0];have hl:(a++List.replicate (0+1) (⟨#[]⟩:BA)).length=a.length+1:=by simp
  have hw:wrap64 ((a.length:Int)+1)=((a.length+1:Nat):Int):=by rw[w64 (by omega) (by omega)];omega
  simp only[show ¬((a.length:Int)<((a.length+0:Nat):Int))from by omega,if_false,hl,show((0:Int)≤(a.length:Int))from by omega,show((a.length:Int)<((a.length+1:Nat):Int))from by omega,if_true,hw,
   show((0:Int)≤((a.length+1:Nat):Int))from by omega,tN_,Int.le_refl]
  rw[set_mid,take_mid];simp only[bF_,if_false,List.map_cons,List.map_nil,g1,of_L];exact Ev.now _
 |succ m ih=>
  intro s a hc hs ha;obtain⟨ht,hc'⟩:=count_cut_true hc;obtain⟨h1,h2,h3⟩:=cut_parts ht;have hix:Lib.indexByte (L s) c=(((cutL c (L s)).1.length:Nat):Int):=by rw[index_cut,if_pos ht]
  rw[splitL_eq,if_pos ht];have hz:(ofL (cutL c (L s)).2.1).size≤1000000000:=by
   have:=(cutL_len (c:=c) (L s)).1;rw[L_size]at this;rw[ofL_size];omega
  have key:=ih (ofL (cutL c (L s)).2.1) (a++[ofL (cutL c (L s)).1]) (by rw[L_of];exact hc') hz (by simp;omega);rw[L_of]at key;rw[List.map_cons,show a++ofL (cutL c (L s)).1::List.map ofL (splitL c (cutL c (L s)).2.1)=a++[ofL (cutL c (L s)).1]++List.map ofL (splitL c (cutL c (L s)).2.1)from by simp];generalize (cutL c (L s)).1.length=n at h1 h2 h3 hix;rw[show(cutL c (L s)).2.1=L (s.extract (n+1) s.size)from by rw[h2,L_of]];rw[←h1]at key ⊢;rw[←h2]at key;clear hz h1 h2 hc' ht hc;have hl:(a++List.replicate (m+1+1) (⟨#[]⟩:BA)).length=a.length+(m+2):=by simp
  have hl2:(a++[s.extract 0 n]).length=a.length+1:=by simp
  rw[hl2]at key;refine Ev.step (fun k=>?_) key;have c1:=ci_lt a.length m;have c2:=ci_neg n;have c3:=ci_nn n;have c4:=ci_le h3;have c5:=ci_nn a.length;have c6:=ci_l6 hl;have c7:=ci_nn (n+1);have c8:=ci_le1 h3;have hw:wrap64 ((a.length:Int)+1)=((a.length+1:Nat):Int):=w64n1 a.length (w64d ha);have hw0:wrap64 ((n:Int)+0)=(n:Int):=w64n0 n (w64b h3 hs);have hw1:wrap64 ((n:Int)+((1:Nat):Int))=((n+1:Nat):Int):=w64n2 n (w64b h3 hs);simp only[strings_genSplit.l0,strings_Index.f,stringslite_Index.f];rw[if_pos c1,hix,oB_,oB_];rw[if_neg c2,hw0,if_pos c3,if_pos c4,if_pos c5,if_pos c6,e2,hw1,if_pos c7,if_pos c8,hw];simp only[tN_];rw[set_mid,show a.length+1+m=a.length+(m+1)from by rw[Nat.add_assoc,Nat.add_comm 1 m]]
theorem split_i (s:BA)(c:UInt8)(hs:s.size≤1000000000):Ev (fun k=>strings_Split.f k s ⟨#[c]⟩) ((splitL c (L s)).map ofL):=by
 have e1:L (⟨#[c]⟩:BA)=[c]:=rfl;have hcnt:Lib.countByte (L s) c≤s.size:=by rw[←L_size];exact List.count_le_length
 unfold strings_Split.f strings_genSplit.f strings_Count.f;have en:¬((⟨#[c]⟩:BA).toList=([]:List UInt8)):=by rw[toList_nil];show ¬(1=0);omega
 rw[e1];simp only[show ¬((-1:Int)=0)from by omega,if_false,en,show((-1:Int)<0)from by omega,if_true,oB_];refine Ev.bind (a:=(splitL c (L s)).map ofL) ?_ (Ev.now _);refine Ev_succ ?_;have hw:wrap64 (((Lib.countByte (L s) c:Nat):Int)+1)=((Lib.countByte (L s) c+1:Nat):Int):=by rw[w64 (by omega) (by omega)];omega
 have hw2:wrap64 ((s.size:Int)+1)=((s.size+1:Nat):Int):=by rw[w64 (by omega) (by omega)];omega
 have hm:mn ((Lib.countByte (L s) c+1:Nat):Int) ((s.size+1:Nat):Int)=((Lib.countByte (L s) c+1:Nat):Int):=by unfold mn;split <;> omega
 have hw3:wrap64 (((Lib.countByte (L s) c+1:Nat):Int)-1)=((0+Lib.countByte (L s) c:Nat):Int):=by rw[w64 (by omega) (by omega)];omega
 simp only[strings_genSplit.j0,hw,hw2,hm,show((0:Int)≤((Lib.countByte (L s) c+1:Nat):Int))from by omega,if_true,tN_,show Lib.countByte (L s) c+1≤17592186044416 from by omega,hw3];have:=split_li c (Lib.countByte (L s) c) s [] rfl hs (by simp;omega)
 simpa using this
theorem fine_parts {a:A5}(h:Fine a):Parts a.2.1∧a.1.size≤60∧a.2.2.2.1.size≤60:=by
 rcases h with rfl|⟨_,h⟩
 ·exact⟨⟨by simp[none5],by simp[none5]⟩,Nat.zero_le _,Nat.zero_le _⟩
 ·unfold addrOk at h
  simp only[aE_,decide_eq_true_eq]at h;obtain⟨⟨⟨⟨⟨h1,h2⟩,h3⟩,h4⟩,h5⟩,h6⟩:=h;refine⟨⟨by omega,fun p hp=>?_⟩,?_,?_⟩
  ·have:=List.all_eq_true.1 h5 p hp
   unfold partOk at this;simp only[aE_]at this;have:=isNorm_size this.1.1.1;omega
  ·have:=isHouse_size h1;omega
  ·exact isNorm_size h3
theorem clean_l (ps:List BA)(hl:ps.length≤1000000)(d:Nat):∀(i:Nat)(acc:List BA),i+d=ps.length→acc.length≤i →
  Ev (fun k=>spec_PathClean.l0 k ps acc (i:Int)) ((ps.drop i).foldl clean1 acc):=by
 induction d with
 |zero=>
  intro i acc hi ha;have n1:¬((i:Int)<(ps.length:Int)):=by omega
  rw[List.drop_eq_nil_of_le (by omega)];refine Ev_succ ?_;simp only[spec_PathClean.l0,n1,if_false];exact Ev.now _
 |succ d ih=>
  intro i acc hi ha;have hi':i<ps.length:=by omega
  have f1:(i:Int)<(ps.length:Int):=by omega
  have f2:(0:Int)≤(i:Int):=by omega
  have e1:wrap64 ((i:Int)+1)=((i+1:Nat):Int):=by rw[w64 (by omega) (by omega)];rfl
  have hr:=rd_at hi';rw[dE_ hi',List.foldl_cons];generalize ps[i]=p at hr ⊢;have hc:=clean1_len acc p;have ih':=ih (i+1) (clean1 acc p) (by omega) (by omega);refine Ev_succ ?_;simp only[spec_PathClean.l0,f1,f2,if_true,hr];unfold clean1 at ih' ⊢
  by_cases h1:p.toList=[]
  ·simp only[h1,if_true]at ih' ⊢
   refine Ev_succ ?_;simp only[spec_PathClean.j1,if_true,e1];exact ih'
  ·simp only[h1,if_false]at ih' ⊢
   refine Ev_succ ?_
   by_cases h2:p.toList=[46]
   ·simp only[h2,if_true]at ih' ⊢
    simp only[spec_PathClean.j1,beq_self_eq_true,if_true,e1];exact ih'
   ·have h2':(p.toList==[46])=false:=by simpa using h2
    simp only[h2,if_false]at ih' ⊢;simp only[spec_PathClean.j1,h2',bF_,if_false,f1,f2,if_true,hr,e1]
    by_cases h3:p.toList=[46,46]
    ·have m:mx (wrap64 ((acc.length:Int)-1)) 0=((acc.length-1:Nat):Int):=by
      rw[w64 (by omega) (by omega)];unfold mx;split <;> omega
     have g1:(0:Int)≤((acc.length-1:Nat):Int):=by omega
     have g2:((acc.length-1:Nat):Int)≤(acc.length:Int):=by omega
     simp only[h3,if_true]at ih' ⊢;simp only[m,g1,g2,if_true,tN_];exact ih'
    ·have g3:acc.length<8796093022208:=by omega
     simp only[h3,if_false]at ih' ⊢;simp only[g3,if_true];exact ih'
theorem clean_ev (ps:List BA)(hl:ps.length≤1000000):Ev (fun k=>spec_PathClean.f k ps) (pathClean ps):=
 clean_l ps hl ps.length 0 [] (by omega) (by simp)
def wayE (house:BA)(asks:Bool)(ask:BA)(ps:List BA):A5:=
 if(escNorm ask).2=true then(if addrOk house (pathClean ps) asks (escNorm ask).1=true then(house,pathClean ps,asks,(escNorm ask).1,true)else none5)else none5
theorem way_l (house ask:BA)(asks:Bool)(base:List BA)(b0:Bool)(a0:BA)(hh:house.size≤100000)(ls:List BA)(hl:ls.length≤900)(d:Nat):
  ∀(i:Nat)(acc:List BA),i+d=ls.length→acc.length≤i+50→(∀p∈acc,p.size≤1048576) →
  Ev (fun k=>spec_l1Way.l0 k ask asks acc ls (i:Int) house base b0 a0) (match escAll (ls.drop i)with|none=>none5|some ps=>wayE house asks ask (acc++ps)):=by
 induction d with
 |zero=>
  intro i acc hi ha hp;have n1:¬((i:Int)<(ls.length:Int)):=by omega
  rw[List.drop_eq_nil_of_le (by omega)];refine Ev_succ ?_;simp only[spec_l1Way.l0,n1,if_false,escAll,List.append_nil];refine Ev.bind (escNorm_ev ask) (Ev.bind (clean_ev acc (by omega)) ?_);have hz:=escNorm_size ask;unfold wayE
  by_cases h1:(escNorm ask).2=true
  ·simp only[h1,if_true]
   have hP:Parts (pathClean acc):=⟨by have:=cleanF_len acc [];unfold pathClean;simp only[List.length_nil]at this;omega,fun p hq=>by
    rcases cleanF_mem hq with h|h
    ·cases h
    ·exact hp p h⟩
   refine Ev.bind (addrOk_ev house (pathClean acc) asks (escNorm ask).1 hP (by omega) (by omega)) ?_
   by_cases h2:addrOk house (pathClean acc) asks (escNorm ask).1=true
   ·simp only[h2,if_true];exact Ev.now _
   ·simp only[h2,if_false];exact Ev.now _
  ·simp only[h1,if_false];exact Ev.now _
 |succ d ih=>
  intro i acc hi ha hp;have hi':i<ls.length:=by omega
  have f1:(i:Int)<(ls.length:Int):=by omega
  have f2:(0:Int)≤(i:Int):=by omega
  have e1:wrap64 ((i:Int)+1)=((i+1:Nat):Int):=by rw[w64 (by omega) (by omega)];rfl
  have hr:=rd_at hi';rw[dE_ hi'];generalize ls[i]=p at hr ⊢;have hz:=escNorm_size p;refine Ev_succ ?_;simp only[spec_l1Way.l0,f1,f2,if_true,hr,e1];refine Ev.bind (escNorm_ev p) ?_;unfold escAll
  by_cases h1:(escNorm p).2=true
  ·have g3:acc.length<8796093022208:=by omega
   simp only[h1,if_true,g3];have ih':=ih (i+1) (acc++[(escNorm p).1]) (by omega) (by simp;omega) (fun x hx=>by
    rcases List.mem_append.1 hx with h|h
    ·exact hp x h
    ·rw[List.mem_singleton.1 h];omega)
   cases he:escAll (ls.drop (i+1))with
   |none=>rw[he]at ih';exact ih'
   |some ps=>
    rw[he]at ih';simp only[Option.map_some]
    simpa using ih'
  ·simp only[h1,if_false];exact Ev.now _
theorem cutB_size (c:UInt8)(s:BA):(cutB c s).1.size≤s.size∧(cutB c s).2.1.size≤s.size:=by
 have:=(cutL_len (c:=c) (L s)).1;rw[L_size]at this;unfold cutB;constructor
 ·show(ofL _).size≤_;rw[ofL_size];omega
 ·show(ofL _).size≤_;rw[ofL_size];omega
theorem way_ev (house:BA)(base:List BA)(b0:Bool)(a0 way:BA)(hh:house.size≤100000)(hb:base.length≤50)(hp:∀p∈base,p.size≤1048576)(hw:way.size≤800):
  Ev (fun k=>spec_l1Way.f k house base b0 a0 way) (wayO house base way):=by
 unfold spec_l1Way.f wayO;refine Ev.bind (cut_ev way 63 (by omega)) ?_;have hc:=cutB_size 63 way;have g:([]:List BA).length+base.length<8796093022208:=by simp;omega
 simp only[oB_,g,if_true,List.nil_append];refine Ev.bind (split_ev (cutB 63 way).1 47 (by omega)) ?_;have hl:=splitL_len 47 (L (cutB 63 way).1);rw[L_size]at hl;have:=way_l house (cutB 63 way).2.1 (cutB 63 way).2.2 base b0 a0 hh ((splitL 47 (L (cutB 63 way).1)).map ofL) (by rw[List.length_map];omega) _ 0 base (Nat.zero_add _) (by omega) hp;rw[List.drop_zero]at this;exact this
theorem house_l (s h:BA)(hs:s.size≤800):∀(l:List UInt8)(i:Nat),(L s).drop i=l→h=s →
  Ev (fun k=>spec_l1Whole.l0 k s h (⟨#[]⟩:BA) (i:Int)) (wayO (smallB (ofL ((L s).take i++(houseL l).1))) [] (ofL (houseL l).2))
 | [],i,h',e=>by
  have:=bt_end h';have n1:¬((i:Int)<(s.size:Int)):=by omega
  have eq:(L s).take i=L s:=List.take_of_length_le (by rw[L_size];omega);subst e;refine Ev_succ ?_;simp only[spec_l1Whole.l0,n1,if_false,houseL,eq,List.append_nil,of_L,spec_l1Small.f,show h.size≤140737488351232 from by omega,if_true,oB_];refine Ev.bind (way_ev (smallB h) [] false _ _ (by unfold smallB;rw[ofL_size,List.length_map,L_size];omega) (by simp) (by simp) (by decide)) ?_;exact Ev.now _
 |x::xs,i,h',e=>by
  obtain⟨hi,hb,hd⟩:=bt_at h';have e1:wrap64 ((i:Int)+1)=((i+1:Nat):Int):=by rw[w64 (by omega) (by omega)];rfl
  have f1:(i:Int)<(s.size:Int):=by omega
  have f2:(0:Int)≤(i:Int):=by omega
  have f3:(i:Int)≤(s.size:Int):=by omega
  have c1:((x.toNat:Int)=47)↔x=47:=u8_eq (b:=47);have c2:((x.toNat:Int)=63)↔x=63:=u8_eq (b:=63);have x1:s.extract 0 i=ofL ((L s).take i):=by apply L_inj;rw[L_ext,L_of];simp
  have x2:s.extract i s.size=ofL (x::xs):=by
   apply L_inj;rw[L_ext,L_of,h',List.take_of_length_le];rw[←h',List.length_drop,L_size];omega
  have z1:(ofL ((L s).take i)).size≤800:=by rw[ofL_size,lT_,L_size];omega
  have z2:(ofL (x::xs)).size≤800:=by rw[ofL_size,←h',List.length_drop,L_size];omega
  have fin:Ev (fun k=>(spec_l1Way.f k (smallB (ofL ((L s).take i))) ([]:List BA) false (⟨#[]⟩:BA) (ofL (x::xs))).bind fun bt204=>(some (bt204.1,bt204.2.1,bt204.2.2.1,bt204.2.2.2.1,bt204.2.2.2.2))) (wayO (smallB (ofL ((L s).take i++[]))) [] (ofL (x::xs))):=by
   rw[List.append_nil];refine Ev.bind (way_ev _ [] false _ _ (by unfold smallB;rw[ofL_size,List.length_map,L_size];omega) (by simp) (by simp) z2) ?_;exact Ev.now _
  refine Ev_succ ?_;simp only[spec_l1Whole.l0,f1,f2,f3,if_true,hb,c1,c2,e1,tN_,x1,x2,spec_l1Small.f,show(ofL ((L s).take i)).size≤140737488351232 from by omega,oB_];unfold houseL
  by_cases h1:x=47
  ·simp only[h1,if_true,true_or]
   rw[h1]at fin;exact fin
  ·by_cases h2:x=63
   ·simp only[h1,h2,if_true,if_false,or_true,show ¬((63:UInt8)=47)from by decide]
    rw[h2]at fin;exact fin
   ·simp only[h1,h2,if_false,or_self]
    have:=house_l s h hs xs (i+1) hd e;have ht:(L s).take (i+1)++(houseL xs).1=(L s).take i++(x::(houseL xs).1):=by
     have hl:i<(L s).length:=by rw[L_size];exact hi
     have:(L s)[i]=x:=by
      have hd2:(L s).drop i=(L s)[i]::(L s).drop (i+1):=dE_ hl;rw[h']at hd2;injection hd2 with h1 h2;exact h1.symm
     rw[List.take_succ_eq_append_getElem hl,this];simp
    rw[ht]at this;exact this
theorem whole_ev (s:BA)(hs:s.size≤800):Ev (fun k=>spec_l1Whole.f k s) (wholeO s):=by
 have:=house_l s s hs (L s) 0 rfl rfl;simp only[List.take_zero,List.nil_append]at this;exact this
theorem read_ev (raw:BA)(hs:raw.size≤140737488351232):Ev (fun k=>spec_AddrRead.f k raw) (readO raw):=by
 unfold spec_AddrRead.f readO;refine Ev.bind (cut_ev raw 35 hs) ?_;have hc:=(cutB_size 35 raw).1;generalize (cutB 35 raw).1=c at hc ⊢
 by_cases h1:raw.size>60
 ·have n1:(raw.size:Int)>60:=by omega
  simp only[n1,h1,if_true];exact Ev.now _
 ·have n1:¬(raw.size:Int)>60:=by omega
  simp only[n1,h1,if_false]
  by_cases h2:c.size<2
  ·have n2:(c.size:Int)<2:=by omega
   simp only[n2,h2,if_true];exact Ev.now _
  ·have n2:¬(c.size:Int)<2:=by omega
   have n3:(2:Int)≤(c.size:Int):=by omega
   have hx:((c.extract 0 2).toList=[47,47])↔((L c).take 2=[47,47]):=by
    rw[Lib.toList_data]
    show L (c.extract 0 2)=_↔_
    rw[L_ext];simp
   simp only[n2,h2,n3,if_true,if_false,show(0:Int)≤2 from by omega,hx]
   by_cases h3:(L c).take 2=[47,47]
   ·simp only[h3,if_true]
    have hz:(c.extract 2 c.size).size≤800:=by rw[ByteArray.size_extract];omega
    generalize c.extract 2 c.size=z at hz ⊢;exact Ev.bind (whole_ev z hz) (Ev.now _)
   ·simp only[h3,if_false];exact Ev.now _
theorem clean_li (ps:List BA)(hl:ps.length≤1000000)(d:Nat):∀(i:Nat)(acc:List BA),i+d=ps.length→acc.length≤i →
  Ev (fun k=>impl_PathClean.l0 k acc ps (ps.length:Int) (i:Int)) ((ps.drop i).foldl clean1 acc):=by
 induction d with
 |zero=>
  intro i acc hi ha;rw[List.drop_eq_nil_of_le (by omega)];refine Ev_succ ?_;simp only[impl_PathClean.l0,show ¬((i:Int)<(ps.length:Int))from by omega,if_false];exact Ev.now _
 |succ d ih=>
  intro i acc hi ha;have hlt:i<ps.length:=by omega
  have hr:=rd_at hlt;have w1:=w64n1 i (by omega);have f1:(i:Int)<(ps.length:Int):=by omega
  have f2:=ci_nn i;rw[dE_ hlt,List.foldl_cons];generalize ps[i]=p at hr ⊢;have next:∀acc',acc'.length≤i+1→acc'=clean1 acc p→Ev (fun k=>impl_PathClean.l0 k acc' ps (ps.length:Int) ((i+1:Nat):Int)) ((ps.drop (i+1)).foldl clean1 (clean1 acc p)):=fun acc' h1 h2=>by
   rw[←h2];exact ih (i+1) acc' (by omega) h1
  refine Ev_succ ?_;simp only[impl_PathClean.l0,f1,f2,if_true];rw[hr]
  by_cases h1:p.toList=[]
  ·simp only[h1,if_true]
   refine Ev_succ ?_;simp only[impl_PathClean.j1];simp only[show(([]:List UInt8)==[])=true from rfl,if_true];rw[w1];exact next acc (by omega) (by unfold clean1;rw[if_pos h1])
  ·simp only[h1,if_false]
   by_cases h2:p.toList=[46]
   ·refine Ev_succ ?_
    simp only[impl_PathClean.j1];simp only[h2,show(([46]:List UInt8)==[46])=true from rfl,if_true];rw[w1];exact next acc (by omega) (by unfold clean1;rw[if_neg h1,if_pos h2])
   ·refine Ev_succ ?_
    simp only[impl_PathClean.j1];simp only[show(p.toList==([46]:List UInt8))=false from by simp[h2],bF_,if_false]
    by_cases h3:p.toList=[46,46]
    ·simp only[h3,if_true]
     have hc:clean1 acc p=acc.take (acc.length-1):=by unfold clean1;rw[if_neg h1,if_neg h2,if_pos h3]
     by_cases h4:acc.length=0
     ·simp only[show ¬((acc.length:Int)>0)from by omega,if_false]
      rw[w1];exact next acc (by omega) (by rw[hc,List.length_eq_zero_iff.1 h4];rfl)
     ·have w2:wrap64 ((acc.length:Int)-1)=((acc.length-1:Nat):Int):=by rw[w64 (by omega) (by omega)];omega
      simp only[show((acc.length:Int)>0)from by omega,if_true];rw[w2];simp only[show((0:Int)≤((acc.length-1:Nat):Int))from by omega,show(((acc.length-1:Nat):Int)≤(acc.length:Int))from by omega,if_true,tN_];rw[w1];exact next _ (by rw[lT_];omega) hc.symm
    ·simp only[h3,if_false,show acc.length<8796093022208 from by omega,if_true]
     rw[w1];exact next _ (by simp;omega) (by unfold clean1;rw[if_neg h1,if_neg h2,if_neg h3])
theorem clean_i (ps:List BA)(hl:ps.length≤1000000):Ev (fun k=>impl_PathClean.f k ps) (pathClean ps):=
 clean_li ps hl ps.length 0 [] (by omega) (by simp)
def wayI (house:BA)(asks:Bool)(ask:BA)(ps:List BA):A5:=if addrOk house (pathClean ps) asks ask=true then(house,pathClean ps,asks,ask,true)else none5
theorem way_li (house ask:BA)(asks:Bool)(hh:house.size≤100000)(hq:ask.size≤1048576)(ls:List BA)(hl:ls.length≤900)(d:Nat):
  ∀(i:Nat)(acc:List BA),i+d=ls.length→acc.length≤50+i→(∀p∈acc,p.size≤1048576) →
  Ev (fun k=>impl_readWay.l0 k house ask asks acc ls (ls.length:Int) (i:Int)) (match escAll (ls.drop i)with|none=>none5|some ps=>wayI house asks ask (acc++ps)):=by
 induction d with
 |zero=>
  intro i acc hi ha hp;rw[List.drop_eq_nil_of_le (by omega)];refine Ev_succ ?_;simp only[impl_readWay.l0,show ¬((i:Int)<(ls.length:Int))from by omega,if_false,escAll,List.append_nil];refine Ev.bind (clean_i acc (by omega)) ?_;unfold wayI;have hP:Parts (pathClean acc):=⟨by have:=cleanF_len acc [];unfold pathClean;simp only[List.length_nil]at this;omega,fun p hq=>by
   rcases cleanF_mem hq with h|h
   ·cases h
   ·exact hp p h⟩
  refine Ev.bind (addrOk_i house (pathClean acc) asks ask hP (by omega) (by omega)) ?_
  by_cases h2:addrOk house (pathClean acc) asks ask=true
  ·simp only[h2,if_true];exact Ev.now _
  ·simp only[h2,if_false];exact Ev.now _
 |succ d ih=>
  intro i acc hi ha hp;have hi':i<ls.length:=by omega
  have f1:(i:Int)<(ls.length:Int):=by omega
  have f2:=ci_nn i;have e1:=w64n1 i (by omega);have hr:=rd_at hi';rw[dE_ hi'];generalize ls[i]=p at hr ⊢;have hz:=escNorm_size p;refine Ev_succ ?_;simp only[impl_readWay.l0,f1,f2,if_true,hr,e1];refine Ev.bind (escNorm_i p) ?_;unfold escAll
  by_cases h1:(escNorm p).2=true
  ·have g3:acc.length<8796093022208:=by omega
   simp only[h1,if_true,g3];have ih':=ih (i+1) (acc++[(escNorm p).1]) (by omega) (by simp;omega) (fun x hx=>by
    rcases List.mem_append.1 hx with h|h
    ·exact hp x h
    ·rw[List.mem_singleton.1 h];omega)
   cases he:escAll (ls.drop (i+1))with
   |none=>rw[he]at ih';exact ih'
   |some ps=>
    rw[he]at ih';simp only[Option.map_some]
    simpa using ih'
  ·simp only[h1,if_false];exact Ev.now _
theorem way_i (house:BA)(base:List BA)(way:BA)(hh:house.size≤100000)(hb:base.length≤50)(hp:∀p∈base,p.size≤1048576)(hw:way.size≤800):
  Ev (fun k=>impl_readWay.f k house base way) (wayO house base way):=by
 unfold impl_readWay.f wayO;have hc:=cutB_size 63 way;rw[cut_i way 63 (by omega)];simp only[oB_];have hz:=escNorm_size (cutB 63 way).2.1;refine Ev.bind (escNorm_i (cutB 63 way).2.1) ?_
 by_cases h1:(escNorm (cutB 63 way).2.1).2=true
 ·simp only[h1,if_true,slices_Clone_string_string.f,show base.length*16≤140737488355328 from by omega,oB_]
  refine Ev.bind (split_i (cutB 63 way).1 47 (by omega)) ?_;have hl:=splitL_len 47 (L (cutB 63 way).1);rw[L_size]at hl;have:=way_li house (escNorm (cutB 63 way).2.1).1 (cutB 63 way).2.2 hh (by omega) ((splitL 47 (L (cutB 63 way).1)).map ofL) (by rw[List.length_map];omega) _ 0 base (Nat.zero_add _) (by omega) hp;rw[List.drop_zero]at this;exact this
 ·simp only[h1,if_false]
  generalize escAll ((splitL 47 (L (cutB 63 way).1)).map ofL)=o;cases o <;> exact Ev.now _
theorem any_house:∀l:List UInt8,(Lib.indexAny l [47,63]=-1→houseL l=(l,[]))∧(∀n:Nat,Lib.indexAny l [47,63]=(n:Int)→houseL l=(l.take n,l.drop n)∧n≤l.length)
 | []=>⟨fun _=>rfl,fun n h=>by unfold Lib.indexAny at h;omega⟩
 |x::xs=>by
  obtain⟨i1,i2⟩:=any_house xs;unfold Lib.indexAny houseL
  by_cases h:x=47∨x=63
  ·have hc:([47,63]:List UInt8).contains x=true:=by rcases h with h|h <;> subst h <;> decide
   rw[if_pos h,if_pos hc];refine⟨fun e=>by omega,fun n e=>?_⟩;obtain rfl:n=0:=by omega
   exact⟨rfl,Nat.zero_le _⟩
  ·have hc:¬([47,63]:List UInt8).contains x=true:=by
    simp only[List.contains_cons,List.contains_nil,Bool.or_false,Bool.or_eq_true,beq_iff_eq];exact h
   rw[if_neg h,if_neg hc];have hge:=Lib.indexAny_ge [47,63] xs
   by_cases h2:Lib.indexAny xs [47,63]=-1
   ·have hb:(Lib.indexAny xs [47,63] == -1)=true:=by simp[h2]
    rw[if_pos hb];refine⟨fun _=>by rw[i1 h2],fun n e=>by omega⟩
   ·have hb:¬(Lib.indexAny xs [47,63] == -1)=true:=by simp[h2]
    rw[if_neg hb];refine⟨fun e=>by omega,fun n e=>?_⟩;obtain⟨m,hm⟩:∃m:Nat,Lib.indexAny xs [47,63]=(m:Int):=⟨(Lib.indexAny xs [47,63]).toNat,by omega⟩;obtain⟨g1,g2⟩:=i2 m hm;obtain rfl:n=m+1:=by omega
    rw[g1];exact⟨rfl,by simp only[List.length_cons];omega⟩
def wholeI (s:BA):A5:=if s.size<2 then none5 else if(L s).take 2=[47,47]then wholeO (s.extract 2 s.size)else none5
theorem prefix_i (s:BA)(hs:s.size≤800):stringslite_HasPrefix.f s ⟨#[47,47]⟩=some (decide (2≤s.size)&&decide ((L s).take 2=[47,47])):=by
 unfold stringslite_HasPrefix.f;have e2:(⟨#[47,47]⟩:BA).size=2:=rfl;rw[e2]
 by_cases h:2≤s.size
 ·rw[if_pos (by omega),if_pos (by omega),if_pos (by omega)]
  have hx:(s.extract 0 2).toList=(L s).take 2:=by rw[Lib.toList_data];show L (s.extract 0 2)=_;rw[L_ext];simp
  have hy:(⟨#[47,47]⟩:BA).toList=[47,47]:=by rw[Lib.toList_data]
  simp only[tN_,hx,hy,h,decide_true,tA_]
  congr 1
  rw[Bool.eq_iff_iff];simp
 ·rw[if_neg (by omega)]
  simp[h]
theorem whole_i (s:BA)(hs:s.size≤800):Ev (fun k=>impl_readWhole.f k s) (wholeI s):=by
 unfold impl_readWhole.f strings_CutPrefix.f stringslite_CutPrefix.f wholeI;have e2:(⟨#[47,47]⟩:BA).size=2:=rfl;rw[prefix_i s hs,e2];simp only[oB_]
 by_cases h:2≤s.size
 ·by_cases h3:(L s).take 2=[47,47]
  ·simp only[h,h3,decide_true,tA_,if_true,show ¬(s.size<2)from by omega,if_false]
   rw[if_pos (by omega),if_pos (by omega)];simp only[oB_,if_true,tN_];have hz:(s.extract 2 s.size).size≤800:=by rw[ByteArray.size_extract];omega
   generalize s.extract 2 s.size=z at hz;unfold strings_IndexAny.f wholeO;have ez:L (⟨#[47,63]⟩:BA)=[47,63]:=rfl;rw[ez,if_pos ⟨rfl,by omega⟩];obtain⟨a1,a2⟩:=any_house (L z);have hge:=Lib.indexAny_ge [47,63] (L z)
   by_cases hi:Lib.indexAny (L z) [47,63]=-1
   ·have hH:=a1 hi
    rw[hH];have x1:z.extract 0 ((z.size:Int)).toNat=z:=by apply L_inj;rw[L_ext,tN_,List.drop_zero];exact List.take_of_length_le (by rw[Nat.sub_zero];exact Nat.le_of_eq (L_size z))
    have x2:z.extract ((z.size:Int)).toNat z.size=ofL []:=by apply L_inj;rw[L_ext,L_of,tN_,Nat.sub_self];exact List.take_zero
    rw[of_L];refine Ev.congr (f:=fun k=>(impl_readWay.f k (smallB z) [] (ofL [])).bind fun b=>some (b.1,b.2.1,b.2.2.1,b.2.2.2.1,b.2.2.2.2)) (fun k=>?_) ?_
    ·rw[hi,oB_,if_pos (by omega),if_pos (by omega),if_pos (by omega)]
     first|rw[x1,x2]|(simp only[tN_]at x1 x2;rw[x1,x2])
     unfold impl_smallLetters.f;rw[if_pos (by omega),oB_]
    refine Ev.bind (way_i (smallB z) [] (ofL []) (by unfold smallB;rw[ofL_size,List.length_map,L_size];omega) (by simp) (by simp) (by decide)) ?_;exact Ev.now _
   ·obtain⟨n,hn⟩:∃n:Nat,Lib.indexAny (L z) [47,63]=(n:Int):=⟨(Lib.indexAny (L z) [47,63]).toNat,by omega⟩
    obtain⟨hH,hle⟩:=a2 n hn;rw[L_size]at hle;rw[hH];have x1:z.extract 0 ((n:Int)).toNat=ofL ((L z).take n):=by apply L_inj;rw[L_ext,L_of];simp
    have x2:z.extract ((n:Int)).toNat z.size=ofL ((L z).drop n):=by
     apply L_inj;rw[L_ext,L_of,tN_];exact List.take_of_length_le (by rw[List.length_drop,L_size];exact lL_ _)
    have s1:(ofL ((L z).take n)).size≤800:=by rw[ofL_size,lT_,L_size];omega
    have s2:(ofL ((L z).drop n)).size≤800:=by rw[ofL_size,List.length_drop,L_size];omega
    generalize ofL ((L z).take n)=y at s1 x1 ⊢;refine Ev.congr (f:=fun k=>(impl_readWay.f k (smallB y) [] (ofL ((L z).drop n))).bind fun b=>some (b.1,b.2.1,b.2.2.1,b.2.2.2.1,b.2.2.2.2)) (fun k=>?_) ?_
    ·rw[hn,oB_,if_neg (by omega),if_pos (by omega),if_pos (by omega),x1,x2]
     unfold impl_smallLetters.f;rw[if_pos (by omega),oB_]
    refine Ev.bind (way_i (smallB y) [] _ (by unfold smallB;rw[ofL_size,List.length_map,L_size];omega) (by simp) (by simp) s2) ?_;exact Ev.now _
  ·simp only[h,h3,decide_true,decide_false,Bool.and_false,bF_,if_false,oB_,show ¬(s.size<2)from by omega]
   exact Ev.now _
 ·simp only[h,decide_false,fA_,bF_,if_false,oB_,show s.size<2 from by omega,if_true]
  exact Ev.now _
theorem read_i (raw:BA):Ev (fun k=>impl_AddrRead.f k raw) (readO raw):=by
 unfold impl_AddrRead.f readO
 by_cases h:raw.size>60
 ·simp only[show((raw.size:Int)>60)from by omega,if_true,h]
  exact Ev.now _
 ·simp only[show ¬((raw.size:Int)>60)from by omega,if_false,h]
  have hc:=cutB_size 35 raw;rw[cut_i raw 35 (by omega)];simp only[oB_];refine Ev.bind (whole_i (cutB 35 raw).1 (by omega)) ?_;exact Ev.now _
end Go.Proofs.YtalfefmnlnkcaaaGreatDoor.Ad
end
section
namespace Go.Proofs.YtalfefmnlnkcaaaGreatDoor.P
open Go.RowKit Go.Proofs.YtalfefmnlnkcaaaGreatDoorW PrintWords PrintLast PrintMore
attribute [local go_sem] max2_int min2_int max_two min_two max_three min_three max_four min_four
set_option maxHeartbeats 8000000
set_option maxRecDepth 100000

end Go.Proofs.YtalfefmnlnkcaaaGreatDoor.P
end
section
namespace Go.Proofs.YtalfefmnlnkcaaaGreatDoor.Wd
open Go.RowKit Go.Proofs.YtalfefmnlnkcaaaGreatDoor.P Go.Proofs.YtalfefmnlnkcaaaGreatDoorW PrintWords PrintLast PrintMore Go.Proofs.YtalfefmnlnkcaaaGreatDoor.B Go.Proofs.YtalfefmnlnkcaaaGreatDoor.Ad
def norm (s:BA):Bool:=(readO s).2.2.2.2&&(textB (readO s).1 (readO s).2.1 (readO s).2.2.1 (readO s).2.2.2.1).toList==s.toList
theorem readAddr_i (s:BA):Ev (fun k=>impl_readAddress.f k s) (if norm s=true then((readO s).1,(readO s).2.1,(readO s).2.2.1,(readO s).2.2.2.1,true)else none5):=by
 unfold impl_readAddress.f;refine Ev.bind (read_i s) ?_;have hF:=fine_read s;obtain⟨q1,q2,q3⟩:=fine_parts hF;unfold norm
 by_cases h:(readO s).2.2.2.2=true
 ·have ht:=text_i (readO s).1 (readO s).2.1 (readO s).2.2.1 (readO s).2.2.2.1 q1 (by omega) (by omega)
  simp only[h,if_true,ht,oB_,tA_]
  by_cases h2:(textB (readO s).1 (readO s).2.1 (readO s).2.2.1 (readO s).2.2.2.1).toList=s.toList
  ·simp only[h2,if_true,beq_self_eq_true]
   exact Ev.now _
  ·simp only[h2,if_false,bN_.mpr h2,bF_]
   exact Ev.now _
 ·have h':(readO s).2.2.2.2=false:=by simpa using h
  simp only[h',fA_,bF_,if_false];exact Ev.now _
theorem norm_s (s:BA)(hs:s.size≤140737488351232):Ev (fun k=>spec_l11Norm.f k s) (norm s):=by
 unfold spec_l11Norm.f;refine Ev.bind (read_ev s hs) ?_;have hF:=fine_read s;obtain⟨q1,q2,q3⟩:=fine_parts hF;unfold norm
 by_cases h:(readO s).2.2.2.2=true
 ·simp only[h,if_true,tA_]
  have ho:addrOk (readO s).1 (readO s).2.1 (readO s).2.2.1 (readO s).2.2.2.1=true:=by
   rcases hF with e|e
   ·rw[e]at h;cases h
   ·exact e.2
  refine Ev.bind (addrText_ev _ _ _ _ q1 (by omega) (by omega)) ?_;unfold addrText;rw[if_pos ho];exact Ev.now _
 ·have h':(readO s).2.2.2.2=false:=by simpa using h
  simp only[h',fA_,bF_,if_false];exact Ev.now _
end Go.Proofs.YtalfefmnlnkcaaaGreatDoor.Wd
end
section
namespace Go.Proofs.YtalfefmnlnkcaaaGreatDoor.Tr
open Go.RowKit Go.Proofs.YtalfefmnlnkcaaaGreatDoor.P Go.Proofs.YtalfefmnlnkcaaaGreatDoorW PrintWords PrintLast PrintMore Go.Proofs.YtalfefmnlnkcaaaGreatDoor.B Go.Proofs.YtalfefmnlnkcaaaGreatDoor.Ad Go.Proofs.YtalfefmnlnkcaaaGreatDoor.Wd
def hasS (l:List BA)(x:BA):Bool:=l.any fun s=>decide (s=x)
theorem hasS_iff {l:List BA}{x:BA}:hasS l x=true↔x∈l:=by
 unfold hasS;simp
structure Small (n:BA)(hs:List MH)(sn:List BA)(lk:List MK):Prop where
 nn:n.size≤1048576
 lh:hs.length≤1048576
 hn:∀h∈hs,h.f0.size≤1048576
 h3:∀h∈hs,h.f3.f0.length≤1048576
 h4:∀h∈hs,h.f3.f1.length≤1048576
 s4:∀h∈hs,∀r∈h.f3.f1,r.f1.size≤1048576
 h5:∀h∈hs,h.f5.length≤1048576
 s5:∀h∈hs,∀x∈h.f5,x.f0.size≤1048576
 ls:sn.length≤1048576
 s:∀x∈sn,x.size≤1048576
 ll:lk.length≤1048576
 k:∀x∈lk,x.f1.size≤1048576
end Go.Proofs.YtalfefmnlnkcaaaGreatDoor.Tr
end
section
namespace Go.Proofs.YtalfefmnlnkcaaaGreatDoor.Nn
open Go.RowKit Go.Proofs.YtalfefmnlnkcaaaGreatDoor.P Go.Proofs.YtalfefmnlnkcaaaGreatDoorW PrintWords PrintLast PrintMore Go.Proofs.YtalfefmnlnkcaaaGreatDoor.B Go.Proofs.YtalfefmnlnkcaaaGreatDoor.Ad
theorem impl_small_l (s:BA)(hs:s.size≤140737488351232)(d:Nat):∀(k:Nat)(i:Nat),i+d=s.size→d<k →
  impl_allSmallLetters.l0 k s (i:Int)=some (smallFrom s d i):=by
 induction d with
 |zero=>
  intro k i h hk;obtain⟨k,rfl⟩:∃m,k=m+1:=⟨k-1,by omega⟩;simp only[impl_allSmallLetters.l0,smallFrom];rw[if_neg (by omega)]
 |succ d ih=>
  intro k i h hk;obtain⟨k,rfl⟩:∃m,k=m+1:=⟨k-1,by omega⟩;simp only[impl_allSmallLetters.l0,smallFrom];rw[if_pos (by omega),if_pos (by omega)]
  by_cases h1:bt s i<97
  ·rw[if_pos h1,if_pos h1]
  ·rw[if_neg h1,if_neg h1]
   by_cases h2:bt s i>122
   ·rw[if_pos h2,if_pos h2]
   ·rw[if_neg h2,if_neg h2,w64 (by omega) (by omega)]
    exact ih k (i+1) (by omega) (by omega)
theorem impl_name (s:BA)(hs:s.size≤140737488351232):Ev (fun k=>impl_isName.f k s) (isName s):=by
 unfold impl_isName.f isName isSmall
 by_cases h1:1≤s.size
 ·by_cases h2:s.size≤8
  ·simp only[show(s.size:Int)≥1 from by omega,show(s.size:Int)≤8 from by omega,if_true,h1,h2,decide_true,tA_]
   refine Ev.bind (a:=smallFrom s s.size 0) ?_ (Ev.now _);refine Ev.of (fun k=>impl_allSmallLetters.mono _ k) (k:=s.size+1) ?_;exact impl_small_l s hs s.size (s.size+1) 0 (by omega) (by omega)
  ·simp only[show(s.size:Int)≥1 from by omega,show ¬(s.size:Int)≤8 from by omega,if_true,if_false,h2,decide_false,Bool.and_false,fA_]
   exact Ev.now _
 ·simp only[show ¬(s.size:Int)≥1 from by omega,if_false,h1,decide_false,fA_]
  exact Ev.now _
end Go.Proofs.YtalfefmnlnkcaaaGreatDoor.Nn
end
section
namespace Go.Proofs.YtalfefmnlnkcaaaGreatDoor.P
open Go.RowKit Go.Proofs.YtalfefmnlnkcaaaGreatDoorW PrintWords PrintLast PrintMore Go.Maps Go.ChangeMaps

end Go.Proofs.YtalfefmnlnkcaaaGreatDoor.P
end
section
namespace Go.Proofs.YtalfefmnlnkcaaaGreatDoor.P
open Go.RowKit Go.Proofs.YtalfefmnlnkcaaaGreatDoorW PrintWords PrintLast PrintMore
attribute [local go_sem] max2_int min2_int max_two min_two max_three min_three max_four min_four
set_option maxHeartbeats 8000000
set_option maxRecDepth 100000

end Go.Proofs.YtalfefmnlnkcaaaGreatDoor.P
end
section
namespace Go.Proofs.YtalfefmnlnkcaaaGreatDoor.Tr
open Go.RowKit Go.Proofs.YtalfefmnlnkcaaaGreatDoor.P Go.Proofs.YtalfefmnlnkcaaaGreatDoorW PrintWords PrintLast PrintMore Go.Proofs.YtalfefmnlnkcaaaGreatDoor.B Go.Proofs.YtalfefmnlnkcaaaGreatDoor.Ad Go.Proofs.YtalfefmnlnkcaaaGreatDoor.Wd
theorem index_l (l:List BA)(x:BA)(hl:l.length≤1048576)(d:Nat):∀i,i+d=l.length→Ev (fun k=>(slices_Index_string_string.l0 k l x (l.length:Int) (i:Int)).bind fun t=>some (decide (t≥0))) (hasS (l.drop i) x):=by
 induction d with
 |zero=>
  intro i hi;refine Ev_succ ?_;simp only[slices_Index_string_string.l0,show ¬((i:Int)<(l.length:Int))from by omega,if_false,oB_];rw[List.drop_of_length_le (by omega)];exact Ev.now _
 |succ d ih=>
  intro i hi;have hlt:i<l.length:=by omega
  have w1:wrap64 ((i:Int)+1)=((i+1:Nat):Int):=by rw[w64 (by omega) (by omega)];rfl
  have next:=ih (i+1) (by omega);refine Ev_succ ?_;simp only[slices_Index_string_string.l0,show(i:Int)<(l.length:Int)from by omega,nn i,if_true,rd_S hlt];rw[w1];unfold hasS at next ⊢;rw[dE_ hlt,List.any_cons]
  by_cases h:x.toList=l[i].toList
  ·have e:l[i]=x:=(toList_inj.1 h).symm
   simp only[h,if_true,oB_,e,decide_true,Bool.true_or];rw[show decide ((i:Int)≥0)=true from by simp];exact Ev.now _
  ·have e:¬l[i]=x:=fun e=>h (by rw[e])
   simp only[h,if_false,e,decide_false,Bool.false_or];exact next
theorem has_i (l:List BA)(x:BA)(hl:l.length≤1048576):Ev (fun k=>slices_Contains_string_string.f k l x) (hasS l x):=by
 have:=index_l l x hl l.length 0 (by omega);rw[List.drop_zero]at this;exact this
def hearOne (nm:BA)(hs:List MH)(sn:List BA)(s:BA):List MH×List BA:=
 if norm s=true∧sn.length<60∧hasS sn s=false then(tnAdd nm (readO s).1 s hs,sn++[s])else(hs,sn)
def allF (nm:BA):List BA→List MH→List BA→List MH×List BA
 | [],hs,sn=>(hs,sn)
 |s::r,hs,sn=>allF nm r (hearOne nm hs sn s).1 (hearOne nm hs sn s).2
structure Hg (nm:BA)(sn:List BA)(h:MH):Prop where
 r1:h.f1=0
 r2:h.f2=false
 r3:h.f3=⟨[nm],[],0⟩
 r4:h.f4=0
 ho:isHouse h.f0=true
 td:∀x∈h.f5,x.f1=0∧norm x.f0=true∧(readO x.f0).1=h.f0∧x.f0∈sn
 nd:(h.f5.map (·.f0)).Nodup
structure Inv (nm:BA)(hs:List MH)(sn:List BA):Prop where
 ln:hs.length≤sn.length
 s60:sn.length≤60
 nd:sn.Nodup
 nrm:∀s∈sn,norm s=true
 sz:∀s∈sn,s.size≤1048576
 hd:(hs.map (·.f0)).Nodup
 hh:∀h∈hs,Hg nm sn h
 sum:(hs.map fun h=>h.f5.length).sum=sn.length
theorem Hg.len {nm:BA}{sn:List BA}{h:MH}(g:Hg nm sn h):h.f5.length≤sn.length:=by
 have:=List.Nodup.length_le_of_subset g.nd (l₂:=sn) (fun s hs=>by
  obtain⟨x,hx,rfl⟩:=List.mem_map.1 hs;exact(g.td x hx).2.2.2)
 rwa [List.length_map]at this
theorem inv_nil (nm:BA):Inv nm [] []:=⟨by simp,by simp,List.nodup_nil,by simp,by simp,List.nodup_nil,by simp,rfl⟩
theorem norm_house {s:BA}(h:norm s=true):(readO s).2.2.2.2=true∧isHouse (readO s).1=true:=by
 have h1:(readO s).2.2.2.2=true:=by
  unfold norm at h;rw[aE_]at h;exact h.1
 refine⟨h1,?_⟩;rcases fine_read s with e|⟨_,e⟩
 ·rw[e]at h1;cases h1
 ·rw[okEnd_is]at e
  simp only[aE_]at e;exact e.1.1
theorem tnIdx_at (n:BA):∀(l:List MH)(h:tnIdx n l<l.length),(l[tnIdx n l]'h).f0=n
 | [],h=>by simp at h
 |x::r,h=>by
  by_cases c:x.f0=n
  ·have e:tnIdx n (x::r)=0:=by unfold tnIdx;rw[if_pos c]
   simp only[e,List.getElem_cons_zero];exact c
  ·have e:tnIdx n (x::r)=tnIdx n r+1:=by conv=>lhs;unfold tnIdx;rw[if_neg c]
   have hr:tnIdx n r<r.length:=by rw[e]at h;simpa using h
   simp only[e,List.getElem_cons_succ];exact tnIdx_at n r hr
theorem tnIdx_none (n:BA):∀(l:List MH),¬tnIdx n l<l.length→n ∉ l.map (·.f0)
 | [],_=>by simp
 |x::r,h=>by
  by_cases c:x.f0=n
  ·have e:tnIdx n (x::r)=0:=by unfold tnIdx;rw[if_pos c]
   rw[e]at h;simp at h
  ·have e:tnIdx n (x::r)=tnIdx n r+1:=by conv=>lhs;unfold tnIdx;rw[if_neg c]
   rw[e]at h;have:=tnIdx_none n r (by simpa using h);rw[List.map_cons,List.mem_cons];rintro(e|e)
   ·exact c e.symm
   ·exact this e
theorem at_name (nm n:BA)(l:List MH):(hzAt (tnHouse nm n l) (tnIdx n l)).f0=n:=by
 unfold hzAt tnHouse
 split
 ·rename_i h
  rw[gD_,gE_ h];exact tnIdx_at n l h
 ·rename_i h
  have e:tnIdx n l=l.length:=by have:=tnIdx_le n l;omega
  rw[e,gD_,List.getElem?_append_right (lL_ _),Nat.sub_self];rfl
theorem set_names {l:List MH}{j:Nat}{x:MH}(hj:j<l.length)(hx:x.f0=l[j].f0):(l.set j x).map (·.f0)=l.map (·.f0):=by
 apply List.ext_getElem?;intro i;rw[List.getElem?_map,List.getElem?_map,List.getElem?_set]
 by_cases h:j=i
 ·subst h
  simp[hj,hx]
 ·simp[h]
theorem sum_set {l:List Nat}{j x:Nat}(hj:j<l.length)(hx:x=l[j]+1):(l.set j x).sum=l.sum+1:=by
 induction l generalizing j with
 |nil=>simp at hj
 |cons a r ih=>
  cases j with
  |zero=>simp only[l0_,List.sum_cons];simp only[List.getElem_cons_zero]at hx;omega
  |succ i=>
   simp only[lC_,List.sum_cons];rw[ih (by simpa using hj) (by simpa using hx)];omega
theorem inv_one {nm s:BA}{hs:List MH}{sn:List BA}(h:Inv nm hs sn)(hz:s.size≤1048576):Inv nm (hearOne nm hs sn s).1 (hearOne nm hs sn s).2:=by
 unfold hearOne
 split
 case isFalse=>exact h
 rename_i c;obtain⟨c1,c2,c3⟩:=c;obtain⟨ok,hn⟩:=norm_house c1;have hns:s ∉ sn:=fun e=>by rw[hasS_iff.2 e]at c3;cases c3
 obtain⟨n,hnn⟩:∃n,(readO s).1=n:=⟨_,rfl⟩;rw[hnn]at hn ⊢;have grow:∀ {q:MH},Hg nm sn q→Hg nm (sn++[s]) q:=fun g=>⟨g.r1,g.r2,g.r3,g.r4,g.ho,fun x hx=>⟨(g.td x hx).1,(g.td x hx).2.1,(g.td x hx).2.2.1,List.mem_append_left _ (g.td x hx).2.2.2⟩,g.nd⟩
 have hl:∀q∈tnHouse nm n hs,Hg nm sn q:=by
  unfold tnHouse
  split
  ·exact h.hh
  ·intro q hq
   rcases List.mem_append.1 hq with hq|hq
   ·exact h.hh q hq
   ·rw[List.mem_singleton.1 hq]
    exact⟨rfl,rfl,rfl,rfl,hn,by simp[tnNew],by simp[tnNew]⟩
 have hnd:((tnHouse nm n hs).map (·.f0)).Nodup:=by
  unfold tnHouse
  split
  ·exact h.hd
  ·rename_i hni
   rw[List.map_append];refine List.nodup_append.2 ⟨h.hd,by simp,fun a ha b hb e=>?_⟩;have hb2:b=n:=by simpa [tnNew]using hb
   exact tnIdx_none n hs hni (by rw[←hb2,←e];exact ha)
 have hsum:((tnHouse nm n hs).map fun h=>h.f5.length).sum=sn.length:=by
  unfold tnHouse
  split
  ·exact h.sum
  ·rw[List.map_append,List.sum_append]
   simp[tnNew,h.sum]
 have hj:=tnIdx_lt nm n hs;have hq0:=at_name nm n hs;obtain⟨l,el⟩:∃l,tnHouse nm n hs=l:=⟨_,rfl⟩;obtain⟨j,ej⟩:∃j,tnIdx n hs=j:=⟨_,rfl⟩;have hlen:=tnHouse_len nm n hs;unfold tnAdd;rw[el,ej]at hq0 ⊢;rw[el]at hl hnd hsum hj hlen;rw[ej]at hj;have hat:hzAt l j=l[j]:=by unfold hzAt;rw[gD_,gE_ hj];rfl
 rw[hat]at hq0 ⊢;have gq:=hl l[j] (List.getElem_mem hj);have gx:Hg nm (sn++[s]) (hzTodo l[j] s):=by
  refine⟨gq.r1,gq.r2,gq.r3,gq.r4,gq.ho,fun x hx=>?_,?_⟩
  ·rcases List.mem_append.1 hx with hx|hx
   ·exact⟨(gq.td x hx).1,(gq.td x hx).2.1,(gq.td x hx).2.2.1,List.mem_append_left _ (gq.td x hx).2.2.2⟩
   ·rw[List.mem_singleton.1 hx]
    exact⟨rfl,c1,hnn.trans hq0.symm,List.mem_append_right _ (by simp)⟩
  ·show((l[j].f5++[(⟨s,0⟩:MI)]).map (·.f0)).Nodup
   rw[List.map_append];refine List.nodup_append.2 ⟨gq.nd,by simp,fun a ha b hb=>?_⟩;simp only[List.map_cons,List.map_nil,List.mem_singleton]at hb;subst hb;obtain⟨x,hx,rfl⟩:=List.mem_map.1 ha;exact fun e=>hns (e ▸ (gq.td x hx).2.2.2)
 refine⟨by simp only[List.length_set,lA_,List.length_singleton];have:=h.ln;omega,by simp only[lA_,List.length_singleton];omega,List.nodup_append.2 ⟨h.nd,by simp,fun a ha b hb=>by simp only[List.mem_singleton]at hb;subst hb;exact fun e=>hns (e ▸ ha)⟩,fun x hx=>?_,fun x hx=>?_,by show((l.set j (hzTodo l[j] s)).map (·.f0)).Nodup;rw[set_names (x:=hzTodo l[j] s) hj rfl];exact hnd,fun q hq=>?_,?_⟩
 ·rcases List.mem_append.1 hx with hx|hx
  ·exact h.nrm x hx
  ·rw[List.mem_singleton.1 hx];exact c1
 ·rcases List.mem_append.1 hx with hx|hx
  ·exact h.sz x hx
  ·rw[List.mem_singleton.1 hx];exact hz
 ·rcases List.mem_or_eq_of_mem_set hq with hq|rfl
  ·exact grow (hl q hq)
  ·exact gx
 ·rw[List.map_set,sum_set (by rw[List.length_map];exact hj) (by rw[List.getElem_map];show(l[j].f5++[(⟨s,0⟩:MI)]).length=_;rw[lA_,List.length_singleton]),hsum,lA_,List.length_singleton]
theorem inv_all {nm:BA}:∀(l:List BA)(hs:List MH)(sn:List BA),Inv nm hs sn→(∀s∈l,s.size≤1048576)→Inv nm (allF nm l hs sn).1 (allF nm l hs sn).2
 | [],hs,sn,h,_=>h
 |s::r,hs,sn,h,hz=>inv_all r _ _ (inv_one h (hz s (List.mem_cons_self ..))) (fun x hx=>hz x (List.mem_cons_of_mem _ hx))
theorem house_l (n:BA)(now:Int)(hs:List MH)(sn:List BA)(lk:List MK)(x:BA)(hl:hs.length≤1048576)(d:Nat):∀j:Nat,j+d=hs.length→Ev (fun k=>spec_l12House.l0 k x (j:Int) n now hs sn lk) (if tnIdx x (hs.drop j)<(hs.drop j).length then((j+tnIdx x (hs.drop j):Nat):Int)else -1):=by
 induction d with
 |zero=>
  intro j hj;refine Ev_succ ?_;simp only[spec_l12House.l0,show ¬((j:Int)<(hs.length:Int))from by omega,if_false];rw[List.drop_of_length_le (by omega)];exact Ev.now _
 |succ d ih=>
  intro j hj;have hlt:j<hs.length:=by omega
  have w1:wrap64 ((j:Int)+1)=((j+1:Nat):Int):=by rw[w64 (by omega) (by omega)];rfl
  have next:=ih (j+1) (by omega);refine Ev_succ ?_;simp only[spec_l12House.l0,show(j:Int)<(hs.length:Int)from by omega,nn j,if_true,rd_MH hlt];rw[dE_ hlt]
  by_cases h:hs[j].f0=x
  ·have h':hs[j].f0.toList=x.toList:=by rw[h]
   have e:tnIdx x (hs[j]::hs.drop (j+1))=0:=by unfold tnIdx;rw[if_pos h]
   simp only[h',if_true,e,List.length_cons,Nat.zero_lt_succ,Nat.add_zero];exact Ev.now _
  ·have h':¬hs[j].f0.toList=x.toList:=fun e=>h (toList_inj.1 e)
   have e:tnIdx x (hs[j]::hs.drop (j+1))=tnIdx x (hs.drop (j+1))+1:=by conv=>lhs;unfold tnIdx;rw[if_neg h]
   simp only[h',if_false,e,List.length_cons,Nat.add_lt_add_iff_right];rw[w1];rw[show j+(tnIdx x (hs.drop (j+1))+1)=j+1+tnIdx x (hs.drop (j+1))from by omega];exact next
theorem house_n (n:BA)(now:Int)(hs:List MH)(sn:List BA)(lk:List MK)(x:BA)(hl:hs.length≤1048576):Ev (fun k=>spec_l12House.f k n now hs sn lk x) (spIdx x hs):=by
 have:=house_l n now hs sn lk x hl hs.length 0 (by omega);rw[List.drop_zero,Nat.zero_add]at this;exact this
theorem at_good {nm n:BA}{hs:List MH}{sn:List BA}(h:Inv nm hs sn):(hzAt (tnHouse nm n hs) (tnIdx n hs)).f2=false∧(hzAt (tnHouse nm n hs) (tnIdx n hs)).f5.length≤60:=by
 have hj:=tnIdx_lt nm n hs;have hat:hzAt (tnHouse nm n hs) (tnIdx n hs)=(tnHouse nm n hs)[tnIdx n hs]:=by unfold hzAt;rw[gD_,gE_ hj];rfl
 rw[hat];have hm:=List.getElem_mem hj;generalize (tnHouse nm n hs)[tnIdx n hs]=q at hm;unfold tnHouse at hm
 split at hm
 ·have g:=h.hh q hm
  exact⟨g.r2,nT_ g.len h.s60⟩
 ·rcases List.mem_append.1 hm with hm|hm
  ·have g:=h.hh q hm
   exact⟨g.r2,nT_ g.len h.s60⟩
  ·rw[List.mem_singleton.1 hm]
   exact⟨rfl,by simp[tnNew]⟩
theorem hear_i {nm:BA}{hs:List MH}{sn:List BA}(h:Inv nm hs sn)(s:BA):Ev (fun k=>impl_hear.f k nm hs sn s) (hearOne nm hs sn s):=by
 have h1:=h.ln;have h2:=h.s60;unfold impl_hear.f hearOne;simp only[show hs.length<1000000 from by omega,if_true];refine Ev.bind (readAddr_i s) ?_
 by_cases c1:norm s=true
 ·rw[if_pos c1]
  by_cases c2:60≤sn.length
  ·simp only[c2,or_true,if_true,show ¬sn.length<60 from by omega,false_and,and_false,if_false]
   exact Ev.now _
  ·simp only[c2,or_false,Bool.true_eq_false,if_false]
   refine Ev.bind (has_i sn s (by omega)) ?_;cases c3:hasS sn s with
   |true=>simp only[if_true,Bool.true_eq_false,and_false,if_false];exact Ev.now _
   |false=>
    obtain⟨g1,g2⟩:=at_good (n:=(readO s).1) h;simp only[bF_,if_false,g1,false_or,show ¬1000000≤(hzAt (tnHouse nm (readO s).1 hs) (tnIdx (readO s).1 hs)).f5.length from by omega,c1,show sn.length<60 from by omega,and_self,if_true];exact Ev.now _
 ·rw[if_neg c1]
  have e:(none5:A5).2.2.2.2=false:=rfl;simp only[e,true_or,if_true,c1,false_and,if_false];exact Ev.now _
theorem hear_s {nm:BA}{hs:List MH}{sn:List BA}(h:Inv nm hs sn)(s:BA)(hz:s.size≤1048576)(hn:norm s=true):Ev (fun k=>spec_l12Hear.f k nm 0 hs sn [] s) (hearOne nm hs sn s):=by
 have h1:=h.ln;have h2:=h.s60;obtain⟨ok,_⟩:=norm_house hn;unfold spec_l12Hear.f hearOne;simp only[show hs.length<1000000 from by omega,show sn.length<1000000 from by omega,and_self,if_true]
 by_cases c3:hasS sn s=true
 ·rw[if_neg (by rw[c3];simp)]
  simp only[show hasL sn s=true from c3,if_true];exact Ev.now _
 ·have c3':hasS sn s=false:=by simpa using c3
  simp only[show ¬hasL sn s=true from c3,if_false];refine Ev.bind (read_ev s (by omega)) ?_
  by_cases c2:60≤sn.length
  ·rw[if_neg (by omega)]
   simp only[c2,or_true,if_true];exact Ev.now _
  ·rw[if_pos ⟨hn,by omega,c3'⟩]
   simp only[ok,c2,or_false,Bool.true_eq_false,if_false];refine Ev.bind (house_n nm 0 hs (sn++[s]) [] (readO s).1 (by omega)) ?_;obtain⟨g1,g2⟩:=at_good (n:=(readO s).1) h;simp only[ne_eq,not_true_eq_false,false_or,show ¬1000000≤(hzAt (tnHouse nm (readO s).1 hs) (tnIdx (readO s).1 hs)).f5.length from by omega,if_false];exact Ev.now _
theorem all_i {nm:BA}:∀(l:List BA)(hs:List MH)(sn:List BA),Inv nm hs sn→(∀s∈l,s.size≤1048576)→Ev (fun k=>hearAll k nm l hs sn) (allF nm l hs sn)
 | [],hs,sn,h,_=>Ev.now _
 |s::r,hs,sn,h,hz=>Ev.bind (hear_i h s) (all_i r _ _ (inv_one h (hz s (List.mem_cons_self ..))) (fun x hx=>hz x (List.mem_cons_of_mem _ hx)))
theorem all_s {nm:BA}:∀(l:List BA)(hs:List MH)(sn:List BA),Inv nm hs sn→(∀s∈l,s.size≤1048576)→Ev (fun k=>l12All k nm l hs sn) (allF nm l hs sn)
 | [],hs,sn,h,_=>Ev.now _
 |s::r,hs,sn,h,hz=>by
  have hz1:=hz s (List.mem_cons_self ..);have next:=all_s r _ _ (inv_one h hz1) (fun x hx=>hz x (List.mem_cons_of_mem _ hx));unfold l12All allF;refine Ev.bind (norm_s s (by omega)) ?_;cases hn:norm s with
  |true=>simp only[if_true];exact Ev.bind (hear_s h s hz1 hn) next
  |false=>
   have e:hearOne nm hs sn s=(hs,sn):=by unfold hearOne;rw[if_neg (by rw[hn];simp)]
   simp only[bF_,if_false];rw[e]at next ⊢;exact next
def tripNew (nm:BA)(l:List BA):BA×Int×List MH×List BA×List MK×Bool:=
 if isName nm=true∧l.length≤12 then(nm,0,(allF nm l [] []).1,(allF nm l [] []).2,[],true)else(⟨#[]⟩,0,[],[],[],false)
theorem tripNew_i (nm:BA)(l:List BA)(hn:nm.size≤1048576)(hz:∀s∈l,s.size≤1048576):Ev (fun k=>impl_TripNew.f k nm l) (tripNew nm l):=by
 unfold impl_TripNew.f tripNew;refine Ev.bind (Nn.impl_name nm (by omega)) ?_;cases hb:isName nm with
 |false=>simp only[true_or,if_true,bF_,false_and,if_false];exact Ev.now _
 |true=>
  by_cases c:l.length≤12
  ·simp only[Bool.true_eq_false,false_or,show ¬12<l.length from by omega,if_false,c,and_self,if_true]
   exact Ev.bind (all_i l [] [] (inv_nil nm) hz) (Ev.now _)
  ·simp only[show 12<l.length from by omega,or_true,if_true,c,and_false,if_false];exact Ev.now _
theorem tripNew_s (nm:BA)(l:List BA)(hn:nm.size≤1048576)(hz:∀s∈l,s.size≤1048576):Ev (fun k=>spec_TripNew.f k nm l) (tripNew nm l):=by
 unfold spec_TripNew.f tripNew;refine Ev.bind (name_ev nm (by omega)) ?_;cases hb:isName nm with
 |false=>simp only[true_or,if_true,bF_,false_and,if_false];exact Ev.now _
 |true=>
  by_cases c:l.length≤12
  ·simp only[Bool.true_eq_false,false_or,show ¬12<l.length from by omega,if_false,c,and_self,if_true]
   exact Ev.bind (all_s l [] [] (inv_nil nm) hz) (Ev.now _)
  ·simp only[show 12<l.length from by omega,or_true,if_true,c,and_false,if_false];exact Ev.now _
theorem inv_small {nm:BA}{hs:List MH}{sn:List BA}(h:Inv nm hs sn)(hn:nm.size≤1048576):Small nm hs sn []:=by
 have h1:=h.ln;have h2:=h.s60;refine⟨hn,by omega,fun q hq=>?_,fun q hq=>?_,fun q hq=>?_,fun q hq=>?_,fun q hq=>?_,fun q hq=>?_,by omega,h.sz,by simp,by simp⟩
 ·have:=isHouse_size (h.hh q hq).ho;omega
 ·rw[(h.hh q hq).r3];simp
 ·rw[(h.hh q hq).r3];simp
 ·rw[(h.hh q hq).r3];simp
 ·have:=(h.hh q hq).len;omega
 ·exact fun x hx=>h.sz _ ((h.hh q hq).td x hx).2.2.2
end Go.Proofs.YtalfefmnlnkcaaaGreatDoor.Tr
end
section
namespace Go.Proofs.YtalfefmnlnkcaaaGreatDoor.Tr
open Go.RowKit Go.Proofs.YtalfefmnlnkcaaaGreatDoor.P Go.Proofs.YtalfefmnlnkcaaaGreatDoorW PrintWords PrintLast PrintMore Go.Proofs.YtalfefmnlnkcaaaGreatDoor.B Go.Proofs.YtalfefmnlnkcaaaGreatDoor.Tx Go.Proofs.YtalfefmnlnkcaaaGreatDoor.Ad Go.Proofs.YtalfefmnlnkcaaaGreatDoor.Wd
noncomputable def mkI:Nat→Int→List MI
 |0,_=>[]
 |n+1,x=>⟨mt x,x+1⟩::mkI n (x+2)
theorem mkI_len:∀(n:Nat)(x:Int),(mkI n x).length=n
 |0,_=>rfl
 |n+1,x=>by simp[mkI,mkI_len n]
theorem take_set {α:Type}{l:List α}{i:Nat}{v:α}(h:i<l.length):(l.set i v).take (i+1)=l.take i++[v]:=by
 rw[List.take_succ_eq_append_getElem (by rw[List.length_set];exact h),List.take_set_of_le (lL_ _),List.getElem_set_self]
theorem markI_l (d:Nat):∀(i:Nat)(l:List MI)(x:Int),i+d=l.length→l.length≤1048576→0≤x→x+2*d≤1000000000000000→Ev (fun k=>laws_markItemS.l0 k l x (i:Int)) (x+2*d,l.take i++mkI d x):=by
 induction d with
 |zero=>
  intro i l x hi hl h0 h1;refine Ev_succ ?_;simp only[laws_markItemS.l0,show ¬((i:Int)<(l.length:Int))from by omega,if_false,mkI,List.append_nil];rw[List.take_of_length_le (by omega),show x+2*((0:Nat):Int)=x from by omega];exact Ev.now _
 |succ d ih=>
  intro i l x hi hl h0 h1;have hlt:i<l.length:=by omega
  have e0:wrap64 (x+1)=x+1:=by rw[w64 (by omega) (by omega)]
  have e1:wrap64 (x+1+1)=x+2:=by rw[w64 (by omega) (by omega)];omega
  have e9:wrap64 ((i:Int)+1)=((i+1:Nat):Int):=by rw[w64 (by omega) (by omega)];rfl
  refine Ev_succ ?_;simp only[laws_markItemS.l0,show((i:Int)<(l.length:Int))from by omega,nn i,if_true,oB_,tN_,e0,e1,e9];refine Ev.bind (mt_ev x (by omega) (by omega)) ?_
  try simp only[oB_,if_true]
  have hr:∀v:MI,rd_T76 (l.set i v) (i:Int)=v:=fun v=>by
   rw[rd_MI (by rw[List.length_set];exact hlt),List.getElem_set_self]
  simp only[hr,List.set_set];have:=ih (i+1) (l.set i ⟨mt x,x+1⟩) (x+2) (by rw[List.length_set];omega) (by rw[List.length_set];omega) (by omega) (by omega);rw[take_set hlt,List.append_assoc,show x+2+2*(d:Int)=x+2*((d+1:Nat):Int)from by omega]at this;exact this
theorem markI_ev (l:List MI)(x:Int)(hl:l.length≤1048576)(h0:0≤x)(h1:x≤900000000000000):Ev (fun k=>laws_markItemS.f k l x) (x+2*l.length,mkI l.length x):=markI_l l.length 0 l x (by omega) hl h0 (by omega)
theorem heldI_l (l:List MI)(hl:l.length≤1048576)(d:Nat):∀(i:Nat)(x:Int),i+d=l.length→l.drop i=mkI d x→0≤x→x+2*d≤1000000000000000→Ev (fun k=>laws_heldItemS.l0 k l x (i:Int)) (x+2*d):=by
 induction d with
 |zero=>
  intro i x hi hd h0 h1;refine Ev_succ ?_;simp only[laws_heldItemS.l0,show ¬((i:Int)<(l.length:Int))from by omega,if_false];rw[show x+2*((0:Nat):Int)=x from by omega];exact Ev.now _
 |succ d ih=>
  intro i x hi hd h0 h1;have hlt:i<l.length:=by omega
  have e0:wrap64 (x+1)=x+1:=by rw[w64 (by omega) (by omega)]
  have e1:wrap64 (x+1+1)=x+2:=by rw[w64 (by omega) (by omega)];omega
  have e9:wrap64 ((i:Int)+1)=((i+1:Nat):Int):=by rw[w64 (by omega) (by omega)];rfl
  rw[dE_ hlt]at hd;simp only[mkI,List.cons.injEq]at hd;refine Ev_succ ?_;simp only[laws_heldItemS.l0,show((i:Int)<(l.length:Int))from by omega,nn i,if_true,e0,e1,e9,rd_MI hlt,hd.1];refine Ev.bind (mt_ev x (by omega) (by omega)) ?_;simp only[if_true];have:=ih (i+1) (x+2) (by omega) hd.2 (by omega) (by omega);rw[show x+2+2*(d:Int)=x+2*((d+1:Nat):Int)from by omega]at this;exact this
theorem heldI_ev (n:Nat)(x:Int)(hl:n≤1048576)(h0:0≤x)(h1:x≤900000000000000):Ev (fun k=>laws_heldItemS.f k (mkI n x) x) (x+2*n):=heldI_l (mkI n x) (by rw[mkI_len];exact hl) n 0 x (by rw[mkI_len];omega) (List.drop_zero) h0 (by omega)
theorem markR_nil (x:Int):Ev (fun k=>laws_markRuleS.f k [] x) (x,[]):=by
 unfold laws_markRuleS.f;refine Ev_succ ?_;simp only[laws_markRuleS.l0,List.length_nil,show ¬((0:Int)<((0:Nat):Int))from by omega,if_false];exact Ev.now _
theorem heldR_nil (x:Int):Ev (fun k=>laws_heldRuleS.f k [] x) x:=by
 unfold laws_heldRuleS.f;refine Ev_succ ?_;simp only[laws_heldRuleS.l0,List.length_nil,show ¬((0:Int)<((0:Nat):Int))from by omega,if_false];exact Ev.now _
theorem markK_nil (x:Int):Ev (fun k=>laws_markLookS.f k [] x) (x,[]):=by
 unfold laws_markLookS.f;refine Ev_succ ?_;simp only[laws_markLookS.l0,List.length_nil,show ¬((0:Int)<((0:Nat):Int))from by omega,if_false];exact Ev.now _
theorem heldK_nil (x:Int):Ev (fun k=>laws_heldLookS.f k [] x) x:=by
 unfold laws_heldLookS.f;refine Ev_succ ?_;simp only[laws_heldLookS.l0,List.length_nil,show ¬((0:Int)<((0:Nat):Int))from by omega,if_false];exact Ev.now _
theorem markHz_ev:∀(l:List MH)(x:Int),(∀h∈l,h.f3.f0.length≤1048576∧h.f3.f1=[]∧h.f5.length≤1048576)→0≤x→x+10000000*l.length≤800000000000000→∃(y:Int)(l':List MH),Ev (fun k=>mhLoop k l x) (y,l')∧Ev (fun k=>hhLoop k l' x) y∧l'.length=l.length∧0≤y∧y≤x+10000000*l.length
 | [],x,_,h0,h1=>⟨x,[],by simp only[mhLoop];exact Ev.now _,by simp only[hhLoop];exact Ev.now _,rfl,h0,by simp⟩
 |h::r,x,hh,h0,h1=>by
  obtain⟨s3,s4,s5⟩:=hh h (List.mem_cons_self ..);rw[List.length_cons]at h1 ⊢;have e0:wrap64 (x+1)=x+1:=w64 (by omega) (by omega);have e1:wrap64 (x+1+1)=x+2:=by rw[w64 (by omega) (by omega)];omega
  have e2:wrap64 (x+2+1)=x+3:=by rw[w64 (by omega) (by omega)];omega
  obtain⟨ns,en,nl,nm⟩:=Tx.markS_ev h.f3.f0 (x+3) (by omega) (by omega) (by omega);have hn:=Tx.heldS_ev ns (x+3) (by omega) (by omega) (by omega) nm;rw[nl]at hn;obtain⟨m,hm⟩:∃m:Int,x+3+(h.f3.f0.length:Int)=m:=⟨_,rfl⟩;rw[hm]at en hn;have e3:wrap64 (m+1)=m+1:=w64 (by omega) (by omega);have e4:wrap64 (m+1+1)=m+2:=by rw[w64 (by omega) (by omega)];omega
  have ei:=markI_ev h.f5 (m+2) s5 (by omega) (by omega);have hi:=heldI_ev h.f5.length (m+2) s5 (by omega) (by omega);obtain⟨y,l',ey,hy,yl,y0,y1⟩:=markHz_ev r (m+2+2*h.f5.length) (fun h hm=>hh h (List.mem_cons_of_mem _ hm)) (by omega) (by omega);refine⟨y,mhOne x m (mt x) ns [] (mkI h.f5.length (m+2))::l',?_,?_,by rw[List.length_cons,yl],y0,by omega⟩
  ·simp only[mhLoop,e0,e1,e2,s4]
   refine Ev.bind (mt_ev x (by omega) (by omega)) (Ev.bind en (Ev.bind (markR_nil m) ?_));simp only[e3,e4];exact Ev.bind ei (Ev.bind ey (Ev.now _))
  ·simp only[hhLoop,mhOne,e0,e1,e2]
   refine Ev.bind (mt_ev x (by omega) (by omega)) ?_;simp only[and_self,if_true];refine Ev.bind hn ?_;simp only[show 0≤m from by omega,if_true];refine Ev.bind (heldR_nil m) ?_;simp only[show 0≤m from by omega,e3,e4,and_self,if_true];refine Ev.bind hi ?_;simp only[show(0:Int)≤m+2+2*(h.f5.length:Int)from by omega,if_true];exact hy
theorem markTB_ev (nm:BA)(now:Int)(hs:List MH)(sn:List BA)(hl:hs.length≤1048576)(hh:∀h∈hs,h.f3.f0.length≤1048576∧h.f3.f1=[]∧h.f5.length≤1048576)(hn:sn.length≤1048576):
  ∃(y:Int)(h':List MH)(s':List BA),Ev (fun k=>laws_markTrip.f k hs sn [] 1) (y,h',s',[])∧Ev (fun k=>laws_heldTrip.f k nm now h' s' [] 1) y∧0≤y:=by
 obtain⟨a,h',e1,e2,el,a0,a1⟩:=markHz_ev hs 1 hh (by omega) (by omega);obtain⟨s',e3,sl,sm⟩:=Tx.markS_ev sn a (by omega) (by omega) (by omega);have e4:=Tx.heldS_ev s' a (by omega) (by omega) (by omega) sm;rw[sl]at e4;refine⟨a+sn.length,h',s',?_,?_,by omega⟩
 ·unfold laws_markTrip.f laws_markHouseS.f
  simp only[show hs.length≤1000000000 from by omega,if_true];exact Ev.bind e1 (Ev.bind e3 (Ev.bind (markK_nil _) (Ev.now _)))
 ·unfold laws_heldTrip.f laws_heldHouseS.f
  simp only[show h'.length≤1000000000 from by omega,if_true];refine Ev.bind e2 ?_;simp only[show ¬a<0 from by omega,if_false];refine Ev.bind e4 ?_;simp only[show ¬a+(sn.length:Int)<0 from by omega,if_false];refine Ev.bind (heldK_nil _) ?_;simp only[show ¬a+(sn.length:Int)<0 from by omega,if_false];exact Ev.now _
end Go.Proofs.YtalfefmnlnkcaaaGreatDoor.Tr
end
section
namespace Go.Proofs.YtalfefmnlnkcaaaGreatDoor.Pure
open Go.RowKit Go.Proofs.YtalfefmnlnkcaaaGreatDoor.P Go.Proofs.YtalfefmnlnkcaaaGreatDoorW PrintWords PrintLast Go.Proofs.YtalfefmnlnkcaaaGreatDoor.B Go.Proofs.YtalfefmnlnkcaaaGreatDoor.Tr Go.Proofs.YtalfefmnlnkcaaaGreatDoor.Ad
theorem FnExactTripNew (a0:BA)(l:List BA)(hl:l.length≤17592186044416)(hs:∀s∈l,s.size≤4611686018427387904):Ev (fun k=>laws_FnExactTripNew.f k a0 l) true:=by
 unfold laws_FnExactTripNew.f
 by_cases h1:(a0.size:Int)>1048576
 ·simp only[h1,if_true];exact Ev.now _
 simp only[h1,if_false];obtain⟨r,hr,_,hb⟩:=szS_ev l hl hs 1048576 (by omega) (by omega);refine Ev.bind hr ?_
 by_cases hr0:r<0
 ·simp only[hr0,if_true];exact Ev.now _
 simp only[hr0,if_false];obtain⟨ll,lz⟩:=hb (by omega);have e1:=tripNew_s a0 l (by omega) lz;have e2:=tripNew_i a0 l (by omega) lz;obtain⟨lb,em,_,_⟩:=Tx.markS_ev l 1 (by omega) (by omega) (by omega);refine Ev.bind (toS_ev l ll) (Ev.bind e1 (Ev.bind e2 ?_));unfold tripNew
 by_cases c:isName a0=true∧l.length≤12
 ·simp only[c,and_self,if_true]
  have inv:=inv_all l [] [] (inv_nil a0) lz;obtain⟨h2,e3⟩:∃x,(allF a0 l [] []).1=x:=⟨_,rfl⟩;obtain⟨s2,e4⟩:∃x,(allF a0 l [] []).2=x:=⟨_,rfl⟩;rw[e3,e4]at inv ⊢;have a1:=inv.ln;have a2:=inv.s60;have sm:=inv_small inv (by omega);obtain⟨y,h',s',m1,m2,y0⟩:=markTB_ev a0 0 h2 s2 (by omega) (fun q hq=>⟨sm.h3 q hq,by rw[(inv.hh q hq).r3],sm.h5 q hq⟩) (by omega);refine Ev.bind (eqT_ev a0 0 h2 s2 [] (by omega) (fun q hq=>⟨sm.h3 q hq,sm.h4 q hq,sm.h5 q hq⟩) (by omega) (by simp)) (Ev.bind (Tr.eqS_ev l ll) (Ev.bind em (Ev.bind m1 (Ev.bind m2 ?_))));rw[if_pos (by refine⟨?_,?_,?_,?_,?_,?_⟩ <;> first|trivial|rfl|exact y0|omega)];exact Ev.now _
 ·simp only[c,if_false]
  obtain⟨y,h',s',m1,m2,y0⟩:=markTB_ev ⟨#[]⟩ 0 [] [] (by simp) (by simp) (by simp);refine Ev.bind (eqT_ev ⟨#[]⟩ 0 [] [] [] (by simp) (by simp) (by simp) (by simp)) (Ev.bind (Tr.eqS_ev l ll) (Ev.bind em (Ev.bind m1 (Ev.bind m2 ?_))));rw[if_pos (by refine⟨?_,?_,?_,?_,?_,?_⟩ <;> first|trivial|rfl|exact y0|omega)];exact Ev.now _
end Go.Proofs.YtalfefmnlnkcaaaGreatDoor.Pure
end
section
namespace Go.Proofs.YtalfefmnlnkcaaaGreatDoorW.PrintWords
open Go.ChangeShapes Go.WideShapes

end Go.Proofs.YtalfefmnlnkcaaaGreatDoorW.PrintWords
end
section
namespace Go.Proofs.YtalfefmnlnkcaaaGreatDoor.fnExactTripNew
open Go.ChangeShapes Go.WideShapes Go.ChangeAt Go.RowKit
open Go.ChangeMaps (open_string shut_string)
set_option linter.unusedVariables false
theorem own : ownKnob Tryz.prog.godebug = none := by kernel_rfl
theorem laidOut : laidOutB Tryz.prog = true := by kernel_rfl
set_option maxRecDepth 100000 in
theorem lifted (os : Os) (started : os.Started) (H : Type) (enc : TypeId × Value → H) :
  ReturnsInHanded {} Tryz.checked os 3 .any (fun w args => (Rows.fnExactTripNewSpec.pre enc Tryz.prog Tryz.f3 Rows.fnExactTripNewRow.domain false w args ∧ laidMetH Tryz.prog Rows.fnExactTripNewRow.laid w) ∧ sizedMet enc Tryz.prog Tryz.f3 (OpenSpec.ofChange Rows.fnExactTripNewSpec) false w args)
   (Rows.fnExactTripNewSpec.post enc Tryz.prog Tryz.f3 false true false false) := by
 refine returnsInHanded_of_change_and (C := Tryz.checked) (X := fun w _ => laidMetH Tryz.prog Rows.fnExactTripNewRow.laid w) (fun _ _ _ hh h => h.of_heap hh) own started (by kernel_rfl) Tryz.func3
  (ChangeSpec.witness_shaped (enc := enc) (C := Tryz.checked) (os := os) (X := fun w _ => laidMetH Tryz.prog Rows.fnExactTripNewRow.laid w) false (World.laidAll Tryz.prog os Rows.fnExactTripNewRow.laid) #[.string ByteArray.empty, .slice none 0 0] 8 (World.laidAll_os _ _ _)
   (World.shaped_of_ZipB (by kernel_rfl) (by kernel_rfl)) (by kernel_rfl) (by kernel_rfl) (by kernel_rfl)
   (by rw [MakeChecks.laidMetH_plain _ _ _ (by kernel_rfl)]; exact laidMet_laidAll _ (by kernel_rfl) (by kernel_rfl))) ?_
 intro W base args ds gs before hval0 hW hcnd hsz0 hL _
 have hsz : (DataW.weightsEach Tryz.prog (Tryz.f3.params.toList ++ Rows.fnExactTripNewSpec.plain.varTypes Tryz.prog) (ds ++ gs)).all (· ≤ reachBytes) = true := hsz0
 have hval : ∀ (j : Nat) t v, Tryz.f3.params[j]? = some t → args[j]? = some v → Value.okWide Tryz.prog W .any base t v := hval0
 have hW' := hW
 obtain ⟨p, q, hA0, hV, rfl, hfz, hnd⟩ := hW
 have hA : DataW.TrodAll enc Tryz.prog W 0 (fun _ => true) true Tryz.f3.params.toList args.toList ds p := hA0
 rw [Tryz.params3] at hA hval hsz
 obtain ⟨v0, vs0, d0, ds0, p0, q0, hargs, rfl, rfl, h0, r0⟩ := trodAll_cons hA
 obtain ⟨v1, vs1, d1, ds1, p1, q1, rfl, rfl, rfl, h1, r1⟩ := trodAll_cons r0
 obtain ⟨rfl, rfl, rfl⟩ := trodAll_nil r1
 obtain rfl : args = #[v0, v1] := by cases args; simp_all
 obtain ⟨rfl, rfl⟩ := trodVars_none hV
 have k0 := h0
 have lt0 : ∀ x ∈ p0, x.block < W.heap.size := by obtain ⟨m, hm⟩ := k0; exact DataW.trod_lt m _ _ _ hm
 have k1 := h1
 have lt1 : ∀ x ∈ p1, x.block < W.heap.size := by obtain ⟨m, hm⟩ := k1; exact DataW.trod_lt m _ _ _ hm
 obtain ⟨s0, e0s, rfl⟩ : ∃ s, v0 = .string s ∧ d0 = .lit (.string s.data.toList) := by
  obtain ⟨s, hs, hx, _⟩ := open_string Tryz.underlying9 (hval 0 9 v0 rfl rfl) k0
  exact ⟨s, hs, hx⟩
 subst e0s
 obtain ⟨a1, len1, cap1, rfl⟩ := okWide_slice Tryz.underlying22 (hval 1 22 v1 rfl rfl)
 obtain ⟨n1, f1⟩ := h1
 obtain ⟨A1, l1, cp1, e1, hC, hcap, hw⟩ := Tr.strs_open f1
 obtain ⟨rfl, rfl, rfl⟩ : a1 = A1 ∧ len1 = l1.length ∧ cap1 = cp1 := by simpa [Value.cells] using e1
 have hrb : reachBytes = 140737488351232 := rfl
 obtain ⟨w1, w2⟩ := hw reachBytes (fun x hx => by
  have g2 := List.all_eq_true.1 hsz _ (DataW.weights_mem_each (j := 1) (t := 22) rfl rfl x hx)
  simpa using g2)
 obtain ⟨K, hK⟩ := Pure.FnExactTripNew s0 l1 (by omega) (fun s hs => by have := w2 s hs; omega)
 clear hA0 hval0 hsz0 hsz hw
 refine (P.laws_FnExactTripNew.calls K s0 a1 cap1 l1 W hC hcap (hK K (Nat.le_refl _))).mono fun e W' ⟨he, bel⟩ => ?_
 subst he
 exact ⟨_, rfl, _, _, _, [], _, [], hW', trodAll_mk1 (shut_bool Tryz.underlying4 _), (trodAll_cons_mk (Below.trod laidOut (by kernel_rfl) (of_decide_eq_true (by kernel_rfl)) k0 bel lt0) (trodAll_cons_mk (Below.trod laidOut (by kernel_rfl) (of_decide_eq_true (by kernel_rfl)) k1 bel lt1) trodAll_mk0)), rfl, bel.frame _, fun h => by cases h⟩
set_option maxHeartbeats 4000000 in
theorem over : Rows.fnExactTripNewRow.holds Tryz.pinned (OpenSpec.ofChange Rows.fnExactTripNewSpec) :=
 OpenClaim.holds_of_wide 3 Tryz.f3 rfl rfl rfl rfl rfl rfl rfl ⟨rfl, rfl, rfl, rfl, rfl⟩ rfl rfl rfl rfl rfl (by as_aux_lemma => kernel_rfl) Tryz.func3 (by as_aux_lemma => kernel_rfl)
  (of_decide_eq_true (by as_aux_lemma => kernel_rfl)) (by unfold Func.isWrapper; first | (rw [if_pos (by decide +kernel)]; kernel_rfl) | (rw [if_neg (by decide +kernel)]; exact ⟨rfl, rfl⟩))
  (fun os started H enc _ => lifted os started H enc)
theorem card_holds : Rows.FnExactTripNewCardSaid :=
 Claim7.holds_tied_plain_at .later [] [.data, .pinned] true (true, "278572928567bc6f00ee50977f714c8b800eb4589a17b14b87d6d7cff5eacf64") false over (fun _ h => by cases h) (by as_aux_lemma => kernel_rfl) (fun _ h => by cases h) fnExactTripNew_row_tie rfl ⟨rfl, rfl⟩ (by as_aux_lemma => kernel_rfl) rfl
  (fun f fn hf hfn => by
   obtain rfl : f = 3 := Option.some.inj ((show Tryz.prog.funcNamed "loop.example/pedlar/laws.FnExactTripNew" = some 3 by as_aux_lemma => kernel_rfl).symm.trans hf) |>.symm
   obtain rfl : fn = Tryz.f3 := (Option.some.inj (Tryz.func3.symm.trans hfn)).symm
   exact ⟨by as_aux_lemma => kernel_rfl, fun j t ht => by
    rw [Tryz.params3] at ht
    have hm : t ∈ [9, 22] := by simpa using Array.mem_of_getElem? ht
    have hall : ([9, 22].all fun u => !Tryz.prog.wantsStandIn u) = true := by as_aux_lemma => kernel_rfl
    exact (show Tryz.prog.wantsStandIn t = false by simpa using List.all_eq_true.1 hall t hm)⟩)
  (by as_aux_lemma => kernel_rfl)
#print axioms card_holds
end Go.Proofs.YtalfefmnlnkcaaaGreatDoor.fnExactTripNew
namespace Go.Proofs.YtalfefmnlnkcaaaGreatDoor
theorem fnExactTripNew_holds : Rows.FnExactTripNewCardSaid := fnExactTripNew.card_holds
end Go.Proofs.YtalfefmnlnkcaaaGreatDoor
end
