/- FnWorldFromNorm holds of the given program at every input: Where one comes is written in just one way. So it is in a drawn world. No condition. Written by a program of this session (wip/pr.py). -/
import Derived.Test.YtpomhjkbgbociaaGreatDoorZFnWorldFromNorme
import Derived.Test.YtpomhjkbgbociaaGreatDoorZFnWorldFromNormb
import Derived.Test.YtpomhjkbgbociaaGreatDoorZFnWorldFromNormd
import Derived.Test.YtpomhjkbgbociaaGreatDoorZFnWorldFromNormc
import Derived.Lib.IndexAny
import Derived.SizedLaws
import Derived.ChangeSlices
import Derived.Test.YtpomhjkbgbociaaGreatDoorRows
import Derived.Test.YtpomhjkbgbociaaGreatDoorCards
import Derived.Test.YtpomhjkbgbociaaGreatDoorTie
import Derived.LaidMore
import Derived.Lay
import Derived.SevenTiedAt
import Derived.Stop.Joined
import Derived.WalkKit
import Derived.ProofKit
import Derived.OpenShut
import Derived.ShutString
import Derived.ChangeOld
import Derived.Below

section
namespace Go.Proofs.YtpomhjkbgbociaaGreatDoor.P
open Go.RowKit Go.Proofs.YtpomhjkbgbociaaGreatDoorW.PrintWords Go.Proofs.YtpomhjkbgbociaaGreatDoorW.PrintLast Go.Proofs.YtpomhjkbgbociaaGreatDoorW.PrintMore Go.Maps Go.ChangeMaps
set_option linter.unusedVariables false
set_option linter.unusedSimpArgs false
abbrev SP:=S30
set_option maxRecDepth 100000 in
theorem last_walk (b n:Nat) (l:List SP) (a:ByteArray) (w:World) (ha:a.size≤9223372036854775807) (hm:Pages w b n (mapD l)) :
  Calls Tryz.prog 49 #[.map (some b),.string a] w fun e w'=>e=.returned (.tuple #[.int .i64 (getF l a 2).1,.string (getF l a 2).2])∧Below w.heap.size w w':=by
 obtain ⟨q,hq⟩:∃ q,getF l a 2=q:=⟨_,rfl⟩
 rw [hq]
 go_enter Tryz.func49,Tryz.ntmps49
 go_wp2_with (first|(go_at_call 25;refine (get_walk b n l a 2 _ ha hm).mono ?_;rintro e w1 ⟨rfl,hb⟩;rw [hq];have HB:=Aside0.mk hb;clear hb))
 go_ret2
 exact ⟨rfl,HB.out⟩
def fromF (k:Nat) (l:List SP) (a:ByteArray):Option (List ByteArray):=
 (impl_readAddress.f k a).bind fun bt=>if bt.2.2.2.2=true then impl_leads.f k bt.1 bt.2.1 bt.2.2.1 bt.2.2.2.1 (getF l a 2).1 (getF l a 2).2 else some []
set_option maxHeartbeats 4000000 in
set_option maxRecDepth 100000 in
theorem from_walk (k:Nat) (b n:Nat) (l:List SP) (a:ByteArray) (r:List ByteArray) (w:World) (ha:a.size≤9223372036854775807) (hm:Pages w b n (mapD l)) (h:fromF k l a=some r) :
  Calls Tryz.prog 28 #[.map (some b),.string a] w fun e w'=>∃ v0_:Value,e=.returned v0_∧Kd.R Kd.string 9 w' w.heap.size (fun _=>True) v0_ r∧Below w.heap.size w w':=by
 have HB:=Aside0.mk (Below.refl w.heap.size w)
 unfold fromF at h
 obtain ⟨⟨r1,r2,r3,r4,r5⟩,A1,H⟩:=Option.bind_eq_some_iff.mp h
 clear h
 simp only at H
 cases r5 with
 | false=>
  rw [if_neg (by decide)] at H
  obtain rfl:=Option.some.inj H
  have A:=Aside0.mk A1
  have HM:=Aside0.mk hm
  clear A1 H hm
  go_enter Tryz.func28,Tryz.ntmps28
  go_wp2_with (first|(go_at_call 48;(with_reducible refine (impl_readAddress.calls k a r1 r2 r3 r4 false _ A.out).mono ?_);rintro e w1 ⟨v1,rfl,ho,hb⟩;have HO:=Aside0.mk (Kd.R_lower ho (Nat.le_refl _));replace HM:=Aside0.mk (map_below HM.out hb);replace HB:=Aside0.mk (below_step HB.out hb);clear ho hb;obtain ⟨Ao,co,eo⟩:=Kd.R_slice HO.out;subst eo)|((with_reducible refine gate_dst (N:=5) rfl ?_);refine box_event ?hg (N:=5) ?hd (cs:=#[.string (⟨#[]⟩:ByteArray),.slice none 0 0,.bool false,.string (⟨#[]⟩:ByteArray)]) (t:=39) ?hr ?_;(case hd=>rfl);(case hg=>rfl);(case hr=>first|(go_simp;done)|(go_simp;rfl));intro gb hg w2 hbox hb;have BK:=Aside0.mk hbox;have NB:=Aside0.mk (show gb≠b from by rw [hg];exact Nat.ne_of_gt HM.out.lt);have GE:=Aside0.mk (show w.heap.size≤gb from by rw [hg];exact below_size HB.out);replace HO:=Aside0.mk (Kd.R_below HO.out hb);replace HM:=Aside0.mk (map_below HM.out hb);replace HB:=Aside0.mk (below_step HB.out hb);clear hb hg hbox;obtain ⟨hc0,hc1,hc2,hc3⟩:w2.cell? ⟨gb,0,none⟩=some (.string (⟨#[]⟩:ByteArray))∧w2.cell? ⟨gb,1,none⟩=some (.slice none 0 0)∧w2.cell? ⟨gb,2,none⟩=some (.bool false)∧w2.cell? ⟨gb,3,none⟩=some (.string (⟨#[]⟩:ByteArray)):=⟨(blk_cell BK.out 0).trans rfl,(blk_cell BK.out 1).trans rfl,(blk_cell BK.out 2).trans rfl,(blk_cell BK.out 3).trans rfl⟩;have hf0:=blk_frozen BK.out 0;have hf1:=blk_frozen BK.out 1;have hf2:=blk_frozen BK.out 2;have hf3:=blk_frozen BK.out 3))
  go_ret
  exact ⟨_,rfl,Kd.R_nil _ _ _ _ _,below_set (below_set (below_set (below_set HB.out GE.out) GE.out) GE.out) GE.out⟩
 | true=>
  rw [if_pos rfl] at H
  have A:=Aside0.mk A1
  have HM:=Aside0.mk hm
  have HL:=Aside0.mk H
  clear A1 H hm
  go_enter Tryz.func28,Tryz.ntmps28
  go_wp2_with (first|(go_at_call 48;(with_reducible refine (impl_readAddress.calls k a r1 r2 r3 r4 true _ A.out).mono ?_);rintro e w1 ⟨v1,rfl,ho,hb⟩;have HO:=Aside0.mk (Kd.R_lower ho (Nat.le_refl _));replace HM:=Aside0.mk (map_below HM.out hb);replace HB:=Aside0.mk (below_step HB.out hb);clear ho hb;obtain ⟨Ao,co,eo⟩:=Kd.R_slice HO.out;subst eo)|((with_reducible refine gate_dst (N:=5) rfl ?_);refine box_event ?hg (N:=5) ?hd (cs:=#[.string (⟨#[]⟩:ByteArray),.slice none 0 0,.bool false,.string (⟨#[]⟩:ByteArray)]) (t:=39) ?hr ?_;(case hd=>rfl);(case hg=>rfl);(case hr=>first|(go_simp;done)|(go_simp;rfl));intro gb hg w2 hbox hb;have BK:=Aside0.mk hbox;have NB:=Aside0.mk (show gb≠b from by rw [hg];exact Nat.ne_of_gt HM.out.lt);have GE:=Aside0.mk (show w.heap.size≤gb from by rw [hg];exact below_size HB.out);replace HO:=Aside0.mk (Kd.R_below HO.out hb);replace HM:=Aside0.mk (map_below HM.out hb);replace HB:=Aside0.mk (below_step HB.out hb);clear hb hg hbox;obtain ⟨hc0,hc1,hc2,hc3⟩:w2.cell? ⟨gb,0,none⟩=some (.string (⟨#[]⟩:ByteArray))∧w2.cell? ⟨gb,1,none⟩=some (.slice none 0 0)∧w2.cell? ⟨gb,2,none⟩=some (.bool false)∧w2.cell? ⟨gb,3,none⟩=some (.string (⟨#[]⟩:ByteArray)):=⟨(blk_cell BK.out 0).trans rfl,(blk_cell BK.out 1).trans rfl,(blk_cell BK.out 2).trans rfl,(blk_cell BK.out 3).trans rfl⟩;have hf0:=blk_frozen BK.out 0;have hf1:=blk_frozen BK.out 1;have hf2:=blk_frozen BK.out 2;have hf3:=blk_frozen BK.out 3)|(go_at_call 49;refine (last_walk b n l a _ ha ((((HM.out.setCell (a:=⟨gb,0,none⟩) NB.out.symm _).setCell (a:=⟨gb,1,none⟩) NB.out.symm _).setCell (a:=⟨gb,2,none⟩) NB.out.symm _).setCell (a:=⟨gb,3,none⟩) NB.out.symm _)).mono ?_;rintro e w3 ⟨rfl,hb⟩;replace HO:=Aside0.mk (Kd.R_below (Kd.R_mono (Kd.R_far (p:=⟨gb,3,none⟩) (Kd.R_far (p:=⟨gb,2,none⟩) (Kd.R_far (p:=⟨gb,1,none⟩) (Kd.R_far (p:=⟨gb,0,none⟩) (Kd.R_types HO.out BK.out (by decide)) (fun _ hk=>hk.2) (.string r1)) (fun _ hk=>hk.2) (.slice Ao r2.length co)) (fun _ hk=>hk.2) (.bool r3)) (fun _ hk=>hk.2) (.string r4)) (fun _ hk=>trivial)) hb);replace BK:=Aside0.mk (blk_below (g:=gb) (o:=.cells #[.string r1,.slice Ao r2.length co,.bool r3,.string r4] 39 (0,0)) (by refine blk_put (cs:=#[.string r1,.slice Ao r2.length co,.bool r3,.string (⟨#[]⟩:ByteArray)]) ?_ 3 _ rfl;refine blk_put (cs:=#[.string r1,.slice Ao r2.length co,.bool false,.string (⟨#[]⟩:ByteArray)]) ?_ 2 _ rfl;refine blk_put (cs:=#[.string r1,.slice none 0 0,.bool false,.string (⟨#[]⟩:ByteArray)]) ?_ 1 _ rfl;refine blk_put (cs:=#[.string (⟨#[]⟩:ByteArray),.slice none 0 0,.bool false,.string (⟨#[]⟩:ByteArray)]) ?_ 0 _ rfl;exact BK.out) hb);replace HB:=Aside0.mk (below_step (below_set (below_set (below_set (below_set HB.out GE.out) GE.out) GE.out) GE.out) hb);clear hb hc0 hc1 hc2 hc3 hf0 hf1 hf2 hf3;obtain ⟨hc0,hc1,hc2,hc3⟩:w3.cell? ⟨gb,0,none⟩=some (.string r1)∧w3.cell? ⟨gb,1,none⟩=some (.slice Ao r2.length co)∧w3.cell? ⟨gb,2,none⟩=some (.bool r3)∧w3.cell? ⟨gb,3,none⟩=some (.string r4):=⟨(blk_cell BK.out 0).trans rfl,(blk_cell BK.out 1).trans rfl,(blk_cell BK.out 2).trans rfl,(blk_cell BK.out 3).trans rfl⟩)|(go_at_call 50;(with_reducible refine (impl_leads.calls k r1 _ _ r2 r3 r4 (getF l a 2).1 (getF l a 2).2 r _ ?side1 ?side2 HL.out).mono ?_);(case side1=>exact (Kd.R_reads' HO.out).2.2);(case side2=>exact (Kd.R_reads' HO.out).2.1);rintro e w4 ⟨v4,rfl,ho,hb⟩;have HR:=Aside0.mk (Kd.R_lower ho (below_size HB.out));replace HB:=Aside0.mk (below_step HB.out hb);clear ho hb))
  go_ret
  exact ⟨_,rfl,HR.out,HB.out⟩
def impl_WorldFrom.f (k:Nat) (l0:List SP) (a1:ByteArray):Option (List ByteArray):=
 if a1.size≤9223372036854775807 then (impl_worldOf.f k l0).bind fun t=>if t=true then (if ((Maps.size (mapD l0):Int) == (l0.length:Int))=true then fromF k l0 a1 else some ([]:List ByteArray)) else some ([]:List ByteArray) else none
set_option maxRecDepth 100000 in
theorem impl_WorldFrom.calls (k:Nat) (A0:Option Addr) (c0:Nat) (l0:List (SP)) (a1:ByteArray) (r:List ByteArray) (w:World) (hr0:Kd.C k30 w A0 l0.length l0) (hc0:l0.length≤c0) (h:impl_WorldFrom.f k l0 a1=some r) :
  Calls Tryz.prog 12 #[.slice A0 l0.length c0,.string a1] w fun e w'=>∃ v0_:Value,e=.returned v0_∧Kd.R Kd.string 9 w' w.heap.size (fun _=>True) v0_ r∧Below w.heap.size w w':=by
 unfold impl_WorldFrom.f at h
 by_cases hz:a1.size≤9223372036854775807
 case neg=>rw [if_neg hz] at h;cases h
 rw [if_pos hz] at h
 obtain ⟨t,A,H⟩:=Option.bind_eq_some_iff.mp h
 clear h
 cases t with
 | false=>
  rw [if_neg (by decide)] at H
  obtain rfl:=Option.some.inj H
  go_enter Tryz.func12,Tryz.ntmps12
  go_wp2_with (first|(go_at_call 24;refine (impl_worldOf.calls k A0 c0 l0 false _ hr0 hc0 A).mono ?_;rintro e w1 ⟨hb,h0,h1⟩;obtain rfl:=h0 rfl;clear h0 h1;have HB:=Aside0.mk hb;clear hb))
  go_ret
  exact ⟨_,rfl,Kd.R_nil _ _ _ _ _,HB.out⟩
 | true=>
  rw [if_pos rfl] at H
  obtain ⟨q,hq⟩:∃ q,((Maps.size (mapD l0):Int) == (l0.length:Int))=q:=⟨_,rfl⟩
  rw [hq] at H
  cases q with
  | false=>
   rw [if_neg (by decide)] at H
   obtain rfl:=Option.some.inj H
   go_enter Tryz.func12,Tryz.ntmps12
   go_wp2_with (first|(go_at_call 24;refine (impl_worldOf.calls k A0 c0 l0 true _ hr0 hc0 A).mono ?_;rintro e w1 ⟨hb,h0,h1⟩;obtain ⟨b,_,_,rfl⟩:=h1 rfl;rw [hq];clear h0 h1;have HB:=Aside0.mk hb;clear hb))
   go_ret
   exact ⟨_,rfl,Kd.R_nil _ _ _ _ _,HB.out⟩
  | true=>
   rw [if_pos rfl] at H
   have HF:=Aside0.mk H
   clear H
   go_enter Tryz.func12,Tryz.ntmps12
   go_wp2_with (first|(go_at_call 24;refine (impl_worldOf.calls k A0 c0 l0 true _ hr0 hc0 A).mono ?_;rintro e w1 ⟨hb,h0,h1⟩;obtain ⟨b,_,hM,rfl⟩:=h1 rfl;rw [hq];clear h0 h1;have HM:=Aside0.mk hM;have HB:=Aside0.mk hb;clear hb hM)|(go_at_call 28;refine (from_walk k b _ l0 a1 r _ hz HM.out HF.out).mono ?_;rintro e w2 ⟨v2,rfl,ho,hb⟩;have HR:=Aside0.mk (Kd.R_lower ho (below_size HB.out));replace HB:=Aside0.mk (below_step HB.out hb);clear hb ho))
   go_ret
   exact ⟨_,rfl,HR.out,HB.out⟩
end Go.Proofs.YtpomhjkbgbociaaGreatDoor.P
end
section
namespace Go.Proofs.YtpomhjkbgbociaaGreatDoor.P
open Go.RowKit Go.Proofs.YtpomhjkbgbociaaGreatDoorW.PrintWords Go.Proofs.YtpomhjkbgbociaaGreatDoorW.PrintLast Go.Proofs.YtpomhjkbgbociaaGreatDoorW.PrintMore
attribute [local go_sem] max2_int min2_int max_two min_two max_three min_three max_four min_four
set_option linter.unusedVariables false
set_option linter.unusedSimpArgs false
set_option maxHeartbeats 8000000
set_option maxRecDepth 100000
def laws_FnWorldFromNorm.l0:Nat→List ByteArray→Int→Option (Bool)
 | 0,_,_=>none
 | k+1,x5,x6=>if x6 < (x5.length:Int) then (if 0≤x6 then ((impl_AddrRead.f k (rdOf ByteArray.empty x5 x6)).bind fun bt1034=>(if bt1034.2.2.2.2=true then ((impl_AddrText.f k bt1034.1 bt1034.2.1 bt1034.2.2.1 bt1034.2.2.2.1).bind fun t1042=>(if t1042.toList=(rdOf ByteArray.empty x5 x6).toList then (laws_FnWorldFromNorm.l0 k x5 (wrap64 (x6+1))) else (some false))) else (some false))) else (none)) else ((laws_lpOnce.f k x5).bind fun t1032=>(some t1032))
def laws_FnWorldFromNorm.f (k:Nat) (l0:List Int):Option (Bool):=if (l0.length:Int) > 1048576 then (some true) else ((spec_DrawWorldFrom.f k l0).bind fun bt1021=>((impl_WorldFrom.f k bt1021.1 bt1021.2).bind fun t1025=>((spec_WorldFrom.f k bt1021.1 bt1021.2).bind fun t1028=>((laws_lpTexts.f k t1025 t1028).bind fun t1031=>(if t1031=true then (laws_FnWorldFromNorm.l0 k t1025 0) else (some false))))))
def laws_FnWorldFromNorm.T11:Bool×List (List Nat×List Nat):=(true,[([],[]),([0],[0]),([1],[1]),([2],[2]),([3,2,2],[2,3]),([2],[2]),([2],[2]),([5,6,2],[2,5,6]),([7,2],[2,7]),([4,8,2],[2,4,8]),([2,9],[2,9])])
def laws_FnWorldFromNorm.B11:List Nat:=[0,1,3,7,15,7,7,103,231,511,1023]
theorem laws_FnWorldFromNorm.tab11:rtab .any (opsOf Tryz.f6 11)=laws_FnWorldFromNorm.T11:=by kernel_rfl
theorem laws_FnWorldFromNorm.bits11:waitsOk laws_FnWorldFromNorm.T11.2 laws_FnWorldFromNorm.B11=true:=by kernel_rfl
theorem laws_FnWorldFromNorm.calls (k:Nat) (A0:Option Addr) (c0:Nat) (l0:List Int) (r:Bool) (w:World) (hr0:Kd.C (Kd.int .u8) w A0 l0.length l0) (hc0:l0.length≤c0) (h:laws_FnWorldFromNorm.f k l0=some r) :
  Calls Tryz.prog 6 #[.slice A0 l0.length c0] w fun e w'=>e=.returned (.bool r)∧Below w.heap.size w w':=by
 have hu39:=Tryz.underlying39;have HR0:=A_ hr0;have HC0:=A_ hc0;clear hr0 hc0;have HB:=A_ (Below.refl w.heap.size w);unfold laws_FnWorldFromNorm.f at h
 have H:=h;clear h;replace H:=iteE H;rcases H with ⟨c2,H⟩|⟨c2,H⟩
 ·have c2b0:=gtT c2
  have c2b1:decide (1048576 < l0.length)=true:=dT (by omega);clear c2;obtain rfl:=sI H;go_enter Tryz.func6,Tryz.ntmps6;go_wp2
  go_ret
  exact ⟨zz12,(zz5 HB)⟩
 ·have c2b0:=gtF c2
  have c2b1:decide (1048576 < l0.length)=false:=dF (by omega);clear c2;replace H:=bindA H;obtain ⟨⟨t1021,t1022⟩,A3,H⟩:=H;try dsimp only at H
  replace H:=bindA H;obtain ⟨t1025,A4,H⟩:=H;replace H:=bindA H;obtain ⟨t1028,A5,H⟩:=H;replace H:=bindA H;obtain ⟨t1031,A6,H⟩:=H;have HF7:=A_ H;clear H;go_enter Tryz.func6,Tryz.ntmps6;go_upto_if 25 with (first|(refine gV 11 (some 14) Tryz.func11 (spec_DrawWorldFrom.calls k _ _ l0 t1021 t1022 _ ?side1 ?side2 A3.out) ?_;(case side1=>exact (zz70 HR0));(case side2=>exact HC0.out);rintro v1023 w8 ⟨ho0,hb⟩;have HO1024:=A_ (Kd.R_lower ho0 (below_size (zz5 HB)));replace HB:=A_ (bS (zz5 HB) hb);(try clear hb ho0);obtain ⟨Ao9,co9,eo9⟩:=Kd.R_slice HO1024.out;subst eo9)|(refine gV 12 (some 19) Tryz.func12 (impl_WorldFrom.calls k _ _ t1021 t1022 t1025 _ ?side1 ?side2 A4.out) ?_;(case side1=>exact (zz33 HO1024));(case side2=>exact (Kd.R_reads' HO1024.out).2.1);rintro v1026 w10 ⟨ho0,hb⟩;replace HO1024:=A_ (rB (zz8 HO1024) hb);have HO1027:=A_ (Kd.R_lower ho0 (below_size (zz5 HB)));replace HB:=A_ (bS (zz5 HB) hb);(try clear hb ho0))|(refine gV 14 (some 23) Tryz.func14 (spec_WorldFrom.calls k _ _ t1021 t1022 t1028 _ ?side1 ?side2 A5.out) ?_;(case side1=>exact (zz33 HO1024));(case side2=>exact (Kd.R_reads' HO1024.out).2.1);rintro v1029 w11 ⟨ho0,hb⟩;replace HO1024:=A_ (rB (zz8 HO1024) hb);have HO1030:=A_ (Kd.R_lower (Kd.R_new' ho0 (Kd.R_lt (zz8 HO1027))) (below_size (zz5 HB)));replace HO1027:=A_ (Kd.R_elder' (zz8 HO1027) (Kd.R_base ho0) hb);replace HB:=A_ (bS (zz5 HB) hb);(try clear hb ho0);obtain ⟨Ao12,co12,eo12⟩:=Kd.R_slice HO1027.out;subst eo12;obtain ⟨Ao13,co13,eo13⟩:=Kd.R_slice HO1030.out;subst eo13)|(refine gR 13 (some 24) Tryz.func13 (laws_lpTexts.calls k _ _ t1025 _ _ t1028 t1031 _ ?side1 ?side2 ?side3 ?side4 A6.out) ?_;(case side1=>exact (zz33 HO1027));(case side2=>exact (Kd.R_reads' HO1027.out).2.1);(case side3=>exact (zz33 HO1030));(case side4=>exact (Kd.R_reads' HO1030.out).2.1);rintro w' ⟨nd,rfl⟩))
  obtain ⟨H⟩:=HF7;replace H:=iteB H;rcases H with ⟨rfl,H⟩|⟨rfl,H⟩
  ·have H':=A_ H
   clear H;go_wp2
   go_loopg [6] k (fun kq v6 w'=>∃ (x6_1:Int),v6=.int .i64 x6_1∧Aside0 (laws_FnWorldFromNorm.l0 kq t1025 x6_1=some r)∧Aside0 (kq≤k)∧Aside0 (Kd.R Kd.string 9 w' w.heap.size (fun _=>True) (.slice Ao12 t1025.length co12) t1025)∧Aside0 (Below w.heap.size w w'))
   case atStart=>exact ⟨(0),zz0,H',⟨Nat.le_refl _⟩,⟨(zz97 HO1027)⟩,⟨(zz5 HB)⟩⟩
   case round=>
    clear H';obtain ⟨x6_1,rfl,HA,HK1,HO_5,HB⟩:=hrel;cases gk with
    | zero=>exact absurd HA.out (by simp [laws_FnWorldFromNorm.l0])
    | succ k1=>
     obtain ⟨H⟩:=HA;simp only [laws_FnWorldFromNorm.l0] at H
     replace H:=iteEd H;rcases H with ⟨c15b0,H⟩|⟨c15b0,H⟩
     ·(first|rw [c15b0]|(simp only [i64_w,i32_w];rw [c15b0])|skip)
      replace H:=iteNd H;obtain ⟨c16b0,H⟩:=H;replace H:=bindA H;obtain ⟨⟨t1034,t1035,t1038,t1039,t1040⟩,A17,H⟩:=H;try dsimp only at H
      replace H:=iteB H;rcases H with ⟨rfl,H⟩|⟨rfl,H⟩
      ·replace H:=bindA H
       obtain ⟨t1042,A19,H⟩:=H;have HF20:=A_ H;clear H;obtain ⟨⟨ad1033,e1033,hx1033_0⟩,p1033,q1033⟩:=atB (Kd.at_string (Kd.R_reads' HO_5.out).2.2 x6_1);cases e1033
       try go_wp2_with (first|(refine gV 15 (some 37) Tryz.func15 (impl_AddrRead.calls k1 (rdOf ByteArray.empty t1025 x6_1) t1034 t1035 t1038 t1039 true _ A17.out) ?_;rintro v1036 w21 ⟨ho0,hb⟩;have HO1037:=A_ (Kd.R_lower (Kd.R_new' ho0 (Kd.R_lt (zz8 HO_5))) (below_size (zz5 HB)));replace HO_5:=A_ (Kd.R_elder' (zz8 HO_5) (Kd.R_base ho0) hb);replace HB:=A_ (bS (zz5 HB) hb);(try clear hb ho0))|(refine boxF 7 #[.string (⟨#[]⟩:ByteArray),.slice none 0 0,.bool false,.string (⟨#[]⟩:ByteArray)] 39 ?_;intro gb1041 hg w22 BK1041 hb;replace HO_5:=A_ (rB (zz8 HO_5) hb);replace HO1037:=A_ (rB (zz8 HO1037) hb);have GE1041:=geB hg (zz5 HB);replace HB:=A_ (bS (zz5 HB) hb);clear hb hg;obtain ⟨_,_,_,_,_,_,_,_⟩:=cf4 BK1041;obtain ⟨Ao24,co24,eo24⟩:=Kd.R_slice HO1037.out;subst eo24))
       have n0_:Aside0 (Kd.R Kd.string 9 ((((w22.setCell ⟨gb1041,0,none⟩ (.string t1034)).setCell ⟨gb1041,1,none⟩ (.slice Ao24 t1035.length co24)).setCell ⟨gb1041,2,none⟩ (.bool t1038)).setCell ⟨gb1041,3,none⟩ (.string t1039)) w.heap.size (fun k_=>some k_≠(.slice Ao24 t1035.length co24:Value).ownBlock) (.slice (some ad1033) t1025.length co12) t1025):=⟨(zz47 (rt HO_5 BK1041))⟩;have n1_:Aside0 (Kd.R Kd.string 9 ((((w22.setCell ⟨gb1041,0,none⟩ (.string t1034)).setCell ⟨gb1041,1,none⟩ (.slice Ao24 t1035.length co24)).setCell ⟨gb1041,2,none⟩ (.bool t1038)).setCell ⟨gb1041,3,none⟩ (.string t1039)) w.heap.size (fun k_=>some k_≠(.slice (some ad1033) t1025.length co12:Value).ownBlock) (.slice Ao24 t1035.length co24) t1035):=⟨(zz47 (rt HO1037 BK1041))⟩;have n2_:Aside0 (((((w22.setCell ⟨gb1041,0,none⟩ (.string t1034)).setCell ⟨gb1041,1,none⟩ (.slice Ao24 t1035.length co24)).setCell ⟨gb1041,2,none⟩ (.bool t1038)).setCell ⟨gb1041,3,none⟩ (.string t1039)).heap[gb1041]?=some (.cells #[.string t1034,.slice Ao24 t1035.length co24,.bool t1038,.string t1039] 39 (0,0))):=⟨(zz32 BK1041)⟩;have n3_:Aside0 (Below w.heap.size w ((((w22.setCell ⟨gb1041,0,none⟩ (.string t1034)).setCell ⟨gb1041,1,none⟩ (.slice Ao24 t1035.length co24)).setCell ⟨gb1041,2,none⟩ (.bool t1038)).setCell ⟨gb1041,3,none⟩ (.string t1039))):=⟨(zz16 HB GE1041)⟩;(try clear HO_5)
       (try clear HO1037)
       (try clear BK1041)
       (try clear HB)
       generalize ((((w22.setCell ⟨gb1041,0,none⟩ (.string t1034)).setCell ⟨gb1041,1,none⟩ (.slice Ao24 t1035.length co24)).setCell ⟨gb1041,2,none⟩ (.bool t1038)).setCell ⟨gb1041,3,none⟩ (.string t1039))=w25 at n0_ n1_ n2_ n3_ ⊢;have HO_5:=n0_;have HO1037:=n1_;have BK1041:=n2_;have HB:=n3_;clear n0_ n1_ n2_ n3_;replace HO_5:=A_ (Kd.R_drew HO_5.out);replace HO1037:=A_ (Kd.R_drew HO1037.out);replace BK1041:=A_ (blk_drew BK1041.out);replace HB:=A_ (below_drew1 HB.out);obtain ⟨⟨ad1043,e1043,hx1043_0⟩,p1043,q1043⟩:=atB (Kd.at_string (Kd.R_reads' HO_5.out).2.2 x6_1);obtain rfl:ad1033=ad1043:=(by injection e1043);refine start_ (n:=11) (S:=fun w'=>w'.cell? ⟨gb1041,0,none⟩=some (.string t1034)∧w'.cell? ⟨gb1041,1,none⟩=some (.slice Ao24 t1035.length co24)∧w'.cell? ⟨gb1041,2,none⟩=some (.bool t1038)∧w'.cell? ⟨gb1041,3,none⟩=some (.string t1039)∧w'.cell? (ad1033.add (x6_1).toNat)=some (.string (rdOf ByteArray.empty t1025 x6_1))) (ds:=[]) #[yF,yF,yF,yF,yF,yF,yF,yF,yF,yF,yF] (by kernel_rfl) rfl rfl ⟨(blk_cell BK1041.out 0).trans rfl,(blk_cell BK1041.out 1).trans rfl,(blk_cell BK1041.out 2).trans rfl,(blk_cell BK1041.out 3).trans rfl,hx1043_0⟩ (fun hHeld=>?_);refine with_tabW laws_FnWorldFromNorm.tab11 laws_FnWorldFromNorm.bits11 (fun HT_ HW_=>?_);generalize w25.drew=w26 at HO_5 HO1037 BK1041 HB hx1043_0 hHeld ⊢;refine pureZ 0 (some 40) #[yT,yF,yF,yF,yF,yF,yF,yF,yF,yF,yF] ?_;refine pureZ 1 (some 41) #[yT,yT,yF,yF,yF,yF,yF,yF,yF,yF,yF] ?_;refine pureZ 2 (some 42) #[yT,yT,yT,yF,yF,yF,yF,yF,yF,yF,yF] ?_;refine pureZ 5 (some 45) #[yT,yT,yT,yF,yF,yT,yF,yF,yF,yF,yF] ?_;refine pureZ 6 (some 46) #[yT,yT,yT,yF,yF,yT,yT,yF,yF,yF,yF] ?_;refine pureZ 7 (some 47) #[yT,yT,yT,yF,yF,yT,yT,yT,yF,yF,yF] ?_;refine takeZ5 3 (some 43) #[yT,yT,yT,yT,yF,yT,yT,yT,yF,yF,yF] hHeld ?_;refine takeZ5 8 (some 48) #[yT,yT,yT,yT,yF,yT,yT,yT,yT,yF,yF] hHeld ?_;refine oneZ 4 (some 44) #[yT,yT,yT,yT,yT,yT,yT,yT,yT,yF,yF] (fun K hK=>?_);refine goes_ Tryz.func17 (by kernel_rfl) rfl #[.agg #[.string t1034,.slice Ao24 t1035.length co24,.bool t1038,.string t1039]] (by rfl) rfl rfl zz27 ?_;with_reducible refine (impl_AddrText.calls k1 t1034 _ _ t1035 t1038 t1039 t1042 _ ?side1 ?side2 A19.out).mono ?_
       (case side1=>exact (zz33 HO1037))
       (case side2=>exact (Kd.R_reads' HO1037.out).2.1)
       rintro e w27 ⟨rfl,hb⟩;have HS4_:=(hb.cell (World.block_lt_of_cell? _ _ (hHeld.2.2.2.2))).trans (hHeld.2.2.2.2);refine ⟨_,rfl,?_⟩;replace HO_5:=A_ (rB (zz8 HO_5) hb);replace HO1037:=A_ (rB (zz8 HO1037) hb);replace BK1041:=A_ (bB (zz15 BK1041) hb);replace HB:=A_ (bS (zz16 HB GE1041) hb);(try clear hb)
       (try clear hb2)
       (try clear hk)
       (try clear hi)
       refine hK.out _ _ ⟨(blk_cell BK1041.out 0).trans rfl,(blk_cell BK1041.out 1).trans rfl,(blk_cell BK1041.out 2).trans rfl,(blk_cell BK1041.out 3).trans rfl,HS4_⟩ (fun hHeld=>?_);clear hK K;refine nZ 44 ?_;refine pureZ 9 (some 49) #[yT,yT,yT,yT,yT,yT,yT,yT,yT,yT,yF] ?_;refine pureZ 10 (some 50) #[yT,yT,yT,yT,yT,yT,yT,yT,yT,yT,yT] ?_;refine done_ (done_of HT_.out (by kernel_rfl)) ?_;go_upto_if 50 with (fail)
       obtain ⟨H⟩:=HF20;replace H:=iteEq H;rcases H with ⟨c28b0,c28b1,H⟩|⟨c28b0,c28b1,c28,H⟩
       ·(first|rw [c28b0]|(simp only [i64_w,i32_w];rw [c28b0])|skip)
        have H':=A_ H;clear H;go_wp2
        go_roundg k1
        case measure=>have:=HK1.out;omega
        case rel=>exact ⟨(wrap64 (x6_1+1)),zz0,H',⟨(zz3 HK1)⟩,⟨(zz97 HO_5)⟩,⟨(zz16 HB GE1041)⟩⟩
       ·(first|rw [c28b0]|(simp only [i64_w,i32_w];rw [c28b0])|skip)
        obtain rfl:=sI H;go_wp2
        go_ret
        exact ⟨zz12,(zz16 HB GE1041)⟩
      ·obtain rfl:=sI H
       obtain ⟨⟨ad1033,e1033,hx1033_0⟩,p1033,q1033⟩:=atB (Kd.at_string (Kd.R_reads' HO_5.out).2.2 x6_1);cases e1033
       try go_wp2_with (first|(refine gV 15 (some 37) Tryz.func15 (impl_AddrRead.calls k1 (rdOf ByteArray.empty t1025 x6_1) t1034 t1035 t1038 t1039 false _ A17.out) ?_;rintro v1036 w29 ⟨ho0,hb⟩;have HO1037:=A_ (Kd.R_lower (Kd.R_new' ho0 (Kd.R_lt (zz8 HO_5))) (below_size (zz5 HB)));replace HO_5:=A_ (Kd.R_elder' (zz8 HO_5) (Kd.R_base ho0) hb);replace HB:=A_ (bS (zz5 HB) hb);(try clear hb ho0))|(refine boxF 7 #[.string (⟨#[]⟩:ByteArray),.slice none 0 0,.bool false,.string (⟨#[]⟩:ByteArray)] 39 ?_;intro gb1041 hg w30 BK1041 hb;replace HO_5:=A_ (rB (zz8 HO_5) hb);replace HO1037:=A_ (rB (zz8 HO1037) hb);have GE1041:=geB hg (zz5 HB);replace HB:=A_ (bS (zz5 HB) hb);clear hb hg;obtain ⟨_,_,_,_,_,_,_,_⟩:=cf4 BK1041;obtain ⟨Ao32,co32,eo32⟩:=Kd.R_slice HO1037.out;subst eo32))
       have n0_:Aside0 (Kd.R Kd.string 9 ((((w30.setCell ⟨gb1041,0,none⟩ (.string t1034)).setCell ⟨gb1041,1,none⟩ (.slice Ao32 t1035.length co32)).setCell ⟨gb1041,2,none⟩ (.bool t1038)).setCell ⟨gb1041,3,none⟩ (.string t1039)) w.heap.size (fun k_=>some k_≠(.slice Ao32 t1035.length co32:Value).ownBlock) (.slice (some ad1033) t1025.length co12) t1025):=⟨(zz47 (rt HO_5 BK1041))⟩;have n1_:Aside0 (Kd.R Kd.string 9 ((((w30.setCell ⟨gb1041,0,none⟩ (.string t1034)).setCell ⟨gb1041,1,none⟩ (.slice Ao32 t1035.length co32)).setCell ⟨gb1041,2,none⟩ (.bool t1038)).setCell ⟨gb1041,3,none⟩ (.string t1039)) w.heap.size (fun k_=>some k_≠(.slice (some ad1033) t1025.length co12:Value).ownBlock) (.slice Ao32 t1035.length co32) t1035):=⟨(zz47 (rt HO1037 BK1041))⟩;have n2_:Aside0 (((((w30.setCell ⟨gb1041,0,none⟩ (.string t1034)).setCell ⟨gb1041,1,none⟩ (.slice Ao32 t1035.length co32)).setCell ⟨gb1041,2,none⟩ (.bool t1038)).setCell ⟨gb1041,3,none⟩ (.string t1039)).heap[gb1041]?=some (.cells #[.string t1034,.slice Ao32 t1035.length co32,.bool t1038,.string t1039] 39 (0,0))):=⟨(zz32 BK1041)⟩;have n3_:Aside0 (Below w.heap.size w ((((w30.setCell ⟨gb1041,0,none⟩ (.string t1034)).setCell ⟨gb1041,1,none⟩ (.slice Ao32 t1035.length co32)).setCell ⟨gb1041,2,none⟩ (.bool t1038)).setCell ⟨gb1041,3,none⟩ (.string t1039))):=⟨(zz16 HB GE1041)⟩;(try clear HO_5)
       (try clear HO1037)
       (try clear BK1041)
       (try clear HB)
       generalize ((((w30.setCell ⟨gb1041,0,none⟩ (.string t1034)).setCell ⟨gb1041,1,none⟩ (.slice Ao32 t1035.length co32)).setCell ⟨gb1041,2,none⟩ (.bool t1038)).setCell ⟨gb1041,3,none⟩ (.string t1039))=w33 at n0_ n1_ n2_ n3_ ⊢;have HO_5:=n0_;have HO1037:=n1_;have BK1041:=n2_;have HB:=n3_;clear n0_ n1_ n2_ n3_;replace HO_5:=A_ (Kd.R_drew HO_5.out);replace HO1037:=A_ (Kd.R_drew HO1037.out);replace BK1041:=A_ (blk_drew BK1041.out);replace HB:=A_ (below_drew1 HB.out);refine start_ (n:=11) (S:=fun w'=>True) (ds:=[]) #[yF,yF,yF,yF,yF,yF,yF,yF,yF,yF,yF] (by kernel_rfl) rfl rfl trivial (fun hHeld=>?_);refine with_tabW laws_FnWorldFromNorm.tab11 laws_FnWorldFromNorm.bits11 (fun HT_ HW_=>?_);generalize w33.drew=w34 at HO_5 HO1037 BK1041 HB hHeld ⊢;refine pureZ 0 (some 40) #[yT,yF,yF,yF,yF,yF,yF,yF,yF,yF,yF] ?_;refine pureZ 1 (some 41) #[yT,yT,yF,yF,yF,yF,yF,yF,yF,yF,yF] ?_;refine pureZ 2 (some 42) #[yT,yT,yT,yF,yF,yF,yF,yF,yF,yF,yF] ?_;refine pure_ (i:=3) (N:=some 43) (v:=undef) (a':=?_) #[yT,yT,yT,yT,yF,yF,yF,yF,yF,yF,yF] rfl rfl (any_of HT_.out (by kernel_rfl)) (fun _ _ _ h=>h) (Or.inr ⟨by rfl,rfl⟩) ?_ ?_;rotate_left
       ·simp only [Act.put,List.setIfInBounds_toArray,List.set_cons_zero,List.set_cons_succ,i64_w,i32_w]
        rfl
       refine pure_ (i:=4) (N:=some 44) (v:=undef) (a':=?_) #[yT,yT,yT,yT,yT,yF,yF,yF,yF,yF,yF] rfl rfl (any_of HT_.out (by kernel_rfl)) (fun _ _ _ h=>h) (Or.inr ⟨by rfl,rfl⟩) ?_ ?_;rotate_left
       ·simp only [Act.put,List.setIfInBounds_toArray,List.set_cons_zero,List.set_cons_succ,i64_w,i32_w]
        rfl
       refine pure_ (i:=5) (N:=some 45) (v:=undef) (a':=?_) #[yT,yT,yT,yT,yT,yT,yF,yF,yF,yF,yF] rfl rfl (any_of HT_.out (by kernel_rfl)) (fun _ _ _ h=>h) (Or.inr ⟨by rfl,rfl⟩) ?_ ?_;rotate_left
       ·simp only [Act.put,List.setIfInBounds_toArray,List.set_cons_zero,List.set_cons_succ,i64_w,i32_w]
        rfl
       refine pure_ (i:=6) (N:=some 46) (v:=undef) (a':=?_) #[yT,yT,yT,yT,yT,yT,yT,yF,yF,yF,yF] rfl rfl (any_of HT_.out (by kernel_rfl)) (fun _ _ _ h=>h) (Or.inr ⟨by rfl,rfl⟩) ?_ ?_;rotate_left
       ·simp only [Act.put,List.setIfInBounds_toArray,List.set_cons_zero,List.set_cons_succ,i64_w,i32_w]
        rfl
       refine pure_ (i:=7) (N:=some 47) (v:=undef) (a':=?_) #[yT,yT,yT,yT,yT,yT,yT,yT,yF,yF,yF] rfl rfl (any_of HT_.out (by kernel_rfl)) (fun _ _ _ h=>h) (Or.inr ⟨by rfl,rfl⟩) ?_ ?_;rotate_left
       ·simp only [Act.put,List.setIfInBounds_toArray,List.set_cons_zero,List.set_cons_succ,i64_w,i32_w]
        rfl
       refine pure_ (i:=8) (N:=some 48) (v:=undef) (a':=?_) #[yT,yT,yT,yT,yT,yT,yT,yT,yT,yF,yF] rfl rfl (any_of HT_.out (by kernel_rfl)) (fun _ _ _ h=>h) (Or.inr ⟨by rfl,rfl⟩) ?_ ?_;rotate_left
       ·simp only [Act.put,List.setIfInBounds_toArray,List.set_cons_zero,List.set_cons_succ,i64_w,i32_w]
        rfl
       refine pure_ (i:=9) (N:=some 49) (v:=undef) (a':=?_) #[yT,yT,yT,yT,yT,yT,yT,yT,yT,yT,yF] rfl rfl (any_of HT_.out (by kernel_rfl)) (fun _ _ _ h=>h) (Or.inr ⟨by rfl,rfl⟩) ?_ ?_;rotate_left
       ·simp only [Act.put,List.setIfInBounds_toArray,List.set_cons_zero,List.set_cons_succ,i64_w,i32_w]
        rfl
       refine pureZ 10 (some 50) #[yT,yT,yT,yT,yT,yT,yT,yT,yT,yT,yT] ?_;refine done_ (done_of HT_.out (by kernel_rfl)) ?_;try go_wp2
       go_ret
       exact ⟨zz12,(zz16 HB GE1041)⟩
     ·(first|rw [c15b0]|(simp only [i64_w,i32_w];rw [c15b0])|skip)
      replace H:=bindA H;obtain ⟨t1032,A35,H⟩:=H;obtain rfl:=sI H;go_wp2_with (first|(refine gR 18 (some 52) Tryz.func18 (laws_lpOnce.calls k1 _ _ t1025 t1032 _ ?side1 ?side2 A35.out) ?_;(case side1=>exact (zz33 HO_5));(case side2=>exact (Kd.R_reads' HO_5.out).2.1);rintro w' ⟨nd,rfl⟩))
      go_ret
      exact ⟨zz12,(zz5 HB)⟩
  ·obtain rfl:=sI H
   go_wp2
   go_ret
   exact ⟨zz12,(zz5 HB)⟩
def laws_FnWorldFromNorm.Pure:Prop:=∀ (l0:List Int),l0.length≤maxLen→l0.length * 1≤140737488351232→(∀ x ∈ l0,(Lit.int .u8 x).wf=true)→∃ k,laws_FnWorldFromNorm.f k l0=some true
theorem laws_FnWorldFromNorm.walk (P:laws_FnWorldFromNorm.Pure) (a0:Option Addr) (len0 cap0:Nat) (z0:List Int) (w:World) (w0:(a0=none∧len0=0∧cap0=0∧z0=[])∨∃ x,a0=some x∧len0≤cap0∧cap0≤maxLen∧z0.length=cap0∧(∀ i,i < z0.length→w.cell? (x.add i)=some (.int .u8 (z0.getD i 0)))∧∀ n ∈ z0,(Lit.int .u8 n).wf=true) (y0:len0 * 1≤140737488351232) :
  Calls Tryz.prog 6 #[.slice a0 len0 cap0] w fun e w'=>e=.returned (.bool true)∧Below w.heap.size w w':=by
 obtain ⟨l0,rfl,hr0,hm0,hw0,hc0⟩:=ReadsInt.ofRowC w0;obtain ⟨k,h⟩:=P l0 hm0 y0 hw0;refine (laws_FnWorldFromNorm.calls k _ _ l0 true w (Kd.C_of_reads (d:=(0:Int)) (h1:=fun _=>rfl) hr0) hc0 h).mono ?_;rintro e w' ⟨rfl,hd⟩;exact ⟨rfl,hd⟩
end Go.Proofs.YtpomhjkbgbociaaGreatDoor.P
end
section
namespace Go.Proofs.YtpomhjkbgbociaaGreatDoor.Draw
open Go.RowKit Go.Proofs.YtpomhjkbgbociaaGreatDoor.P Go.Proofs.YtpomhjkbgbociaaGreatDoorW.PrintWords Go.Proofs.YtpomhjkbgbociaaGreatDoorW.PrintLast Go.Proofs.YtpomhjkbgbociaaGreatDoorW.PrintMore Go.Proofs.YtpomhjkbgbociaaGreatDoor.B
set_option linter.unusedVariables false
set_option linter.unusedSimpArgs false
structure Code (b:List Int):Prop where
 byte:∀ x ∈ b,0≤x∧x≤255
 short:b.length≤2000
theorem open_some (l0:List Int) (hw:∀ x ∈ l0,(Lit.int .u8 x).wf=true):∃ b,spec_l6Open.f l0=some (b,0)∧Code b:=by
 unfold spec_l6Open.f
 by_cases h:(l0.length:Int) > 2000
 ·rw [if_pos h,if_pos (by omega)]
  exact ⟨_,rfl,fun x hx=>wf_u8 (hw x (List.mem_of_mem_take hx)),by rw [List.length_take];omega⟩
 ·rw [if_neg h]
  exact ⟨_,rfl,fun x hx=>wf_u8 (hw x hx),by omega⟩
theorem pick_one {b:List Int} (hc:Code b) (k:Nat) (p n:Int) (hp:0≤p) (hp2:p≤1000000000000) :
  ∃ v,spec_l6Rd_pick.f (k+1) b p n=some (v,p+1)∧0≤v∧(1≤n→v < n):=by
 have hl:=hc.short
 have e1:wrap64 (p+1)=p+1:=w64 (by omega) (by omega)
 have e2:wrap64 (p+1 - 1)=p:=by rw [w64 (by omega) (by omega)];omega
 unfold spec_l6Rd_pick.f
 rw [e1]
 by_cases h1:n < 1
 ·rw [if_pos h1]
  exact ⟨0,by simp [spec_l6Rd_pick.j0],by omega,by omega⟩
 ·rw [if_neg h1]
  simp only [spec_l6Rd_pick.j0,e2]
  by_cases h2:(b.length:Int)=0
  ·rw [if_pos (by simpa using h2)]
   exact ⟨0,rfl,by omega,by omega⟩
  ·rw [if_neg (by simpa using h2)]
   by_cases h3:p < (b.length:Int)
   ·rw [if_pos h3,if_pos hp,if_neg (by omega)]
    have hr:=rd_byte hc.byte p
    rw [w64 (by omega) (by omega)]
    exact ⟨_,rfl,(tmod_nn hr.1 (by omega)).1,fun _=>(tmod_nn hr.1 (by omega)).2⟩
   ·rw [if_neg h3,if_neg h2]
    have hq:=tmod_nn (a:=p) (b:=(b.length:Int)) hp (by omega)
    have ew1:wrap64 (p * 7)=p * 7:=w64 (by omega) (by omega)
    have ew2:wrap64 (p * 7+3)=p * 7+3:=w64 (by omega) (by omega)
    have hq2:=tmod_nn (a:=p * 7+3) (b:=(b.length:Int)) (by omega) (by omega)
    rw [if_pos hq.1,if_pos hq.2,ew1,ew2,if_pos hq2.1,if_pos hq2.2,if_neg (by omega)]
    have r1:=rd_byte hc.byte (Int.tmod p (b.length:Int))
    have r2:=rd_byte hc.byte (Int.tmod (p * 7+3) (b.length:Int))
    generalize rd b (Int.tmod p (b.length:Int))=a1 at r1 ⊢
    generalize rd b (Int.tmod (p * 7+3) (b.length:Int))=a2 at r2 ⊢
    have r3:=tdiv_nn (a:=p) (b:=(b.length:Int)) hp (by omega)
    generalize Int.tdiv p (b.length:Int)=q at r3 ⊢
    have s1:wrap64 a1=a1:=w64 (by omega) (by omega)
    have s2:wrap64 a2=a2:=w64 (by omega) (by omega)
    have s3:wrap64 (a1 * 131)=a1 * 131:=w64 (by omega) (by omega)
    have s4:wrap64 (a2 * 1117)=a2 * 1117:=w64 (by omega) (by omega)
    have s5:wrap64 (p * 29)=p * 29:=w64 (by omega) (by omega)
    have s6:wrap64 q=q:=w64 (by omega) (by omega)
    have s7:wrap64 (q * 53)=q * 53:=w64 (by omega) (by omega)
    have s8:wrap64 (a1 * 131+a2 * 1117)=a1 * 131+a2 * 1117:=w64 (by omega) (by omega)
    have s9:wrap64 (a1 * 131+a2 * 1117+p * 29)=a1 * 131+a2 * 1117+p * 29:=w64 (by omega) (by omega)
    have s10:wrap64 (a1 * 131+a2 * 1117+p * 29+q * 53)=a1 * 131+a2 * 1117+p * 29+q * 53:=w64 (by omega) (by omega)
    simp only [s1,s2,s3,s4,s5,s6,s7,s8,s9,s10]
    have hX0:0≤a1 * 131+a2 * 1117+p * 29+q * 53:=by omega
    have hX1:a1 * 131+a2 * 1117+p * 29+q * 53 < 2 ^ 62:=by omega
    generalize a1 * 131+a2 * 1117+p * 29+q * 53=X at hX0 hX1 ⊢
    have d:=tdiv_nn (a:=X) (b:=64) hX0 (by omega)
    have s11:wrap64 (Int.tdiv X 64)=Int.tdiv X 64:=w64 (by omega) (by omega)
    rw [s11]
    have z:=xor_nn hX0 hX1 d.1 (by omega)
    exact ⟨_,rfl,(tmod_nn z.1 (by omega)).1,fun _=>(tmod_nn z.1 (by omega)).2⟩
theorem pick_ev {b:List Int} (hc:Code b) (p n:Int) (hp:0≤p) (hp2:p≤1000000000000) :
  ∃ v,Ev (fun k=>spec_l6Rd_pick.f k b p n) (v,p+1)∧0≤v∧(1≤n→v < n):=by
 obtain ⟨v,h,h0,h1⟩:=pick_one hc 0 p n hp hp2
 exact ⟨v,Ev.of (fun k=>spec_l6Rd_pick.mono _ _ _ k) h,h0,h1⟩
theorem of_ev {b:List Int} (hc:Code b) (p:Int) (l:List ByteArray) (hl:l≠[]) (hl2:(l.length:Int) < 1000000) (hp:0≤p) (hp2:p≤1000000000000) :
  ∃ s,Ev (fun k=>spec_l6Rd_of.f k b p l) (s,p+1)∧s ∈ l:=by
 have hpos:0 < l.length:=List.length_pos_iff.2 hl
 obtain ⟨v,h,h0,h1⟩:=pick_ev hc p (l.length:Int) hp hp2
 have hv:=h1 (by omega)
 refine ⟨rdOf ByteArray.empty l v,Ev.bind h ?_,?_⟩
 ·simp only [h0,hv,if_true]
  exact Ev.now _
 ·unfold rdOf
  have hlt:v.toNat < l.length:=by omega
  rw [List.getD_eq_getElem?_getD,List.getElem?_eq_getElem hlt]
  exact List.getElem_mem hlt
end Go.Proofs.YtpomhjkbgbociaaGreatDoor.Draw
end
section
namespace Go.Proofs.YtpomhjkbgbociaaGreatDoor.Draw
open Go.RowKit Go.Proofs.YtpomhjkbgbociaaGreatDoor.P Go.Proofs.YtpomhjkbgbociaaGreatDoorW.PrintWords Go.Proofs.YtpomhjkbgbociaaGreatDoorW.PrintLast Go.Proofs.YtpomhjkbgbociaaGreatDoorW.PrintMore Go.Proofs.YtpomhjkbgbociaaGreatDoor.B Go.Proofs.YtpomhjkbgbociaaGreatDoor.Ad
set_option linter.unusedVariables false
set_option linter.unusedSimpArgs false
theorem of_sz {b:List Int} (hc:Code b) (p:Int) (l:List ByteArray) (N:Nat) (hp:0≤p) (hp2:p≤1000000000000)
  (hl:decide (0 < l.length∧l.length < 1000000)=true) (hN:(l.all fun s=>decide (s.size≤N))=true) :
  ∃ s,Ev (fun k=>spec_l6Rd_of.f k b p l) (s,p+1)∧s.size≤N:=by
 have h:=of_decide_eq_true hl
 obtain ⟨s,h1,h2⟩:=of_ev hc p l (List.length_pos_iff.1 h.1) (by omega) hp hp2
 exact ⟨s,h1,of_decide_eq_true (List.all_eq_true.1 hN s h2)⟩
theorem body_small {ps:List ByteArray} (h:∀ q ∈ ps,q.size≤6):(body ps).size≤7 * ps.length+1:=by
 match ps,h with
 | [],_=>decide
 | p :: r,h=>
  have key:∀ (r:List ByteArray) (acc:ByteArray),(∀ q ∈ r,q.size≤6)→(r.foldl (fun a q=>(a++⟨#[47]⟩)++q) acc).size≤acc.size+7 * r.length:=by
   intro r
   induction r with
   | nil=>intro acc _;simp
   | cons q r ih=>
    intro acc h
    have:=ih ((acc++⟨#[47]⟩)++q) (fun x hx=>h x (List.mem_cons_of_mem _ hx))
    have hq:=h q List.mem_cons_self
    have h47:(⟨#[47]⟩:ByteArray).size=1:=rfl
    rw [List.foldl_cons]
    rw [ByteArray.size_append,ByteArray.size_append] at this
    simp only [List.length_cons]
    omega
  have:=key r ((⟨#[47]⟩:ByteArray)++p) (fun x hx=>h x (List.mem_cons_of_mem _ hx))
  have hz:=h p List.mem_cons_self
  have hs:((⟨#[47]⟩:ByteArray)++p).size=1+p.size:=by rw [ByteArray.size_append];rfl
  simp only [body,List.length_cons]
  omega
theorem addrText_small {house:ByteArray} {ps:List ByteArray} (asks:Bool) {ask:ByteArray} (hh:house.size≤3) (hs:∀ q ∈ ps,q.size≤6) (hl:ps.length≤2) (ha:ask.size≤4):(addrText house ps asks ask).size≤25:=by
 have hb:=body_small hs
 have h63:(⟨#[63]⟩:ByteArray).size=1:=rfl
 have h47:(⟨#[47,47]⟩:ByteArray).size=2:=rfl
 unfold addrText textB pathB
 split
 ·split
  ·simp only [ByteArray.size_append];omega
  ·simp only [ByteArray.size_append];omega
 ·exact Nat.zero_le _
theorem addr_l {b:List Int} (hc:Code b) (house:ByteArray) (hh:house.size≤3) (d:Nat):∀ (p:Int) (parts:List ByteArray),0≤p→p+d≤100000000000→(∀ q ∈ parts,q.size≤6)→parts.length+d≤2 →
  ∃ s p',Ev (fun k=>spec_l71Addr.l0 k (d:Int) b p house parts false ⟨#[]⟩) (s,p')∧s.size≤25∧p≤p'∧p'≤p+d+2:=by
 induction d with
 | zero=>
  intro p parts h0 h1 hs hl
  have hP:Parts parts:=⟨by omega,fun q hq=>by have:=hs q hq;omega⟩
  obtain ⟨v,hv,_,_⟩:=pick_ev hc p 8 h0 (by omega)
  by_cases hv0:v=0
  ·obtain ⟨ask,ha,hz⟩:=of_sz hc (p+1) ([(⟨#[]⟩:ByteArray),(⟨#[97]⟩:ByteArray),(⟨#[98,37,51,68]⟩:ByteArray)]:List ByteArray) 4 (by omega) (by omega) (by decide) (by decide)
   refine ⟨addrText house parts true ask,p+1+1,Ev.step (f:=fun k=>(spec_l6Rd_pick.f k b p 8).bind fun bt=>if bt.1=0 then ((spec_l6Rd_of.f k b bt.2 ([(⟨#[]⟩:ByteArray),(⟨#[97]⟩:ByteArray),(⟨#[98,37,51,68]⟩:ByteArray)]:List ByteArray)).bind fun b2=>(spec_AddrText.f k house parts true b2.1).bind fun t=>some (t,b2.2)) else (spec_AddrText.f k house parts false ⟨#[]⟩).bind fun t=>some (t,bt.2)) (fun k=>?_) (Ev.bind hv ?_),addrText_small true hh hs (by omega) hz,by omega,by omega⟩
   ·simp only [spec_l71Addr.l0]
    rw [if_neg (by omega)]
   ·simp only [hv0,if_true]
    exact Ev.bind ha (Ev.bind (addrText_ev house parts true ask hP (by omega) (by omega)) (Ev.now _))
  ·refine ⟨addrText house parts false ⟨#[]⟩,p+1,Ev.step (f:=fun k=>(spec_l6Rd_pick.f k b p 8).bind fun bt=>if bt.1=0 then ((spec_l6Rd_of.f k b bt.2 ([(⟨#[]⟩:ByteArray),(⟨#[97]⟩:ByteArray),(⟨#[98,37,51,68]⟩:ByteArray)]:List ByteArray)).bind fun b2=>(spec_AddrText.f k house parts true b2.1).bind fun t=>some (t,b2.2)) else (spec_AddrText.f k house parts false ⟨#[]⟩).bind fun t=>some (t,bt.2)) (fun k=>?_) (Ev.bind hv ?_),addrText_small false hh hs (by omega) (by decide),by omega,by omega⟩
   ·simp only [spec_l71Addr.l0]
    rw [if_neg (by omega)]
   ·simp only [hv0,if_false]
    exact Ev.bind (addrText_ev house parts false ⟨#[]⟩ hP (by decide) (by omega)) (Ev.now _)
 | succ d ih=>
  intro p parts h0 h1 hs hl
  obtain ⟨q,hq,hz⟩:=of_sz hc p ([(⟨#[97]⟩:ByteArray),(⟨#[98]⟩:ByteArray),(⟨#[99]⟩:ByteArray),(⟨#[110,111,116,105,99,101]⟩:ByteArray)]:List ByteArray) 6 h0 (by omega) (by decide) (by decide)
  obtain ⟨s,p',h,h2,h3,h4⟩:=ih (p+1) (parts++[q]) (by omega) (by omega) (fun x hx=>by
   rcases List.mem_append.1 hx with hx|hx
   ·exact hs x hx
   ·rw [List.mem_singleton.1 hx];exact hz) (by simp;omega)
  refine ⟨s,p',Ev.step (f:=fun k=>(spec_l6Rd_of.f k b p ([(⟨#[97]⟩:ByteArray),(⟨#[98]⟩:ByteArray),(⟨#[99]⟩:ByteArray),(⟨#[110,111,116,105,99,101]⟩:ByteArray)]:List ByteArray)).bind fun bt=>spec_l71Addr.l0 k (d:Int) b bt.2 house (parts++[bt.1]) false ⟨#[]⟩) (fun k=>?_) (Ev.bind hq h),h2,by omega,by omega⟩
  simp only [spec_l71Addr.l0]
  rw [if_pos (by omega),show wrap64 (((d+1:Nat):Int) - 1)=(d:Int) from by rw [w64 (by omega) (by omega)];omega]
  congr 1
  funext bt
  rw [if_pos (by omega)]
theorem addr_ev {b:List Int} (hc:Code b) (p:Int) (h0:0≤p) (h1:p≤10000000000):∃ s p',Ev (fun k=>spec_l71Addr.f k b p) (s,p')∧s.size≤25∧p≤p'∧p'≤p+10:=by
 obtain ⟨v,hv,v0,v1⟩:=pick_ev hc p 4 h0 (by omega)
 have v2:=v1 (by omega)
 obtain ⟨n,hn,n0,n1⟩:=pick_ev hc (p+1) 3 (by omega) (by omega)
 have n2:=n1 (by omega)
 obtain ⟨m,rfl⟩:=Int.eq_ofNat_of_zero_le n0
 have hh:(rdOf ByteArray.empty ([(⟨#[97,98]⟩:ByteArray),(⟨#[99,100]⟩:ByteArray),(⟨#[101]⟩:ByteArray),(⟨#[102,111,120]⟩:ByteArray)]:List ByteArray) v).size≤3:=by
  obtain rfl|rfl|rfl|rfl:v=0∨v=1∨v=2∨v=3:=by omega
  all_goals decide
 obtain ⟨s,p',h,h2,h3,h4⟩:=addr_l hc _ hh m (p+1+1) [] (by omega) (by omega) (by simp) (by simp;omega)
 refine ⟨s,p',?_,h2,by omega,by omega⟩
 unfold spec_l71Addr.f spec_l71Houses.f
 simp only [Option.bind_some]
 refine Ev.bind hv ?_
 simp only [v0,show v < (([(⟨#[97,98]⟩:ByteArray),(⟨#[99,100]⟩:ByteArray),(⟨#[101]⟩:ByteArray),(⟨#[102,111,120]⟩:ByteArray)]:List ByteArray).length:Int) from by simp;omega,if_true]
 exact Ev.bind hn h
theorem ref_j {b:List Int} (hc:Code b) (x:Int) (y:Bool) (p:Int) (h0:0≤p) (h1:p≤10000000000):∃ s p',Ev (fun k=>spec_l71Ref.j0 k x y b p) (s,p')∧s.size≤25∧p≤p'∧p'≤p+10:=by
 by_cases hy:y=true
 ·obtain ⟨s,p',h,h2,h3,h4⟩:=addr_ev hc p h0 h1
  refine ⟨s,p',Ev.step (f:=fun k=>(spec_l71Addr.f k b p).bind fun bt=>some (bt.1,bt.2)) (fun k=>?_) (Ev.bind h (Ev.now _)),h2,h3,h4⟩
  simp only [spec_l71Ref.j0]
  rw [if_pos hy]
 by_cases x2:x=2
 ·obtain ⟨s,h,hz⟩:=of_sz hc p (([(⟨#[97]⟩:ByteArray),(⟨#[98]⟩:ByteArray),(⟨#[97,47,98]⟩:ByteArray),(⟨#[99,47,46,46,47,98]⟩:ByteArray),(⟨#[]⟩:ByteArray),(⟨#[120,47,46,47,99]⟩:ByteArray)]:List ByteArray)) 9 h0 (by omega) (by decide) (by decide)
  have h47:(⟨#[47]⟩:ByteArray).size=1:=rfl
  refine ⟨(⟨#[47]⟩:ByteArray)++s,p+1,Ev.step (f:=fun k=>(spec_l6Rd_of.f k b p (([(⟨#[97]⟩:ByteArray),(⟨#[98]⟩:ByteArray),(⟨#[97,47,98]⟩:ByteArray),(⟨#[99,47,46,46,47,98]⟩:ByteArray),(⟨#[]⟩:ByteArray),(⟨#[120,47,46,47,99]⟩:ByteArray)]:List ByteArray))).bind fun bt=>if 1+bt.1.size≤9223372036854775807 then some ((⟨#[47]⟩:ByteArray)++bt.1,bt.2) else none) (fun k=>?_) (Ev.bind h ?_),by rw [ByteArray.size_append];omega,by omega,by omega⟩
  ·simp only [spec_l71Ref.j0]
   rw [if_neg hy,if_pos x2]
  ·simp only [show 1+s.size≤9223372036854775807 from by omega,if_true]
   exact Ev.now _
 by_cases x3:x=3
 ·obtain ⟨s,h,hz⟩:=of_sz hc p (([(⟨#[46,46]⟩:ByteArray),(⟨#[46,46,47,99]⟩:ByteArray),(⟨#[46,46,47,46,46,47,46,46]⟩:ByteArray),(⟨#[46]⟩:ByteArray),(⟨#[46,47,97]⟩:ByteArray)]:List ByteArray)) 9 h0 (by omega) (by decide) (by decide)
  refine ⟨s,p+1,Ev.step (fun k=>?_) (Ev.bind (f:=fun k bt=>some (bt.1,bt.2)) h (Ev.now _)),by omega,by omega,by omega⟩
  simp only [spec_l71Ref.j0]
  rw [if_neg hy,if_neg x2,if_pos x3]
 by_cases x4:x=4
 ·obtain ⟨s,h,hz⟩:=of_sz hc p (([(⟨#[63,97]⟩:ByteArray),(⟨#[63]⟩:ByteArray),(⟨#[35,116,111,112]⟩:ByteArray),(⟨#[]⟩:ByteArray),(⟨#[97,35,98]⟩:ByteArray),(⟨#[98,63,97]⟩:ByteArray)]:List ByteArray)) 9 h0 (by omega) (by decide) (by decide)
  refine ⟨s,p+1,Ev.step (fun k=>?_) (Ev.bind (f:=fun k bt=>some (bt.1,bt.2)) h (Ev.now _)),by omega,by omega,by omega⟩
  simp only [spec_l71Ref.j0]
  rw [if_neg hy,if_neg x2,if_neg x3,if_pos x4]
 by_cases x5:x=5
 ·obtain ⟨s,h,hz⟩:=of_sz hc p (([(⟨#[47,47,65,66,47,97]⟩:ByteArray),(⟨#[47,47,99,100]⟩:ByteArray),(⟨#[47,47,99,100,63,120]⟩:ByteArray),(⟨#[47,47,97,98,47,37,54,49]⟩:ByteArray),(⟨#[47,47,116,111,111,108,111,110,103,47,97]⟩:ByteArray),(⟨#[47,47,97,49,47,98]⟩:ByteArray),(⟨#[47,47,47,97]⟩:ByteArray)]:List ByteArray)) 20 h0 (by omega) (by decide) (by decide)
  refine ⟨s,p+1,Ev.step (fun k=>?_) (Ev.bind (f:=fun k bt=>some (bt.1,bt.2)) h (Ev.now _)),by omega,by omega,by omega⟩
  simp only [spec_l71Ref.j0]
  rw [if_neg hy,if_neg x2,if_neg x3,if_neg x4,if_pos x5]
 ·obtain ⟨s,h,hz⟩:=of_sz hc p (([(⟨#[97]⟩:ByteArray),(⟨#[98]⟩:ByteArray),(⟨#[99]⟩:ByteArray),(⟨#[97,47,98]⟩:ByteArray)]:List ByteArray)) 9 h0 (by omega) (by decide) (by decide)
  refine ⟨s,p+1,Ev.step (fun k=>?_) (Ev.bind (f:=fun k bt=>some (bt.1,bt.2)) h (Ev.now _)),by omega,by omega,by omega⟩
  simp only [spec_l71Ref.j0]
  rw [if_neg hy,if_neg x2,if_neg x3,if_neg x4,if_neg x5]
theorem ref_ev {b:List Int} (hc:Code b) (p:Int) (h0:0≤p) (h1:p≤1000000000):∃ s p',Ev (fun k=>spec_l71Ref.f k b p) (s,p')∧s.size≤25∧p≤p'∧p'≤p+20:=by
 obtain ⟨v,hv,v0,v1⟩:=pick_ev hc p 8 h0 (by omega)
 by_cases hv0:v=0
 ·obtain ⟨s,p',h,h2,h3,h4⟩:=ref_j hc v (v == 0) (p+1) (by omega) (by omega)
  refine ⟨s,p',?_,h2,by omega,by omega⟩
  unfold spec_l71Ref.f
  refine Ev.bind hv ?_
  simp only [if_pos hv0]
  exact h
 ·obtain ⟨s,p',h,h2,h3,h4⟩:=ref_j hc v (v == 1) (p+1) (by omega) (by omega)
  refine ⟨s,p',?_,h2,by omega,by omega⟩
  unfold spec_l71Ref.f
  refine Ev.bind hv ?_
  simp only [if_neg hv0]
  exact h
theorem page_l {b:List Int} (hc:Code b) (d:Nat):∀ (p:Int) (t:ByteArray),0≤p→p+50 * d≤1000000000→t.size+60 * d≤300 →
  ∃ s p',Ev (fun k=>spec_l71Page.l0 k t (d:Int) b p) (s,p')∧s.size≤300∧p≤p'∧p'≤p+50 * d:=by
 induction d with
 | zero=>
  intro p t h0 h1 ht
  refine ⟨t,p,Ev.of (fun k=>spec_l71Page.mono_l k _ _ _ _) (k:=1) ?_,by omega,by omega,by omega⟩
  simp only [spec_l71Page.l0]
  rw [if_neg (by omega)]
 | succ d ih=>
  intro p t h0 h1 ht
  have hw:wrap64 (((d+1:Nat):Int) - 1)=(d:Int):=by rw [w64 (by omega) (by omega)];omega
  have hpos:((d+1:Nat):Int) > 0:=by omega
  obtain ⟨v,hv,v0,v1⟩:=pick_ev hc p 9 h0 (by omega)
  obtain ⟨r1,p1,hr1,z1,a1,b1⟩:=ref_ev hc (p+1) (by omega) (by omega)
  obtain ⟨r2,p2,hr2,z2,a2,b2⟩:=ref_ev hc p1 (by omega) (by omega)
  have s40:(⟨#[40]⟩:ByteArray).size=1:=rfl
  have s60:(⟨#[60]⟩:ByteArray).size=1:=rfl
  have s62:(⟨#[62]⟩:ByteArray).size=1:=rfl
  have s6241:(⟨#[62,41]⟩:ByteArray).size=2:=rfl
  have s6033:(⟨#[60,33]⟩:ByteArray).size=2:=rfl
  have s6064:(⟨#[60,64]⟩:ByteArray).size=2:=rfl
  by_cases c0:v=0
  ·obtain ⟨s,p',h,h2,h3,h4⟩:=ih p2 (((((t++(⟨#[40]⟩:ByteArray))++r1)++(⟨#[60]⟩:ByteArray))++r2)++(⟨#[62,41]⟩:ByteArray)) (by omega) (by omega) (by simp only [ByteArray.size_append];omega)
   refine ⟨s,p',Ev_succ ?_,h2,by omega,by omega⟩
   simp only [spec_l71Page.l0,hpos,hw,if_true]
   refine Ev.bind hv ?_
   simp only [c0,if_true,show t.size+1≤9223372036854775807 from by omega]
   refine Ev.bind hr1 ?_
   simp only [show t.size+1+r1.size≤9223372036854775807 from by omega,show t.size+1+r1.size+1≤9223372036854775807 from by omega,if_true]
   refine Ev.bind hr2 ?_
   simp only [show t.size+1+r1.size+1+r2.size≤9223372036854775807 from by omega,show t.size+1+r1.size+1+r2.size+2≤9223372036854775807 from by omega,if_true]
   exact h
  by_cases c1:v=1
  ·obtain ⟨s,p',h,h2,h3,h4⟩:=ih p1 (((t++(⟨#[60,33]⟩:ByteArray))++r1)++(⟨#[62]⟩:ByteArray)) (by omega) (by omega) (by simp only [ByteArray.size_append];omega)
   refine ⟨s,p',Ev_succ ?_,h2,by omega,by omega⟩
   simp only [spec_l71Page.l0,hpos,hw,if_true]
   refine Ev.bind hv ?_
   simp only [c0,c1,if_true,if_false,show t.size+2≤9223372036854775807 from by omega]
   refine Ev.bind hr1 ?_
   simp only [show t.size+2+r1.size≤9223372036854775807 from by omega,show t.size+2+r1.size+1≤9223372036854775807 from by omega,if_true]
   exact h
  by_cases c2:v=2
  ·obtain ⟨s,p',h,h2,h3,h4⟩:=ih p1 (((t++(⟨#[60,64]⟩:ByteArray))++r1)++(⟨#[62]⟩:ByteArray)) (by omega) (by omega) (by simp only [ByteArray.size_append];omega)
   refine ⟨s,p',Ev_succ ?_,h2,by omega,by omega⟩
   simp only [spec_l71Page.l0,hpos,hw,if_true]
   refine Ev.bind hv ?_
   simp only [c0,c1,c2,if_true,if_false,show t.size+2≤9223372036854775807 from by omega]
   refine Ev.bind hr1 ?_
   simp only [show t.size+2+r1.size≤9223372036854775807 from by omega,show t.size+2+r1.size+1≤9223372036854775807 from by omega,if_true]
   exact h
  by_cases c3:v=3
  ·obtain ⟨q,hq,hz⟩:=of_sz hc (p+1) (([(⟨#[116,101,120,116,32]⟩:ByteArray),(⟨#[60]⟩:ByteArray),(⟨#[62]⟩:ByteArray),(⟨#[40]⟩:ByteArray),(⟨#[41]⟩:ByteArray),(⟨#[60,97]⟩:ByteArray)]:List ByteArray)) 5 (by omega) (by omega) (by decide) (by decide)
   obtain ⟨s,p',h,h2,h3,h4⟩:=ih (p+1+1) (t++q) (by omega) (by omega) (by simp only [ByteArray.size_append];omega)
   refine ⟨s,p',Ev_succ ?_,h2,by omega,by omega⟩
   simp only [spec_l71Page.l0,hpos,hw,if_true]
   refine Ev.bind hv ?_
   simp only [c0,c1,c2,c3,if_true,if_false]
   refine Ev.bind hq ?_
   simp only [show t.size+q.size≤9223372036854775807 from by omega,if_true]
   exact h
  ·obtain ⟨s,p',h,h2,h3,h4⟩:=ih p1 (((t++(⟨#[60]⟩:ByteArray))++r1)++(⟨#[62]⟩:ByteArray)) (by omega) (by omega) (by simp only [ByteArray.size_append];omega)
   refine ⟨s,p',Ev_succ ?_,h2,by omega,by omega⟩
   simp only [spec_l71Page.l0,hpos,hw,if_true]
   refine Ev.bind hv ?_
   simp only [c0,c1,c2,c3,if_true,if_false,show t.size+1≤9223372036854775807 from by omega]
   refine Ev.bind hr1 ?_
   simp only [show t.size+1+r1.size≤9223372036854775807 from by omega,show t.size+1+r1.size+1≤9223372036854775807 from by omega,if_true]
   exact h
theorem page_ev {b:List Int} (hc:Code b) (p:Int) (h0:0≤p) (h1:p≤100000000):∃ s p',Ev (fun k=>spec_l71Page.f k b p) (s,p')∧s.size≤300∧p≤p'∧p'≤p+300:=by
 obtain ⟨v,hv,v0,v1⟩:=pick_ev hc p 5 h0 (by omega)
 have v2:=v1 (by omega)
 obtain ⟨n,rfl⟩:=Int.eq_ofNat_of_zero_le v0
 obtain ⟨s,p',h,h2,h3,h4⟩:=page_l hc n (p+1) ⟨#[]⟩ (by omega) (by omega) (by have:(⟨#[]⟩:ByteArray).size=0:=rfl;omega)
 refine ⟨s,p',?_,h2,by omega,by omega⟩
 unfold spec_l71Page.f
 exact Ev.bind hv h
abbrev SRd:=S108
theorem rule_ev {b:List Int} (hc:Code b) (p:Int) (h0:0≤p) (h1:p≤10000000000):∃ s,Ev (fun k=>spec_l71Rule.f k b p) (s,p+1)∧s.size≤7:=by
 obtain ⟨s,hs,hz⟩:=of_sz hc p (([(⟨#[47]⟩:ByteArray),(⟨#[47,97]⟩:ByteArray),(⟨#[47,98]⟩:ByteArray),(⟨#[47,97,47]⟩:ByteArray),(⟨#[47,42,98]⟩:ByteArray),(⟨#[47,97,36]⟩:ByteArray),(⟨#[47,99]⟩:ByteArray),(⟨#[47,42,63]⟩:ByteArray),(⟨#[47,97,47,98]⟩:ByteArray),(⟨#[47,42,47,98,36]⟩:ByteArray),(⟨#[47,36]⟩:ByteArray),(⟨#[47,98,42,99]⟩:ByteArray),(⟨#[47,110,111,116,105,99,101]⟩:ByteArray),(⟨#[47,42]⟩:ByteArray)]:List ByteArray)) 7 h0 (by omega) (by decide) (by decide)
 exact ⟨s,Ev.bind hs (Ev.now _),hz⟩
theorem rules_l {b:List Int} (hc:Code b) (d:Nat):∀ (p:Int) (rs:List SRd),0≤p→p+2 * d≤10000000000→rs.length+d≤1000→(∀ r ∈ rs,r.f1.size≤7) →
  ∃ x p',Ev (fun k=>spec_l71Rules.l0 k rs (d:Int) b p) (x,p')∧x.length≤rs.length+d∧(∀ r ∈ x,r.f1.size≤7)∧p≤p'∧p'≤p+2 * d:=by
 induction d with
 | zero=>
  intro p rs h0 h1 h2 h3
  refine ⟨rs,p,Ev_succ ?_,by omega,h3,by omega,by omega⟩
  have n1:¬ (((0:Nat):Int) > 0):=by omega
  simp only [spec_l71Rules.l0,n1,if_false]
  exact Ev.now _
 | succ d ih=>
  intro p rs h0 h1 h2 h3
  obtain ⟨v,hv,_,_⟩:=pick_ev hc p 2 h0 (by omega)
  obtain ⟨s,hs,hz⟩:=rule_ev hc (p+1) (by omega) (by omega)
  obtain ⟨x,p',hx,g1,g2,g3,g4⟩:=ih (p+1+1) (rs++[⟨(v == 0),s⟩]) (by omega) (by omega) (by simp;omega) (fun r hr=>by
   rcases List.mem_append.1 hr with h|h
   ·exact h3 r h
   ·rw [List.mem_singleton.1 h];exact hz)
  refine ⟨x,p',Ev_succ ?_,by simp only [List.length_append,List.length_singleton] at g1;omega,g2,by omega,by omega⟩
  have n1:(((d+1:Nat):Int) > 0):=by omega
  have e1:wrap64 (((d+1:Nat):Int) - 1)=(d:Int):=by rw [w64 (by omega) (by omega)];omega
  have n2:rs.length < 5864062014805:=by omega
  simp only [spec_l71Rules.l0,n1,if_true,e1,n2]
  exact Ev.bind hv (Ev.bind hs hx)
theorem rules_ev {b:List Int} (hc:Code b) (p:Int) (h0:0≤p) (h1:p≤1000000000):∃ x p',Ev (fun k=>spec_l71Rules.f k b p) (x,p')∧x.length≤4∧(∀ r ∈ x,r.f1.size≤7)∧p≤p'∧p'≤p+20:=by
 obtain ⟨v,hv,v0,v1⟩:=pick_ev hc p 5 h0 (by omega)
 have v2:=v1 (by omega)
 obtain ⟨m,rfl⟩:=Int.eq_ofNat_of_zero_le v0
 obtain ⟨x,p',hx,g1,g2,g3,g4⟩:=rules_l hc m (p+1) [] (by omega) (by omega) (by simp;omega) (by simp)
 exact ⟨x,p',Ev.bind hv hx,by simp only [List.length_nil] at g1;omega,g2,by omega,by omega⟩
abbrev SGd:=S106
def Gd (g:SGd):Prop:=g.f0.length≤2∧(∀ n ∈ g.f0,n.size≤6)∧g.f1.length≤4∧(∀ r ∈ g.f1,r.f1.size≤7)∧0≤g.f2∧g.f2≤6
theorem gd_app {x:List SGd} {g:SGd} (h:∀ q ∈ x,Gd q) (hg:Gd g):∀ q ∈ x++[g],Gd q:=by
 intro q hq
 rcases List.mem_append.1 hq with hq|hq
 ·exact h q hq
 ·rw [List.mem_singleton.1 hq];exact hg
theorem groups_l {b:List Int} (hc:Code b) (d:Nat):∀ (p:Int) (x:List SGd),0≤p→p+100 * d+10≤100000000→x.length+d≤10→(∀ g ∈ x,Gd g) →
  ∃ y p',Ev (fun k=>spec_l71Groups.l0 k x (d:Int) b p) (y,p')∧y.length≤x.length+d+1∧(∀ g ∈ y,Gd g)∧p≤p'∧p'≤p+100 * d+10:=by
 induction d with
 | zero=>
  intro p x h0 h1 hl hx
  obtain ⟨v,hv,v0,v1⟩:=pick_ev hc p 24 h0 (by omega)
  have hl':x.length < 2513169434916:=by omega
  have n0:¬ (((0:Nat):Int) > 0):=by omega
  by_cases c0:v=0
  ·refine ⟨x++[⟨[(⟨#[120]⟩:ByteArray)],[],0⟩],p+1,Ev_succ ?_,by simp,gd_app hx ⟨by decide,by decide,by decide,by simp,by decide,by decide⟩,by omega,by omega⟩
   simp only [spec_l71Groups.l0,n0,if_false]
   refine Ev.bind hv ?_
   simp only [c0,if_true,hl']
   exact Ev.now _
  by_cases c1:v=1
  ·refine ⟨x++[⟨[],[],2⟩],p+1,Ev_succ ?_,by simp,gd_app hx ⟨by decide,by simp,by decide,by simp,by decide,by decide⟩,by omega,by omega⟩
   simp only [spec_l71Groups.l0,n0,if_false]
   refine Ev.bind hv ?_
   simp only [c0,c1,if_true,if_false,hl']
   exact Ev.now _
  by_cases c2:v=2
  ·refine ⟨x++[⟨[(⟨#[88]⟩:ByteArray)],[],2⟩],p+1,Ev_succ ?_,by simp,gd_app hx ⟨by decide,by decide,by decide,by simp,by decide,by decide⟩,by omega,by omega⟩
   simp only [spec_l71Groups.l0,n0,if_false]
   refine Ev.bind hv ?_
   simp only [c0,c1,c2,if_true,if_false,hl']
   exact Ev.now _
  ·refine ⟨x,p+1,Ev_succ ?_,by omega,hx,by omega,by omega⟩
   simp only [spec_l71Groups.l0,n0,if_false]
   refine Ev.bind hv ?_
   simp only [c0,c1,c2,if_false]
   exact Ev.now _
 | succ d ih=>
  intro p x h0 h1 hl hx
  have hl':x.length < 2513169434916:=by omega
  have n1:(((d+1:Nat):Int) > 0):=by omega
  have e1:wrap64 (((d+1:Nat):Int) - 1)=(d:Int):=by rw [w64 (by omega) (by omega)];omega
  obtain ⟨s,hs,hz⟩:=of_sz hc p ([(⟨#[42]⟩:ByteArray),(⟨#[114,111,118,101,114]⟩:ByteArray),(⟨#[115,99,111,117,116]⟩:ByteArray)]:List ByteArray) 6 h0 (by omega) (by decide) (by decide)
  obtain ⟨rs,p1,hr,r1,r2,a1,b1⟩:=rules_ev hc (p+1) (by omega) (by omega)
  obtain ⟨v,hv,v0,v1⟩:=pick_ev hc p1 4 (by omega) (by omega)
  obtain ⟨u,hu,u0,u1⟩:=pick_ev hc (p1+1) 3 (by omega) (by omega)
  obtain ⟨t,ht,t0,t1⟩:=pick_ev hc (p1+1+1) 4 (by omega) (by omega)
  have v2:=v1 (by omega)
  have u2:=u1 (by omega)
  have hm:0≤v * u∧v * u≤6:=by
   obtain rfl|rfl|rfl:u=0∨u=1∨u=2:=by omega
   all_goals omega
  have hw:wrap64 (v * u)=v * u:=w64 (by omega) (by omega)
  have tail:∀ (ns:List ByteArray) (q:Int),ns.length≤2→(∀ n ∈ ns,n.size≤6)→0≤q→q≤p+40 →
    ∃ y p',Ev (fun k=>if (rs.length:Int) > 0 then (if x.length < 2513169434916 then (spec_l71Groups.l0 k (x++[(⟨ns,rs,wrap64 (v * u)⟩:SGd)]) (wrap64 (((d+1:Nat):Int) - 1)) b q) else none) else (if wrap64 (v * u) > 0 then (if x.length < 2513169434916 then (spec_l71Groups.l0 k (x++[(⟨ns,rs,wrap64 (v * u)⟩:SGd)]) (wrap64 (((d+1:Nat):Int) - 1)) b q) else none) else (spec_l71Groups.l0 k x (wrap64 (((d+1:Nat):Int) - 1)) b q))) (y,p')∧y.length≤x.length+(d+1)+1∧(∀ g ∈ y,Gd g)∧q≤p'∧p'≤q+100 * d+10:=by
   intro ns q k1 k2 q0 q1
   rw [hw,e1]
   have hg:Gd ⟨ns,rs,v * u⟩:=⟨k1,k2,r1,r2,hm.1,hm.2⟩
   obtain ⟨y,p',g1,g2,g3,g4,g5⟩:=ih q (x++[⟨ns,rs,v * u⟩]) q0 (by omega) (by simp;omega) (gd_app hx hg)
   obtain ⟨y2,p2',f1,f2,f3,f4,f5⟩:=ih q x q0 (by omega) (by omega) hx
   rw [List.length_append,List.length_singleton] at g2
   by_cases c:(rs.length:Int) > 0
   ·refine ⟨y,p',?_,by omega,g3,g4,g5⟩
    simp only [c,if_true,hl']
    exact g1
   ·by_cases c2:v * u > 0
    ·refine ⟨y,p',?_,by omega,g3,g4,g5⟩
     simp only [c,c2,if_true,if_false,hl']
     exact g1
    ·refine ⟨y2,p2',?_,by omega,f3,f4,f5⟩
     simp only [c,c2,if_false]
     exact f1
  by_cases c:t=0
  ·obtain ⟨s2,hs2,hz2⟩:=of_sz hc (p1+1+1+1) ([(⟨#[42]⟩:ByteArray),(⟨#[114,111,118,101,114]⟩:ByteArray),(⟨#[120]⟩:ByteArray)]:List ByteArray) 6 (by omega) (by omega) (by decide) (by decide)
   obtain ⟨y,p',g1,g2,g3,g4,g5⟩:=tail [s,s2] (p1+1+1+1+1) (by simp) (by simp [hz,hz2]) (by omega) (by omega)
   refine ⟨y,p',Ev_succ ?_,g2,g3,by omega,by omega⟩
   simp only [spec_l71Groups.l0,n1,if_true]
   refine Ev.bind hs ?_
   simp only [Option.bind_some]
   refine Ev.bind hr (Ev.bind hv (Ev.bind hu (Ev.bind ht ?_)))
   simp only [c,if_true]
   refine Ev.bind hs2 ?_
   simp only [List.length_singleton,show (1:Nat) < 8796093022208 from by omega,if_true,Option.bind_some,List.singleton_append]
   exact g1
  ·obtain ⟨y,p',g1,g2,g3,g4,g5⟩:=tail [s] (p1+1+1+1) (by simp) (by simp [hz]) (by omega) (by omega)
   refine ⟨y,p',Ev_succ ?_,g2,g3,by omega,by omega⟩
   simp only [spec_l71Groups.l0,n1,if_true]
   refine Ev.bind hs ?_
   simp only [Option.bind_some]
   refine Ev.bind hr (Ev.bind hv (Ev.bind hu (Ev.bind ht ?_)))
   simp only [c,if_false]
   exact g1
theorem groups_ev {b:List Int} (hc:Code b) (p:Int) (h0:0≤p) (h1:p≤10000000):∃ y p',Ev (fun k=>spec_l71Groups.f k b p) (y,p')∧y.length≤4∧(∀ g ∈ y,Gd g)∧p≤p'∧p'≤p+400:=by
 obtain ⟨v,hv,v0,v1⟩:=pick_ev hc p 4 h0 (by omega)
 have v2:=v1 (by omega)
 obtain ⟨m,rfl⟩:=Int.eq_ofNat_of_zero_le v0
 obtain ⟨y,p',g1,g2,g3,g4,g5⟩:=groups_l hc m (p+1) [] (by omega) (by omega) (by simp;omega) (by simp)
 exact ⟨y,p',Ev.bind hv g1,by simp only [List.length_nil] at g2;omega,g3,by omega,by omega⟩
end Go.Proofs.YtpomhjkbgbociaaGreatDoor.Draw
end
section
namespace Go.Proofs.YtpomhjkbgbociaaGreatDoor.Nt
open Go.RowKit Go.Proofs.YtpomhjkbgbociaaGreatDoor.P Go.Proofs.YtpomhjkbgbociaaGreatDoorW.PrintWords Go.Proofs.YtpomhjkbgbociaaGreatDoorW.PrintLast Go.Proofs.YtpomhjkbgbociaaGreatDoorW.PrintMore Go.Proofs.YtpomhjkbgbociaaGreatDoor.B Go.Proofs.YtpomhjkbgbociaaGreatDoor.Ad
set_option linter.unusedVariables false
set_option linter.unusedSimpArgs false
abbrev Gp:=S106
abbrev Ru:=S108
structure Sm (n:List Gp):Prop where
 few:n.length≤1048576
 names:∀ g ∈ n,g.f0.length≤1048576∧∀ s ∈ g.f0,s.size≤1048576
 rules:∀ g ∈ n,g.f1.length≤1048576
def gname (s:ByteArray):Bool:=s.toList == [42] || isName s
def groupOk (g:Gp):Bool:=decide (g.f0.length≠0) && (decide (g.f1.length≠0) || decide (g.f2≠0)) && decide (g.f1.length≤6) && (decide (0≤g.f2) && decide (g.f2≤20)) && g.f0.all gname && g.f1.all fun r=>ruleOk r.f1
def linesOf (n:List Gp):Nat:=(n.map fun g=>g.f0.length+g.f1.length+1).sum
def noticeOk (n:List Gp):Bool:=n.all groupOk && decide (linesOf n≤40)
theorem rd_gp {l:List Gp} {i:Nat} (h:i < l.length):rd_T106 l (i:Int)=l[i]:=by
 simp [rd_T106,List.getD,List.getElem?_eq_getElem h]
theorem rd_ru {l:List Ru} {i:Nat} (h:i < l.length):rd_T108 l (i:Int)=l[i]:=by
 simp [rd_T108,List.getD,List.getElem?_eq_getElem h]
theorem Sm.get {n:List Gp} (h:Sm n) {i:Nat} (hi:i < n.length):n[i].f0.length≤1048576∧(∀ s ∈ n[i].f0,s.size≤1048576)∧n[i].f1.length≤1048576:=
 ⟨(h.names _ (List.getElem_mem hi)).1,(h.names _ (List.getElem_mem hi)).2,h.rules _ (List.getElem_mem hi)⟩
theorem ok_rules (n:List Gp) (ns:List ByteArray) (rs:List Ru) (wt:Int) (hn:ns.length≤1048576) (hr:rs.length≤1048576) (c i:Nat) (hc:c≤1000000000000000) (hi:i≤1048576) (R:Bool)
  (hR:Ev (fun k=>spec_NoticeOk.l0 k n ((c+(ns.length+rs.length+1):Nat):Int) ((i+1:Nat):Int)) R) (d:Nat):∀ j,j+d=rs.length →
  Ev (fun k=>spec_NoticeOk.l2 k n (c:Int) (i:Int) (j:Int) ns rs wt) (((rs.drop j).all fun r=>ruleOk r.f1) && R):=by
 induction d with
 | zero=>
  intro j hj
  have e1:wrap64 ((c:Int)+(ns.length:Int))=((c+ns.length:Nat):Int):=by rw [w64 (by omega) (by omega)];omega
  have e2:wrap64 (((c+ns.length:Nat):Int)+(rs.length:Int))=((c+ns.length+rs.length:Nat):Int):=by rw [w64 (by omega) (by omega)];omega
  have e3:wrap64 (((c+ns.length+rs.length:Nat):Int)+1)=((c+(ns.length+rs.length+1):Nat):Int):=by rw [w64 (by omega) (by omega)];omega
  have e4:wrap64 ((i:Int)+1)=((i+1:Nat):Int):=by rw [w64 (by omega) (by omega)];rfl
  refine Ev_succ ?_
  simp only [spec_NoticeOk.l2,show ¬ ((j:Int) < (rs.length:Int)) from by omega,if_false]
  rw [e1,e2,e3,e4,List.drop_of_length_le (by omega)]
  simpa using hR
 | succ d ih=>
  intro j hj
  have hlt:j < rs.length:=by omega
  have e4:wrap64 ((j:Int)+1)=((j+1:Nat):Int):=by rw [w64 (by omega) (by omega)];rfl
  refine Ev_succ ?_
  simp only [spec_NoticeOk.l2,show (j:Int) < (rs.length:Int) from by omega,show (0:Int)≤(j:Int) from by omega,if_true]
  rw [rd_ru hlt,e4,List.drop_eq_getElem_cons hlt,List.all_cons]
  refine Ev.bind (ruleOk_spec _) ?_
  cases ruleOk rs[j].f1 with
  | true=>simp only [if_true,Bool.true_and];exact ih (j+1) (by omega)
  | false=>simp only [Bool.false_eq_true,if_false,Bool.false_and];exact Ev.now _
theorem ok_names (n:List Gp) (ns:List ByteArray) (rs:List Ru) (wt:Int) (hn:ns.length≤1048576) (hs:∀ s ∈ ns,s.size≤1048576) (c i:Nat) (R:Bool)
  (hR:Ev (fun k=>spec_NoticeOk.l2 k n (c:Int) (i:Int) 0 ns rs wt) R) (d:Nat):∀ j,j+d=ns.length →
  Ev (fun k=>spec_NoticeOk.l1 k n (c:Int) (i:Int) (j:Int) ns rs wt) ((ns.drop j).all gname && R):=by
 induction d with
 | zero=>
  intro j hj
  refine Ev_succ ?_
  simp only [spec_NoticeOk.l1,show ¬ ((j:Int) < (ns.length:Int)) from by omega,if_false]
  rw [List.drop_of_length_le (by omega)]
  simpa using hR
 | succ d ih=>
  intro j hj
  have hlt:j < ns.length:=by omega
  have e4:wrap64 ((j:Int)+1)=((j+1:Nat):Int):=by rw [w64 (by omega) (by omega)];rfl
  refine Ev_succ ?_
  simp only [spec_NoticeOk.l1,show (j:Int) < (ns.length:Int) from by omega,show (0:Int)≤(j:Int) from by omega,if_true]
  rw [rd_at hlt,e4,List.drop_eq_getElem_cons hlt,List.all_cons]
  have next:=ih (j+1) (by omega)
  have hz:=hs _ (List.getElem_mem hlt)
  unfold gname at next ⊢
  by_cases h42:ns[j].toList=([42]:List UInt8)
  ·simp only [h42,if_true,beq_self_eq_true,Bool.true_or,Bool.true_and];exact next
  ·simp only [h42,if_false,beq_eq_false_iff_ne.mpr h42,Bool.false_or]
   refine Ev.bind (name_ev _ (by omega)) ?_
   cases isName ns[j] with
   | true=>simp only [if_true,Bool.true_and];exact next
   | false=>simp only [Bool.false_eq_true,if_false,Bool.false_and];exact Ev.now _
theorem l6In_some (x lo hi:Int):spec_l6In.f x lo hi=some (decide (lo≤x) && decide (x≤hi)):=by
 unfold spec_l6In.f
 by_cases h:x ≥ lo
 ·simp [h]
 ·simp [h]
theorem ok_outer (n:List Gp) (hn:Sm n) (d:Nat):∀ (i c:Nat),i+d=n.length→c≤2097153 * i →
  Ev (fun k=>spec_NoticeOk.l0 k n (c:Int) (i:Int)) ((n.drop i).all groupOk && decide (c+linesOf (n.drop i)≤40)):=by
 have hf:=hn.few
 induction d with
 | zero=>
  intro i c hi hc
  refine Ev_succ ?_
  simp only [spec_NoticeOk.l0,show ¬ ((i:Int) < (n.length:Int)) from by omega,if_false]
  rw [List.drop_of_length_le (by omega)]
  simp only [List.all_nil,Bool.true_and,linesOf,List.map_nil,List.sum_nil,Nat.add_zero]
  rw [show (decide (c≤40))=decide ((c:Int)≤40) from by simp;omega]
  exact Ev.now _
 | succ d ih=>
  intro i c hi hc
  have hlt:i < n.length:=by omega
  obtain ⟨s1,s2,s3⟩:=hn.get hlt
  have next:=ih (i+1) (c+(n[i].f0.length+n[i].f1.length+1)) (by omega) (by omega)
  rw [List.drop_eq_getElem_cons hlt,List.all_cons]
  have hL:linesOf (n[i] :: n.drop (i+1))=(n[i].f0.length+n[i].f1.length+1)+linesOf (n.drop (i+1)):=by unfold linesOf;rw [List.map_cons,List.sum_cons]
  rw [hL]
  rw [show c+(n[i].f0.length+n[i].f1.length+1)+linesOf (n.drop (i+1))=c+((n[i].f0.length+n[i].f1.length+1)+linesOf (n.drop (i+1))) from by omega] at next
  generalize decide (c+((n[i].f0.length+n[i].f1.length+1)+linesOf (n.drop (i+1)))≤40)=D at next ⊢
  generalize (n.drop (i+1)).all groupOk=E at next ⊢
  refine Ev_succ ?_
  simp only [spec_NoticeOk.l0,show (i:Int) < (n.length:Int) from by omega,show (0:Int)≤(i:Int) from by omega,if_true]
  rw [rd_gp hlt]
  generalize n[i]=g at *
  obtain ⟨ns,rs,wt⟩:=g
  simp only at s1 s2 s3 next ⊢
  have go:Ev (fun k=>spec_NoticeOk.j1 k n (c:Int) (i:Int) false ns rs wt) (ns.all gname && ((rs.all fun r=>ruleOk r.f1) && (E && D))):=by
   refine Ev_succ ?_
   simp only [spec_NoticeOk.j1,Bool.false_eq_true,if_false]
   have h2:=ok_rules n ns rs wt s1 s3 c i (by omega) (by omega) _ next rs.length 0 (by omega)
   rw [List.drop_zero] at h2
   have h1:=ok_names n ns rs wt s1 s2 c i _ h2 ns.length 0 (by omega)
   rw [List.drop_zero] at h1
   exact h1
  have stop:Ev (fun k=>spec_NoticeOk.j1 k n (c:Int) (i:Int) true ns rs wt) false:=Ev_succ (by simp only [spec_NoticeOk.j1,if_true];exact Ev.now _)
  unfold groupOk
  simp only
  by_cases h0:ns.length=0
  ·simp only [show ((ns.length:Int)=0) from by omega,if_true,h0,ne_eq,not_true,decide_false,Bool.false_and];exact stop
  ·simp only [show ¬ ((ns.length:Int)=0) from by omega,if_false,h0,ne_eq,not_false_iff,decide_true,Bool.true_and]
   have tail:Ev (fun k=>if (rs.length:Int) > 6 then (spec_NoticeOk.j1 k n (c:Int) (i:Int) true ns rs wt) else ((spec_l6In.f wt 0 20).bind fun t=>(spec_NoticeOk.j1 k n (c:Int) (i:Int) (!t) ns rs wt)))
     ((decide (rs.length≤6) && (decide (0≤wt) && decide (wt≤20)) && ns.all gname && rs.all fun r=>ruleOk r.f1) && E && D):=by
    by_cases h6:rs.length≤6
    ·simp only [show ¬ ((rs.length:Int) > 6) from by omega,if_false,h6,decide_true,Bool.true_and,l6In_some,Option.bind_some]
     cases (decide (0≤wt) && decide (wt≤20)) with
     | true=>simp only [Bool.not_true,Bool.true_and];simpa [Bool.and_assoc] using go
     | false=>simp only [Bool.not_false,Bool.false_and];exact stop
    ·simp only [show ((rs.length:Int) > 6) from by omega,if_true,h6,decide_false,Bool.false_and];exact stop
   by_cases h1:rs.length=0
   ·have b1:decide (rs.length≠0)=false:=by simp [h1]
    have i1:(rs.length:Int)=0:=by omega
    rw [show decide (¬ rs.length=0)=false from b1]
    by_cases hw:wt=0
    ·subst hw
     simp only [i1,if_true,not_true,decide_false,Bool.or_self,Bool.false_and]
     exact stop
    ·simp only [if_pos i1,if_neg hw,hw,not_false_iff,decide_true,Bool.or_true,Bool.true_and];exact tail
   ·have i1:¬ (rs.length:Int)=0:=by omega
    simp only [if_neg i1,h1,not_false_iff,decide_true,Bool.true_or,Bool.true_and];exact tail
theorem noticeOk_ev (n:List Gp) (hn:Sm n):Ev (fun k=>spec_NoticeOk.f k n) (noticeOk n):=by
 have h:=ok_outer n hn n.length 0 0 (by omega) (by omega)
 rw [List.drop_zero,Nat.zero_add] at h
 exact h
def decB (n:Nat):ByteArray:=if n < 10 then ofL [UInt8.ofNat (48+n)] else ofL [UInt8.ofNat (48+n / 10),UInt8.ofNat (48+n % 10)]
theorem dec_all:∀ n:Nat,n < 100→(spec_l6Dec.f 3 (n:Int)).map L=some (L (decB n)):=by decide +kernel
theorem dec_ev (n:Nat) (h:n < 100):Ev (fun k=>spec_l6Dec.f k (n:Int)) (decB n):=by
 have:=dec_all n h
 cases hq:spec_l6Dec.f 3 (n:Int) with
 | none=>rw [hq] at this;cases this
 | some v=>
  rw [hq] at this
  simp only [Option.map_some,Option.some.injEq] at this
  rw [L_inj this] at hq
  exact Ev.of (fun k=>spec_l6Dec.mono _ k) hq
theorem dec_size (n:Nat):(decB n).size≤2:=by
 unfold decB
 split
 ·exact Nat.le_succ 1
 ·exact Nat.le_refl 2
def nameT (a s:ByteArray):ByteArray:=((a++(⟨#[99,97,108,108,101,114,32]⟩:ByteArray))++s)++(⟨#[10]⟩:ByteArray)
def ruleT (a:ByteArray) (r:Ru):ByteArray:=((a++(if r.f0=true then (⟨#[108,101,116,32]⟩:ByteArray) else (⟨#[98,97,114,32]⟩:ByteArray)))++r.f1)++(⟨#[10]⟩:ByteArray)
def waitT (a:ByteArray) (w:Int):ByteArray:=if w > 0 then ((a++(⟨#[119,97,105,116,32]⟩:ByteArray))++decB w.toNat)++(⟨#[10]⟩:ByteArray) else a
def groupT (a:ByteArray) (g:Gp):ByteArray:=waitT (g.f1.foldl ruleT (g.f0.foldl nameT a)) g.f2
def noticeT (n:List Gp):ByteArray:=if noticeOk n=true then n.foldl groupT (⟨#[]⟩:ByteArray) else (⟨#[]⟩:ByteArray)
theorem sz10:(⟨#[10]⟩:ByteArray).size=1:=rfl
theorem nameT_size (a s:ByteArray):(nameT a s).size=a.size+7+s.size+1:=by
 have:(⟨#[99,97,108,108,101,114,32]⟩:ByteArray).size=7:=rfl
 unfold nameT;simp only [ByteArray.size_append,sz10];omega
theorem ruleT_size (a:ByteArray) (r:Ru):(ruleT a r).size=a.size+4+r.f1.size+1:=by
 have h1:(⟨#[108,101,116,32]⟩:ByteArray).size=4:=rfl
 have h2:(⟨#[98,97,114,32]⟩:ByteArray).size=4:=rfl
 unfold ruleT;split <;> (simp only [ByteArray.size_append,sz10];omega)
theorem gname_size {s:ByteArray} (h:gname s=true):s.size≤8:=by
 unfold gname at h
 rcases (Bool.or_eq_true _ _).mp h with h|h
 ·have:=(beq_iff_eq.1 h)
  rw [Lib.toList_data] at this
  have h2:=L_size s
  rw [show L s=[42] from this] at h2
  simp at h2;omega
 ·unfold isName at h
  simp only [Bool.and_eq_true,decide_eq_true_eq] at h
  omega
theorem ruleOk_size {s:ByteArray} (h:ruleOk s=true):s.size≤16:=by
 unfold ruleOk at h
 simp only [Bool.and_eq_true,decide_eq_true_eq] at h
 omega
theorem names_size:∀ (ns:List ByteArray) (a:ByteArray),ns.all gname=true→(ns.foldl nameT a).size≤a.size+24 * ns.length
 | [],a,_=>by simp
 | s :: r,a,h=>by
  rw [List.all_cons,Bool.and_eq_true] at h
  have:=names_size r (nameT a s) h.2
  have h1:=gname_size h.1
  rw [nameT_size] at this
  rw [List.foldl_cons,List.length_cons];omega
theorem rules_size:∀ (rs:List Ru) (a:ByteArray),(rs.all fun r=>ruleOk r.f1)=true→(rs.foldl ruleT a).size≤a.size+24 * rs.length
 | [],a,_=>by simp
 | s :: r,a,h=>by
  rw [List.all_cons,Bool.and_eq_true] at h
  have:=rules_size r (ruleT a s) h.2
  have h1:=ruleOk_size h.1
  rw [ruleT_size] at this
  rw [List.foldl_cons,List.length_cons];omega
theorem waitT_size (a:ByteArray) (w:Int):(waitT a w).size≤a.size+8:=by
 unfold waitT
 have h5:(⟨#[119,97,105,116,32]⟩:ByteArray).size=5:=rfl
 have:=dec_size w.toNat
 split
 ·simp only [ByteArray.size_append,sz10];omega
 ·omega
theorem groupOk_parts {g:Gp} (h:groupOk g=true):(g.f0.all gname=true)∧((g.f1.all fun r=>ruleOk r.f1)=true)∧0≤g.f2∧g.f2≤20∧g.f0.length≠0∧(g.f1.length≠0∨g.f2≠0)∧g.f1.length≤6:=by
 unfold groupOk at h
 simp only [Bool.and_eq_true,Bool.or_eq_true,decide_eq_true_eq] at h
 obtain ⟨⟨⟨⟨⟨h1,h2⟩,h3⟩,h4⟩,h5⟩,h6⟩:=h
 exact ⟨h5,h6,h4.1,h4.2,h1,h2,h3⟩
theorem group_size {g:Gp} (a:ByteArray) (h:groupOk g=true):(groupT a g).size≤a.size+24 * (g.f0.length+g.f1.length+1):=by
 obtain ⟨h1,h2,_⟩:=groupOk_parts h
 have e1:=names_size g.f0 a h1
 have e2:=rules_size g.f1 (g.f0.foldl nameT a) h2
 have e3:=waitT_size (g.f1.foldl ruleT (g.f0.foldl nameT a)) g.f2
 unfold groupT;omega
theorem text_names (n:List Gp) (i:Nat) (hi:i < n.length) (hok:n[i].f0.all gname=true) (hl:n[i].f0.length≤1048576) (R:ByteArray) (d:Nat):∀ (j:Nat) (a:ByteArray),j+d=n[i].f0.length→a.size+24 * d≤1000000000000000 →
  Ev (fun k=>spec_NoticeText.l2 k n ((n[i].f0.drop j).foldl nameT a) (i:Int) 0) R→Ev (fun k=>spec_NoticeText.l1 k n a (i:Int) (j:Int)) R:=by
 induction d with
 | zero=>
  intro j a hj ha hR
  rw [List.drop_of_length_le (by omega)] at hR
  refine Ev_succ ?_
  simp only [spec_NoticeText.l1,show (0:Int)≤(i:Int) from by omega,show (i:Int) < (n.length:Int) from by omega,if_true]
  rw [rd_gp hi]
  simp only [show ¬ ((j:Int) < (n[i].f0.length:Int)) from by omega,if_false]
  exact hR
 | succ d ih=>
  intro j a hj ha hR
  have hlt:j < n[i].f0.length:=by omega
  have e4:wrap64 ((j:Int)+1)=((j+1:Nat):Int):=by rw [w64 (by omega) (by omega)];rfl
  rw [List.drop_eq_getElem_cons hlt,List.foldl_cons] at hR
  have hz:=gname_size (List.all_eq_true.1 hok _ (List.getElem_mem hlt))
  refine Ev_succ ?_
  simp only [spec_NoticeText.l1,show (0:Int)≤(i:Int) from by omega,show (i:Int) < (n.length:Int) from by omega,if_true]
  rw [rd_gp hi]
  simp only [show ((j:Int) < (n[i].f0.length:Int)) from by omega,show (0:Int)≤(j:Int) from by omega,if_true]
  rw [rd_at hlt,e4]
  simp only [show a.size+7≤9223372036854775807 from by omega,show a.size+7+n[i].f0[j].size≤9223372036854775807 from by omega,show a.size+7+n[i].f0[j].size+1≤9223372036854775807 from by omega,if_true]
  exact ih (j+1) (nameT a n[i].f0[j]) (by omega) (by rw [nameT_size];omega) hR
theorem text_rules (n:List Gp) (i:Nat) (hi:i < n.length) (hok:groupOk n[i]=true) (hl:n[i].f1.length≤1048576) (hq:n.length≤1048576) (R:ByteArray) (d:Nat):∀ (j:Nat) (a:ByteArray),j+d=n[i].f1.length→a.size+24 * (d+1)≤1000000000000000 →
  Ev (fun k=>spec_NoticeText.l0 k n (waitT ((n[i].f1.drop j).foldl ruleT a) n[i].f2) ((i+1:Nat):Int)) R→Ev (fun k=>spec_NoticeText.l2 k n a (i:Int) (j:Int)) R:=by
 obtain ⟨_,hrs,w0,w1,_⟩:=groupOk_parts hok
 have ei:wrap64 ((i:Int)+1)=((i+1:Nat):Int):=by rw [w64 (by omega) (by omega)];rfl
 induction d with
 | zero=>
  intro j a hj ha hR
  rw [List.drop_of_length_le (by omega)] at hR
  refine Ev_succ ?_
  simp only [spec_NoticeText.l2,show (0:Int)≤(i:Int) from by omega,show (i:Int) < (n.length:Int) from by omega,if_true]
  rw [rd_gp hi]
  simp only [show ¬ ((j:Int) < (n[i].f1.length:Int)) from by omega,if_false]
  rw [ei]
  rw [List.foldl_nil] at hR
  unfold waitT at hR
  by_cases hw:n[i].f2 > 0
  ·simp only [hw,if_true] at hR ⊢
   obtain ⟨m,hm⟩:=Int.eq_ofNat_of_zero_le w0
   have hd:=dec_ev m (by omega)
   have hds:=dec_size m
   rw [hm,Int.toNat_natCast] at hR
   rw [hm]
   simp only [show a.size+5≤9223372036854775807 from by omega,if_true]
   refine Ev.bind hd ?_
   simp only [show a.size+5+(decB m).size≤9223372036854775807 from by omega,show a.size+5+(decB m).size+1≤9223372036854775807 from by omega,if_true]
   exact hR
  ·simp only [hw,if_false] at hR ⊢
   exact hR
 | succ d ih=>
  intro j a hj ha hR
  have hlt:j < n[i].f1.length:=by omega
  have e4:wrap64 ((j:Int)+1)=((j+1:Nat):Int):=by rw [w64 (by omega) (by omega)];rfl
  rw [List.drop_eq_getElem_cons hlt,List.foldl_cons] at hR
  have hz:=ruleOk_size (List.all_eq_true.1 hrs _ (List.getElem_mem hlt))
  have next:=ih (j+1) (ruleT a n[i].f1[j]) (by omega) (by rw [ruleT_size];omega) hR
  refine Ev_succ ?_
  simp only [spec_NoticeText.l2,show (0:Int)≤(i:Int) from by omega,show (i:Int) < (n.length:Int) from by omega,if_true]
  rw [rd_gp hi]
  simp only [show ((j:Int) < (n[i].f1.length:Int)) from by omega,show (0:Int)≤(j:Int) from by omega,if_true]
  rw [rd_ru hlt,e4]
  unfold ruleT at next
  simp only [show a.size+4≤9223372036854775807 from by omega,show a.size+4+n[i].f1[j].f1.size≤9223372036854775807 from by omega,show a.size+4+n[i].f1[j].f1.size+1≤9223372036854775807 from by omega,if_true]
  by_cases hb:n[i].f1[j].f0=true
  ·simp only [hb,if_true] at next ⊢;exact next
  ·simp only [hb,Bool.false_eq_true,if_false] at next ⊢;exact next
theorem text_outer (n:List Gp) (hn:Sm n) (d:Nat):∀ (i:Nat) (a:ByteArray),i+d=n.length→a.size≤24 * 2097153 * i→((n.drop i).all groupOk)=true →
  Ev (fun k=>spec_NoticeText.l0 k n a (i:Int)) ((n.drop i).foldl groupT a):=by
 have hf:=hn.few
 induction d with
 | zero=>
  intro i a hi ha hk
  refine Ev_succ ?_
  simp only [spec_NoticeText.l0,show ¬ ((i:Int) < (n.length:Int)) from by omega,if_false]
  rw [List.drop_of_length_le (by omega)]
  exact Ev.now _
 | succ d ih=>
  intro i a hi ha hk
  have hlt:i < n.length:=by omega
  obtain ⟨s1,s2,s3⟩:=hn.get hlt
  rw [List.drop_eq_getElem_cons hlt,List.all_cons,Bool.and_eq_true] at hk
  rw [List.drop_eq_getElem_cons hlt,List.foldl_cons]
  have hg:=group_size a hk.1
  have next:=ih (i+1) (groupT a n[i]) (by omega) (by omega) hk.2
  have e1:=names_size n[i].f0 a (groupOk_parts hk.1).1
  refine Ev_succ ?_
  simp only [spec_NoticeText.l0,show (i:Int) < (n.length:Int) from by omega,if_true]
  refine text_names n i hlt (groupOk_parts hk.1).1 s1 _ n[i].f0.length 0 a (by omega) (by omega) ?_
  rw [List.drop_zero]
  refine text_rules n i hlt hk.1 s3 hf _ n[i].f1.length 0 _ (by omega) (by omega) ?_
  rw [List.drop_zero]
  exact next
theorem noticeT_ev (n:List Gp) (hn:Sm n):Ev (fun k=>spec_NoticeText.f k n) (noticeT n):=by
 unfold spec_NoticeText.f noticeT
 refine Ev.bind (noticeOk_ev n hn) ?_
 by_cases h:noticeOk n=true
 ·simp only [h,if_true]
  have hk:n.all groupOk=true:=by
   unfold noticeOk at h
   rw [Bool.and_eq_true] at h
   exact h.1
  have:=text_outer n hn n.length 0 ⟨#[]⟩ (by omega) (by have:(⟨#[]⟩:ByteArray).size=0:=rfl;omega) (by rw [List.drop_zero];exact hk)
  rw [List.drop_zero] at this
  exact this
 ·simp only [h,Bool.false_eq_true,if_false];exact Ev.now _
end Go.Proofs.YtpomhjkbgbociaaGreatDoor.Nt
end
section
namespace Go.Proofs.YtpomhjkbgbociaaGreatDoor.Ad
open Go.RowKit Go.Proofs.YtpomhjkbgbociaaGreatDoor.P Go.Proofs.YtpomhjkbgbociaaGreatDoorW.PrintWords Go.Proofs.YtpomhjkbgbociaaGreatDoorW.PrintLast Go.Proofs.YtpomhjkbgbociaaGreatDoorW.PrintMore Go.Proofs.YtpomhjkbgbociaaGreatDoor.B
set_option linter.unusedVariables false
set_option linter.unusedSimpArgs false
def ints (l:List UInt8):List Int:=l.map fun c=>(c.toNat:Int)
theorem ints_app (a b:List UInt8):ints (a++b)=ints a++ints b:=by simp [ints]
theorem ints_len (a:List UInt8):(ints a).length=a.length:=by simp [ints]
theorem nums_ints (l:List UInt8):strOfNums (ints l)=ofL l:=by
 unfold strOfNums ofL ints
 rw [List.map_map]
 congr 2
 have h:((fun n:Int=>UInt8.ofNat n.toNat) ∘ fun c:UInt8=>(c.toNat:Int))=id:=by funext c;simp
 exact (congrArg (fun f=>List.map f l) h).trans (List.map_id l)
theorem figv_all:∀ n:Nat,n < 256→impl_figureValue.f (n:Int)=some (match hexN (UInt8.ofNat n) with|some x=>((x:Int),true)|none=>(0,false)):=by decide +kernel
theorem figv (c:UInt8):impl_figureValue.f (c.toNat:Int)=some (match hexN c with|some x=>((x:Int),true)|none=>(0,false)):=by
 have:=figv_all c.toNat c.toNat_lt
 rwa [of_toNat] at this
theorem stands_all:∀ n:Nat,n < 256→impl_standsForItself.f (n:Int)=some (plainB (UInt8.ofNat n)):=by decide +kernel
def hexT:ByteArray:=⟨#[48,49,50,51,52,53,54,55,56,57,65,66,67,68,69,70]⟩
theorem put_all:∀ n:Nat,n < 256→(plainB (UInt8.ofNat n)=true→[(n:Int)]=ints (encN n))∧(plainB (UInt8.ofNat n)=false→0≤(n:Int) / 16∧(n:Int) / 16 < 16∧0≤Go.bits .and .u8 (n:Int) 15∧Go.bits .and .u8 (n:Int) 15 < 16 ∧
  ([37,bt hexT ((n:Int) / 16),bt hexT (Go.bits .and .u8 (n:Int) 15)]:List Int)=ints (encN n)):=by decide +kernel
theorem sign_i (s:ByteArray) (i:Nat) (hs:s.size≤60) (hi:i < s.size) :
  impl_signByte.f s (i:Int)=some (if h:i+2 < (L s).length then (match hexN ((L s)[i+1]'(by omega)),hexN ((L s)[i+2]'h) with|some x,some y=>(((x * 16+y:Nat):Int),true)|_,_=>(0,false)) else (0,false)):=by
 have hL:=L_size s
 unfold impl_signByte.f
 rw [w64 (n:=(s.size:Int) - i) (by omega) (by omega)]
 by_cases h:i+2 < (L s).length
 ·rw [dif_pos h,if_neg (by omega),w64 (n:=(i:Int)+1) (by omega) (by omega),w64 (n:=(i:Int)+2) (by omega) (by omega),if_pos (by omega),if_pos (by omega)]
  have b1:=bt_get s (i+1) (by omega)
  have b2:=bt_get s (i+2) h
  have l1:=@hexN_lt ((L s)[i+1]'(by omega))
  have l2:=@hexN_lt ((L s)[i+2]'h)
  rw [show ((i:Int)+1)=((i+1:Nat):Int) from by omega,show ((i:Int)+2)=((i+2:Nat):Int) from by omega,b1,b2]
  generalize (L s)[i+1]'(by omega)=ca at l1 ⊢
  generalize (L s)[i+2]'h=cb at l2 ⊢
  rw [figv ca,figv cb]
  simp only [Option.bind_some]
  rw [if_pos (by omega),if_pos (by omega)]
  cases ha:hexN ca with
  | none=>simp
  | some x=>
   cases hb:hexN cb with
   | none=>simp
   | some y=>
    have:=l1 ha
    have:=l2 hb
    simp only [if_true]
    rw [w64 (n:=(x:Int) * 16) (by omega) (by omega),w64 (by omega) (by omega)]
    congr 2
    omega
 ·rw [dif_neg h,if_pos (by omega)]
theorem enc_i (s:ByteArray) (acc:List UInt8) (n:Nat) (j:Int) (h:n < 256) (ha:acc.length≤1000000) (k:Nat) :
  ((impl_standsForItself.f (n:Int)).bind fun t=>(if t=true then (if (ints acc).length < 140737488355328 then (impl_EscNorm.l0 k s (ints acc++[(n:Int)]) j) else (none)) else (if 0≤((n:Int) / 16) then (if ((n:Int) / 16) < 16 then (if 0≤(Go.bits .and .u8 (n:Int) 15) then (if (Go.bits .and .u8 (n:Int) 15) < 16 then ((some (([37,bt (⟨#[48,49,50,51,52,53,54,55,56,57,65,66,67,68,69,70]⟩:ByteArray) ((n:Int) / 16),bt (⟨#[48,49,50,51,52,53,54,55,56,57,65,66,67,68,69,70]⟩:ByteArray) (Go.bits .and .u8 (n:Int) 15)]:List Int):List Int)).bind fun y=>(if (ints acc).length+y.length < 140737488355328 then (impl_EscNorm.l0 k s (ints acc++y) j) else (none))) else (none)) else (none)) else (none)) else (none))))=impl_EscNorm.l0 k s (ints (acc++encN n)) j:=by
 obtain ⟨p1,p2⟩:=put_all n h
 rw [stands_all n h]
 simp only [Option.bind_some]
 have hl:=ints_len acc
 cases hp:plainB (UInt8.ofNat n) with
 | true=>rw [if_pos rfl,if_pos (by omega),ints_app,p1 hp]
 | false=>
  obtain ⟨q1,q2,q3,q4,q5⟩:=p2 hp
  rw [if_neg (by simp),if_pos q1,if_pos q2,if_pos q3,if_pos q4]
  unfold hexT at q5
  rw [q5]
  have:=encN_len n
  have:=ints_len (encN n)
  rw [if_pos (by omega),ints_app]
theorem esc_i (s:ByteArray) (hs:s.size≤60) (n:Nat):∀ (i:Nat) (acc:List UInt8),i≤s.size→s.size - i≤n→acc.length≤3 * i →
  Ev (fun k=>impl_EscNorm.l0 k s (ints acc) (i:Int)) (escR (ofL acc) (esc ((L s).drop i))):=by
 have hL:=L_size s
 induction n with
 | zero=>
  intro i acc hi hn ha
  refine Ev.of (fun k=>impl_EscNorm.mono_l k |> fun h=>h _ _ _) (k:=1) ?_
  simp only [impl_EscNorm.l0]
  rw [if_neg (by omega),List.drop_eq_nil_of_le (by omega)]
  simp only [esc,escR]
  rw [app_nil,nums_ints]
 | succ n ih=>
  intro i acc hi hn ha
  by_cases hlt:i < s.size
  ·have hlt':i < (L s).length:=by omega
   rw [drop_at hlt']
   have hb:=bt_get s i hlt'
   by_cases hc:(L s)[i]=37
   ·have hb37:bt s i=37:=by rw [hb,hc];rfl
    have w3:wrap64 (wrap64 ((i:Int)+2)+1)=((i+2+1:Nat):Int):=by rw [w64 (n:=(i:Int)+2) (by omega) (by omega),w64 (by omega) (by omega)];omega
    rw [hc]
    have sg:=sign_i s i hs hlt
    refine Ev_succ ?_
    simp only [impl_EscNorm.l0]
    simp only [show ((i:Int) < (s.size:Int)) from by omega,show ((0:Int)≤(i:Int)) from by omega,hb37,if_true,sg,Option.bind_some,w3]
    by_cases h2:i+2 < (L s).length
    ·have g1:i+1 < (L s).length:=by omega
     rw [drop_at g1,drop_at h2]
     simp only [h2,dif_pos]
     generalize (L s)[i+1]'g1=ca
     generalize (L s)[i+2]'h2=cb
     cases ha':hexN ca with
     | none=>
      rw [esc_bad1 _ _ ha']
      simp only [Bool.false_eq_true,if_false]
      exact Ev.now _
     | some x=>
      cases hb':hexN cb with
      | none=>
       rw [esc_bad2 _ _ hb']
       simp only [Bool.false_eq_true,if_false]
       exact Ev.now _
      | some y=>
       have hx:=hexN_lt ha'
       have hy:=hexN_lt hb'
       rw [esc_sign _ ha' hb',escR_map]
       simp only [if_true]
       refine Ev.congr (fun k=>enc_i s acc (x * 16+y) _ (by omega) (by omega) k) ?_
       have:=encN_len (x * 16+y)
       rw [← ofL_app]
       exact ih (i+2+1) _ (by omega) (by omega) (by rw [List.length_append];omega)
    ·rw [esc_short (by rw [List.length_drop];omega)]
     simp only [h2,dif_neg,not_false_eq_true,Bool.false_eq_true,if_false]
     exact Ev.now _
   ·have hb37:¬ bt s i=37:=by
     rw [hb]
     intro e
     exact hc (UInt8.toNat_inj.1 (by have:(37:UInt8).toNat=37:=rfl;omega))
    rw [esc_plain _ hc]
    have hlt8:=(L s)[i].toNat_lt
    have w1:wrap64 ((i:Int)+1)=((i+1:Nat):Int):=by rw [w64 (by omega) (by omega)];omega
    refine Ev_succ ?_
    simp only [impl_EscNorm.l0]
    simp only [show ((i:Int) < (s.size:Int)) from by omega,show ((0:Int)≤(i:Int)) from by omega,hb37,if_true,if_false,w1]
    rw [escR_map]
    simp only [hb]
    refine Ev.congr (fun k=>enc_i s acc (L s)[i].toNat _ (by omega) (by omega) k) ?_
    have hz:=encN_len (L s)[i].toNat
    rw [← ofL_app]
    refine ih (i+1) _ (by omega) (by omega) ?_
    rw [List.length_append];omega
  ·refine Ev.of (fun k=>impl_EscNorm.mono_l k |> fun h=>h _ _ _) (k:=1) ?_
   simp only [impl_EscNorm.l0]
   rw [if_neg (by omega),List.drop_eq_nil_of_le (by omega)]
   simp only [esc,escR]
   rw [app_nil,nums_ints]
theorem escNorm_i (s:ByteArray):Ev (fun k=>impl_EscNorm.f k s) (escNorm s):=by
 unfold impl_EscNorm.f escNorm
 by_cases h:s.size > 60
 ·simp only [show ((s.size:Int) > 60) from by omega,if_true,h]
  exact Ev.now _
 ·simp only [show ¬ ((s.size:Int) > 60) from by omega,if_false,h]
  have:=esc_i s (by omega) s.size 0 [] (by omega) (by omega) (Nat.le_refl 0)
  simp only [List.drop_zero] at this
  have e:escR (ofL []) (esc (L s))=escO (esc (L s)):=by
   unfold escR escO
   cases esc (L s) with
   | none=>rfl
   | some r=>simp only [Prod.mk.injEq,and_true];apply L_inj;rw [L_app];rfl
  rw [← e]
  exact this
theorem norm_i (s:ByteArray):Ev (fun k=>impl_isNormal.f k s) (isNorm s):=by
 unfold impl_isNormal.f isNorm
 refine Ev.bind (escNorm_i s) ?_
 by_cases h:(escNorm s).2=true
 ·simp only [h,if_true,Bool.true_and]
  exact Ev.now _
 ·simp only [h,if_false,Bool.false_and]
  exact Ev.now _
theorem small_i (s:ByteArray) (hs:s.size≤140737488351232) (d:Nat):∀ (k:Nat) (i:Nat),i+d=s.size→d < k →
  impl_allSmallLetters.l0 k s (i:Int)=some (smallFrom s d i):=by
 induction d with
 | zero=>
  intro k i h hk
  obtain ⟨k,rfl⟩:∃ m,k=m+1:=⟨k - 1,by omega⟩
  simp only [impl_allSmallLetters.l0,smallFrom]
  rw [if_neg (by omega)]
 | succ d ih=>
  intro k i h hk
  obtain ⟨k,rfl⟩:∃ m,k=m+1:=⟨k - 1,by omega⟩
  simp only [impl_allSmallLetters.l0,smallFrom]
  rw [if_pos (by omega),if_pos (by omega)]
  by_cases h1:bt s i < 97
  ·rw [if_pos h1,if_pos h1]
  ·rw [if_neg h1,if_neg h1]
   by_cases h2:bt s i > 122
   ·rw [if_pos h2,if_pos h2]
   ·rw [if_neg h2,if_neg h2,w64 (by omega) (by omega)]
    exact ih k (i+1) (by omega) (by omega)
theorem smalls_i (s:ByteArray) (hs:s.size≤140737488351232):Ev (fun k=>impl_allSmallLetters.f k s) (isSmall s):=by
 refine Ev.of (fun k=>impl_allSmallLetters.mono _ k) (k:=s.size+1) ?_
 exact small_i s hs s.size (s.size+1) 0 (by omega) (by omega)
theorem house_i (s:ByteArray) (hs:s.size≤140737488351232):Ev (fun k=>impl_isHouse.f k s) (isHouse s):=by
 unfold impl_isHouse.f isHouse
 by_cases h1:1≤s.size
 ·simp only [show ((s.size:Int) ≥ 1) from by omega,if_true,h1,decide_true,Bool.true_and]
  by_cases h2:s.size≤5
  ·simp only [show ((s.size:Int)≤5) from by omega,if_true,h2,decide_true,Bool.true_and]
   exact Ev.bind (smalls_i s hs) (Ev.now _)
  ·simp only [show ¬ ((s.size:Int)≤5) from by omega,if_false,h2,decide_false,Bool.false_and]
   exact Ev.now _
 ·simp only [show ¬ ((s.size:Int) ≥ 1) from by omega,if_false,h1,decide_false,Bool.false_and]
  exact Ev.now _
theorem L_fold:∀ (r:List ByteArray) (acc:ByteArray),L (r.foldl (fun a q=>(a++⟨#[47]⟩)++q) acc)=L acc++Lib.joinTail [47] (r.map L)
 | [],acc=>by simp [Lib.joinTail]
 | q :: r,acc=>by
  rw [List.foldl_cons,L_fold r,L_app,L_app]
  simp [Lib.joinTail,L]
theorem L_body (ps:List ByteArray):L (body ps)=47 :: Lib.join (ps.map L) [47]:=by
 cases ps with
 | nil=>rfl
 | cons p r=>
  unfold body
  rw [L_fold,List.map_cons,Lib.join_cons,L_app]
  rfl
theorem body_join (ps:List ByteArray):(⟨#[47]⟩:ByteArray)++ofL (Lib.join (ps.map L) [47])=body ps:=by
 apply L_inj
 rw [L_app,L_of,L_body]
 rfl
theorem join_len (ps:List ByteArray):(Lib.join (ps.map L) [47]).length+1=(body ps).size:=by
 rw [← L_size,L_body];simp
theorem path_i (parts:List ByteArray) (asks:Bool) (ask house:ByteArray) (hP:Parts parts) (hq:ask.size≤1048576):impl_writePath.f house parts asks ask=some (pathB parts asks ask):=by
 have hz:=path_size parts false ask hP hq
 have hb:pathB parts false ask=body parts:=rfl
 rw [hb] at hz
 have hj:=join_len parts
 have hf:=hP.few
 unfold impl_writePath.f strings_Join.f
 have e47:L (⟨#[47]⟩:ByteArray)=[47]:=rfl
 rw [e47,if_pos ⟨by omega,by omega⟩]
 simp only [Option.bind_some]
 have hs:=ofL_size (Lib.join (parts.map L) [47])
 rw [if_pos (by omega),body_join]
 by_cases h:asks=true
 ·rw [if_pos h,if_pos (by omega),if_pos (by omega)]
  unfold pathB
  rw [if_pos h,ByteArray.append_assoc]
 ·rw [if_neg h]
  unfold pathB
  rw [if_neg h]
theorem text_i (house:ByteArray) (parts:List ByteArray) (asks:Bool) (ask:ByteArray) (hP:Parts parts) (hq:ask.size≤1048576) (hh:house.size≤1048576) :
  impl_writeAddr.f house parts asks ask=some (textB house parts asks ask):=by
 have hz:=path_size parts asks ask hP hq
 unfold impl_writeAddr.f
 rw [if_pos (by omega),path_i parts asks ask house hP hq]
 simp only [Option.bind_some]
 rw [if_pos (by omega)]
 rfl
def okEnd (house:ByteArray) (parts:List ByteArray) (asks:Bool) (ask:ByteArray):Bool:=isNorm ask && (asks || ask.toList == []) && decide ((textB house parts asks ask).size≤60)
theorem ok_i (house:ByteArray) (parts:List ByteArray) (asks:Bool) (ask:ByteArray) (hP:Parts parts) (hq:ask.size≤1048576) (hh:house.size≤1048576) (d:Nat):∀ (i:Nat),i+d=parts.length →
  Ev (fun k=>impl_AddrOk.l0 k parts (parts.length:Int) (i:Int) house parts asks ask) ((parts.drop i).all partOk && okEnd house parts asks ask):=by
 have hf:=hP.few
 induction d with
 | zero=>
  intro i hi
  rw [List.drop_eq_nil_of_le (by omega)]
  simp only [List.all_nil,Bool.true_and]
  refine Ev_succ ?_
  simp only [impl_AddrOk.l0]
  simp only [show ¬ ((i:Int) < (parts.length:Int)) from by omega,if_false,text_i house parts asks ask hP hq hh,Option.bind_some]
  refine Ev.bind (norm_i ask) ?_
  unfold okEnd
  have e:decide (((textB house parts asks ask).size:Int)≤60)=decide ((textB house parts asks ask).size≤60):=by rw [Bool.eq_iff_iff];simp;omega
  by_cases h3:isNorm ask=true
  ·simp only [h3,if_true,Bool.true_and,e]
   by_cases h4:asks=true
   ·simp only [h4,if_true,Bool.true_or,Bool.true_and]
    exact Ev.now _
   ·by_cases h5:ask.toList=[]
    ·simp only [h4,if_false,h5,if_true,beq_self_eq_true,Bool.or_true,Bool.true_and]
     exact Ev.now _
    ·simp only [h4,if_false,h5,show (ask.toList == ([]:List UInt8))=false from by simp [h5],Bool.or_false,Bool.false_and]
     exact Ev.now _
  ·simp only [h3,if_false,Bool.false_and]
   exact Ev.now _
 | succ d ih=>
  intro i hi
  have hlt:i < parts.length:=by omega
  rw [List.drop_eq_getElem_cons hlt,List.all_cons]
  refine Ev_succ ?_
  simp only [impl_AddrOk.l0]
  have w1:wrap64 ((i:Int)+1)=((i+1:Nat):Int):=by rw [w64 (by omega) (by omega)];omega
  simp only [show ((i:Int) < (parts.length:Int)) from by omega,show ((0:Int)≤(i:Int)) from by omega,if_true,rd_at hlt,w1]
  by_cases h2:parts[i].toList=[]
  ·simp only [h2,if_true]
   rw [show partOk parts[i]=false from by simp [partOk,h2]]
   exact Ev.now _
  ·by_cases h3:parts[i].toList=[46]
   ·simp only [h2,h3,if_true,if_false]
    rw [show partOk parts[i]=false from by simp [partOk,h3]]
    first|exact Ev.now _|simpa using Ev.now _
   ·by_cases h4:parts[i].toList=[46,46]
    ·simp only [h2,h3,h4,if_true,if_false]
     rw [show partOk parts[i]=false from by simp [partOk,h4]]
     first|exact Ev.now _|simpa using Ev.now _
    ·simp only [h2,h3,h4,if_false]
     refine Ev.bind (norm_i parts[i]) ?_
     by_cases h1:isNorm parts[i]=true
     ·simp only [h1,if_true]
      rw [show partOk parts[i]=true from by simp [partOk,h1,h2,h3,h4],Bool.true_and]
      exact ih (i+1) (by omega)
     ·simp only [h1,if_false]
      rw [show partOk parts[i]=false from by simp [partOk,h1]]
      exact Ev.now _
theorem okEnd_is (house:ByteArray) (parts:List ByteArray) (asks:Bool) (ask:ByteArray):addrOk house parts asks ask=(isHouse house && decide (parts.length≤5) && (parts.all partOk && okEnd house parts asks ask)):=by
 unfold addrOk okEnd
 cases isHouse house <;> cases decide (parts.length≤5) <;> cases isNorm ask <;> cases (asks || ask.toList == []) <;> cases parts.all partOk <;> rfl
theorem addrOk_i (house:ByteArray) (parts:List ByteArray) (asks:Bool) (ask:ByteArray) (hP:Parts parts) (hq:ask.size≤1048576) (hh:house.size≤1048576) :
  Ev (fun k=>impl_AddrOk.f k house parts asks ask) (addrOk house parts asks ask):=by
 have hf:=hP.few
 have bad:Ev (fun k=>impl_AddrOk.j0 k true house parts asks ask) false:=Ev_succ (by simp only [impl_AddrOk.j0,if_true];exact Ev.now _)
 unfold impl_AddrOk.f
 rw [okEnd_is]
 refine Ev.bind (house_i house (by omega)) ?_
 by_cases h1:isHouse house=true
 ·simp only [h1,if_true,Bool.true_and]
  by_cases h2:parts.length≤5
  ·rw [show decide ((parts.length:Int) > 5)=false from by simp;omega]
   simp only [h2,decide_true,Bool.true_and]
   refine Ev_succ ?_
   simp only [impl_AddrOk.j0,Bool.false_eq_true,if_false]
   have:=ok_i house parts asks ask hP hq hh parts.length 0 (by omega)
   simpa using this
  ·rw [show decide ((parts.length:Int) > 5)=true from by simp;omega]
   simp only [h2,decide_false,Bool.false_and]
   exact bad
 ·simp only [h1,if_false,Bool.false_and]
  exact bad
theorem addrText_i (house:ByteArray) (parts:List ByteArray) (asks:Bool) (ask:ByteArray) (hP:Parts parts) (hq:ask.size≤1048576) (hh:house.size≤1048576) :
  Ev (fun k=>impl_AddrText.f k house parts asks ask) (addrText house parts asks ask):=by
 unfold impl_AddrText.f addrText
 refine Ev.bind (addrOk_i house parts asks ask hP hq hh) ?_
 by_cases h:addrOk house parts asks ask=true
 ·simp only [h,if_true,text_i house parts asks ask hP hq hh,Option.bind_some]
  exact Ev.now _
 ·simp only [h,if_false]
  exact Ev.now _
end Go.Proofs.YtpomhjkbgbociaaGreatDoor.Ad
end
section
namespace Go.Proofs.YtpomhjkbgbociaaGreatDoor.Ad
open Go.RowKit Go.Proofs.YtpomhjkbgbociaaGreatDoorW.PrintWords Go.Proofs.YtpomhjkbgbociaaGreatDoor.B
set_option linter.unusedVariables false
set_option linter.unusedSimpArgs false
abbrev A5:=ByteArray×List ByteArray×Bool×ByteArray×Bool
def none5:A5:=((⟨#[]⟩:ByteArray),([]:List ByteArray),false,(⟨#[]⟩:ByteArray),false)
def escAll:List ByteArray→Option (List ByteArray)
 | []=>some []
 | q :: qs=>if (escNorm q).2=true then (escAll qs).map ((escNorm q).1 :: ·) else none
def clean1 (acc:List ByteArray) (p:ByteArray):List ByteArray:=
 if p.toList=[] then acc else if p.toList=[46] then acc else if p.toList=[46,46] then acc.take (acc.length - 1) else acc++[p]
def pathClean (ps:List ByteArray):List ByteArray:=ps.foldl clean1 []
def wayO (house:ByteArray) (base:List ByteArray) (way:ByteArray):A5:=
 match escAll ((splitL 47 (L (cutB 63 way).1)).map ofL) with
 | none=>none5
 | some ps=>if (escNorm (cutB 63 way).2.1).2=true then (if addrOk house (pathClean (base++ps)) (cutB 63 way).2.2 (escNorm (cutB 63 way).2.1).1=true then (house,pathClean (base++ps),(cutB 63 way).2.2,(escNorm (cutB 63 way).2.1).1,true) else none5) else none5
def houseL:List UInt8→List UInt8×List UInt8
 | []=>([],[])
 | x :: xs=>if x=47∨x=63 then ([],x :: xs) else (x :: (houseL xs).1,(houseL xs).2)
def wholeO (rest:ByteArray):A5:=wayO (smallB (ofL (houseL (L rest)).1)) [] (ofL (houseL (L rest)).2)
def readO (raw:ByteArray):A5:=
 if raw.size > 60 then none5 else if (cutB 35 raw).1.size < 2 then none5 else if (L (cutB 35 raw).1).take 2=[47,47] then wholeO ((cutB 35 raw).1.extract 2 (cutB 35 raw).1.size) else none5
def Fine (a:A5):Prop:=a=none5∨(a.2.2.2.2=true∧addrOk a.1 a.2.1 a.2.2.1 a.2.2.2.1=true)
theorem fine_none:Fine none5:=Or.inl rfl
theorem fine_way (h:ByteArray) (b:List ByteArray) (w:ByteArray):Fine (wayO h b w):=by
 unfold wayO
 split
 ·exact fine_none
 ·split
  ·split
   ·rename_i hh
    exact Or.inr ⟨rfl,hh⟩
   ·exact fine_none
  ·exact fine_none
theorem fine_read (raw:ByteArray):Fine (readO raw):=by
 unfold readO
 split
 ·exact fine_none
 ·split
  ·exact fine_none
  ·split
   ·exact fine_way _ _ _
   ·exact fine_none
theorem isHouse_size {s:ByteArray} (h:isHouse s=true):s.size≤5:=by
 unfold isHouse at h
 simp only [Bool.and_eq_true,decide_eq_true_eq] at h
 exact h.1.2
theorem clean1_mem {acc:List ByteArray} {p x:ByteArray} (h:x ∈ clean1 acc p):x ∈ acc∨x=p:=by
 unfold clean1 at h
 split at h
 ·exact Or.inl h
 ·split at h
  ·exact Or.inl h
  ·split at h
   ·exact Or.inl (List.mem_of_mem_take h)
   ·rcases List.mem_append.1 h with h|h
    ·exact Or.inl h
    ·exact Or.inr (List.mem_singleton.1 h)
theorem clean1_len (acc:List ByteArray) (p:ByteArray):(clean1 acc p).length≤acc.length+1:=by
 unfold clean1
 split
 ·omega
 ·split
  ·omega
  ·split
   ·rw [List.length_take];omega
   ·simp
theorem cleanF_mem:∀ {ps acc:List ByteArray} {x:ByteArray},x ∈ ps.foldl clean1 acc→x ∈ acc∨x ∈ ps
 | [],acc,x,h=>Or.inl h
 | p :: ps,acc,x,h=>by
  rw [List.foldl_cons] at h
  rcases cleanF_mem h with h|h
  ·rcases clean1_mem h with h|h
   ·exact Or.inl h
   ·exact Or.inr (by rw [h];exact List.mem_cons_self)
  ·exact Or.inr (List.mem_cons_of_mem _ h)
theorem cleanF_len:∀ (ps acc:List ByteArray),(ps.foldl clean1 acc).length≤acc.length+ps.length
 | [],acc=>by simp
 | p :: ps,acc=>by
  rw [List.foldl_cons]
  have:=cleanF_len ps (clean1 acc p)
  have:=clean1_len acc p
  simp only [List.length_cons];omega
def quiet (c:UInt8):Bool:=c != 35 && c != 47 && c != 63
theorem encN_quiet:∀ n:Nat,n < 256→(encN n).all quiet=true:=by decide +kernel
theorem esc_quiet (n:Nat):∀ (l r:List UInt8),l.length≤n→esc l=some r→r.all quiet=true:=by
 induction n with
 | zero=>
  intro l r hl h
  obtain rfl:l=[]:=List.length_eq_zero_iff.1 (by omega)
  simp [esc] at h
  subst h
  rfl
 | succ n ih=>
  intro l r hl h
  match l,hl,h with
  | [],_,h=>simp [esc] at h;subst h;rfl
  | c :: q,hl,h=>
   unfold esc at h
   split at h
   ·match q,hl,h with
    | a :: b :: q',hl,h=>
     simp only at h
     split at h
     ·rename_i x y hx hy
      obtain ⟨t,ht,rfl⟩:=Option.map_eq_some_iff.1 h
      have:=ih q' t (by simp at hl;omega) ht
      have h1:=hexN_lt hx
      have h2:=hexN_lt hy
      rw [List.all_append,encN_quiet _ (by omega),this];rfl
     ·cases h
    | [],_,h=>simp at h
    | [_],_,h=>simp at h
   ·obtain ⟨t,ht,rfl⟩:=Option.map_eq_some_iff.1 h
    have:=ih q t (by simp at hl;omega) ht
    rw [List.all_append,encN_quiet _ c.toNat_lt,this];rfl
theorem norm_same {s:ByteArray} (h:isNorm s=true):escNorm s=(s,true)∧(L s).all quiet=true:=by
 unfold isNorm at h
 rw [Bool.and_eq_true,beq_iff_eq] at h
 obtain ⟨h1,h2⟩:=h
 have e:(escNorm s).1=s:=toList_inj.1 h2
 refine ⟨Prod.ext e h1,?_⟩
 unfold escNorm at e h1
 split at e
 ·rename_i hb
  rw [if_pos hb] at h1
  cases h1
 ·rename_i hb
  rw [if_neg hb] at h1
  cases hr:esc (L s) with
  | none=>rw [hr] at h1;cases h1
  | some r=>
   rw [hr] at e
   have:=esc_quiet _ _ _ (Nat.le_refl _) hr
   rw [show L s=r from by rw [← e];exact L_of r]
   exact this
theorem quiet_not {l:List UInt8} (h:l.all quiet=true):(35:UInt8) ∉ l∧(47:UInt8) ∉ l∧(63:UInt8) ∉ l:=by
 rw [List.all_eq_true] at h
 exact ⟨fun hm=>absurd (h _ hm) (by decide),fun hm=>absurd (h _ hm) (by decide),fun hm=>absurd (h _ hm) (by decide)⟩
theorem cut_none {c:UInt8}:∀ {l:List UInt8},c ∉ l→cutL c l=(l,[],false)
 | [],_=>rfl
 | x :: xs,h=>by
  have h1:¬ x=c:=fun e=>h (by rw [e];exact List.mem_cons_self)
  have h2:=cut_none (l:=xs) (fun hm=>h (List.mem_cons_of_mem _ hm))
  unfold cutL
  rw [if_neg h1,h2]
theorem cut_some {c:UInt8} (b:List UInt8):∀ {l:List UInt8},c ∉ l→cutL c (l++c :: b)=(l,b,true)
 | [],_=>by rw [List.nil_append];unfold cutL;rw [if_pos rfl]
 | x :: xs,h=>by
  have h1:¬ x=c:=fun e=>h (by rw [e];exact List.mem_cons_self)
  have h2:=cut_some b (l:=xs) (fun hm=>h (List.mem_cons_of_mem _ hm))
  rw [List.cons_append]
  unfold cutL
  rw [if_neg h1,h2]
def bodyL (ps:List ByteArray):List UInt8:=ps.flatMap fun p=>47 :: L p
theorem split_body:∀ (ps:List ByteArray) (a:List UInt8),(47:UInt8) ∉ a→(∀ p ∈ ps,(47:UInt8) ∉ L p)→splitL 47 (a++bodyL ps)=a :: ps.map L
 | [],a,ha,_=>by
  rw [show a++bodyL []=a from List.append_nil a,splitL_eq,cut_none ha];rfl
 | p :: ps,a,ha,hp=>by
  rw [show a++bodyL (p :: ps)=a++47 :: (L p++bodyL ps) from rfl,splitL_eq,cut_some _ ha]
  have:=split_body ps (L p) (hp p List.mem_cons_self) (fun q hq=>hp q (List.mem_cons_of_mem _ hq))
  simp only [if_true,this,List.map_cons]
theorem L_foldB:∀ (r:List ByteArray) (acc:ByteArray),L (r.foldl (fun a q=>(a++⟨#[47]⟩)++q) acc)=L acc++bodyL r
 | [],acc=>(List.append_nil _).symm
 | q :: r,acc=>by
  rw [List.foldl_cons,L_foldB r,L_app,L_app]
  show L acc++[47]++L q++bodyL r=L acc++(47 :: L q++bodyL r)
  simp
def shown (ps:List ByteArray):List ByteArray:=match ps with
 | []=>[⟨#[]⟩]
 | p :: r=>p :: r
theorem L_bodyB:∀ ps:List ByteArray,L (body ps)=bodyL (shown ps)
 | []=>rfl
 | p :: r=>by
  show L (r.foldl (fun a q=>(a++⟨#[47]⟩)++q) ((⟨#[47]⟩:ByteArray)++p))=bodyL (p :: r)
  rw [L_foldB,L_app];rfl
theorem shown_not {ps:List ByteArray} (c:UInt8) (h:∀ p ∈ ps,c ∉ L p):∀ p ∈ shown ps,c ∉ L p:=by
 cases ps with
 | nil=>intro p hp;rw [List.mem_singleton.1 hp];simp [L]
 | cons q r=>exact h
theorem bodyL_not {c:UInt8} (hc:c≠47) {ps:List ByteArray} (h:∀ p ∈ ps,c ∉ L p):c ∉ bodyL ps:=by
 intro hm
 obtain ⟨p,hp,hq⟩:=List.mem_flatMap.1 hm
 rcases List.mem_cons.1 hq with e|hq
 ·exact hc e
 ·exact h p hp hq
theorem L_path (ps:List ByteArray) (asks:Bool) (ask:ByteArray):L (pathB ps asks ask)=if asks=true then bodyL (shown ps)++63 :: L ask else bodyL (shown ps):=by
 unfold pathB
 split
 ·rw [L_app,L_app,L_bodyB]
  show bodyL (shown ps)++[63]++L ask=_
  simp
 ·exact L_bodyB ps
theorem small_at (s:ByteArray):∀ (d i:Nat),smallFrom s d i=true→∀ j,i≤j→j < i+d→97≤bt s j∧bt s j≤122
 | 0,i,_,j,h1,h2=>by omega
 | d+1,i,h,j,h1,h2=>by
  unfold smallFrom at h
  split at h
  ·cases h
  ·split at h
   ·cases h
   ·by_cases e:j=i
    ·subst e;omega
    ·exact small_at s d (i+1) h j (by omega) (by omega)
theorem house_mem {h:ByteArray} (hh:isHouse h=true):∀ c ∈ L h,97≤c.toNat∧c.toNat≤122:=by
 unfold isHouse isSmall at hh
 rw [Bool.and_eq_true] at hh
 intro c hc
 obtain ⟨j,hj,e⟩:=List.mem_iff_getElem.1 hc
 have hj':j < h.size:=by rw [← L_size];exact hj
 have:=small_at h h.size 0 hh.2 j (by omega) (by omega)
 rw [bt_L,List.getD_eq_getElem?_getD,List.getElem?_eq_getElem hj] at this
 simp only [Option.getD_some,e] at this
 omega
theorem houseL_stop (r:List UInt8) (hr:∃ x xs,r=x :: xs∧x=47):∀ l:List UInt8,(∀ c ∈ l,97≤c.toNat∧c.toNat≤122)→houseL (l++r)=(l,r)
 | [],_=>by
  obtain ⟨x,xs,rfl,hx⟩:=hr
  rw [List.nil_append]
  unfold houseL
  rw [if_pos (Or.inl hx)]
 | y :: l,h=>by
  have hy:=h y List.mem_cons_self
  have ih:=houseL_stop r hr l (fun c hc=>h c (List.mem_cons_of_mem _ hc))
  rw [List.cons_append]
  unfold houseL
  rw [if_neg (fun e=>by rcases e with rfl|rfl <;> simp at hy),ih]
theorem small_same {h:ByteArray} (hh:∀ c ∈ L h,97≤c.toNat∧c.toNat≤122):smallB h=h:=by
 unfold smallB
 rw [show (L h).map sm=L h from by
  conv=>rhs;rw [← List.map_id (L h)]
  refine List.map_congr_left (fun c hc=>?_)
  have:=hh c hc
  unfold sm
  rw [if_neg (by omega)];rfl]
theorem esc_same:∀ {ps:List ByteArray},(∀ p ∈ ps,escNorm p=(p,true))→escAll ps=some ps
 | [],_=>rfl
 | p :: ps,h=>by
  unfold escAll
  rw [h p List.mem_cons_self,if_pos rfl,esc_same (fun q hq=>h q (List.mem_cons_of_mem _ hq))];rfl
theorem clean_same:∀ (ps acc:List ByteArray),(∀ p ∈ ps,partOk p=true)→ps.foldl clean1 acc=acc++ps
 | [],acc,_=>(List.append_nil _).symm
 | p :: ps,acc,h=>by
  have hp:=h p List.mem_cons_self
  unfold partOk at hp
  simp only [Bool.and_eq_true,Bool.not_eq_true',beq_eq_false_iff_ne] at hp
  rw [List.foldl_cons,show clean1 acc p=acc++[p] from by unfold clean1;rw [if_neg hp.1.1.2,if_neg hp.1.2,if_neg hp.2],clean_same ps _ (fun q hq=>h q (List.mem_cons_of_mem _ hq))]
  simp
theorem norm_nil:escNorm (⟨#[]⟩:ByteArray)=((⟨#[]⟩:ByteArray),true):=rfl
theorem clean_shown {ps:List ByteArray} (h:∀ p ∈ ps,partOk p=true):pathClean ((⟨#[]⟩:ByteArray) :: shown ps)=ps:=by
 have e:clean1 [] (⟨#[]⟩:ByteArray)=[]:=by unfold clean1;rw [if_pos (toList_nil.2 rfl)]
 unfold pathClean
 rw [List.foldl_cons,e]
 cases ps with
 | nil=>show [(⟨#[]⟩:ByteArray)].foldl clean1 []=[];rw [List.foldl_cons,e];rfl
 | cons p r=>exact clean_same (p :: r) [] h
theorem ok_all {h:ByteArray} {ps:List ByteArray} {asks:Bool} {ask:ByteArray} (ho:addrOk h ps asks ask=true) :
  isHouse h=true∧isNorm ask=true∧(asks=true∨ask=⟨#[]⟩)∧(∀ p ∈ ps,partOk p=true)∧(textB h ps asks ask).size≤60:=by
 unfold addrOk at ho
 simp only [Bool.and_eq_true,decide_eq_true_eq,Bool.or_eq_true,beq_iff_eq,List.all_eq_true] at ho
 obtain ⟨⟨⟨⟨⟨h1,h2⟩,h3⟩,h4⟩,h5⟩,h6⟩:=ho
 exact ⟨h1,h3,h4.imp id (fun e=>L_inj (by show ask.data.toList=_;rw [← Lib.toList_data,e])),h5,h6⟩
theorem part_norm {p:ByteArray} (h:partOk p=true):isNorm p=true:=by
 unfold partOk at h
 simp only [Bool.and_eq_true] at h
 exact h.1.1.1
theorem way_back {h:ByteArray} {ps:List ByteArray} {asks:Bool} {ask:ByteArray} (ho:addrOk h ps asks ask=true):wayO h [] (pathB ps asks ask)=(h,ps,asks,ask,true):=by
 obtain ⟨h1,h2,h3,h4,h5⟩:=ok_all ho
 have hq:∀ p ∈ ps,(L p).all quiet=true:=fun p hp=>(norm_same (part_norm (h4 p hp))).2
 have h47:∀ p ∈ shown ps,(47:UInt8) ∉ L p:=shown_not 47 (fun p hp=>(quiet_not (hq p hp)).2.1)
 have h63:(63:UInt8) ∉ bodyL (shown ps):=bodyL_not (by decide) (shown_not 63 (fun p hp=>(quiet_not (hq p hp)).2.2))
 have hc:cutB 63 (pathB ps asks ask)=(ofL (bodyL (shown ps)),ask,asks):=by
  unfold cutB
  rw [L_path]
  cases asks with
  | true=>rw [if_pos rfl,cut_some _ h63,of_L]
  | false=>
   rw [if_neg (by decide),cut_none h63]
   rcases h3 with h3|h3
   ·cases h3
   ·rw [h3]
 have hs:=split_body (shown ps) [] (by simp) h47
 rw [List.nil_append] at hs
 have hm:((splitL 47 (L (ofL (bodyL (shown ps))))).map ofL)=(⟨#[]⟩:ByteArray) :: shown ps:=by
  rw [L_of,hs,List.map_cons,List.map_map,show (ofL ∘ L:ByteArray→ByteArray)=id from funext fun x=>of_L x,List.map_id]
 have hn:∀ p ∈ shown ps,escNorm p=(p,true):=by
  cases ps with
  | nil=>intro p hp;rw [List.mem_singleton.1 hp];exact norm_nil
  | cons q r=>exact fun p hp=>(norm_same (part_norm (h4 p hp))).1
 have he:escAll ((⟨#[]⟩:ByteArray) :: shown ps)=some ((⟨#[]⟩:ByteArray) :: shown ps):=esc_same (fun p hp=>by
  rcases List.mem_cons.1 hp with e|hp
  ·rw [e];exact norm_nil
  ·exact hn p hp)
 unfold wayO
 rw [hc]
 simp only
 rw [hm,he]
 simp only [List.nil_append,(norm_same h2).1,clean_shown h4,ho,if_true]
theorem L_text (h:ByteArray) (ps:List ByteArray) (asks:Bool) (ask:ByteArray):L (textB h ps asks ask)=47 :: 47 :: (L h++L (pathB ps asks ask)):=by
 unfold textB
 rw [L_app,L_app]
 show [47,47]++L h++L (pathB ps asks ask)=_
 simp
theorem whole_back {h:ByteArray} {ps:List ByteArray} {asks:Bool} {ask:ByteArray} (ho:addrOk h ps asks ask=true) :
  (textB h ps asks ask).size≤60∧(cutB 35 (textB h ps asks ask)).1=textB h ps asks ask∧2≤(textB h ps asks ask).size∧(L (textB h ps asks ask)).take 2=[47,47] ∧
  wholeO ((textB h ps asks ask).extract 2 (textB h ps asks ask).size)=(h,ps,asks,ask,true):=by
 obtain ⟨h1,h2,h3,h4,h5⟩:=ok_all ho
 have hm:=house_mem h1
 have hq:∀ p ∈ ps,(L p).all quiet=true:=fun p hp=>(norm_same (part_norm (h4 p hp))).2
 have hx:∃ x xs,L (pathB ps asks ask)=x :: xs∧x=47:=by
  rw [L_path]
  cases ps <;> cases asks <;> exact ⟨_,_,rfl,rfl⟩
 have hst:=houseL_stop _ hx (L h) hm
 have h35:(35:UInt8) ∉ L (textB h ps asks ask):=by
  rw [L_text]
  intro hc
  rcases List.mem_cons.1 hc with e|hc
  ·cases e
  rcases List.mem_cons.1 hc with e|hc
  ·cases e
  rcases List.mem_append.1 hc with hc|hc
  ·have:=hm _ hc;simp at this
  ·have hb:(35:UInt8) ∉ bodyL (shown ps):=bodyL_not (by decide) (shown_not 35 (fun p hp=>(quiet_not (hq p hp)).1))
   rw [L_path] at hc
   split at hc
   ·rcases List.mem_append.1 hc with hc|hc
    ·exact hb hc
    ·rcases List.mem_cons.1 hc with e|hc
     ·cases e
     ·exact (quiet_not (norm_same h2).2).1 hc
   ·exact hb hc
 have hsz:2≤(textB h ps asks ask).size:=by rw [← L_size,L_text];simp
 have hex:L ((textB h ps asks ask).extract 2 (textB h ps asks ask).size)=L h++L (pathB ps asks ask):=by
  rw [L_ext,← L_size,L_text]
  simp
  exact List.take_of_length_le (by rw [List.length_append,L_size,L_size];omega)
 refine ⟨h5,?_,hsz,by rw [L_text];rfl,?_⟩
 ·unfold cutB
  rw [cut_none h35]
 ·unfold wholeO
  rw [hex,hst]
  simp only [of_L,small_same hm]
  exact way_back ho
theorem read_back {h:ByteArray} {ps:List ByteArray} {asks:Bool} {ask:ByteArray} (ho:addrOk h ps asks ask=true):readO (textB h ps asks ask)=(h,ps,asks,ask,true):=by
 obtain ⟨h1,h2,h3,h4,h5⟩:=whole_back ho
 unfold readO
 rw [if_neg (by omega),h2,if_neg (by omega),if_pos h4]
 exact h5
end Go.Proofs.YtpomhjkbgbociaaGreatDoor.Ad
end
section
namespace Go.Proofs.YtpomhjkbgbociaaGreatDoor.Ad
open Go.RowKit Go.Proofs.YtpomhjkbgbociaaGreatDoor.P Go.Proofs.YtpomhjkbgbociaaGreatDoorW.PrintWords Go.Proofs.YtpomhjkbgbociaaGreatDoorW.PrintLast Go.Proofs.YtpomhjkbgbociaaGreatDoorW.PrintMore Go.Proofs.YtpomhjkbgbociaaGreatDoor.B
set_option linter.unusedVariables false
set_option linter.unusedSimpArgs false
theorem index_cut (c:UInt8):∀ l:List UInt8,Lib.indexByte l c=if (cutL c l).2.2=true then (((cutL c l).1.length:Nat):Int) else -1
 | []=>rfl
 | x :: xs=>by
  unfold Lib.indexByte cutL
  by_cases h:x=c
  ·subst h;simp
  ·have hb:(x == c)=false:=by simp [h]
   simp only [hb,h,if_false,Bool.false_eq_true,index_cut c xs]
   by_cases h2:(cutL c xs).2.2=true
   ·simp only [h2,if_true]
    have:((((cutL c xs).1.length:Nat):Int) == -1)=false:=by simp
    rw [this]
    simp
   ·simp only [h2,if_false,Bool.false_eq_true]
    rfl
theorem cut_parts {c:UInt8} {s:ByteArray} (h:(cutL c (L s)).2.2=true) :
  s.extract 0 (cutL c (L s)).1.length=ofL (cutL c (L s)).1∧s.extract ((cutL c (L s)).1.length+1) s.size=ofL (cutL c (L s)).2.1∧(cutL c (L s)).1.length+1≤s.size:=by
 have e:=cutL_true h
 have hn:=(cutL_len (c:=c) (L s)).2 h
 rw [L_size] at hn
 generalize (cutL c (L s)).1=a at *
 generalize (cutL c (L s)).2.1=b at *
 have e':s.data.toList=a++c :: b:=e
 refine ⟨?_,?_,by omega⟩
 ·apply L_inj
  rw [L_ext,L_of,e']
  simp
 ·apply L_inj
  have:(a++c :: b).drop (a.length+1)=b:=by rw [List.drop_append];simp
  rw [L_ext,L_of,e',this,List.take_of_length_le (by omega)]
theorem cut_i (s:ByteArray) (c:UInt8) (hs:s.size≤140737488351232):strings_Cut.f s ⟨#[c]⟩=some (cutB c s):=by
 have e1:L (⟨#[c]⟩:ByteArray)=[c]:=rfl
 have e2:(⟨#[c]⟩:ByteArray).size=1:=rfl
 unfold strings_Cut.f stringslite_Cut.f stringslite_Index.f cutB
 rw [e1]
 simp only [Option.bind_some,index_cut,e2]
 by_cases h:(cutL c (L s)).2.2=true
 ·obtain ⟨h1,h2,h3⟩:=cut_parts h
  simp only [h,if_true]
  rw [if_pos (by omega),if_pos (by omega),if_pos (by omega),w64 (by omega) (by omega),if_pos (by omega),if_pos (by omega)]
  simp only [Option.bind_some,Int.toNat_natCast]
  rw [h1,show (((cutL c (L s)).1.length:Int)+((1:Nat):Int)).toNat=(cutL c (L s)).1.length+1 from by omega,h2]
 ·simp only [h,if_false,Bool.false_eq_true]
  rw [if_neg (by decide)]
  obtain ⟨g1,g2⟩:=cutL_false (c:=c) (l:=L s) (by simpa using h)
  simp only [Option.bind_some,g1,g2,of_L]
  first|done|rfl
theorem count_cut_false {c:UInt8}:∀ {l:List UInt8},Lib.countByte l c=0→(cutL c l).2.2=false
 | [],_=>rfl
 | x :: xs,h=>by
  unfold Lib.countByte at h
  unfold cutL
  by_cases e:x=c
  ·subst e;simp at h
  ·rw [if_neg e]
   have h':Lib.countByte xs c=0:=by unfold Lib.countByte;rw [List.count_cons] at h;omega
   exact count_cut_false h'
theorem count_cut_true {c:UInt8} {m:Nat}:∀ {l:List UInt8},Lib.countByte l c=m+1→(cutL c l).2.2=true∧Lib.countByte (cutL c l).2.1 c=m
 | [],h=>by simp [Lib.countByte] at h
 | x :: xs,h=>by
  unfold Lib.countByte at h
  unfold cutL
  by_cases e:x=c
  ·subst e
   rw [if_pos rfl]
   refine ⟨rfl,?_⟩
   unfold Lib.countByte
   rw [List.count_cons_self] at h
   exact Nat.succ.inj h
  ·rw [if_neg e]
   have h':Lib.countByte xs c=m+1:=by
    unfold Lib.countByte
    rw [List.count_cons_of_ne e] at h
    exact h
   exact count_cut_true h'
theorem w64n0 (a:Nat) (h:a < 4611686018427387904):wrap64 ((a:Int)+0)=(a:Int):=by rw [w64 (by omega) (by omega)];omega
theorem w64n1 (a:Nat) (h:a < 4611686018427387904):wrap64 ((a:Int)+1)=((a+1:Nat):Int):=by rw [w64 (by omega) (by omega)];omega
theorem w64n2 (a:Nat) (h:a < 4611686018427387904):wrap64 ((a:Int)+((1:Nat):Int))=((a+1:Nat):Int):=by rw [w64 (by omega) (by omega)];omega
theorem w64b {n m:Nat} (h:n+1≤m) (hm:m≤1000000000):n < 4611686018427387904:=by omega
theorem w64d {n m:Nat} (h:n+m≤2000000000):n < 4611686018427387904:=by omega
theorem ci_lt (a m:Nat):(a:Int) < ((a+(m+1):Nat):Int):=by omega
theorem ci_neg (n:Nat):¬ ((n:Int) < 0):=by omega
theorem ci_nn (n:Nat):(0:Int)≤(n:Int):=by omega
theorem ci_le {n s:Nat} (h:n+1≤s):(n:Int)≤(s:Int):=by omega
theorem ci_le1 {n s:Nat} (h:n+1≤s):((n+1:Nat):Int)≤(s:Int):=by omega
theorem ci_l6 {a m l:Nat} (h:l=a+(m+2)):(a:Int) < (l:Int):=by omega
theorem set_mid (a:List ByteArray) (m:Nat) (p e:ByteArray):(a++List.replicate (m+1) e).set a.length p=(a++[p])++List.replicate m e:=by
 rw [List.set_append_right _ _ (Nat.le_refl _),Nat.sub_self,List.replicate_succ,List.set_cons_zero,List.append_assoc]
 rfl
theorem take_mid (a b:List ByteArray) (p:ByteArray):((a++[p])++b).take (a.length+1)=a++[p]:=by
 rw [List.take_append_of_le_length (by simp)]
 exact List.take_of_length_le (by simp)
theorem split_li (c:UInt8):∀ (m:Nat) (s:ByteArray) (a:List ByteArray),Lib.countByte (L s) c=m→s.size≤1000000000→a.length+m≤2000000000 →
  Ev (fun k=>strings_genSplit.l0 k s ⟨#[c]⟩ 0 ((a.length+m:Nat):Int) (a++List.replicate (m+1) (⟨#[]⟩:ByteArray)) (a.length:Int)) (a++(splitL c (L s)).map ofL):=by
 intro m
 have e1:L (⟨#[c]⟩:ByteArray)=[c]:=rfl
 have e2:(⟨#[c]⟩:ByteArray).size=1:=rfl
 induction m with
 | zero=>
  intro s a hc hs ha
  have hf:=count_cut_false hc
  obtain ⟨g1,g2⟩:=cutL_false hf
  rw [splitL_eq,hf]
  refine Ev_succ ?_
  simp only [strings_genSplit.l0]
  have hl:(a++List.replicate (0+1) (⟨#[]⟩:ByteArray)).length=a.length+1:=by simp
  have hw:wrap64 ((a.length:Int)+1)=((a.length+1:Nat):Int):=by rw [w64 (by omega) (by omega)];omega
  simp only [show ¬ ((a.length:Int) < ((a.length+0:Nat):Int)) from by omega,if_false,hl,show ((0:Int)≤(a.length:Int)) from by omega,show ((a.length:Int) < ((a.length+1:Nat):Int)) from by omega,if_true,hw,
   show ((0:Int)≤((a.length+1:Nat):Int)) from by omega,Int.toNat_natCast,Int.le_refl]
  rw [set_mid,take_mid]
  simp only [Bool.false_eq_true,if_false,List.map_cons,List.map_nil,g1,of_L]
  exact Ev.now _
 | succ m ih=>
  intro s a hc hs ha
  obtain ⟨ht,hc'⟩:=count_cut_true hc
  obtain ⟨h1,h2,h3⟩:=cut_parts ht
  have hix:Lib.indexByte (L s) c=(((cutL c (L s)).1.length:Nat):Int):=by rw [index_cut,if_pos ht]
  rw [splitL_eq,if_pos ht]
  have hz:(ofL (cutL c (L s)).2.1).size≤1000000000:=by
   have:=(cutL_len (c:=c) (L s)).1
   rw [L_size] at this
   rw [ofL_size];omega
  have key:=ih (ofL (cutL c (L s)).2.1) (a++[ofL (cutL c (L s)).1]) (by rw [L_of];exact hc') hz (by simp;omega)
  rw [L_of] at key
  rw [List.map_cons,show a++ofL (cutL c (L s)).1 :: List.map ofL (splitL c (cutL c (L s)).2.1)=a++[ofL (cutL c (L s)).1]++List.map ofL (splitL c (cutL c (L s)).2.1) from by simp]
  generalize (cutL c (L s)).1.length=n at h1 h2 h3 hix
  rw [show (cutL c (L s)).2.1=L (s.extract (n+1) s.size) from by rw [h2,L_of]]
  rw [← h1] at key ⊢
  rw [← h2] at key
  clear hz h1 h2 hc' ht hc
  have hl:(a++List.replicate (m+1+1) (⟨#[]⟩:ByteArray)).length=a.length+(m+2):=by simp
  have hl2:(a++[s.extract 0 n]).length=a.length+1:=by simp
  rw [hl2] at key
  refine Ev.step (fun k=>?_) key
  have c1:=ci_lt a.length m
  have c2:=ci_neg n
  have c3:=ci_nn n
  have c4:=ci_le h3
  have c5:=ci_nn a.length
  have c6:=ci_l6 hl
  have c7:=ci_nn (n+1)
  have c8:=ci_le1 h3
  have hw:wrap64 ((a.length:Int)+1)=((a.length+1:Nat):Int):=w64n1 a.length (w64d ha)
  have hw0:wrap64 ((n:Int)+0)=(n:Int):=w64n0 n (w64b h3 hs)
  have hw1:wrap64 ((n:Int)+((1:Nat):Int))=((n+1:Nat):Int):=w64n2 n (w64b h3 hs)
  simp only [strings_genSplit.l0,strings_Index.f,stringslite_Index.f]
  rw [if_pos c1,hix,Option.bind_some,Option.bind_some]
  rw [if_neg c2,hw0,if_pos c3,if_pos c4,if_pos c5,if_pos c6,e2,hw1,if_pos c7,if_pos c8,hw]
  simp only [Int.toNat_natCast]
  rw [set_mid,show a.length+1+m=a.length+(m+1) from by rw [Nat.add_assoc,Nat.add_comm 1 m]]
theorem split_i (s:ByteArray) (c:UInt8) (hs:s.size≤1000000000):Ev (fun k=>strings_Split.f k s ⟨#[c]⟩) ((splitL c (L s)).map ofL):=by
 have e1:L (⟨#[c]⟩:ByteArray)=[c]:=rfl
 have hcnt:Lib.countByte (L s) c≤s.size:=by rw [← L_size];exact List.count_le_length
 unfold strings_Split.f strings_genSplit.f strings_Count.f
 have en:¬ ((⟨#[c]⟩:ByteArray).toList=([]:List UInt8)):=by rw [toList_nil];show ¬ (1=0);omega
 rw [e1]
 simp only [show ¬ ((-1:Int)=0) from by omega,if_false,en,show ((-1:Int) < 0) from by omega,if_true,Option.bind_some]
 refine Ev.bind (a:=(splitL c (L s)).map ofL) ?_ (Ev.now _)
 refine Ev_succ ?_
 have hw:wrap64 (((Lib.countByte (L s) c:Nat):Int)+1)=((Lib.countByte (L s) c+1:Nat):Int):=by rw [w64 (by omega) (by omega)];omega
 have hw2:wrap64 ((s.size:Int)+1)=((s.size+1:Nat):Int):=by rw [w64 (by omega) (by omega)];omega
 have hm:mn ((Lib.countByte (L s) c+1:Nat):Int) ((s.size+1:Nat):Int)=((Lib.countByte (L s) c+1:Nat):Int):=by unfold mn;split <;> omega
 have hw3:wrap64 (((Lib.countByte (L s) c+1:Nat):Int) - 1)=((0+Lib.countByte (L s) c:Nat):Int):=by rw [w64 (by omega) (by omega)];omega
 simp only [strings_genSplit.j0,hw,hw2,hm,show ((0:Int)≤((Lib.countByte (L s) c+1:Nat):Int)) from by omega,if_true,Int.toNat_natCast,show Lib.countByte (L s) c+1≤17592186044416 from by omega,hw3]
 have:=split_li c (Lib.countByte (L s) c) s [] rfl hs (by simp;omega)
 simpa using this
theorem fine_parts {a:A5} (h:Fine a):Parts a.2.1∧a.1.size≤60∧a.2.2.2.1.size≤60:=by
 rcases h with rfl|⟨_,h⟩
 ·exact ⟨⟨by simp [none5],by simp [none5]⟩,Nat.zero_le _,Nat.zero_le _⟩
 ·unfold addrOk at h
  simp only [Bool.and_eq_true,decide_eq_true_eq] at h
  obtain ⟨⟨⟨⟨⟨h1,h2⟩,h3⟩,h4⟩,h5⟩,h6⟩:=h
  refine ⟨⟨by omega,fun p hp=>?_⟩,?_,?_⟩
  ·have:=List.all_eq_true.1 h5 p hp
   unfold partOk at this
   simp only [Bool.and_eq_true] at this
   have:=isNorm_size this.1.1.1
   omega
  ·have:=isHouse_size h1;omega
  ·exact isNorm_size h3
theorem clean_l (ps:List ByteArray) (hl:ps.length≤1000000) (d:Nat):∀ (i:Nat) (acc:List ByteArray),i+d=ps.length→acc.length≤i →
  Ev (fun k=>spec_PathClean.l0 k ps acc (i:Int)) ((ps.drop i).foldl clean1 acc):=by
 induction d with
 | zero=>
  intro i acc hi ha
  have n1:¬ ((i:Int) < (ps.length:Int)):=by omega
  rw [List.drop_eq_nil_of_le (by omega)]
  refine Ev_succ ?_
  simp only [spec_PathClean.l0,n1,if_false]
  exact Ev.now _
 | succ d ih=>
  intro i acc hi ha
  have hi':i < ps.length:=by omega
  have f1:(i:Int) < (ps.length:Int):=by omega
  have f2:(0:Int)≤(i:Int):=by omega
  have e1:wrap64 ((i:Int)+1)=((i+1:Nat):Int):=by rw [w64 (by omega) (by omega)];rfl
  have hr:=rd_at hi'
  rw [List.drop_eq_getElem_cons hi',List.foldl_cons]
  generalize ps[i]=p at hr ⊢
  have hc:=clean1_len acc p
  have ih':=ih (i+1) (clean1 acc p) (by omega) (by omega)
  refine Ev_succ ?_
  simp only [spec_PathClean.l0,f1,f2,if_true,hr]
  unfold clean1 at ih' ⊢
  by_cases h1:p.toList=[]
  ·simp only [h1,if_true] at ih' ⊢
   refine Ev_succ ?_
   simp only [spec_PathClean.j1,if_true,e1]
   exact ih'
  ·simp only [h1,if_false] at ih' ⊢
   refine Ev_succ ?_
   by_cases h2:p.toList=[46]
   ·simp only [h2,if_true] at ih' ⊢
    simp only [spec_PathClean.j1,beq_self_eq_true,if_true,e1]
    exact ih'
   ·have h2':(p.toList == [46])=false:=by simpa using h2
    simp only [h2,if_false] at ih' ⊢
    simp only [spec_PathClean.j1,h2',Bool.false_eq_true,if_false,f1,f2,if_true,hr,e1]
    by_cases h3:p.toList=[46,46]
    ·have m:mx (wrap64 ((acc.length:Int) - 1)) 0=((acc.length - 1:Nat):Int):=by
      rw [w64 (by omega) (by omega)];unfold mx;split <;> omega
     have g1:(0:Int)≤((acc.length - 1:Nat):Int):=by omega
     have g2:((acc.length - 1:Nat):Int)≤(acc.length:Int):=by omega
     simp only [h3,if_true] at ih' ⊢
     simp only [m,g1,g2,if_true,Int.toNat_natCast]
     exact ih'
    ·have g3:acc.length < 8796093022208:=by omega
     simp only [h3,if_false] at ih' ⊢
     simp only [g3,if_true]
     exact ih'
theorem clean_ev (ps:List ByteArray) (hl:ps.length≤1000000):Ev (fun k=>spec_PathClean.f k ps) (pathClean ps):=
 clean_l ps hl ps.length 0 [] (by omega) (by simp)
def wayE (house:ByteArray) (asks:Bool) (ask:ByteArray) (ps:List ByteArray):A5:=
 if (escNorm ask).2=true then (if addrOk house (pathClean ps) asks (escNorm ask).1=true then (house,pathClean ps,asks,(escNorm ask).1,true) else none5) else none5
theorem way_l (house ask:ByteArray) (asks:Bool) (base:List ByteArray) (b0:Bool) (a0:ByteArray) (hh:house.size≤100000) (ls:List ByteArray) (hl:ls.length≤900) (d:Nat) :
  ∀ (i:Nat) (acc:List ByteArray),i+d=ls.length→acc.length≤i+50→(∀ p ∈ acc,p.size≤1048576) →
  Ev (fun k=>spec_l1Way.l0 k ask asks acc ls (i:Int) house base b0 a0) (match escAll (ls.drop i) with|none=>none5|some ps=>wayE house asks ask (acc++ps)):=by
 induction d with
 | zero=>
  intro i acc hi ha hp
  have n1:¬ ((i:Int) < (ls.length:Int)):=by omega
  rw [List.drop_eq_nil_of_le (by omega)]
  refine Ev_succ ?_
  simp only [spec_l1Way.l0,n1,if_false,escAll,List.append_nil]
  refine Ev.bind (escNorm_ev ask) (Ev.bind (clean_ev acc (by omega)) ?_)
  have hz:=escNorm_size ask
  unfold wayE
  by_cases h1:(escNorm ask).2=true
  ·simp only [h1,if_true]
   have hP:Parts (pathClean acc):=⟨by have:=cleanF_len acc [];unfold pathClean;simp only [List.length_nil] at this;omega,fun p hq=>by
    rcases cleanF_mem hq with h|h
    ·cases h
    ·exact hp p h⟩
   refine Ev.bind (addrOk_ev house (pathClean acc) asks (escNorm ask).1 hP (by omega) (by omega)) ?_
   by_cases h2:addrOk house (pathClean acc) asks (escNorm ask).1=true
   ·simp only [h2,if_true];exact Ev.now _
   ·simp only [h2,if_false];exact Ev.now _
  ·simp only [h1,if_false];exact Ev.now _
 | succ d ih=>
  intro i acc hi ha hp
  have hi':i < ls.length:=by omega
  have f1:(i:Int) < (ls.length:Int):=by omega
  have f2:(0:Int)≤(i:Int):=by omega
  have e1:wrap64 ((i:Int)+1)=((i+1:Nat):Int):=by rw [w64 (by omega) (by omega)];rfl
  have hr:=rd_at hi'
  rw [List.drop_eq_getElem_cons hi']
  generalize ls[i]=p at hr ⊢
  have hz:=escNorm_size p
  refine Ev_succ ?_
  simp only [spec_l1Way.l0,f1,f2,if_true,hr,e1]
  refine Ev.bind (escNorm_ev p) ?_
  unfold escAll
  by_cases h1:(escNorm p).2=true
  ·have g3:acc.length < 8796093022208:=by omega
   simp only [h1,if_true,g3]
   have ih':=ih (i+1) (acc++[(escNorm p).1]) (by omega) (by simp;omega) (fun x hx=>by
    rcases List.mem_append.1 hx with h|h
    ·exact hp x h
    ·rw [List.mem_singleton.1 h];omega)
   cases he:escAll (ls.drop (i+1)) with
   | none=>rw [he] at ih';exact ih'
   | some ps=>
    rw [he] at ih'
    simp only [Option.map_some]
    simpa using ih'
  ·simp only [h1,if_false];exact Ev.now _
theorem cutB_size (c:UInt8) (s:ByteArray):(cutB c s).1.size≤s.size∧(cutB c s).2.1.size≤s.size:=by
 have:=(cutL_len (c:=c) (L s)).1
 rw [L_size] at this
 unfold cutB
 constructor
 ·show (ofL _).size≤_;rw [ofL_size];omega
 ·show (ofL _).size≤_;rw [ofL_size];omega
theorem way_ev (house:ByteArray) (base:List ByteArray) (b0:Bool) (a0 way:ByteArray) (hh:house.size≤100000) (hb:base.length≤50) (hp:∀ p ∈ base,p.size≤1048576) (hw:way.size≤800) :
  Ev (fun k=>spec_l1Way.f k house base b0 a0 way) (wayO house base way):=by
 unfold spec_l1Way.f wayO
 refine Ev.bind (cut_ev way 63 (by omega)) ?_
 have hc:=cutB_size 63 way
 have g:([]:List ByteArray).length+base.length < 8796093022208:=by simp;omega
 simp only [Option.bind_some,g,if_true,List.nil_append]
 refine Ev.bind (split_ev (cutB 63 way).1 47 (by omega)) ?_
 have hl:=splitL_len 47 (L (cutB 63 way).1)
 rw [L_size] at hl
 have:=way_l house (cutB 63 way).2.1 (cutB 63 way).2.2 base b0 a0 hh ((splitL 47 (L (cutB 63 way).1)).map ofL) (by rw [List.length_map];omega) _ 0 base (Nat.zero_add _) (by omega) hp
 rw [List.drop_zero] at this
 exact this
theorem house_l (s h:ByteArray) (hs:s.size≤800):∀ (l:List UInt8) (i:Nat),(L s).drop i=l→h=s →
  Ev (fun k=>spec_l1Whole.l0 k s h (⟨#[]⟩:ByteArray) (i:Int)) (wayO (smallB (ofL ((L s).take i++(houseL l).1))) [] (ofL (houseL l).2))
 | [],i,h',e=>by
  have:=bt_end h'
  have n1:¬ ((i:Int) < (s.size:Int)):=by omega
  have eq:(L s).take i=L s:=List.take_of_length_le (by rw [L_size];omega)
  subst e
  refine Ev_succ ?_
  simp only [spec_l1Whole.l0,n1,if_false,houseL,eq,List.append_nil,of_L,spec_l1Small.f,show h.size≤140737488351232 from by omega,if_true,Option.bind_some]
  refine Ev.bind (way_ev (smallB h) [] false _ _ (by unfold smallB;rw [ofL_size,List.length_map,L_size];omega) (by simp) (by simp) (by decide)) ?_
  exact Ev.now _
 | x :: xs,i,h',e=>by
  obtain ⟨hi,hb,hd⟩:=bt_at h'
  have e1:wrap64 ((i:Int)+1)=((i+1:Nat):Int):=by rw [w64 (by omega) (by omega)];rfl
  have f1:(i:Int) < (s.size:Int):=by omega
  have f2:(0:Int)≤(i:Int):=by omega
  have f3:(i:Int)≤(s.size:Int):=by omega
  have c1:((x.toNat:Int)=47)↔x=47:=u8_eq (b:=47)
  have c2:((x.toNat:Int)=63)↔x=63:=u8_eq (b:=63)
  have x1:s.extract 0 i=ofL ((L s).take i):=by apply L_inj;rw [L_ext,L_of];simp
  have x2:s.extract i s.size=ofL (x :: xs):=by
   apply L_inj;rw [L_ext,L_of,h',List.take_of_length_le]
   rw [← h',List.length_drop,L_size];omega
  have z1:(ofL ((L s).take i)).size≤800:=by rw [ofL_size,List.length_take,L_size];omega
  have z2:(ofL (x :: xs)).size≤800:=by rw [ofL_size,← h',List.length_drop,L_size];omega
  have fin:Ev (fun k=>(spec_l1Way.f k (smallB (ofL ((L s).take i))) ([]:List ByteArray) false (⟨#[]⟩:ByteArray) (ofL (x :: xs))).bind fun bt204=>(some (bt204.1,bt204.2.1,bt204.2.2.1,bt204.2.2.2.1,bt204.2.2.2.2))) (wayO (smallB (ofL ((L s).take i++[]))) [] (ofL (x :: xs))):=by
   rw [List.append_nil]
   refine Ev.bind (way_ev _ [] false _ _ (by unfold smallB;rw [ofL_size,List.length_map,L_size];omega) (by simp) (by simp) z2) ?_
   exact Ev.now _
  refine Ev_succ ?_
  simp only [spec_l1Whole.l0,f1,f2,f3,if_true,hb,c1,c2,e1,Int.toNat_natCast,x1,x2,spec_l1Small.f,show (ofL ((L s).take i)).size≤140737488351232 from by omega,Option.bind_some]
  unfold houseL
  by_cases h1:x=47
  ·simp only [h1,if_true,true_or]
   rw [h1] at fin
   exact fin
  ·by_cases h2:x=63
   ·simp only [h1,h2,if_true,if_false,or_true,show ¬ ((63:UInt8)=47) from by decide]
    rw [h2] at fin
    exact fin
   ·simp only [h1,h2,if_false,or_self]
    have:=house_l s h hs xs (i+1) hd e
    have ht:(L s).take (i+1)++(houseL xs).1=(L s).take i++(x :: (houseL xs).1):=by
     have hl:i < (L s).length:=by rw [L_size];exact hi
     have:(L s)[i]=x:=by
      have hd2:(L s).drop i=(L s)[i] :: (L s).drop (i+1):=List.drop_eq_getElem_cons hl
      rw [h'] at hd2
      injection hd2 with h1 h2
      exact h1.symm
     rw [List.take_succ_eq_append_getElem hl,this]
     simp
    rw [ht] at this
    exact this
theorem whole_ev (s:ByteArray) (hs:s.size≤800):Ev (fun k=>spec_l1Whole.f k s) (wholeO s):=by
 have:=house_l s s hs (L s) 0 rfl rfl
 simp only [List.take_zero,List.nil_append] at this
 exact this
theorem read_ev (raw:ByteArray) (hs:raw.size≤140737488351232):Ev (fun k=>spec_AddrRead.f k raw) (readO raw):=by
 unfold spec_AddrRead.f readO
 refine Ev.bind (cut_ev raw 35 hs) ?_
 have hc:=(cutB_size 35 raw).1
 generalize (cutB 35 raw).1=c at hc ⊢
 by_cases h1:raw.size > 60
 ·have n1:(raw.size:Int) > 60:=by omega
  simp only [n1,h1,if_true];exact Ev.now _
 ·have n1:¬ (raw.size:Int) > 60:=by omega
  simp only [n1,h1,if_false]
  by_cases h2:c.size < 2
  ·have n2:(c.size:Int) < 2:=by omega
   simp only [n2,h2,if_true];exact Ev.now _
  ·have n2:¬ (c.size:Int) < 2:=by omega
   have n3:(2:Int)≤(c.size:Int):=by omega
   have hx:((c.extract 0 2).toList=[47,47])↔((L c).take 2=[47,47]):=by
    rw [Lib.toList_data]
    show L (c.extract 0 2)=_↔_
    rw [L_ext];simp
   simp only [n2,h2,n3,if_true,if_false,show (0:Int)≤2 from by omega,hx]
   by_cases h3:(L c).take 2=[47,47]
   ·simp only [h3,if_true]
    have hz:(c.extract 2 c.size).size≤800:=by rw [ByteArray.size_extract];omega
    generalize c.extract 2 c.size=z at hz ⊢
    exact Ev.bind (whole_ev z hz) (Ev.now _)
   ·simp only [h3,if_false];exact Ev.now _
theorem clean_li (ps:List ByteArray) (hl:ps.length≤1000000) (d:Nat):∀ (i:Nat) (acc:List ByteArray),i+d=ps.length→acc.length≤i →
  Ev (fun k=>impl_PathClean.l0 k acc ps (ps.length:Int) (i:Int)) ((ps.drop i).foldl clean1 acc):=by
 induction d with
 | zero=>
  intro i acc hi ha
  rw [List.drop_eq_nil_of_le (by omega)]
  refine Ev_succ ?_
  simp only [impl_PathClean.l0,show ¬ ((i:Int) < (ps.length:Int)) from by omega,if_false]
  exact Ev.now _
 | succ d ih=>
  intro i acc hi ha
  have hlt:i < ps.length:=by omega
  have hr:=rd_at hlt
  have w1:=w64n1 i (by omega)
  have f1:(i:Int) < (ps.length:Int):=by omega
  have f2:=ci_nn i
  rw [List.drop_eq_getElem_cons hlt,List.foldl_cons]
  generalize ps[i]=p at hr ⊢
  have next:∀ acc',acc'.length≤i+1→acc'=clean1 acc p→Ev (fun k=>impl_PathClean.l0 k acc' ps (ps.length:Int) ((i+1:Nat):Int)) ((ps.drop (i+1)).foldl clean1 (clean1 acc p)):=fun acc' h1 h2=>by
   rw [← h2];exact ih (i+1) acc' (by omega) h1
  refine Ev_succ ?_
  simp only [impl_PathClean.l0,f1,f2,if_true]
  rw [hr]
  by_cases h1:p.toList=[]
  ·simp only [h1,if_true]
   refine Ev_succ ?_
   simp only [impl_PathClean.j1]
   simp only [show (([]:List UInt8) == [])=true from rfl,if_true]
   rw [w1]
   exact next acc (by omega) (by unfold clean1;rw [if_pos h1])
  ·simp only [h1,if_false]
   by_cases h2:p.toList=[46]
   ·refine Ev_succ ?_
    simp only [impl_PathClean.j1]
    simp only [h2,show (([46]:List UInt8) == [46])=true from rfl,if_true]
    rw [w1]
    exact next acc (by omega) (by unfold clean1;rw [if_neg h1,if_pos h2])
   ·refine Ev_succ ?_
    simp only [impl_PathClean.j1]
    simp only [show (p.toList == ([46]:List UInt8))=false from by simp [h2],Bool.false_eq_true,if_false]
    by_cases h3:p.toList=[46,46]
    ·simp only [h3,if_true]
     have hc:clean1 acc p=acc.take (acc.length - 1):=by unfold clean1;rw [if_neg h1,if_neg h2,if_pos h3]
     by_cases h4:acc.length=0
     ·simp only [show ¬ ((acc.length:Int) > 0) from by omega,if_false]
      rw [w1]
      exact next acc (by omega) (by rw [hc,List.length_eq_zero_iff.1 h4];rfl)
     ·have w2:wrap64 ((acc.length:Int) - 1)=((acc.length - 1:Nat):Int):=by rw [w64 (by omega) (by omega)];omega
      simp only [show ((acc.length:Int) > 0) from by omega,if_true]
      rw [w2]
      simp only [show ((0:Int)≤((acc.length - 1:Nat):Int)) from by omega,show (((acc.length - 1:Nat):Int)≤(acc.length:Int)) from by omega,if_true,Int.toNat_natCast]
      rw [w1]
      exact next _ (by rw [List.length_take];omega) hc.symm
    ·simp only [h3,if_false,show acc.length < 8796093022208 from by omega,if_true]
     rw [w1]
     exact next _ (by simp;omega) (by unfold clean1;rw [if_neg h1,if_neg h2,if_neg h3])
theorem clean_i (ps:List ByteArray) (hl:ps.length≤1000000):Ev (fun k=>impl_PathClean.f k ps) (pathClean ps):=
 clean_li ps hl ps.length 0 [] (by omega) (by simp)
def wayI (house:ByteArray) (asks:Bool) (ask:ByteArray) (ps:List ByteArray):A5:=if addrOk house (pathClean ps) asks ask=true then (house,pathClean ps,asks,ask,true) else none5
theorem way_li (house ask:ByteArray) (asks:Bool) (hh:house.size≤100000) (hq:ask.size≤1048576) (ls:List ByteArray) (hl:ls.length≤900) (d:Nat) :
  ∀ (i:Nat) (acc:List ByteArray),i+d=ls.length→acc.length≤50+i→(∀ p ∈ acc,p.size≤1048576) →
  Ev (fun k=>impl_readWay.l0 k house ask asks acc ls (ls.length:Int) (i:Int)) (match escAll (ls.drop i) with|none=>none5|some ps=>wayI house asks ask (acc++ps)):=by
 induction d with
 | zero=>
  intro i acc hi ha hp
  rw [List.drop_eq_nil_of_le (by omega)]
  refine Ev_succ ?_
  simp only [impl_readWay.l0,show ¬ ((i:Int) < (ls.length:Int)) from by omega,if_false,escAll,List.append_nil]
  refine Ev.bind (clean_i acc (by omega)) ?_
  unfold wayI
  have hP:Parts (pathClean acc):=⟨by have:=cleanF_len acc [];unfold pathClean;simp only [List.length_nil] at this;omega,fun p hq=>by
   rcases cleanF_mem hq with h|h
   ·cases h
   ·exact hp p h⟩
  refine Ev.bind (addrOk_i house (pathClean acc) asks ask hP (by omega) (by omega)) ?_
  by_cases h2:addrOk house (pathClean acc) asks ask=true
  ·simp only [h2,if_true];exact Ev.now _
  ·simp only [h2,if_false];exact Ev.now _
 | succ d ih=>
  intro i acc hi ha hp
  have hi':i < ls.length:=by omega
  have f1:(i:Int) < (ls.length:Int):=by omega
  have f2:=ci_nn i
  have e1:=w64n1 i (by omega)
  have hr:=rd_at hi'
  rw [List.drop_eq_getElem_cons hi']
  generalize ls[i]=p at hr ⊢
  have hz:=escNorm_size p
  refine Ev_succ ?_
  simp only [impl_readWay.l0,f1,f2,if_true,hr,e1]
  refine Ev.bind (escNorm_i p) ?_
  unfold escAll
  by_cases h1:(escNorm p).2=true
  ·have g3:acc.length < 8796093022208:=by omega
   simp only [h1,if_true,g3]
   have ih':=ih (i+1) (acc++[(escNorm p).1]) (by omega) (by simp;omega) (fun x hx=>by
    rcases List.mem_append.1 hx with h|h
    ·exact hp x h
    ·rw [List.mem_singleton.1 h];omega)
   cases he:escAll (ls.drop (i+1)) with
   | none=>rw [he] at ih';exact ih'
   | some ps=>
    rw [he] at ih'
    simp only [Option.map_some]
    simpa using ih'
  ·simp only [h1,if_false];exact Ev.now _
theorem way_i (house:ByteArray) (base:List ByteArray) (way:ByteArray) (hh:house.size≤100000) (hb:base.length≤50) (hp:∀ p ∈ base,p.size≤1048576) (hw:way.size≤800) :
  Ev (fun k=>impl_readWay.f k house base way) (wayO house base way):=by
 unfold impl_readWay.f wayO
 have hc:=cutB_size 63 way
 rw [cut_i way 63 (by omega)]
 simp only [Option.bind_some]
 have hz:=escNorm_size (cutB 63 way).2.1
 refine Ev.bind (escNorm_i (cutB 63 way).2.1) ?_
 by_cases h1:(escNorm (cutB 63 way).2.1).2=true
 ·simp only [h1,if_true,slices_Clone_string_string.f,show base.length * 16≤140737488355328 from by omega,Option.bind_some]
  refine Ev.bind (split_i (cutB 63 way).1 47 (by omega)) ?_
  have hl:=splitL_len 47 (L (cutB 63 way).1)
  rw [L_size] at hl
  have:=way_li house (escNorm (cutB 63 way).2.1).1 (cutB 63 way).2.2 hh (by omega) ((splitL 47 (L (cutB 63 way).1)).map ofL) (by rw [List.length_map];omega) _ 0 base (Nat.zero_add _) (by omega) hp
  rw [List.drop_zero] at this
  exact this
 ·simp only [h1,if_false]
  generalize escAll ((splitL 47 (L (cutB 63 way).1)).map ofL)=o
  cases o <;> exact Ev.now _
theorem any_house:∀ l:List UInt8,(Lib.indexAny l [47,63]=-1→houseL l=(l,[]))∧(∀ n:Nat,Lib.indexAny l [47,63]=(n:Int)→houseL l=(l.take n,l.drop n)∧n≤l.length)
 | []=>⟨fun _=>rfl,fun n h=>by unfold Lib.indexAny at h;omega⟩
 | x :: xs=>by
  obtain ⟨i1,i2⟩:=any_house xs
  unfold Lib.indexAny houseL
  by_cases h:x=47∨x=63
  ·have hc:([47,63]:List UInt8).contains x=true:=by rcases h with h|h <;> subst h <;> decide
   rw [if_pos h,if_pos hc]
   refine ⟨fun e=>by omega,fun n e=>?_⟩
   obtain rfl:n=0:=by omega
   exact ⟨rfl,Nat.zero_le _⟩
  ·have hc:¬ ([47,63]:List UInt8).contains x=true:=by
    simp only [List.contains_cons,List.contains_nil,Bool.or_false,Bool.or_eq_true,beq_iff_eq]
    exact h
   rw [if_neg h,if_neg hc]
   have hge:=Lib.indexAny_ge [47,63] xs
   by_cases h2:Lib.indexAny xs [47,63]=-1
   ·have hb:(Lib.indexAny xs [47,63] == -1)=true:=by simp [h2]
    rw [if_pos hb]
    refine ⟨fun _=>by rw [i1 h2],fun n e=>by omega⟩
   ·have hb:¬ (Lib.indexAny xs [47,63] == -1)=true:=by simp [h2]
    rw [if_neg hb]
    refine ⟨fun e=>by omega,fun n e=>?_⟩
    obtain ⟨m,hm⟩:∃ m:Nat,Lib.indexAny xs [47,63]=(m:Int):=⟨(Lib.indexAny xs [47,63]).toNat,by omega⟩
    obtain ⟨g1,g2⟩:=i2 m hm
    obtain rfl:n=m+1:=by omega
    rw [g1]
    exact ⟨rfl,by simp only [List.length_cons];omega⟩
def wholeI (s:ByteArray):A5:=if s.size < 2 then none5 else if (L s).take 2=[47,47] then wholeO (s.extract 2 s.size) else none5
theorem prefix_i (s:ByteArray) (hs:s.size≤800):stringslite_HasPrefix.f s ⟨#[47,47]⟩=some (decide (2≤s.size) && decide ((L s).take 2=[47,47])):=by
 unfold stringslite_HasPrefix.f
 have e2:(⟨#[47,47]⟩:ByteArray).size=2:=rfl
 rw [e2]
 by_cases h:2≤s.size
 ·rw [if_pos (by omega),if_pos (by omega),if_pos (by omega)]
  have hx:(s.extract 0 2).toList=(L s).take 2:=by rw [Lib.toList_data];show L (s.extract 0 2)=_;rw [L_ext];simp
  have hy:(⟨#[47,47]⟩:ByteArray).toList=[47,47]:=by rw [Lib.toList_data]
  simp only [Int.toNat_natCast,hx,hy,h,decide_true,Bool.true_and]
  congr 1
  rw [Bool.eq_iff_iff];simp
 ·rw [if_neg (by omega)]
  simp [h]
theorem whole_i (s:ByteArray) (hs:s.size≤800):Ev (fun k=>impl_readWhole.f k s) (wholeI s):=by
 unfold impl_readWhole.f strings_CutPrefix.f stringslite_CutPrefix.f wholeI
 have e2:(⟨#[47,47]⟩:ByteArray).size=2:=rfl
 rw [prefix_i s hs,e2]
 simp only [Option.bind_some]
 by_cases h:2≤s.size
 ·by_cases h3:(L s).take 2=[47,47]
  ·simp only [h,h3,decide_true,Bool.true_and,if_true,show ¬ (s.size < 2) from by omega,if_false]
   rw [if_pos (by omega),if_pos (by omega)]
   simp only [Option.bind_some,if_true,Int.toNat_natCast]
   have hz:(s.extract 2 s.size).size≤800:=by rw [ByteArray.size_extract];omega
   generalize s.extract 2 s.size=z at hz
   unfold strings_IndexAny.f wholeO
   have ez:L (⟨#[47,63]⟩:ByteArray)=[47,63]:=rfl
   rw [ez,if_pos ⟨rfl,by omega⟩]
   obtain ⟨a1,a2⟩:=any_house (L z)
   have hge:=Lib.indexAny_ge [47,63] (L z)
   by_cases hi:Lib.indexAny (L z) [47,63]=-1
   ·have hH:=a1 hi
    rw [hH]
    have x1:z.extract 0 ((z.size:Int)).toNat=z:=by apply L_inj;rw [L_ext,Int.toNat_natCast,List.drop_zero];exact List.take_of_length_le (by rw [Nat.sub_zero];exact Nat.le_of_eq (L_size z))
    have x2:z.extract ((z.size:Int)).toNat z.size=ofL []:=by apply L_inj;rw [L_ext,L_of,Int.toNat_natCast,Nat.sub_self];exact List.take_zero
    rw [of_L]
    refine Ev.congr (f:=fun k=>(impl_readWay.f k (smallB z) [] (ofL [])).bind fun b=>some (b.1,b.2.1,b.2.2.1,b.2.2.2.1,b.2.2.2.2)) (fun k=>?_) ?_
    ·rw [hi,Option.bind_some,if_pos (by omega),if_pos (by omega),if_pos (by omega)]
     first|rw [x1,x2]|(simp only [Int.toNat_natCast] at x1 x2;rw [x1,x2])
     unfold impl_smallLetters.f
     rw [if_pos (by omega),Option.bind_some]
    refine Ev.bind (way_i (smallB z) [] (ofL []) (by unfold smallB;rw [ofL_size,List.length_map,L_size];omega) (by simp) (by simp) (by decide)) ?_
    exact Ev.now _
   ·obtain ⟨n,hn⟩:∃ n:Nat,Lib.indexAny (L z) [47,63]=(n:Int):=⟨(Lib.indexAny (L z) [47,63]).toNat,by omega⟩
    obtain ⟨hH,hle⟩:=a2 n hn
    rw [L_size] at hle
    rw [hH]
    have x1:z.extract 0 ((n:Int)).toNat=ofL ((L z).take n):=by apply L_inj;rw [L_ext,L_of];simp
    have x2:z.extract ((n:Int)).toNat z.size=ofL ((L z).drop n):=by
     apply L_inj;rw [L_ext,L_of,Int.toNat_natCast]
     exact List.take_of_length_le (by rw [List.length_drop,L_size];exact Nat.le_refl _)
    have s1:(ofL ((L z).take n)).size≤800:=by rw [ofL_size,List.length_take,L_size];omega
    have s2:(ofL ((L z).drop n)).size≤800:=by rw [ofL_size,List.length_drop,L_size];omega
    generalize ofL ((L z).take n)=y at s1 x1 ⊢
    refine Ev.congr (f:=fun k=>(impl_readWay.f k (smallB y) [] (ofL ((L z).drop n))).bind fun b=>some (b.1,b.2.1,b.2.2.1,b.2.2.2.1,b.2.2.2.2)) (fun k=>?_) ?_
    ·rw [hn,Option.bind_some,if_neg (by omega),if_pos (by omega),if_pos (by omega),x1,x2]
     unfold impl_smallLetters.f
     rw [if_pos (by omega),Option.bind_some]
    refine Ev.bind (way_i (smallB y) [] _ (by unfold smallB;rw [ofL_size,List.length_map,L_size];omega) (by simp) (by simp) s2) ?_
    exact Ev.now _
  ·simp only [h,h3,decide_true,decide_false,Bool.and_false,Bool.false_eq_true,if_false,Option.bind_some,show ¬ (s.size < 2) from by omega]
   exact Ev.now _
 ·simp only [h,decide_false,Bool.false_and,Bool.false_eq_true,if_false,Option.bind_some,show s.size < 2 from by omega,if_true]
  exact Ev.now _
theorem read_i (raw:ByteArray):Ev (fun k=>impl_AddrRead.f k raw) (readO raw):=by
 unfold impl_AddrRead.f readO
 by_cases h:raw.size > 60
 ·simp only [show ((raw.size:Int) > 60) from by omega,if_true,h]
  exact Ev.now _
 ·simp only [show ¬ ((raw.size:Int) > 60) from by omega,if_false,h]
  have hc:=cutB_size 35 raw
  rw [cut_i raw 35 (by omega)]
  simp only [Option.bind_some]
  refine Ev.bind (whole_i (cutB 35 raw).1 (by omega)) ?_
  exact Ev.now _
def joinS (h:ByteArray) (ps:List ByteArray) (asks:Bool) (ask s:ByteArray):A5:=
 if (decide (2≤s.size) && decide ((L s).take 2=[47,47]))=true then wholeO (s.extract 2 s.size)
 else if s.toList=[] then (h,ps,asks,ask,true)
 else if bt s 0=47 then wayO h [] s
 else if bt s 0=63 then wayO h ps s
 else wayO h (ps.take (ps.length - 1)) s
def joinO (h:ByteArray) (ps:List ByteArray) (asks:Bool) (ask ref:ByteArray):A5:=
 if ref.size > 60 then none5 else if addrOk h ps asks ask=true then joinS h ps asks ask (cutB 35 ref).1 else none5
theorem fine_joinS (h:ByteArray) (ps:List ByteArray) (asks:Bool) (ask s:ByteArray) (ho:addrOk h ps asks ask=true):Fine (joinS h ps asks ask s):=by
 unfold joinS
 split
 ·exact fine_way _ _ _
 ·split
  ·exact Or.inr ⟨rfl,ho⟩
  ·split
   ·exact fine_way _ _ _
   ·split
    ·exact fine_way _ _ _
    ·exact fine_way _ _ _
theorem fine_join (h:ByteArray) (ps:List ByteArray) (asks:Bool) (ask ref:ByteArray):Fine (joinO h ps asks ask ref):=by
 unfold joinO
 split
 ·exact fine_none
 ·split
  ·rename_i ho;exact fine_joinS _ _ _ _ _ ho
  ·exact fine_none
theorem ok_small {h:ByteArray} {ps:List ByteArray} {asks:Bool} {ask:ByteArray} (ho:addrOk h ps asks ask=true):ps.length≤5∧(∀ p ∈ ps,p.size≤60)∧h.size≤5∧ask.size≤60:=by
 unfold addrOk at ho
 simp only [Bool.and_eq_true,decide_eq_true_eq] at ho
 obtain ⟨⟨⟨⟨⟨h1,h2⟩,h3⟩,h4⟩,h5⟩,h6⟩:=ho
 refine ⟨h2,fun p hp=>?_,isHouse_size h1,isNorm_size h3⟩
 have:=List.all_eq_true.1 h5 p hp
 unfold partOk at this
 simp only [Bool.and_eq_true] at this
 exact isNorm_size this.1.1.1
theorem ev_eta {g:Nat→Option A5} {r:A5} (h:Ev g r):Ev (fun k=>(g k).bind fun b=>some (b.1,b.2.1,b.2.2.1,b.2.2.2.1,b.2.2.2.2)) r:=Ev.bind h (Ev.now r)
theorem mx_len (n:Nat) (h:n≤1000):mx (wrap64 ((n:Int) - 1)) 0=((n - 1:Nat):Int):=by
 rw [w64 (by omega) (by omega)];unfold mx;split <;> omega
theorem join_i (h:ByteArray) (ps:List ByteArray) (asks:Bool) (ask ref:ByteArray) (hP:Parts ps) (hq:ask.size≤1048576) (hh:h.size≤1048576) :
  Ev (fun k=>impl_AddrJoin.f k h ps asks ask ref) (joinO h ps asks ask ref):=by
 have bad:Ev (fun k=>impl_AddrJoin.j0 k ref true h ps asks ask) none5:=Ev_succ (by simp only [impl_AddrJoin.j0,if_true];exact Ev.now _)
 unfold impl_AddrJoin.f joinO
 by_cases hr:ref.size > 60
 ·simp only [show ((ref.size:Int) > 60) from by omega,if_true,hr]
  exact bad
 ·simp only [show ¬ ((ref.size:Int) > 60) from by omega,if_false,hr]
  refine Ev.bind (addrOk_i h ps asks ask hP hq hh) ?_
  by_cases ho:addrOk h ps asks ask=true
  ·simp only [ho,if_true,Bool.not_true]
   obtain ⟨z1,z2,z3,z4⟩:=ok_small ho
   have hc:=cutB_size 35 ref
   refine Ev_succ ?_
   simp only [impl_AddrJoin.j0,Bool.false_eq_true,if_false]
   rw [cut_i ref 35 (by omega)]
   simp only [Option.bind_some]
   have hs:(cutB 35 ref).1.size≤60:=by omega
   generalize (cutB 35 ref).1=s at hs
   unfold strings_HasPrefix.f
   rw [prefix_i s (by omega)]
   simp only [Option.bind_some]
   unfold joinS
   by_cases h1:(decide (2≤s.size) && decide ((L s).take 2=[47,47]))=true
   ·simp only [h1,if_true]
    have e:wholeI s=wholeO (s.extract 2 s.size):=by
     simp only [Bool.and_eq_true,decide_eq_true_eq] at h1
     unfold wholeI
     rw [if_neg (by omega),if_pos h1.2]
    rw [← e]
    exact ev_eta (whole_i s (by omega))
   ·simp only [h1,if_false]
    by_cases h2:s.toList=[]
    ·simp only [h2,if_true,slices_Clone_string_string.f,show ps.length * 16≤140737488355328 from by omega,Option.bind_some]
     exact Ev.now _
    ·have hpos:0 < s.size:=by
      rcases Nat.eq_zero_or_pos s.size with e|e
      ·exact absurd (toList_nil.2 e) h2
      ·exact e
     simp only [h2,if_false,show (0:Int) < (s.size:Int) from by omega,if_true]
     by_cases h3:bt s 0=47
     ·simp only [h3,if_true]
      exact ev_eta (way_i h [] s (by omega) (by simp) (by simp) (by omega))
     ·by_cases h4:bt s 0=63
      ·simp only [h3,h4,if_true,if_false,show ¬ ((63:Int)=47) from by omega]
       exact ev_eta (way_i h ps s (by omega) (by omega) (fun p hp=>by have:=z2 p hp;omega) (by omega))
      ·simp only [h3,h4,if_false]
       rw [mx_len ps.length (by omega)]
       simp only [show (0:Int)≤((ps.length - 1:Nat):Int) from by omega,show ((ps.length - 1:Nat):Int)≤(ps.length:Int) from by omega,if_true,Int.toNat_natCast]
       exact ev_eta (way_i h (ps.take (ps.length - 1)) s (by omega) (by rw [List.length_take];omega) (fun p hp=>by have:=z2 p (List.mem_of_mem_take hp);omega) (by omega))
  ·simp only [show addrOk h ps asks ask=false from by simpa using ho,Bool.not_false,Bool.false_eq_true,if_false]
   exact bad
set_option maxHeartbeats 1600000 in
theorem join_ev (h:ByteArray) (ps:List ByteArray) (asks:Bool) (ask ref:ByteArray) (hP:Parts ps) (hq:ask.size≤1048576) (hh:h.size≤1048576) (hs:ref.size≤140737488351232) :
  Ev (fun k=>spec_AddrJoin.f k h ps asks ask ref) (joinO h ps asks ask ref):=by
 have bad:∀ s,Ev (fun k=>spec_AddrJoin.j0 k s true h ps asks ask) none5:=fun s=>Ev_succ (by simp only [spec_AddrJoin.j0,if_true];exact Ev.now _)
 unfold spec_AddrJoin.f joinO
 refine Ev.bind (cut_ev ref 35 (by omega)) ?_
 refine Ev.bind (addrOk_ev h ps asks ask hP hq hh) ?_
 by_cases ho:addrOk h ps asks ask=true
 ·simp only [ho,if_true]
  by_cases hr:ref.size > 60
  ·simp only [show decide ((ref.size:Int) > 60)=true from by simp;omega,hr,if_true]
   exact bad _
  ·simp only [show decide ((ref.size:Int) > 60)=false from by simp;omega,hr,if_false]
   obtain ⟨z1,z2,z3,z4⟩:=ok_small ho
   have hc:=cutB_size 35 ref
   have hs:(cutB 35 ref).1.size≤60:=by omega
   generalize (cutB 35 ref).1=s at hs
   have main:Ev (fun k=>spec_AddrJoin.j1 k s (decide (2≤s.size) && decide ((L s).take 2=[47,47])) h ps asks ask) (joinS h ps asks ask s):=by
    refine Ev_succ ?_
    simp only [spec_AddrJoin.j1]
    unfold joinS
    by_cases h1:(decide (2≤s.size) && decide ((L s).take 2=[47,47]))=true
    ·have h1':=h1
     simp only [Bool.and_eq_true,decide_eq_true_eq] at h1'
     simp only [h1,if_true,show (2:Int)≤(s.size:Int) from by omega]
     exact ev_eta (whole_ev (s.extract 2 s.size) (by rw [ByteArray.size_extract];omega))
    ·simp only [h1,if_false]
     by_cases h2:s.toList=[]
     ·simp only [h2,if_true,Option.bind_some,show ([]:List ByteArray).length+ps.length < 8796093022208 from by simp;omega,List.nil_append]
      exact Ev.now _
     ·have hpos:0 < s.size:=by
       rcases Nat.eq_zero_or_pos s.size with e|e
       ·exact absurd (toList_nil.2 e) h2
       ·exact e
      simp only [h2,if_false,show (0:Int) < (s.size:Int) from by omega,if_true]
      by_cases h3:bt s 0=47
      ·simp only [h3,if_true]
       exact ev_eta (way_ev h [] false _ s (by omega) (by simp) (by simp) (by omega))
      ·by_cases h4:bt s 0=63
       ·simp only [h3,h4,if_true,if_false,show ¬ ((63:Int)=47) from by omega]
        exact ev_eta (way_ev h ps false _ s (by omega) (by omega) (fun p hp=>by have:=z2 p hp;omega) (by omega))
       ·simp only [h3,h4,if_false]
        have up:spec_l1Up.f h ps asks ask=some (h,ps.take (ps.length - 1),false,⟨#[]⟩):=by
         unfold spec_l1Up.f
         rw [mx_len ps.length (by omega),Option.bind_some,if_pos (by omega),if_pos (by omega),Int.toNat_natCast,if_pos (by rw [List.length_take];simp;omega)]
         rfl
        rw [up]
        simp only [Option.bind_some]
        exact ev_eta (way_ev h (ps.take (ps.length - 1)) false _ s (by omega) (by rw [List.length_take];omega) (fun p hp=>by have:=z2 p (List.mem_of_mem_take hp);omega) (by omega))
   refine Ev_succ ?_
   simp only [spec_AddrJoin.j0,Bool.false_eq_true,if_false]
   by_cases h2:2≤s.size
   ·have hx:(s.extract 0 2).toList=(L s).take 2:=by rw [Lib.toList_data];show L (s.extract 0 2)=_;rw [L_ext];simp
    have e:((s.extract 0 2).toList == ([47,47]:List UInt8))=(decide (2≤s.size) && decide ((L s).take 2=[47,47])):=by
     rw [hx,Bool.eq_iff_iff];simp [h2]
    simp only [show (s.size:Int) ≥ 2 from by omega,show (0:Int)≤2 from by omega,show (2:Int)≤(s.size:Int) from by omega,if_true,e]
    exact main
   ·have e:(decide (2≤s.size) && decide ((L s).take 2=[47,47]))=false:=by simp [h2]
    rw [e] at main
    simp only [show ¬ ((s.size:Int) ≥ 2) from by omega,if_false]
    exact main
 ·simp only [show addrOk h ps asks ask=false from by simpa using ho,Bool.false_eq_true,if_false,ite_self]
  exact bad _
end Go.Proofs.YtpomhjkbgbociaaGreatDoor.Ad
end
section
namespace Go.Proofs.YtpomhjkbgbociaaGreatDoor.Wd
open Go.RowKit Go.Proofs.YtpomhjkbgbociaaGreatDoor.P Go.Proofs.YtpomhjkbgbociaaGreatDoorW.PrintWords Go.Proofs.YtpomhjkbgbociaaGreatDoorW.PrintLast Go.Proofs.YtpomhjkbgbociaaGreatDoorW.PrintMore Go.Proofs.YtpomhjkbgbociaaGreatDoor.B Go.Proofs.YtpomhjkbgbociaaGreatDoor.Ad
set_option linter.unusedVariables false
set_option linter.unusedSimpArgs false
abbrev Pg:=S30
def norm (s:ByteArray):Bool:=(readO s).2.2.2.2 && (textB (readO s).1 (readO s).2.1 (readO s).2.2.1 (readO s).2.2.2.1).toList == s.toList
theorem readAddr_i (s:ByteArray):Ev (fun k=>impl_readAddress.f k s) (if norm s=true then ((readO s).1,(readO s).2.1,(readO s).2.2.1,(readO s).2.2.2.1,true) else none5):=by
 unfold impl_readAddress.f
 refine Ev.bind (read_i s) ?_
 have hF:=fine_read s
 obtain ⟨q1,q2,q3⟩:=fine_parts hF
 unfold norm
 by_cases h:(readO s).2.2.2.2=true
 ·have ht:=text_i (readO s).1 (readO s).2.1 (readO s).2.2.1 (readO s).2.2.2.1 q1 (by omega) (by omega)
  simp only [h,if_true,ht,Option.bind_some,Bool.true_and]
  by_cases h2:(textB (readO s).1 (readO s).2.1 (readO s).2.2.1 (readO s).2.2.2.1).toList=s.toList
  ·simp only [h2,if_true,beq_self_eq_true]
   exact Ev.now _
  ·simp only [h2,if_false,beq_eq_false_iff_ne.mpr h2,Bool.false_eq_true]
   exact Ev.now _
 ·have h':(readO s).2.2.2.2=false:=by simpa using h
  simp only [h',Bool.false_and,Bool.false_eq_true,if_false]
  exact Ev.now _
theorem isAddr_i (s:ByteArray):Ev (fun k=>impl_isAddress.f k s) (norm s):=by
 unfold impl_isAddress.f
 refine Ev.bind (readAddr_i s) ?_
 by_cases h:norm s=true
 ·rw [if_pos h,h];exact Ev.now _
 ·rw [if_neg h]
  have h':norm s=false:=by simpa using h
  rw [h']
  exact Ev.now _
theorem norm_s (s:ByteArray) (hs:s.size≤140737488351232):Ev (fun k=>spec_l11Norm.f k s) (norm s):=by
 unfold spec_l11Norm.f
 refine Ev.bind (read_ev s hs) ?_
 have hF:=fine_read s
 obtain ⟨q1,q2,q3⟩:=fine_parts hF
 unfold norm
 by_cases h:(readO s).2.2.2.2=true
 ·simp only [h,if_true,Bool.true_and]
  have ho:addrOk (readO s).1 (readO s).2.1 (readO s).2.2.1 (readO s).2.2.2.1=true:=by
   rcases hF with e|e
   ·rw [e] at h;cases h
   ·exact e.2
  refine Ev.bind (addrText_ev _ _ _ _ q1 (by omega) (by omega)) ?_
  unfold addrText
  rw [if_pos ho]
  exact Ev.now _
 ·have h':(readO s).2.2.2.2=false:=by simpa using h
  simp only [h',Bool.false_and,Bool.false_eq_true,if_false]
  exact Ev.now _
def pgOk (p:Pg):Bool:=norm p.f0 && decide (p.f1.size≤300) && decide (0≤p.f3) && decide (p.f3≤9) && (p.f2.toList == [] || norm p.f2 && p.f1.toList == [])
theorem pageOk_i (p:Pg):Ev (fun k=>impl_pageOk.f k p.f0 p.f1 p.f2 p.f3) (pgOk p):=by
 unfold impl_pageOk.f pgOk
 refine Ev.bind (isAddr_i p.f0) ?_
 cases norm p.f0 with
 | false=>simp only [Bool.false_and,Bool.false_eq_true,if_false];exact Ev.now _
 | true=>
  simp only [if_true,Bool.true_and]
  by_cases h1:(p.f1.size:Int) > 300
  ·simp only [h1,if_true,show ¬ p.f1.size≤300 from by omega,decide_false,Bool.false_and];exact Ev.now _
  ·simp only [h1,if_false,show p.f1.size≤300 from by omega,decide_true,Bool.true_and]
   by_cases h2:p.f3 < 0
   ·simp only [h2,if_true,show ¬ 0≤p.f3 from by omega,decide_false,Bool.false_and];exact Ev.now _
   ·simp only [h2,if_false,show 0≤p.f3 from by omega,decide_true,Bool.true_and]
    by_cases h3:p.f3 > 9
    ·simp only [h3,if_true,show ¬ p.f3≤9 from by omega,decide_false,Bool.false_and];exact Ev.now _
    ·simp only [h3,if_false,show p.f3≤9 from by omega,decide_true,Bool.true_and]
     by_cases h4:p.f2.toList=([]:List UInt8)
     ·simp only [h4,if_true,beq_self_eq_true,Bool.true_or];exact Ev.now _
     ·simp only [h4,if_false,beq_eq_false_iff_ne.mpr h4,Bool.false_or]
      refine Ev.bind (isAddr_i p.f2) ?_
      cases norm p.f2 with
      | false=>simp only [Bool.false_and,Bool.false_eq_true,if_false];exact Ev.now _
      | true=>simp only [if_true,Bool.true_and];exact Ev.now _
theorem pagesOk_i:∀ (l:List Pg),(∀ p ∈ l,p.f0.size≤9223372036854775807)→Ev (fun k=>pagesOk k l) (l.all pgOk)
 | [],_=>by simp only [pagesOk,List.all_nil];exact Ev.now _
 | p :: r,h=>by
  simp only [pagesOk,h p (List.mem_cons_self ..),if_true,List.all_cons]
  refine Ev.bind (pageOk_i p) ?_
  cases pgOk p with
  | false=>simp only [Bool.false_and,Bool.false_eq_true,if_false];exact Ev.now _
  | true=>simp only [if_true,Bool.true_and];exact pagesOk_i r (fun q hq=>h q (List.mem_cons_of_mem _ hq))
def fresh:List Pg→Bool
 | []=>true
 | p :: r=>!(r.any fun q=>decide (q.f0=p.f0)) && fresh r
theorem at_any (a:ByteArray):∀ (r:List Pg),(pageAtR a r).isSome=r.any fun q=>decide (q.f0=a)
 | []=>rfl
 | p :: r=>by
  unfold pageAtR
  by_cases h:p.f0=a
  ·simp [h]
  ·simp [h,at_any a r]
theorem size_fresh:∀ (r:List Pg),Maps.size (mapR r)≤r.length∧(Maps.size (mapR r)=r.length↔fresh r=true)
 | []=>⟨Nat.le_refl _,by simp [fresh,mapR,Maps.size]⟩
 | p :: r=>by
  obtain ⟨h1,h2⟩:=size_fresh r
  rw [mapR_size,at_any]
  unfold fresh
  cases hb:(r.any fun q=>decide (q.f0=p.f0)) with
  | true=>simp only [if_true,Bool.not_true,Bool.false_and,List.length_cons];exact ⟨by omega,by constructor <;> intro h <;> first|omega|cases h⟩
  | false=>simp only [Bool.false_eq_true,if_false,Bool.not_false,Bool.true_and,List.length_cons];exact ⟨by omega,by rw [← h2];omega⟩
def worldOk (l:List Pg):Bool:=decide (l.length≤12) && l.all pgOk && fresh l.reverse
theorem made_i (l:List Pg) (h:∀ p ∈ l,p.f0.size≤9223372036854775807):Ev (fun k=>(impl_worldOf.f k l).bind fun t=>if t=true then some ((Maps.size (mapD l):Int) == (l.length:Int)) else some false) (worldOk l):=by
 unfold impl_worldOf.f worldOk
 by_cases h12:12 < l.length
 ·simp only [h12,if_true,Option.bind_some,Bool.false_eq_true,if_false,show ¬ l.length≤12 from by omega,decide_false,Bool.false_and]
  exact Ev.now _
 ·simp only [h12,if_false,show l.length≤12 from by omega,decide_true,Bool.true_and]
  refine Ev.bind (pagesOk_i l h) ?_
  cases l.all pgOk with
  | false=>simp only [Bool.false_eq_true,if_false,Bool.false_and];exact Ev.now _
  | true=>
   simp only [if_true,Bool.true_and]
   have:=(size_fresh l.reverse).2
   rw [List.length_reverse] at this
   have e:((Maps.size (mapD l):Int) == (l.length:Int))=fresh l.reverse:=by
    unfold mapD
    rw [Bool.eq_iff_iff,← this]
    simp
    omega
   rw [e]
   exact Ev.now _
theorem made2 (l:List Pg) (h:∀ p ∈ l,p.f0.size≤9223372036854775807):∃ b,Ev (fun k=>impl_worldOf.f k l) b∧(b=false→worldOk l=false)∧(b=true→((Maps.size (mapD l):Int) == (l.length:Int))=worldOk l):=by
 obtain ⟨K,hK⟩:=made_i l h
 obtain ⟨b,hb,hb2⟩:=Option.bind_eq_some_iff.mp (hK K (Nat.le_refl _))
 refine ⟨b,Ev.of (fun k=>impl_worldOf.mono l k) hb,fun e=>?_,fun e=>?_⟩
 ·subst e
  rw [if_neg (by decide)] at hb2
  exact (Option.some.inj hb2).symm
 ·subst e
  rw [if_pos rfl] at hb2
  exact Option.some.inj hb2
theorem rd_pg {l:List Pg} {i:Nat} (h:i < l.length):rd_T30 l (i:Int)=l[i]:=by
 simp [rd_T30,List.getD,List.getElem?_eq_getElem h]
def restOk (l:List Pg):Nat→Nat→Bool
 | 0,_=>decide (l.length≤12)
 | d+1,i=>pgOk (rd_T30 l (i:Int)) && !((l.take i).any fun q=>decide (q.f0=(rd_T30 l (i:Int)).f0)) && restOk l d (i+1)
theorem inner_s (l:List Pg) (i:Nat) (hi:i < l.length) (hl:l.length≤1048576) (R:Bool) (hR:Ev (fun k=>spec_WorldOk.l0 k l ((i+1:Nat):Int)) R) (d:Nat):∀ (j:Nat),j+d=i →
  Ev (fun k=>spec_WorldOk.l1 k l (i:Int) (j:Int)) (!(((l.take i).drop j).any fun q=>decide (q.f0=(rd_T30 l (i:Int)).f0)) && R):=by
 induction d with
 | zero=>
  intro j hj
  obtain rfl:j=i:=by omega
  have w1:wrap64 ((j:Int)+1)=((j+1:Nat):Int):=by rw [w64 (by omega) (by omega)];rfl
  refine Ev_succ ?_
  simp only [spec_WorldOk.l1,show ¬ ((j:Int) < (j:Int)) from by omega,if_false]
  rw [w1,List.drop_of_length_le (by rw [List.length_take];omega)]
  simpa using hR
 | succ d ih=>
  intro j hj
  have hjl:j < l.length:=by omega
  have w1:wrap64 ((j:Int)+1)=((j+1:Nat):Int):=by rw [w64 (by omega) (by omega)];rfl
  have hd:(l.take i).drop j=l[j] :: (l.take i).drop (j+1):=by
   rw [List.drop_eq_getElem_cons (by rw [List.length_take];omega)]
   congr 1
   simp
  refine Ev_succ ?_
  simp only [spec_WorldOk.l1,show (j:Int) < (i:Int) from by omega,ci_nn j,ci_nn i,show (j:Int) < (l.length:Int) from by omega,show (i:Int) < (l.length:Int) from by omega,if_true]
  rw [w1,hd,rd_pg hjl,List.any_cons]
  by_cases he:l[j].f0.toList=(rd_T30 l (i:Int)).f0.toList
  ·simp only [he,if_true,decide_eq_true (toList_inj.1 he),Bool.true_or,Bool.not_true,Bool.false_and]
   exact Ev.now _
  ·simp only [he,if_false,decide_eq_false (fun e=>he (toList_inj.2 e)),Bool.false_or]
   exact ih (j+1) (by omega)
theorem outer_s (l:List Pg) (hl:l.length≤1048576) (hs:∀ p ∈ l,p.f0.size≤140737488351232∧p.f2.size≤140737488351232) (d:Nat):∀ (i:Nat),i+d=l.length→Ev (fun k=>spec_WorldOk.l0 k l (i:Int)) (restOk l d i):=by
 induction d with
 | zero=>
  intro i hi
  refine Ev_succ ?_
  simp only [spec_WorldOk.l0,show ¬ ((i:Int) < (l.length:Int)) from by omega,if_false,restOk]
  have e:decide ((l.length:Int)≤12)=decide (l.length≤12):=by rw [Bool.eq_iff_iff];simp;omega
  rw [e]
  exact Ev.now _
 | succ d ih=>
  intro i hi
  have hlt:i < l.length:=by omega
  have hr:=rd_pg hlt
  have hm:=hs _ (List.getElem_mem hlt)
  have stop:Ev (fun k=>spec_WorldOk.j1 k l (i:Int) true) false:=Ev_succ (by simp only [spec_WorldOk.j1,if_true];exact Ev.now _)
  have go:Ev (fun k=>spec_WorldOk.j1 k l (i:Int) false) (!((l.take i).any fun q=>decide (q.f0=(rd_T30 l (i:Int)).f0)) && restOk l d (i+1)):=by
   refine Ev_succ ?_
   simp only [spec_WorldOk.j1,Bool.false_eq_true,if_false]
   have:=inner_s l i hlt hl _ (ih (i+1) (by omega)) i 0 (by omega)
   simpa using this
  unfold restOk pgOk
  refine Ev_succ ?_
  simp only [spec_WorldOk.l0,show (i:Int) < (l.length:Int) from by omega,ci_nn i,if_true]
  rw [hr]
  rw [hr] at go
  refine Ev.bind (norm_s _ hm.1) ?_
  generalize l[i]=p at go hm ⊢
  cases norm p.f0 with
  | false=>simp only [Bool.false_and,Bool.false_eq_true,if_false];exact stop
  | true=>
   simp only [if_true,Bool.true_and]
   by_cases h1:(p.f1.size:Int) > 300
   ·simp only [h1,if_true,show ¬ p.f1.size≤300 from by omega,decide_false,Bool.false_and];exact stop
   ·simp only [h1,if_false,show p.f1.size≤300 from by omega,decide_true,Bool.true_and]
    have hin:spec_l6In.f p.f3 0 9=some (decide (0≤p.f3) && decide (p.f3≤9)):=by
     unfold spec_l6In.f
     by_cases ha:0≤p.f3 <;> by_cases hb:p.f3≤9 <;> simp [ha,hb]
    rw [hin]
    simp only [Option.bind_some]
    by_cases h23:(decide (0≤p.f3) && decide (p.f3≤9))=true
    ·simp only [h23,if_true,Bool.true_and]
     by_cases h4:p.f2.toList=([]:List UInt8)
     ·simp only [h4,if_true,beq_self_eq_true,Bool.true_or,Bool.true_and];exact go
     ·simp only [h4,if_false,beq_eq_false_iff_ne.mpr h4,Bool.false_or]
      by_cases h5:p.f1.toList=([]:List UInt8)
      ·simp only [h5,if_true,beq_self_eq_true,Bool.and_true]
       refine Ev.bind (norm_s _ hm.2) ?_
       cases norm p.f2 with
       | false=>simp only [Bool.not_false,Bool.false_and];exact stop
       | true=>simp only [Bool.not_true,Bool.true_and];exact go
      ·simp only [h5,if_false,beq_eq_false_iff_ne.mpr h5,Bool.and_false,Bool.false_and];exact stop
    ·have h23':(decide (0≤p.f3) && decide (p.f3≤9))=false:=by simpa using h23
     simp only [h23',Bool.false_eq_true,if_false,Bool.false_and];exact stop
theorem rest_world (l:List Pg) (d:Nat):∀ (i:Nat),i+d=l.length→fresh (l.take i).reverse=true→restOk l d i=(decide (l.length≤12) && (l.drop i).all pgOk && fresh l.reverse):=by
 induction d with
 | zero=>
  intro i hi hf
  obtain rfl:i=l.length:=by omega
  rw [List.take_length] at hf
  simp [restOk,hf]
 | succ d ih=>
  intro i hi hf
  have hlt:i < l.length:=by omega
  have ht:(l.take (i+1)).reverse=l[i] :: (l.take i).reverse:=by
   rw [List.take_succ_eq_append_getElem hlt,List.reverse_append]
   rfl
  rw [List.drop_eq_getElem_cons hlt,List.all_cons]
  unfold restOk
  rw [rd_pg hlt]
  cases ha:((l.take i).any fun q=>decide (q.f0=l[i].f0)) with
  | false=>
   rw [ih (i+1) (by omega) (by rw [ht];unfold fresh;rw [List.any_reverse,ha,hf];rfl)]
   cases pgOk l[i] <;> simp
  | true=>
   have hn:fresh l.reverse=false:=by
    have e:l.reverse=(l.drop (i+1)).reverse++(l.take (i+1)).reverse:=by rw [← List.reverse_append,List.take_append_drop]
    rw [e,ht]
    generalize (l.drop (i+1)).reverse=x
    induction x with
    | nil=>simp only [List.nil_append];unfold fresh;rw [List.any_reverse,ha];rfl
    | cons y x ih2=>simp only [List.cons_append];unfold fresh;rw [ih2,Bool.and_false]
   simp [hn]
theorem worldOk_s (l:List Pg) (hl:l.length≤1048576) (hs:∀ p ∈ l,p.f0.size≤140737488351232∧p.f2.size≤140737488351232):Ev (fun k=>spec_WorldOk.f k l) (worldOk l):=by
 unfold spec_WorldOk.f
 have h:=outer_s l hl hs l.length 0 (by omega)
 rw [rest_world l l.length 0 (by omega) (by simp [fresh])] at h
 rw [List.drop_zero] at h
 exact h
theorem at_find (a:ByteArray):∀ (r:List Pg),pageAtR a r=r.find? fun q=>decide (q.f0=a)
 | []=>rfl
 | p :: r=>by
  unfold pageAtR
  by_cases h:p.f0=a
  ·simp [h]
  ·simp [h,at_find a r]
theorem fresh_one:∀ {r:List Pg},fresh r=true→∀ p ∈ r,∀ q ∈ r,p.f0=q.f0→p=q
 | x :: r,h,p,hp,q,hq,e=>by
  unfold fresh at h
  simp only [Bool.and_eq_true,Bool.not_eq_true',List.any_eq_false,decide_eq_true_eq] at h
  rcases List.mem_cons.1 hp with e1|hp'
  ·rcases List.mem_cons.1 hq with e2|hq'
   ·rw [e1,e2]
   ·exact absurd (by rw [← e,e1]) (h.1 q hq')
  ·rcases List.mem_cons.1 hq with e2|hq'
   ·exact absurd (by rw [e,e2]) (h.1 p hp')
   ·exact fresh_one h.2 p hp' q hq' e
theorem at_first {l:List Pg} (h:fresh l.reverse=true) (a:ByteArray):pageAtR a l.reverse=l.find? fun q=>decide (q.f0=a):=by
 rw [at_find]
 cases h1:l.reverse.find? fun q=>decide (q.f0=a) with
 | none=>
  symm
  rw [List.find?_eq_none] at h1 ⊢
  exact fun x hx=>h1 x (List.mem_reverse.2 hx)
 | some p=>
  have hp:=List.mem_of_find?_eq_some h1
  have ep:p.f0=a:=by simpa using List.find?_some h1
  cases h2:l.find? fun q=>decide (q.f0=a) with
  | none=>
   rw [List.find?_eq_none] at h2
   exact absurd (decide_eq_true ep) (h2 p (List.mem_reverse.1 hp))
  | some q=>
   have hq:=List.mem_of_find?_eq_some h2
   have eq:q.f0=a:=by simpa using List.find?_some h2
   rw [fresh_one h p hp q (List.mem_reverse.2 hq) (ep.trans eq.symm)]
def atO (l:List Pg) (a:ByteArray):ByteArray×ByteArray×ByteArray×Int×Bool:=
 match l.find? fun q=>decide (q.f0=a) with
 | some p=>(p.f0,p.f1,p.f2,p.f3,true)
 | none=>((⟨#[]⟩:ByteArray),(⟨#[]⟩:ByteArray),(⟨#[]⟩:ByteArray),0,false)
theorem at_l (l:List Pg) (hl:l.length≤1048576) (a:ByteArray) (d:Nat):∀ (i:Nat),i+d=l.length→Ev (fun k=>spec_l11At.l0 k l a (i:Int)) (atO (l.drop i) a):=by
 induction d with
 | zero=>
  intro i hi
  refine Ev_succ ?_
  simp only [spec_l11At.l0,show ¬ ((i:Int) < (l.length:Int)) from by omega,if_false]
  rw [List.drop_of_length_le (by omega)]
  exact Ev.now _
 | succ d ih=>
  intro i hi
  have hlt:i < l.length:=by omega
  have w1:wrap64 ((i:Int)+1)=((i+1:Nat):Int):=by rw [w64 (by omega) (by omega)];rfl
  have next:=ih (i+1) (by omega)
  refine Ev_succ ?_
  simp only [spec_l11At.l0,show (i:Int) < (l.length:Int) from by omega,ci_nn i,if_true]
  rw [w1,rd_pg hlt,List.drop_eq_getElem_cons hlt]
  generalize l[i]=p at *
  by_cases he:p.f0.toList=a.toList
  ·simp only [he,if_true,atO,List.find?_cons,decide_eq_true (toList_inj.1 he)]
   exact Ev.now _
  ·simp only [he,if_false,atO,List.find?_cons,decide_eq_false (fun e=>he (toList_inj.2 e))]
   exact next
theorem get_s (l:List Pg) (hl:l.length≤1048576) (hf:fresh l.reverse=true) (a:ByteArray) (t:Int) (h0:¬ t < 0):Ev (fun k=>spec_l11Get.f k l a t) (getF l a t):=by
 unfold getF
 rw [at_first hf]
 have hA:=at_l l hl a l.length 0 (by omega)
 rw [List.drop_zero] at hA
 unfold spec_l11Get.f spec_l11At.f
 unfold atO at hA
 cases hq:l.find? fun q=>decide (q.f0=a) with
 | none=>
  rw [hq] at hA
  refine Ev.bind hA ?_
  simp only [Bool.false_eq_true,if_false]
  exact Ev.now _
 | some p=>
  rw [hq] at hA
  refine Ev.bind hA ?_
  simp only [h0,if_false,if_true]
  by_cases h3:t < p.f3
  ·simp only [h3,if_true];exact Ev.now _
  ·by_cases h2:p.f2.toList=([]:List UInt8)
   ·simp only [h3,if_false,h2,if_true];exact Ev.now _
   ·simp only [h3,if_false,h2];exact Ev.now _
end Go.Proofs.YtpomhjkbgbociaaGreatDoor.Wd
end
section
namespace Go.Proofs.YtpomhjkbgbociaaGreatDoor.Draw
open Go.RowKit Go.Proofs.YtpomhjkbgbociaaGreatDoor.P Go.Proofs.YtpomhjkbgbociaaGreatDoorW.PrintWords Go.Proofs.YtpomhjkbgbociaaGreatDoorW.PrintLast Go.Proofs.YtpomhjkbgbociaaGreatDoorW.PrintMore Go.Proofs.YtpomhjkbgbociaaGreatDoor.B Go.Proofs.YtpomhjkbgbociaaGreatDoor.Ad Go.Proofs.YtpomhjkbgbociaaGreatDoor.Wd
set_option linter.unusedVariables false
set_option linter.unusedSimpArgs false
def Pgd (p:Pg):Prop:=p.f0.size≤60∧p.f1.size≤300∧p.f2.size≤60
theorem pgd_app {x:List Pg} {g:Pg} (h:∀ q ∈ x,Pgd q) (hg:Pgd g):∀ q ∈ x++[g],Pgd q:=by
 intro q hq
 rcases List.mem_append.1 hq with hq|hq
 ·exact h q hq
 ·rw [List.mem_singleton.1 hq];exact hg
theorem at_some {x:List Pg} {a:ByteArray} (h:(atO x a).2.2.2.2=true):x≠[]:=by
 rintro rfl
 simp [atO] at h
theorem small_of {n:List SGd} (hl:n.length≤4) (h:∀ g ∈ n,Gd g):Nt.Sm n:=
 ⟨by omega,fun g hg=>by obtain ⟨h1,h2,_⟩:=h g hg;exact ⟨by omega,fun s hs=>by have:=h2 s hs;omega⟩,fun g hg=>by obtain ⟨_,_,h3,_⟩:=h g hg;omega⟩
theorem world_l1 {b:List Int} (hc:Code b) (d:Nat):∀ (p:Int) (x:List Pg),0≤p→p+400 * d≤90000000→x.length+d≤100→(∀ q ∈ x,Pgd q)→(x≠[]∨1≤d) →
  ∃ y p',Ev (fun k=>spec_l71World.l1 k x (d:Int) b p) (y,p')∧y≠[]∧y.length≤x.length+d∧(∀ q ∈ y,Pgd q)∧p≤p'∧p'≤p+400 * d:=by
 induction d with
 | zero=>
  intro p x h0 h1 hl hx hn
  refine ⟨x,p,Ev_succ ?_,by rcases hn with h|h;exact h;omega,by omega,hx,by omega,by omega⟩
  have n0:¬ (((0:Nat):Int) > 0):=by omega
  simp only [spec_l71World.l1,n0,if_false]
  exact Ev.now _
 | succ d ih=>
  intro p x h0 h1 hl hx hn
  have n1:(((d+1:Nat):Int) > 0):=by omega
  have e1:wrap64 (((d+1:Nat):Int) - 1)=(d:Int):=by rw [w64 (by omega) (by omega)];omega
  obtain ⟨s,p1,hs,sz,a1,b1⟩:=addr_ev hc p h0 (by omega)
  obtain ⟨t,p2,ht,tz,a2,b2⟩:=page_ev hc p1 (by omega) (by omega)
  obtain ⟨v,hv,v0,v1⟩:=pick_ev hc p2 7 (by omega) (by omega)
  have v2:=v1 (by omega)
  obtain ⟨u,hu,u0,u1⟩:=pick_ev hc (p2+1) 8 (by omega) (by omega)
  have hA:=at_l x (by omega) s x.length 0 (by omega)
  rw [List.drop_zero] at hA
  have hA':Ev (fun k=>spec_l11At.f k x s) (atO x s):=hA
  have tail:∀ (q:Int) (pg:Pg) (B:Prop) [Decidable B],B→Pgd pg→0≤q→q≤p+330 →
    ∃ y p',Ev (fun k=>(spec_l11At.f k x s).bind fun bt=>if bt.2.2.2.2=true then (spec_l71World.l1 k x (wrap64 (((d+1:Nat):Int) - 1)) b q) else (if B then (if x.length < 2513169434916 then (spec_l71World.l1 k (x++[pg]) (wrap64 (((d+1:Nat):Int) - 1)) b q) else none) else (spec_l71World.l1 k x (wrap64 (((d+1:Nat):Int) - 1)) b q))) (y,p')∧y≠[]∧y.length≤x.length+(d+1)∧(∀ q ∈ y,Pgd q)∧q≤p'∧p'≤q+400 * d:=by
   intro q pg B _ hB hpg q0 q1
   rw [e1]
   by_cases hf:(atO x s).2.2.2.2=true
   ·obtain ⟨y,p',g1,g2,g3,g4,g5,g6⟩:=ih q x q0 (by omega) (by omega) hx (.inl (at_some hf))
    refine ⟨y,p',Ev.bind hA' ?_,g2,by omega,g4,g5,g6⟩
    simp only [hf,if_true]
    exact g1
   ·obtain ⟨y,p',g1,g2,g3,g4,g5,g6⟩:=ih q (x++[pg]) q0 (by omega) (by simp;omega) (pgd_app hx hpg) (.inl (by simp))
    rw [List.length_append,List.length_singleton] at g3
    refine ⟨y,p',Ev.bind hA' ?_,g2,by omega,g4,g5,g6⟩
    simp only [hf,Bool.false_eq_true,if_false,if_pos hB,show x.length < 2513169434916 from by omega,if_true]
    exact g1
  have h7:v < (([0,0,0,0,1,2,4]:List Int).length:Int):=by simp;omega
  by_cases c:u=0
  ·obtain ⟨s2,p3,hs2,sz2,a3,b3⟩:=addr_ev hc (p2+1+1) (by omega) (by omega)
   obtain ⟨y,p',g1,g2,g3,g4,g5,g6⟩:=tail p3 ⟨s,⟨#[]⟩,s2,rd [0,0,0,0,1,2,4] v⟩ ((0:Int)≤300) (by decide) ⟨by simp only;omega,Nat.zero_le _,by simp only;omega⟩ (by omega) (by omega)
   refine ⟨y,p',Ev_succ ?_,g2,g3,g4,by omega,by omega⟩
   simp only [spec_l71World.l1,n1,if_true]
   refine Ev.bind hs (Ev.bind ht ?_)
   simp only [Option.bind_some]
   refine Ev.bind hv ?_
   simp only [v0,h7,if_true]
   refine Ev.bind hu ?_
   simp only [c,if_true]
   exact Ev.bind hs2 g1
  ·obtain ⟨y,p',g1,g2,g3,g4,g5,g6⟩:=tail (p2+1+1) ⟨s,t,⟨#[]⟩,rd [0,0,0,0,1,2,4] v⟩ ((t.size:Int)≤300) (by omega) ⟨by simp only;omega,by simp only;omega,Nat.zero_le _⟩ (by omega) (by omega)
   refine ⟨y,p',Ev_succ ?_,g2,g3,g4,by omega,by omega⟩
   simp only [spec_l71World.l1,n1,if_true]
   refine Ev.bind hs (Ev.bind ht ?_)
   simp only [Option.bind_some]
   refine Ev.bind hv ?_
   simp only [v0,h7,if_true]
   refine Ev.bind hu ?_
   simp only [c,if_false]
   exact g1
abbrev T4:List ByteArray:=[(⟨#[97,98]⟩:ByteArray),(⟨#[99,100]⟩:ByteArray),(⟨#[101]⟩:ByteArray),(⟨#[102,111,120]⟩:ByteArray)]
theorem t4_size (i:Nat) (h:i < 4):(rdOf ByteArray.empty T4 (i:Int)).size≤3:=by
 obtain rfl|rfl|rfl|rfl:i=0∨i=1∨i=2∨i=3:=by omega
 all_goals decide
theorem world_l0 {b:List Int} (hc:Code b) (d:Nat):∀ (i:Nat) (p:Int) (x:List Pg),i+d=4→0≤p→p+500 * d+4000≤9000000→x.length≤i→(∀ q ∈ x,Pgd q) →
  ∃ y p',Ev (fun k=>spec_l71World.l0 k x T4 (i:Int) b p) (y,p')∧y≠[]∧y.length≤12∧(∀ q ∈ y,Pgd q)∧p≤p'∧p'≤p+500 * d+4000:=by
 induction d with
 | zero=>
  intro i p x hi h0 h1 hl hx
  obtain ⟨v,hv,v0,v1⟩:=pick_ev hc p 7 h0 (by omega)
  have v2:=v1 (by omega)
  obtain ⟨m,rfl⟩:=Int.eq_ofNat_of_zero_le v0
  obtain ⟨y,p',g1,g2,g3,g4,g5,g6⟩:=world_l1 hc (2+m) (p+1) x (by omega) (by omega) (by omega) hx (.inr (by omega))
  refine ⟨y,p',Ev_succ ?_,g2,by omega,g4,by omega,by omega⟩
  simp only [spec_l71World.l0,show ¬ ((i:Int) < 4) from by omega,if_false]
  refine Ev.bind hv ?_
  simp only
  rw [show wrap64 (2+(m:Int))=((2+m:Nat):Int) from by rw [w64 (by omega) (by omega)];omega]
  exact g1
 | succ d ih=>
  intro i p x hi h0 h1 hl hx
  have e4:wrap64 ((i:Int)+1)=((i+1:Nat):Int):=by rw [w64 (by omega) (by omega)];rfl
  have i4:(i:Int) < 4:=by omega
  have i4':(i:Int) < (T4.length:Int):=by simp [T4];omega
  have hz:=t4_size i (by omega)
  obtain ⟨v,hv,v0,v1⟩:=pick_ev hc p 2 h0 (by omega)
  by_cases c:v=0
  ·obtain ⟨n,p1,hn,nl,ng,a1,b1⟩:=groups_ev hc (p+1) (by omega) (by omega)
   have hT:=Nt.noticeT_ev n (small_of nl ng)
   obtain ⟨u,hu,u0,u1⟩:=pick_ev hc p1 6 (by omega) (by omega)
   have u2:=u1 (by omega)
   obtain ⟨r,hr,_,_⟩:=pick_ev hc (p1+1) 12 (by omega) (by omega)
   have h6:u < (([0,0,0,1,2,5]:List Int).length:Int):=by simp;omega
   have s2:(⟨#[47,47]⟩:ByteArray).size=2:=rfl
   have s7:(⟨#[47,110,111,116,105,99,101]⟩:ByteArray).size=7:=rfl
   have hza:(((⟨#[47,47]⟩:ByteArray)++(rdOf ByteArray.empty T4 (i:Int)))++(⟨#[47,110,111,116,105,99,101]⟩:ByteArray)).size≤60:=by
    simp only [ByteArray.size_append];omega
   have tail:∀ (q:Int) (pg:Pg) (B:Prop) [Decidable B],(B→Pgd pg)→0≤q→q≤p+450 →
     ∃ y p',Ev (fun k=>if B then (if x.length < 2513169434916 then (spec_l71World.l0 k (x++[pg]) T4 (wrap64 ((i:Int)+1)) b q) else none) else (spec_l71World.l0 k x T4 (wrap64 ((i:Int)+1)) b q)) (y,p')∧y≠[]∧y.length≤12∧(∀ q ∈ y,Pgd q)∧q≤p'∧p'≤q+500 * d+4000:=by
    intro q pg B _ hpg q0 q1
    rw [e4]
    by_cases hB:B
    ·obtain ⟨y,p',g1,g2,g3,g4,g5,g6⟩:=ih (i+1) q (x++[pg]) (by omega) q0 (by omega) (by simp;omega) (pgd_app hx (hpg hB))
     refine ⟨y,p',?_,g2,g3,g4,g5,g6⟩
     simp only [if_pos hB,show x.length < 2513169434916 from by omega,if_true]
     exact g1
    ·obtain ⟨y,p',g1,g2,g3,g4,g5,g6⟩:=ih (i+1) q x (by omega) q0 (by omega) (by omega) hx
     refine ⟨y,p',?_,g2,g3,g4,g5,g6⟩
     simp only [if_neg hB]
     exact g1
   have ci:(0:Int)≤(i:Int):=by omega
   by_cases c2:r=0
   ·obtain ⟨s2',p3,hs2,sz2,a3,b3⟩:=addr_ev hc (p1+1+1) (by omega) (by omega)
    obtain ⟨y,p',g1,g2,g3,g4,g5,g6⟩:=tail p3 ⟨((⟨#[47,47]⟩:ByteArray)++(rdOf ByteArray.empty T4 (i:Int)))++(⟨#[47,110,111,116,105,99,101]⟩:ByteArray),⟨#[]⟩,s2',rd [0,0,0,1,2,5] u⟩ ((0:Int)≤300) (fun _=>⟨hza,Nat.zero_le _,by simp only;omega⟩) (by omega) (by omega)
    refine ⟨y,p',Ev_succ ?_,g2,g3,g4,by omega,by omega⟩
    simp only [spec_l71World.l0,i4,if_true]
    refine Ev.bind hv ?_
    simp only [c,if_true,ci,i4',show 2+(rdOf ByteArray.empty T4 (i:Int)).size≤9223372036854775807 from by omega,show 2+(rdOf ByteArray.empty T4 (i:Int)).size+7≤9223372036854775807 from by omega]
    refine Ev.bind hn (Ev.bind hT ?_)
    simp only [Option.bind_some]
    refine Ev.bind hu ?_
    simp only [u0,h6,if_true]
    refine Ev.bind hr ?_
    simp only [c2,if_true]
    exact Ev.bind hs2 g1
   ·obtain ⟨y,p',g1,g2,g3,g4,g5,g6⟩:=tail (p1+1+1) ⟨((⟨#[47,47]⟩:ByteArray)++(rdOf ByteArray.empty T4 (i:Int)))++(⟨#[47,110,111,116,105,99,101]⟩:ByteArray),Nt.noticeT n,⟨#[]⟩,rd [0,0,0,1,2,5] u⟩ (((Nt.noticeT n).size:Int)≤300) (fun h=>⟨hza,by simp only;omega,Nat.zero_le _⟩) (by omega) (by omega)
    refine ⟨y,p',Ev_succ ?_,g2,g3,g4,by omega,by omega⟩
    simp only [spec_l71World.l0,i4,if_true]
    refine Ev.bind hv ?_
    simp only [c,if_true,ci,i4',show 2+(rdOf ByteArray.empty T4 (i:Int)).size≤9223372036854775807 from by omega,show 2+(rdOf ByteArray.empty T4 (i:Int)).size+7≤9223372036854775807 from by omega]
    refine Ev.bind hn (Ev.bind hT ?_)
    simp only [Option.bind_some]
    refine Ev.bind hu ?_
    simp only [u0,h6,if_true]
    refine Ev.bind hr ?_
    simp only [c2,if_false]
    exact g1
  ·obtain ⟨y,p',g1,g2,g3,g4,g5,g6⟩:=ih (i+1) (p+1) x (by omega) (by omega) (by omega) (by omega) hx
   refine ⟨y,p',Ev_succ ?_,g2,g3,g4,by omega,by omega⟩
   simp only [spec_l71World.l0,i4,if_true]
   refine Ev.bind hv ?_
   simp only [c,if_false]
   rw [e4]
   exact g1
theorem world_ev {b:List Int} (hc:Code b) (p:Int) (h0:0≤p) (h1:p≤1000000):∃ y p',Ev (fun k=>spec_l71World.f k b p) (y,p')∧y≠[]∧y.length≤12∧(∀ q ∈ y,Pgd q)∧p≤p'∧p'≤p+6000:=by
 obtain ⟨y,p',g1,g2,g3,g4,g5,g6⟩:=world_l0 hc 4 0 p [] rfl h0 (by omega) (by simp) (by simp)
 refine ⟨y,p',?_,g2,g3,g4,g5,by omega⟩
 unfold spec_l71World.f spec_l71Houses.f
 exact g1
theorem off_l {b:List Int} (d:Nat):∀ (i:Nat) (x:List Pg) (p:Int),i+d=12→x.length≤12+i→(∀ q ∈ x,Pgd q) →
  ∃ y,Ev (fun k=>spec_l71Off.l0 k x (i:Int) b p) (y,p)∧y.length≤24∧(∀ q ∈ y,Pgd q)∧(x≠[]→y≠[]):=by
 induction d with
 | zero=>
  intro i x p hi hl hx
  refine ⟨x,Ev_succ ?_,by omega,hx,id⟩
  simp only [spec_l71Off.l0,show ¬ ((i:Int) < 12) from by omega,if_false]
  exact Ev.now _
 | succ d ih=>
  intro i x p hi hl hx
  have hd:=Nt.dec_ev i (by omega)
  have hds:=Nt.dec_size i
  have s6:(⟨#[47,47,97,98,47,122]⟩:ByteArray).size=6:=rfl
  have e4:wrap64 ((i:Int)+1)=((i+1:Nat):Int):=by rw [w64 (by omega) (by omega)];rfl
  obtain ⟨y,g1,g2,g3,g4⟩:=ih (i+1) (x++[⟨(⟨#[47,47,97,98,47,122]⟩:ByteArray)++Nt.decB i,⟨#[]⟩,⟨#[]⟩,0⟩]) p (by omega) (by simp;omega) (pgd_app hx ⟨by simp only [ByteArray.size_append];omega,Nat.zero_le _,Nat.zero_le _⟩)
  refine ⟨y,Ev_succ ?_,g2,g3,fun _=>g4 (by simp)⟩
  simp only [spec_l71Off.l0,show (i:Int) < 12 from by omega,if_true]
  refine Ev.bind hd ?_
  simp only [show 6+(Nt.decB i).size≤9223372036854775807 from by omega,show x.length < 2513169434916 from by omega,if_true]
  rw [e4]
  exact g1
theorem off_ev {b:List Int} (hc:Code b) (p:Int) (h0:0≤p) (h1:p≤1000000):∃ y p',Ev (fun k=>spec_l71Off.f k b p) (y,p')∧y≠[]∧y.length≤24∧(∀ q ∈ y,Pgd q)∧p≤p'∧p'≤p+7000:=by
 obtain ⟨w,p1,hw,wn,wl,wg,a1,b1⟩:=world_ev hc p h0 h1
 obtain ⟨v,hv,_,_⟩:=pick_ev hc p1 16 (by omega) (by omega)
 have hpos:0 < w.length:=List.length_pos_iff.2 wn
 have l0:(0:Int) < (w.length:Int):=by omega
 have llt:w.length < 2513169434916:=by omega
 have hg0:Pgd (rd_T30 w 0):=by
  have:=rd_pg (l:=w) (i:=0) hpos
  rw [show ((0:Nat):Int)=0 from rfl] at this
  rw [this]
  exact wg _ (List.getElem_mem hpos)
 obtain ⟨z1,z2,z3⟩:=hg0
 have hset:∀ (g:Pg),Pgd g→∀ q ∈ w.set (0:Int).toNat g,Pgd q:=fun g hg q hq=>by
  rcases List.mem_or_eq_of_mem_set hq with h|h
  ·exact wg q h
  ·rw [h];exact hg
 have hne:∀ g:Pg,w.set (0:Int).toNat g≠[]:=fun g e=>by
  have:=congrArg List.length e
  simp at this
  exact wn this
 unfold spec_l71Off.f
 by_cases c:v > 0
 ·refine ⟨w,p1+1,Ev.bind hw (Ev.bind hv ?_),wn,by omega,wg,by omega,by omega⟩
  simp only [c,if_true]
  exact Ev.now _
 obtain ⟨u,hu,_,_⟩:=pick_ev hc (p1+1) 5 (by omega) (by omega)
 by_cases c0:u=0
 ·refine ⟨w++[rd_T30 w 0],p1+1+1,Ev.bind hw (Ev.bind hv ?_),by simp,by simp;omega,pgd_app wg ⟨z1,z2,z3⟩,by omega,by omega⟩
  simp only [c,if_false]
  refine Ev.bind hu ?_
  simp only [c0,l0,llt,if_true]
  exact Ev.now _
 by_cases c1:u=1
 ·refine ⟨w.set (0:Int).toNat ⟨(rd_T30 w 0).f0,(rd_T30 w 0).f1,(rd_T30 w 0).f2,10⟩,p1+1+1,Ev.bind hw (Ev.bind hv ?_),hne _,by simp;omega,hset _ ⟨z1,z2,z3⟩,by omega,by omega⟩
  simp only [c,if_false]
  refine Ev.bind hu ?_
  simp only [c0,c1,l0,if_true,if_false]
  exact Ev.now _
 by_cases c2:u=2
 ·obtain ⟨s,hs,sz⟩:=of_sz hc (p1+1+1) ([(⟨#[47,47,65,66,47,97]⟩:ByteArray),(⟨#[]⟩:ByteArray),(⟨#[47,47,97,98]⟩:ByteArray)]:List ByteArray) 6 (by omega) (by omega) (by decide) (by decide)
  refine ⟨w.set (0:Int).toNat ⟨s,(rd_T30 w 0).f1,(rd_T30 w 0).f2,(rd_T30 w 0).f3⟩,p1+1+1+1,Ev.bind hw (Ev.bind hv ?_),hne _,by simp;omega,hset _ ⟨by simp only;omega,z2,z3⟩,by omega,by omega⟩
  simp only [c,if_false]
  refine Ev.bind hu ?_
  simp only [c0,c1,c2,if_true,if_false]
  refine Ev.bind hs ?_
  simp only [l0,if_true]
  exact Ev.now _
 by_cases c3:u=3
 ·refine ⟨w.set (0:Int).toNat ⟨(rd_T30 w 0).f0,(rd_T30 w 0).f1,(⟨#[120]⟩:ByteArray),(rd_T30 w 0).f3⟩,p1+1+1,Ev.bind hw (Ev.bind hv ?_),hne _,by simp;omega,hset _ ⟨z1,z2,by show (⟨#[120]⟩:ByteArray).size≤60;decide⟩,by omega,by omega⟩
  simp only [c,if_false]
  refine Ev.bind hu ?_
  simp only [c0,c1,c2,c3,l0,if_true,if_false]
  exact Ev.now _
 ·obtain ⟨y,g1,g2,g3,g4⟩:=off_l (b:=b) 12 0 w (p1+1+1) rfl (by omega) wg
  refine ⟨y,p1+1+1,Ev.bind hw (Ev.bind hv ?_),g4 wn,g2,g3,by omega,by omega⟩
  simp only [c,if_false]
  refine Ev.bind hu ?_
  simp only [c0,c1,c2,c3,if_false]
  exact g1
theorem where_ev {b:List Int} (hc:Code b) (p:Int) (h0:0≤p) (h1:p≤1000000) (w:List Pg) (wl:w.length≤24) (hw:∀ q ∈ w,Pgd q) :
  ∃ s p',Ev (fun k=>spec_l71Where.f k b p w) (s,p')∧s.size≤60∧p≤p'∧p'≤p+20:=by
 have hF:∀ q:Int,0≤q→q≤1000010→∃ s p',Ev (fun k=>spec_l71Where.j0 k w false b q) (s,p')∧s.size≤60∧q≤p'∧p'≤q+10:=by
  intro q q0 q1
  obtain ⟨s,p',g1,g2,g3,g4⟩:=addr_ev hc q q0 (by omega)
  refine ⟨s,p',Ev_succ ?_,by omega,g3,g4⟩
  simp only [spec_l71Where.j0,Bool.false_eq_true,if_false]
  exact Ev.bind g1 (Ev.now _)
 unfold spec_l71Where.f
 by_cases c:(w.length:Int) > 0
 ·obtain ⟨v,hv,v0,v1⟩:=pick_ev hc p 3 h0 (by omega)
  by_cases c2:v > 0
  ·obtain ⟨u,hu,u0,u1⟩:=pick_ev hc (p+1) (w.length:Int) (by omega) (by omega)
   have u2:=u1 (by omega)
   obtain ⟨m,rfl⟩:=Int.eq_ofNat_of_zero_le u0
   have hlt:m < w.length:=by omega
   have hz:=(hw _ (List.getElem_mem hlt)).1
   refine ⟨w[m].f0,p+1+1,?_,hz,by omega,by omega⟩
   simp only [c,if_true]
   refine Ev.bind hv (Ev_succ ?_)
   simp only [c2,decide_true,spec_l71Where.j0,if_true]
   refine Ev.bind hu ?_
   simp only [u0,u2,if_true]
   rw [rd_pg hlt]
   exact Ev.now _
  ·obtain ⟨s,p',g1,g2,g3,g4⟩:=hF (p+1) (by omega) (by omega)
   refine ⟨s,p',?_,g2,by omega,by omega⟩
   simp only [c,if_true]
   refine Ev.bind hv ?_
   simp only [c2,decide_false]
   exact g1
 ·obtain ⟨s,p',g1,g2,g3,g4⟩:=hF p h0 (by omega)
  refine ⟨s,p',?_,g2,by omega,by omega⟩
  simp only [c,if_false]
  exact g1
theorem big_of {w:List Pg} (h:∀ q ∈ w,Pgd q):(∀ p ∈ w,p.f0.size≤140737488351232∧p.f2.size≤140737488351232)∧(∀ p ∈ w,p.f0.size≤9223372036854775807)∧(∀ p ∈ w,p.f0.size≤1048576∧p.f1.size≤1048576∧p.f2.size≤1048576):=by
 refine ⟨fun p hp=>?_,fun p hp=>?_,fun p hp=>?_⟩ <;> (obtain ⟨h1,h2,h3⟩:=h p hp;omega)
theorem drawFrom_ev (l0:List Int) (hw:∀ x ∈ l0,(Lit.int .u8 x).wf=true):∃ w a,Ev (fun k=>spec_DrawWorldFrom.f k l0) (w,a)∧w.length≤24∧(∀ q ∈ w,Pgd q)∧a.size≤60:=by
 obtain ⟨b,hb,hc⟩:=open_some l0 hw
 obtain ⟨w,p1,h1,_,wl,wg,a1,b1⟩:=off_ev hc 0 (by omega) (by omega)
 obtain ⟨a,p2,h2,az,a2,b2⟩:=where_ev hc p1 (by omega) (by omega) w wl wg
 refine ⟨w,a,?_,wl,wg,az⟩
 unfold spec_DrawWorldFrom.f
 rw [hb]
 simp only [Option.bind_some]
 exact Ev.bind h1 (Ev.bind h2 (Ev.now _))
end Go.Proofs.YtpomhjkbgbociaaGreatDoor.Draw
end
section
namespace Go.Proofs.YtpomhjkbgbociaaGreatDoor.Mk
open Go.RowKit Go.Proofs.YtpomhjkbgbociaaGreatDoor.P Go.Proofs.YtpomhjkbgbociaaGreatDoorW.PrintWords Go.Proofs.YtpomhjkbgbociaaGreatDoorW.PrintLast Go.Proofs.YtpomhjkbgbociaaGreatDoorW.PrintMore Go.Proofs.YtpomhjkbgbociaaGreatDoor.B
set_option linter.unusedVariables false
set_option linter.unusedSimpArgs false
def headIs (m:ByteArray) (c:Int):Bool:=decide (0 < m.size) && (bt m 0 == c)
theorem begins_f (m:ByteArray) (c:Int):impl_beginsWith.f m c=some (headIs m c):=by
 unfold impl_beginsWith.f headIs
 by_cases h:m.size=0
 ·rw [if_pos (toList_nil.2 h)];simp [h]
 ·rw [if_neg (fun e=>h (toList_nil.1 e)),if_pos (by omega)]
  have:0 < m.size:=by omega
  simp [this]
theorem head_f (m:ByteArray) (c:Int) (hc:c≠0):∃ h,spec_l3Head.f m=some h∧(h=c↔headIs m c=true):=by
 unfold spec_l3Head.f headIs
 by_cases h:m.size=0
 ·rw [if_pos (toList_nil.2 h)]
  exact ⟨0,rfl,by simp [h];omega⟩
 ·rw [if_neg (fun e=>h (toList_nil.1 e)),if_pos (by omega)]
  have:0 < m.size:=by omega
  exact ⟨_,rfl,by simp [this]⟩
def isLink (m:ByteArray):Bool:=!headIs m 33 && !headIs m 64
def links (ms:List ByteArray):List ByteArray:=ms.filter isLink
def base (ms:List ByteArray):ByteArray×Bool:=match ms.find? (headIs · 64) with
 | some m=>(m.extract 1 m.size,true)
 | none=>(⟨#[]⟩,false)
theorem links_skip {m:ByteArray} (r:List ByteArray) (h:isLink m=false):links (m :: r)=links r:=by simp [links,h]
theorem links_take {m:ByteArray} (r:List ByteArray) (h:isLink m=true):links (m :: r)=m :: links r:=by simp [links,h]
theorem base_hit {m:ByteArray} (r:List ByteArray) (h:headIs m 64=true):base (m :: r)=(m.extract 1 m.size,true):=by simp [base,h]
theorem base_skip {m:ByteArray} (r:List ByteArray) (h:¬ headIs m 64=true):base (m :: r)=base r:=by simp [base,h]
theorem rdOf_at {l:List ByteArray} {i:Nat} (h:i < l.length):rdOf ByteArray.empty l (i:Int)=l[i]:=by
 unfold rdOf
 rw [List.getD_eq_getElem?_getD,Int.toNat_natCast,List.getElem?_eq_getElem h]
 rfl
theorem impl_links_l (ms:List ByteArray) (hn:ms.length≤1000) (d:Nat):∀ (i:Nat) (acc:List ByteArray),i+d=ms.length→acc.length≤i →
  Ev (fun k=>impl_PageLinks.l0 k acc ms (ms.length:Int) i) (acc++links (ms.drop i)):=by
 induction d with
 | zero=>
  intro i acc hi _
  refine Ev.of (fun k=>impl_PageLinks.mono_l k _ _ _ _) (k:=1) ?_
  simp only [impl_PageLinks.l0]
  rw [if_neg (by omega),List.drop_eq_nil_of_le (by omega)]
  simp [links]
 | succ d ih=>
  intro i acc hi ha
  have hlt:i < ms.length:=by omega
  have hw:wrap64 ((i:Int)+1)=((i+1:Nat):Int):=by rw [w64 (by omega) (by omega)];omega
  rw [List.drop_eq_getElem_cons hlt]
  by_cases h1:headIs ms[i] 33=true
  ·refine Ev.step (fun k=>?_) (by have:=ih (i+1) acc (by omega) (by omega);rwa [links_skip _ (by simp [isLink,h1])])
   simp only [impl_PageLinks.l0,begins_f,rdOf_at hlt,Option.bind_some]
   rw [if_pos (by omega),if_pos (by omega),if_pos (by omega),if_pos h1,hw]
  ·by_cases h2:headIs ms[i] 64=true
   ·refine Ev.step (fun k=>?_) (by have:=ih (i+1) acc (by omega) (by omega);rwa [links_skip _ (by simp [isLink,h2])])
    simp only [impl_PageLinks.l0,begins_f,rdOf_at hlt,Option.bind_some]
    rw [if_pos (by omega),if_pos (by omega),if_pos (by omega),if_neg h1,if_pos h2,hw]
   ·refine Ev.step (fun k=>?_) (by have:=ih (i+1) (acc++[ms[i]]) (by omega) (by simp;omega);rwa [links_take _ (by simp [isLink,h1,h2]),← List.singleton_append,← List.append_assoc])
    simp only [impl_PageLinks.l0,begins_f,rdOf_at hlt,Option.bind_some]
    rw [if_pos (by omega),if_pos (by omega),if_pos (by omega),if_neg h1,if_neg h2,if_pos (by omega),hw]
theorem spec_links_l (ms:List ByteArray) (hn:ms.length≤1000) (d:Nat):∀ (i:Nat) (acc:List ByteArray),i+d=ms.length→acc.length≤i →
  Ev (fun k=>spec_PageLinks.l0 k ms acc i) (acc++links (ms.drop i)):=by
 induction d with
 | zero=>
  intro i acc hi _
  refine Ev.of (fun k=>spec_PageLinks.mono_l k _ _ _) (k:=1) ?_
  simp only [spec_PageLinks.l0]
  rw [if_neg (by omega),List.drop_eq_nil_of_le (by omega)]
  simp [links]
 | succ d ih=>
  intro i acc hi ha
  have hlt:i < ms.length:=by omega
  have hw:wrap64 ((i:Int)+1)=((i+1:Nat):Int):=by rw [w64 (by omega) (by omega)];omega
  rw [List.drop_eq_getElem_cons hlt]
  obtain ⟨a,e1,q1⟩:=head_f ms[i] 33 (by omega)
  obtain ⟨b,e2,q2⟩:=head_f ms[i] 64 (by omega)
  obtain rfl:a=b:=Option.some.inj (e1.symm.trans e2)
  by_cases h1:headIs ms[i] 33=true
  ·refine Ev.step (fun k=>?_) (by have:=ih (i+1) acc (by omega) (by omega);rwa [links_skip _ (by simp [isLink,h1])])
   simp only [spec_PageLinks.l0,rdOf_at hlt,e1,Option.bind_some]
   rw [if_pos (by omega),if_pos (by omega),if_pos (q1.2 h1),hw]
  ·by_cases h2:headIs ms[i] 64=true
   ·refine Ev.step (fun k=>?_) (by have:=ih (i+1) acc (by omega) (by omega);rwa [links_skip _ (by simp [isLink,h2])])
    simp only [spec_PageLinks.l0,rdOf_at hlt,e1,Option.bind_some]
    rw [if_pos (by omega),if_pos (by omega),if_neg (fun e=>h1 (q1.1 e)),if_pos (q2.2 h2),hw]
   ·refine Ev.step (fun k=>?_) (by have:=ih (i+1) (acc++[ms[i]]) (by omega) (by simp;omega);rwa [links_take _ (by simp [isLink,h1,h2]),← List.singleton_append,← List.append_assoc])
    simp only [spec_PageLinks.l0,rdOf_at hlt,e1,Option.bind_some]
    rw [if_pos (by omega),if_pos (by omega),if_neg (fun e=>h1 (q1.1 e)),if_neg (fun e=>h2 (q2.1 e)),if_pos (by omega),hw]
theorem marks_len (s:ByteArray):(marks s).length≤300:=by
 unfold marks
 split
 ·have:=(pmTo_ok s s.size).2.2;omega
 ·simp
theorem impl_links_ev (s:ByteArray):Ev (fun k=>impl_PageLinks.f k s) (links (marks s)):=by
 unfold impl_PageLinks.f impl_pageMarks.f
 simp only [Option.bind_some]
 have h:=impl_links_l (marks s) (by have:=marks_len s;omega) (marks s).length 0 [] (by omega) (by simp)
 simpa using h
theorem spec_links_ev (s:ByteArray) (hs:s.size≤140737488351232):Ev (fun k=>spec_PageLinks.f k s) (links (marks s)):=by
 unfold spec_PageLinks.f
 refine Ev.bind (spec_ev s hs) ?_
 have h:=spec_links_l (marks s) (by have:=marks_len s;omega) (marks s).length 0 [] (by omega) (by simp)
 simpa using h
theorem headIs_pos {m:ByteArray} {c:Int} (h:headIs m c=true):0 < m.size:=by
 unfold headIs at h
 simp at h
 exact h.1
theorem impl_base_l (ms:List ByteArray) (hn:ms.length≤1000) (d:Nat):∀ (i:Nat),i+d=ms.length →
  Ev (fun k=>impl_PageBase.l0 k ms (ms.length:Int) i) (base (ms.drop i)):=by
 induction d with
 | zero=>
  intro i hi
  refine Ev.of (fun k=>impl_PageBase.mono_l k _ _ _) (k:=1) ?_
  simp only [impl_PageBase.l0]
  rw [if_neg (by omega),List.drop_eq_nil_of_le (by omega)]
  simp [base]
 | succ d ih=>
  intro i hi
  have hlt:i < ms.length:=by omega
  have hw:wrap64 ((i:Int)+1)=((i+1:Nat):Int):=by rw [w64 (by omega) (by omega)];omega
  rw [List.drop_eq_getElem_cons hlt]
  by_cases h2:headIs ms[i] 64=true
  ·refine Ev.of (fun k=>impl_PageBase.mono_l k _ _ _) (k:=1) ?_
   have:=headIs_pos h2
   simp only [impl_PageBase.l0,begins_f,rdOf_at hlt,Option.bind_some]
   rw [if_pos (by omega),if_pos (by omega),if_pos (by omega),if_pos h2,if_pos (by omega)]
   rw [base_hit _ h2]
  ·refine Ev.step (fun k=>?_) (by have:=ih (i+1) (by omega);rwa [base_skip _ h2])
   simp only [impl_PageBase.l0,begins_f,rdOf_at hlt,Option.bind_some]
   rw [if_pos (by omega),if_pos (by omega),if_pos (by omega),if_neg h2,hw]
theorem spec_base_l (ms:List ByteArray) (hn:ms.length≤1000) (d:Nat):∀ (i:Nat),i+d=ms.length →
  Ev (fun k=>spec_PageBase.l0 k ms i) (base (ms.drop i)):=by
 induction d with
 | zero=>
  intro i hi
  refine Ev.of (fun k=>spec_PageBase.mono_l k _ _) (k:=1) ?_
  simp only [spec_PageBase.l0]
  rw [if_neg (by omega),List.drop_eq_nil_of_le (by omega)]
  simp [base]
 | succ d ih=>
  intro i hi
  have hlt:i < ms.length:=by omega
  have hw:wrap64 ((i:Int)+1)=((i+1:Nat):Int):=by rw [w64 (by omega) (by omega)];omega
  rw [List.drop_eq_getElem_cons hlt]
  obtain ⟨a,e1,q2⟩:=head_f ms[i] 64 (by omega)
  by_cases h2:headIs ms[i] 64=true
  ·refine Ev.of (fun k=>spec_PageBase.mono_l k _ _) (k:=1) ?_
   have:=headIs_pos h2
   simp only [spec_PageBase.l0,rdOf_at hlt,e1,Option.bind_some]
   rw [if_pos (by omega),if_pos (by omega),if_pos (q2.2 h2),if_pos (by omega)]
   rw [base_hit _ h2]
  ·refine Ev.step (fun k=>?_) (by have:=ih (i+1) (by omega);rwa [base_skip _ h2])
   simp only [spec_PageBase.l0,rdOf_at hlt,e1,Option.bind_some]
   rw [if_pos (by omega),if_pos (by omega),if_neg (fun e=>h2 (q2.1 e)),hw]
theorem impl_base_ev (s:ByteArray):Ev (fun k=>impl_PageBase.f k s) (base (marks s)):=by
 unfold impl_PageBase.f impl_pageMarks.f
 simp only [Option.bind_some]
 have h:=impl_base_l (marks s) (by have:=marks_len s;omega) (marks s).length 0 (by omega)
 simpa using h
theorem spec_base_ev (s:ByteArray) (hs:s.size≤140737488351232):Ev (fun k=>spec_PageBase.f k s) (base (marks s)):=by
 unfold spec_PageBase.f
 refine Ev.bind (spec_ev s hs) ?_
 have h:=spec_base_l (marks s) (by have:=marks_len s;omega) (marks s).length 0 (by omega)
 simpa using h
theorem links_len (ms:List ByteArray):(links ms).length≤ms.length:=List.length_filter_le _ _
end Go.Proofs.YtpomhjkbgbociaaGreatDoor.Mk
end
section
namespace Go.Proofs.YtpomhjkbgbociaaGreatDoor.Ad
open Go.RowKit Go.Proofs.YtpomhjkbgbociaaGreatDoor.P Go.Proofs.YtpomhjkbgbociaaGreatDoorW.PrintWords Go.Proofs.YtpomhjkbgbociaaGreatDoorW.PrintLast Go.Proofs.YtpomhjkbgbociaaGreatDoorW.PrintMore Go.Proofs.YtpomhjkbgbociaaGreatDoor.B Go.Proofs.YtpomhjkbgbociaaGreatDoor.Mk
set_option linter.unusedVariables false
set_option linter.unusedSimpArgs false
def hasB (l:List ByteArray) (s:ByteArray):Bool:=l.any fun x=>x.toList == s.toList
theorem hasB_iff {l:List ByteArray} {s:ByteArray}:hasB l s=true↔s ∈ l:=by
  unfold hasB
  rw [List.any_eq_true]
  constructor
  · rintro ⟨x,hx,he⟩
    rw [← toList_inj.1 (beq_iff_eq.1 he)];exact hx
  · intro h
    exact ⟨s,h,beq_self_eq_true _⟩
def putL (l:List ByteArray) (s:ByteArray):List ByteArray:=if hasB l s=true then l else l++[s]
theorem putL_len (l:List ByteArray) (s:ByteArray):(putL l s).length≤l.length+1:=by unfold putL;split <;> simp
theorem putL_mem {l:List ByteArray} {s x:ByteArray}:x ∈ putL l s↔x ∈ l∨x=s:=by
  unfold putL
  split
  · rename_i h
    exact ⟨Or.inl,fun h'=>h'.elim id (fun e=>e ▸ hasB_iff.1 h)⟩
  · simp
theorem putL_nodup {l:List ByteArray} {s:ByteArray} (h:l.Nodup):(putL l s).Nodup:=by
  unfold putL
  split
  · exact h
  · rename_i hs
    rw [List.nodup_append]
    refine ⟨h,by simp,fun a ha b hb=>?_⟩
    rw [List.mem_singleton] at hb
    subst hb
    exact fun e=>hs (hasB_iff.2 (e ▸ ha))
theorem toList_eq_iff {a b:ByteArray}:a.toList=b.toList↔a=b:=toList_inj
theorem put_ev_l (l:List ByteArray) (s:ByteArray) (hl:l.length≤1000000) (d:Nat):∀ (i:Nat),i+d=l.length→s ∉ l.take i→Ev (fun k=>spec_l3Put.l0 k l s (i:Int)) (putL l s):=by
  induction d with
  | zero=>
    intro i hi hn
    rw [List.take_of_length_le (by omega)] at hn
    refine Ev_succ ?_
    simp only [spec_l3Put.l0,show ¬ ((i:Int) < (l.length:Int)) from by omega,if_false,show l.length < 8796093022208 from by omega,if_true]
    unfold putL
    rw [if_neg (fun h=>hn (hasB_iff.1 h))]
    exact Ev.now _
  | succ d ih=>
    intro i hi hn
    have hlt:i < l.length:=by omega
    have hr:=rd_at hlt
    have w1:=w64n1 i (by omega)
    refine Ev_succ ?_
    simp only [spec_l3Put.l0,show ((i:Int) < (l.length:Int)) from by omega,ci_nn i,if_true,hr]
    by_cases h:l[i].toList=s.toList
    · simp only [h,if_true]
      unfold putL
      rw [if_pos (hasB_iff.2 (by rw [← toList_inj.1 h];exact List.getElem_mem hlt))]
      exact Ev.now _
    · simp only [h,if_false]
      rw [w1]
      refine ih (i+1) (by omega) ?_
      rw [List.take_succ_eq_append_getElem hlt,List.mem_append,List.mem_singleton]
      rintro (h'|h')
      · exact hn h'
      · exact h (by rw [h'])
theorem put_ev (l:List ByteArray) (s:ByteArray) (hl:l.length≤1000000):Ev (fun k=>spec_l3Put.f k l s) (putL l s):=put_ev_l l s hl l.length 0 (by omega) (by simp)
theorem has_i_l (l:List ByteArray) (s:ByteArray) (hl:l.length≤1000000) (d:Nat):∀ (i:Nat),i+d=l.length→s ∉ l.take i→∃ r:Int,Ev (fun k=>slices_Index_string_string.l0 k l s (l.length:Int) (i:Int)) r∧(0≤r↔s ∈ l):=by
  induction d with
  | zero=>
    intro i hi hn
    rw [List.take_of_length_le (by omega)] at hn
    refine ⟨-1,Ev_succ ?_,⟨fun h=>by omega,fun h=>absurd h hn⟩⟩
    simp only [slices_Index_string_string.l0,show ¬ ((i:Int) < (l.length:Int)) from by omega,if_false]
    exact Ev.now _
  | succ d ih=>
    intro i hi hn
    have hlt:i < l.length:=by omega
    have hr:=rd_at hlt
    have w1:=w64n1 i (by omega)
    by_cases h:s.toList=l[i].toList
    · refine ⟨(i:Int),Ev_succ ?_,⟨fun _=>by rw [toList_inj.1 h];exact List.getElem_mem hlt,fun _=>ci_nn i⟩⟩
      simp only [slices_Index_string_string.l0,show ((i:Int) < (l.length:Int)) from by omega,ci_nn i,if_true,hr,h]
      exact Ev.now _
    · obtain ⟨r,h1,h2⟩:=ih (i+1) (by omega) (by
        rw [List.take_succ_eq_append_getElem hlt,List.mem_append,List.mem_singleton]
        rintro (h'|h')
        · exact hn h'
        · exact h (by rw [h']))
      refine ⟨r,Ev_succ ?_,h2⟩
      simp only [slices_Index_string_string.l0,show ((i:Int) < (l.length:Int)) from by omega,ci_nn i,if_true,hr,h,if_false]
      rw [w1]
      exact h1
theorem has_i (l:List ByteArray) (s:ByteArray) (hl:l.length≤1000000):Ev (fun k=>slices_Contains_string_string.f k l s) (hasB l s):=by
  obtain ⟨r,h1,h2⟩:=has_i_l l s hl l.length 0 (by omega) (by simp)
  unfold slices_Contains_string_string.f slices_Index_string_string.f
  refine Ev.bind h1 ?_
  rw [show hasB l s=decide (r ≥ 0) from by rw [Bool.eq_iff_iff,hasB_iff];simp [h2.symm]]
  exact Ev.now _
def addrs1 (h:ByteArray) (ps:List ByteArray) (asks:Bool) (ask:ByteArray) (out:List ByteArray) (link:ByteArray):List ByteArray:=
  if (joinO h ps asks ask link).2.2.2.2=true then putL out (addrText (joinO h ps asks ask link).1 (joinO h ps asks ask link).2.1 (joinO h ps asks ask link).2.2.1 (joinO h ps asks ask link).2.2.2.1) else out
def addrsL (h:ByteArray) (ps:List ByteArray) (asks:Bool) (ask:ByteArray) (ls:List ByteArray):List ByteArray:=ls.foldl (addrs1 h ps asks ask) []
def from5 (h:ByteArray) (ps:List ByteArray) (asks:Bool) (ask:ByteArray) (b:ByteArray×Bool):A5:=
  if b.2=true then (if (joinO h ps asks ask b.1).2.2.2.2=true then joinO h ps asks ask b.1 else (h,ps,asks,ask,true)) else (h,ps,asks,ask,true)
def pageAddrs (h:ByteArray) (ps:List ByteArray) (asks:Bool) (ask text:ByteArray):List ByteArray:=
  if addrOk h ps asks ask=true then addrsL (from5 h ps asks ask (base (marks text))).1 (from5 h ps asks ask (base (marks text))).2.1 (from5 h ps asks ask (base (marks text))).2.2.1 (from5 h ps asks ask (base (marks text))).2.2.2.1 (links (marks text)) else []
theorem addrs1_len (h:ByteArray) (ps:List ByteArray) (asks:Bool) (ask:ByteArray) (out:List ByteArray) (link:ByteArray):(addrs1 h ps asks ask out link).length≤out.length+1:=by
  unfold addrs1
  split
  · exact putL_len _ _
  · omega
theorem base_size (ms:List ByteArray) (n:Nat) (h:∀ m ∈ ms,m.size≤n):(base ms).1.size≤n:=by
  unfold base
  split
  · rename_i m hm
    have:=h m (List.mem_of_find?_eq_some hm)
    show (m.extract 1 m.size).size≤n
    rw [ByteArray.size_extract];omega
  · exact Nat.zero_le _
theorem pmTo_size (s:ByteArray) (k:Nat):∀ m ∈ (pmTo s k).1,m.size≤s.size:=by
  induction k with
  | zero=>intro m hm;simp [pmTo] at hm
  | succ k ih=>
    intro m hm
    unfold pmTo at hm
    unfold pmStep at hm
    repeat' split at hm
    all_goals first
      | exact ih m hm
      | (rcases List.mem_append.1 hm with h|h
         · exact ih m h
         · rw [List.mem_singleton.1 h,ByteArray.size_extract];omega)
theorem marks_size (s:ByteArray):∀ m ∈ marks s,m.size≤300:=by
  intro m hm
  unfold marks at hm
  split at hm
  · have:=pmTo_size s s.size m hm;omega
  · cases hm
theorem addrs_i (h:ByteArray) (ps:List ByteArray) (asks:Bool) (ask:ByteArray) (ls:List ByteArray) (hP:Parts ps) (hq:ask.size≤1048576) (hh:h.size≤1048576) (hl:ls.length≤300) (d:Nat):∀ (i:Nat) (out:List ByteArray),i+d=ls.length→out.length≤i →
    Ev (fun k=>impl_PageAddrs.l0 k out ls (ls.length:Int) (i:Int) h ps asks ask) ((ls.drop i).foldl (addrs1 h ps asks ask) out):=by
  induction d with
  | zero=>
    intro i out hi ho
    rw [List.drop_eq_nil_of_le (by omega)]
    refine Ev_succ ?_
    simp only [impl_PageAddrs.l0,show ¬ ((i:Int) < (ls.length:Int)) from by omega,if_false]
    exact Ev.now _
  | succ d ih=>
    intro i out hi ho
    have hlt:i < ls.length:=by omega
    have hr:=rd_at hlt
    have w1:=w64n1 i (by omega)
    have f1:(i:Int) < (ls.length:Int):=by omega
    rw [List.drop_eq_getElem_cons hlt,List.foldl_cons]
    generalize ls[i]=p at hr ⊢
    have hj:=join_i h ps asks ask p hP hq hh
    have hF:=fine_join h ps asks ask p
    have next:=ih (i+1) (addrs1 h ps asks ask out p) (by omega) (by have:=addrs1_len h ps asks ask out p;omega)
    refine Ev_succ ?_
    simp only [impl_PageAddrs.l0,f1,ci_nn i,if_true,hr]
    rw [w1]
    refine Ev.bind hj ?_
    rw [show addrs1 h ps asks ask out p=if (joinO h ps asks ask p).2.2.2.2=true then putL out (addrText (joinO h ps asks ask p).1 (joinO h ps asks ask p).2.1 (joinO h ps asks ask p).2.2.1 (joinO h ps asks ask p).2.2.2.1) else out from rfl] at next ⊢
    generalize joinO h ps asks ask p=x at hF next ⊢
    by_cases hx:x.2.2.2.2=true
    · obtain ⟨q1,q2,q3⟩:=fine_parts hF
      simp only [hx,if_true] at next ⊢
      refine Ev.bind (addrText_i x.1 x.2.1 x.2.2.1 x.2.2.2.1 q1 (by omega) (by omega)) ?_
      generalize addrText x.1 x.2.1 x.2.2.1 x.2.2.2.1=t at next
      refine Ev.bind (has_i out t (by omega)) ?_
      unfold putL at next ⊢
      by_cases ht:hasB out t=true
      · simp only [ht,if_true] at next ⊢
        exact next
      · simp only [ht,Bool.false_eq_true,if_false,show out.length < 8796093022208 from by omega,if_true] at next ⊢
        exact next
    · simp only [hx,Bool.false_eq_true,if_false] at next ⊢
      exact next
theorem pageAddrs_i (h:ByteArray) (ps:List ByteArray) (asks:Bool) (ask text:ByteArray) (hP:Parts ps) (hq:ask.size≤1048576) (hh:h.size≤1048576) :
    Ev (fun k=>impl_PageAddrs.f k h ps asks ask text) (pageAddrs h ps asks ask text):=by
  have hlen:(links (marks text)).length≤300:=Nat.le_trans (links_len _) (marks_len text)
  have main:∀ (h:ByteArray) (ps:List ByteArray) (asks:Bool) (ask:ByteArray),Parts ps→ask.size≤1048576→h.size≤1048576→Ev (fun k=>impl_PageAddrs.j0 k text h ps asks ask) (addrsL h ps asks ask (links (marks text))):=fun h ps asks ask hP hq hh=>by
    refine Ev_succ ?_
    simp only [impl_PageAddrs.j0]
    refine Ev.bind (impl_links_ev text) ?_
    exact addrs_i h ps asks ask _ hP hq hh hlen _ 0 [] (Nat.zero_add _) (by simp)
  unfold impl_PageAddrs.f pageAddrs
  refine Ev.bind (addrOk_i h ps asks ask hP hq hh) ?_
  by_cases ho:addrOk h ps asks ask=true
  · simp only [ho,if_true]
    refine Ev.bind (impl_base_ev text) ?_
    unfold from5
    by_cases hb:(base (marks text)).2=true
    · simp only [hb,if_true]
      have hF:=fine_join h ps asks ask (base (marks text)).1
      refine Ev.bind (join_i h ps asks ask (base (marks text)).1 hP hq hh) ?_
      generalize joinO h ps asks ask (base (marks text)).1=x at hF
      obtain ⟨q1,q2,q3⟩:=fine_parts hF
      by_cases hx:x.2.2.2.2=true
      · simp only [hx,if_true]
        exact main x.1 x.2.1 x.2.2.1 x.2.2.2.1 q1 (by omega) (by omega)
      · simp only [hx,if_false]
        exact main h ps asks ask hP hq hh
    · simp only [hb,if_false]
      exact main h ps asks ask hP hq hh
  · simp only [ho,if_false]
    exact Ev.now _
theorem addrs_ev (h:ByteArray) (ps:List ByteArray) (asks:Bool) (ask:ByteArray) (ls:List ByteArray) (hP:Parts ps) (hq:ask.size≤1048576) (hh:h.size≤1048576) (hl:ls.length≤300) (hz:∀ m ∈ ls,m.size≤300) (d:Nat):∀ (i:Nat) (out:List ByteArray),i+d=ls.length→out.length≤i →
    Ev (fun k=>spec_PageAddrs.l0 k out ls (i:Int) h ps asks ask) ((ls.drop i).foldl (addrs1 h ps asks ask) out):=by
  induction d with
  | zero=>
    intro i out hi ho
    rw [List.drop_eq_nil_of_le (by omega)]
    refine Ev_succ ?_
    simp only [spec_PageAddrs.l0,show ¬ ((i:Int) < (ls.length:Int)) from by omega,if_false]
    exact Ev.now _
  | succ d ih=>
    intro i out hi ho
    have hlt:i < ls.length:=by omega
    have hr:=rd_at hlt
    have w1:=w64n1 i (by omega)
    have f1:(i:Int) < (ls.length:Int):=by omega
    have hm:=hz ls[i] (List.getElem_mem hlt)
    rw [List.drop_eq_getElem_cons hlt,List.foldl_cons]
    generalize ls[i]=p at hr hm ⊢
    have hj:=join_ev h ps asks ask p hP hq hh (by omega)
    have hF:=fine_join h ps asks ask p
    have next:=ih (i+1) (addrs1 h ps asks ask out p) (by omega) (by have:=addrs1_len h ps asks ask out p;omega)
    refine Ev_succ ?_
    simp only [spec_PageAddrs.l0,f1,ci_nn i,if_true,hr]
    rw [w1]
    refine Ev.bind hj ?_
    rw [show addrs1 h ps asks ask out p=if (joinO h ps asks ask p).2.2.2.2=true then putL out (addrText (joinO h ps asks ask p).1 (joinO h ps asks ask p).2.1 (joinO h ps asks ask p).2.2.1 (joinO h ps asks ask p).2.2.2.1) else out from rfl] at next ⊢
    generalize joinO h ps asks ask p=x at hF next ⊢
    by_cases hx:x.2.2.2.2=true
    · obtain ⟨q1,q2,q3⟩:=fine_parts hF
      simp only [hx,if_true] at next ⊢
      refine Ev.bind (addrText_ev x.1 x.2.1 x.2.2.1 x.2.2.2.1 q1 (by omega) (by omega)) ?_
      generalize addrText x.1 x.2.1 x.2.2.1 x.2.2.2.1=t at next
      refine Ev.bind (put_ev out t (by omega)) ?_
      exact next
    · simp only [hx,Bool.false_eq_true,if_false] at next ⊢
      exact next
theorem links_size (text:ByteArray):∀ m ∈ links (marks text),m.size≤300:=fun m hm=>marks_size text m (List.mem_filter.1 hm).1
theorem pageAddrs_ev (h:ByteArray) (ps:List ByteArray) (asks:Bool) (ask text:ByteArray) (hP:Parts ps) (hq:ask.size≤1048576) (hh:h.size≤1048576) (hs:text.size≤140737488351232) :
    Ev (fun k=>spec_PageAddrs.f k h ps asks ask text) (pageAddrs h ps asks ask text):=by
  have hlen:(links (marks text)).length≤300:=Nat.le_trans (links_len _) (marks_len text)
  have main:∀ (h:ByteArray) (ps:List ByteArray) (asks:Bool) (ask:ByteArray),Parts ps→ask.size≤1048576→h.size≤1048576→Ev (fun k=>spec_PageAddrs.j0 k text [] h ps asks ask) (addrsL h ps asks ask (links (marks text))):=fun h ps asks ask hP hq hh=>by
    refine Ev_succ ?_
    simp only [spec_PageAddrs.j0]
    refine Ev.bind (spec_links_ev text hs) ?_
    exact addrs_ev h ps asks ask _ hP hq hh hlen (links_size text) _ 0 [] (Nat.zero_add _) (by simp)
  unfold spec_PageAddrs.f pageAddrs
  simp only [Option.bind_some]
  refine Ev.bind (addrOk_ev h ps asks ask hP hq hh) ?_
  by_cases ho:addrOk h ps asks ask=true
  · simp only [ho,if_true]
    refine Ev.bind (spec_base_ev text hs) ?_
    unfold from5
    by_cases hb:(base (marks text)).2=true
    · simp only [hb,if_true]
      have hF:=fine_join h ps asks ask (base (marks text)).1
      have hz:=base_size (marks text) 300 (marks_size text)
      refine Ev.bind (join_ev h ps asks ask (base (marks text)).1 hP hq hh (by omega)) ?_
      generalize joinO h ps asks ask (base (marks text)).1=x at hF
      obtain ⟨q1,q2,q3⟩:=fine_parts hF
      by_cases hx:x.2.2.2.2=true
      · simp only [hx,if_true]
        exact main x.1 x.2.1 x.2.2.1 x.2.2.2.1 q1 (by omega) (by omega)
      · simp only [hx,if_false]
        exact main h ps asks ask hP hq hh
    · simp only [hb,if_false]
      exact main h ps asks ask hP hq hh
  · simp only [ho,if_false]
    exact Ev.now _
theorem pageAddrs_len (h:ByteArray) (ps:List ByteArray) (asks:Bool) (ask text:ByteArray):(pageAddrs h ps asks ask text).length≤300:=by
  have key:∀ (h:ByteArray) (ps:List ByteArray) (asks:Bool) (ask:ByteArray) (ls out:List ByteArray),(ls.foldl (addrs1 h ps asks ask) out).length≤out.length+ls.length:=by
    intro h ps asks ask ls
    induction ls with
    | nil=>intro out;simp
    | cons p ls ih=>
      intro out
      rw [List.foldl_cons]
      have:=ih (addrs1 h ps asks ask out p)
      have:=addrs1_len h ps asks ask out p
      simp only [List.length_cons];omega
  unfold pageAddrs
  split
  · have:=key (from5 h ps asks ask (base (marks text))).1 (from5 h ps asks ask (base (marks text))).2.1 (from5 h ps asks ask (base (marks text))).2.2.1 (from5 h ps asks ask (base (marks text))).2.2.2.1 (links (marks text)) []
    have:=Nat.le_trans (links_len _) (marks_len text)
    unfold addrsL
    simp only [List.length_nil] at *
    omega
  · exact Nat.zero_le _
end Go.Proofs.YtpomhjkbgbociaaGreatDoor.Ad
end
section
namespace Go.Proofs.YtpomhjkbgbociaaGreatDoor.Wd
open Go.RowKit Go.Proofs.YtpomhjkbgbociaaGreatDoor.P Go.Proofs.YtpomhjkbgbociaaGreatDoorW.PrintWords Go.Proofs.YtpomhjkbgbociaaGreatDoorW.PrintLast Go.Proofs.YtpomhjkbgbociaaGreatDoorW.PrintMore Go.Proofs.YtpomhjkbgbociaaGreatDoor.B Go.Proofs.YtpomhjkbgbociaaGreatDoor.Ad Go.Proofs.YtpomhjkbgbociaaGreatDoor.Mk
set_option linter.unusedVariables false
set_option linter.unusedSimpArgs false
def leadsO (a:ByteArray) (g:Int×ByteArray):List ByteArray:=
 if g.1=1 then pageAddrs (readO a).1 (readO a).2.1 (readO a).2.2.1 (readO a).2.2.2.1 g.2 else if g.1=2 then [g.2] else []
def fromO (l:List Pg) (a:ByteArray):List ByteArray:=if (worldOk l && norm a)=true then leadsO a (getF l a 2) else []
theorem leads_s (a:ByteArray) (ha:a.size≤140737488351232) (g:Int×ByteArray) (hg:g.1=1→g.2.size≤140737488351232):Ev (fun k=>spec_l11From.f k a g.1 g.2) (leadsO a g):=by
 obtain ⟨q1,q2,q3⟩:=fine_parts (fine_read a)
 unfold spec_l11From.f leadsO
 by_cases h1:g.1=1
 ·simp only [h1,if_true]
  exact Ev.bind (read_ev a ha) (Ev.bind (pageAddrs_ev _ _ _ _ _ q1 (by omega) (by omega) (hg h1)) (Ev.now _))
 ·by_cases h2:g.1=2
  ·simp only [h1,h2,if_true,if_false];exact Ev.now _
  ·simp only [h1,h2,if_false];exact Ev.now _
theorem leads_i (a:ByteArray) (g:Int×ByteArray):Ev (fun k=>impl_leads.f k (readO a).1 (readO a).2.1 (readO a).2.2.1 (readO a).2.2.2.1 g.1 g.2) (leadsO a g):=by
 obtain ⟨q1,q2,q3⟩:=fine_parts (fine_read a)
 unfold impl_leads.f leadsO
 by_cases h1:g.1=1
 ·simp only [h1,if_true]
  exact Ev.bind (pageAddrs_i _ _ _ _ _ q1 (by omega) (by omega)) (Ev.now _)
 ·by_cases h2:g.1=2
  ·simp only [h1,h2,if_true,if_false];exact Ev.now _
  ·simp only [h1,h2,if_false];exact Ev.now _
theorem getF_size (l:List Pg) (hs:∀ p ∈ l,p.f1.size≤1048576) (a:ByteArray):(getF l a 2).1=1→(getF l a 2).2.size≤140737488351232:=by
 unfold getF
 rw [at_find]
 cases hq:l.reverse.find? fun q=>decide (q.f0=a) with
 | none=>simp
 | some p=>
  have hp:=hs p (List.mem_reverse.1 (List.mem_of_find?_eq_some hq))
  simp only
  split
  ·simp
  ·split
   ·simp
   ·split
    ·intro _;simp only;omega
    ·simp
theorem from_s (l:List Pg) (hl:l.length≤1048576) (hs:∀ p ∈ l,p.f0.size≤1048576∧p.f1.size≤1048576∧p.f2.size≤1048576) (a:ByteArray) (ha:a.size≤140737488351232):Ev (fun k=>spec_WorldFrom.f k l a) (fromO l a):=by
 unfold spec_WorldFrom.f fromO
 have stop:Ev (fun k=>spec_WorldFrom.j0 k l a true) []:=Ev_succ (by simp only [spec_WorldFrom.j0,if_true];exact Ev.now _)
 refine Ev.bind (worldOk_s l hl (fun p hp=>by have:=hs p hp;omega)) ?_
 by_cases hw:worldOk l=true
 ·have hf:fresh l.reverse=true:=by
   unfold worldOk at hw
   simp only [Bool.and_eq_true] at hw
   exact hw.2
  simp only [hw,if_true,Bool.true_and]
  refine Ev.bind (norm_s a ha) ?_
  by_cases hn:norm a=true
  ·simp only [hn,if_true,Bool.not_true]
   refine Ev_succ ?_
   simp only [spec_WorldFrom.j0,Bool.false_eq_true,if_false]
   unfold spec_l11Last.f
   exact Ev.bind (Ev.bind (get_s l hl hf a 2 (by omega)) (Ev.now _)) (Ev.bind (leads_s a ha _ (getF_size l (fun p hp=>(hs p hp).2.1) a)) (Ev.now _))
  ·have hn':norm a=false:=by simpa using hn
   simp only [hn',Bool.not_false,Bool.false_eq_true,if_false]
   exact stop
 ·have hw':worldOk l=false:=by simpa using hw
  simp only [hw',Bool.false_eq_true,if_false,Bool.false_and]
  exact stop
theorem from_i (l:List Pg) (hs:∀ p ∈ l,p.f0.size≤9223372036854775807) (a:ByteArray) (ha:a.size≤9223372036854775807):Ev (fun k=>impl_WorldFrom.f k l a) (fromO l a):=by
 unfold impl_WorldFrom.f fromO
 simp only [ha,if_true]
 obtain ⟨b,hb,n1,n2⟩:=made2 l hs
 refine Ev.bind hb ?_
 cases b with
 | false=>
  rw [n1 rfl]
  simp only [Bool.false_eq_true,if_false,Bool.false_and]
  exact Ev.now _
 | true=>
  rw [n2 rfl]
  simp only [if_true]
  cases worldOk l with
  | false=>simp only [Bool.false_eq_true,if_false,Bool.false_and];exact Ev.now _
  | true=>
   simp only [if_true,Bool.true_and]
   unfold fromF
   refine Ev.bind (readAddr_i a) ?_
   by_cases hn:norm a=true
   ·rw [if_pos hn,if_pos hn]
    simp only [if_true]
    exact leads_i a _
   ·rw [if_neg hn,if_neg hn]
    exact Ev.now _
theorem fromO_len (l:List Pg) (a:ByteArray):(fromO l a).length≤300:=by
 unfold fromO leadsO
 split
 ·split
  ·exact pageAddrs_len _ _ _ _ _
  ·split <;> simp
 ·simp
end Go.Proofs.YtpomhjkbgbociaaGreatDoor.Wd
end
section
namespace Go.Proofs.YtpomhjkbgbociaaGreatDoor.Pure
open Go.RowKit Go.Proofs.YtpomhjkbgbociaaGreatDoor.P Go.Proofs.YtpomhjkbgbociaaGreatDoorW.PrintWords Go.Proofs.YtpomhjkbgbociaaGreatDoorW.PrintLast Go.Proofs.YtpomhjkbgbociaaGreatDoorW.PrintMore Go.Proofs.YtpomhjkbgbociaaGreatDoor.Mk Go.Proofs.YtpomhjkbgbociaaGreatDoor.B Go.Proofs.YtpomhjkbgbociaaGreatDoor.Ad
set_option linter.unusedSimpArgs false
set_option linter.unusedVariables false
def Told (x:ByteArray):Prop:=∃ h ps asks ask,addrOk h ps asks ask=true∧x=textB h ps asks ask
theorem told_text {a:A5} (h:Fine a) (hx:a.2.2.2.2=true):Told (addrText a.1 a.2.1 a.2.2.1 a.2.2.2.1):=by
 rcases h with rfl|⟨_,h⟩
 ·cases hx
 ·exact ⟨_,_,_,_,h,by unfold addrText;rw [if_pos h]⟩
theorem told_l (h:ByteArray) (ps:List ByteArray) (asks:Bool) (ask:ByteArray):∀ (ls out:List ByteArray),out.Nodup→(∀ x ∈ out,Told x)→(ls.foldl (addrs1 h ps asks ask) out).Nodup∧∀ x ∈ ls.foldl (addrs1 h ps asks ask) out,Told x
 | [],out,h1,h2=>⟨h1,h2⟩
 | p :: ls,out,h1,h2=>by
  rw [List.foldl_cons]
  have hF:=fine_join h ps asks ask p
  refine told_l h ps asks ask ls _ ?_ ?_
  ·unfold addrs1
   split
   ·exact putL_nodup h1
   ·exact h1
  ·unfold addrs1
   split
   ·rename_i hx
    intro x hm
    rcases putL_mem.1 hm with hm|rfl
    ·exact h2 x hm
    ·exact told_text hF hx
   ·exact h2
theorem told_all (h:ByteArray) (ps:List ByteArray) (asks:Bool) (ask text:ByteArray):(pageAddrs h ps asks ask text).Nodup∧∀ x ∈ pageAddrs h ps asks ask text,Told x:=by
 unfold pageAddrs
 split
 ·exact told_l _ _ _ _ _ [] List.nodup_nil (by simp)
 ·exact ⟨List.nodup_nil,by simp⟩
end Go.Proofs.YtpomhjkbgbociaaGreatDoor.Pure
end
section
namespace Go.Proofs.YtpomhjkbgbociaaGreatDoor.Pure
open Go.RowKit Go.Proofs.YtpomhjkbgbociaaGreatDoor.P Go.Proofs.YtpomhjkbgbociaaGreatDoorW.PrintWords Go.Proofs.YtpomhjkbgbociaaGreatDoorW.PrintLast Go.Proofs.YtpomhjkbgbociaaGreatDoorW.PrintMore Go.Proofs.YtpomhjkbgbociaaGreatDoor.Mk Go.Proofs.YtpomhjkbgbociaaGreatDoor.B Go.Proofs.YtpomhjkbgbociaaGreatDoor.Ad Go.Proofs.YtpomhjkbgbociaaGreatDoor.Wd
set_option linter.unusedSimpArgs false
set_option linter.unusedVariables false
theorem norm_told {s:ByteArray} (h:norm s=true):Told s:=by
 unfold norm at h
 rw [Bool.and_eq_true,beq_iff_eq] at h
 have ho:addrOk (readO s).1 (readO s).2.1 (readO s).2.2.1 (readO s).2.2.2.1=true:=by
  rcases fine_read s with e|e
  ·rw [e] at h;cases h.1
  ·exact e.2
 exact ⟨_,_,_,_,ho,(toList_inj.1 h.2).symm⟩
theorem norm_nil:norm (⟨#[]⟩:ByteArray)=false:=by decide +kernel
theorem ok_page {w:List Pg} (hk:worldOk w=true) {p:Pg} (hp:p ∈ w):pgOk p=true:=by
 unfold worldOk at hk
 simp only [Bool.and_eq_true] at hk
 exact List.all_eq_true.1 hk.1.2 p hp
theorem get_last {w:List Pg} (hk:worldOk w=true) (a:ByteArray):(getF w a 2).1=0∨(norm a=true∧((getF w a 2).1=2→norm (getF w a 2).2=true)):=by
 unfold getF
 rw [at_find]
 cases hq:w.reverse.find? fun q=>decide (q.f0=a) with
 | none=>exact .inl rfl
 | some p=>
  right
  have hp:=ok_page hk (List.mem_reverse.1 (List.mem_of_find?_eq_some hq))
  have ep:p.f0=a:=by simpa using List.find?_some hq
  unfold pgOk at hp
  simp only [Bool.and_eq_true,Bool.or_eq_true] at hp
  obtain ⟨⟨⟨⟨h1,h2⟩,h3⟩,h4⟩,h5⟩:=hp
  refine ⟨by rw [← ep];exact h1,?_⟩
  simp only [show ¬ ((2:Int) < 0) from by decide,if_false]
  split
  ·intro e;cases e
  ·split
   ·intro e;cases e
   ·rename_i hl
    intro _
    rcases h5 with h5|h5
    ·exact absurd (by simpa using h5) hl
    ·exact h5.1
theorem from_is {w:List Pg} (hk:worldOk w=true) (a:ByteArray):fromO w a=leadsO a (getF w a 2):=by
 unfold fromO
 rcases get_last hk a with h|⟨h,_⟩
 ·split
  ·rfl
  ·unfold leadsO;rw [h];rfl
 ·rw [if_pos (by rw [hk,h];rfl)]
theorem from_told (w:List Pg) (a:ByteArray):(fromO w a).Nodup∧∀ x ∈ fromO w a,Told x:=by
 by_cases hk:worldOk w=true
 ·rw [from_is hk]
  unfold leadsO
  split
  ·exact told_all _ _ _ _ _
  ·split
   ·rename_i h2
    refine ⟨by simp,fun x hx=>?_⟩
    rw [List.mem_singleton.1 hx]
    rcases get_last hk a with h|⟨_,h⟩
    ·rw [h] at h2;cases h2
    ·exact norm_told (h h2)
   ·exact ⟨List.nodup_nil,by simp⟩
 ·unfold fromO
  rw [if_neg (by simp [hk])]
  exact ⟨List.nodup_nil,by simp⟩
end Go.Proofs.YtpomhjkbgbociaaGreatDoor.Pure
end
section
namespace Go.Proofs.YtpomhjkbgbociaaGreatDoor.Lp
open Go.RowKit Go.Proofs.YtpomhjkbgbociaaGreatDoor.P Go.Proofs.YtpomhjkbgbociaaGreatDoorW.PrintWords Go.Proofs.YtpomhjkbgbociaaGreatDoorW.PrintLast Go.Proofs.YtpomhjkbgbociaaGreatDoorW.PrintMore Go.Proofs.YtpomhjkbgbociaaGreatDoor.B
set_option linter.unusedVariables false
set_option linter.unusedSimpArgs false
theorem eqS_l (l:List ByteArray) (hn:l.length < 1152921504606846976) (d:Nat):∀ (i:Nat),i+d=l.length→Ev (fun k=>laws_lpTexts.l0 k l l i) true:=by
 induction d with
 | zero=>
  intro i hi
  refine Ev.of (fun k=>laws_lpTexts.mono_l k _ _ _) (k:=1) ?_
  simp only [laws_lpTexts.l0]
  rw [if_neg (by omega)]
 | succ d ih=>
  intro i hi
  refine Ev.step (f:=fun k=>laws_lpTexts.l0 k l l (i+1:Nat)) (fun k=>?_) (ih (i+1) (by omega))
  simp only [laws_lpTexts.l0]
  rw [if_pos (by omega),if_pos (by omega),if_pos (by omega),if_pos trivial,w64 (n:=(i:Int)+1) (by omega) (by omega),show (i:Int)+1=((i+1:Nat):Int) from by omega]
theorem same_ev (l:List ByteArray) (hn:l.length < 1152921504606846976):Ev (fun k=>laws_lpTexts.f k l l) true:=by
 unfold laws_lpTexts.f
 simp only [if_true]
 exact eqS_l l hn l.length 0 (by omega)
end Go.Proofs.YtpomhjkbgbociaaGreatDoor.Lp
end
section
namespace Go.Proofs.YtpomhjkbgbociaaGreatDoor.Lp
open Go.RowKit Go.Proofs.YtpomhjkbgbociaaGreatDoor.P Go.Proofs.YtpomhjkbgbociaaGreatDoorW.PrintWords Go.Proofs.YtpomhjkbgbociaaGreatDoorW.PrintLast Go.Proofs.YtpomhjkbgbociaaGreatDoorW.PrintMore Go.Proofs.YtpomhjkbgbociaaGreatDoor.B Go.Proofs.YtpomhjkbgbociaaGreatDoor.Ad
set_option linter.unusedVariables false
set_option linter.unusedSimpArgs false
theorem hasL_l (l:List ByteArray) (s:ByteArray) (hl:l.length≤1000000) (d:Nat):∀ (i:Nat),i+d=l.length→Ev (fun k=>laws_lpHas.l0 k l s (i:Int)) (hasB (l.drop i) s):=by
 induction d with
 | zero=>
  intro i hi
  rw [List.drop_eq_nil_of_le (by omega)]
  refine Ev_succ ?_
  simp only [laws_lpHas.l0,show ¬ ((i:Int) < (l.length:Int)) from by omega,if_false]
  exact Ev.now _
 | succ d ih=>
  intro i hi
  have hlt:i < l.length:=by omega
  have hr:=rd_at hlt
  have w1:=w64n1 i (by omega)
  have f1:(i:Int) < (l.length:Int):=by omega
  have next:=ih (i+1) (by omega)
  rw [List.drop_eq_getElem_cons hlt]
  generalize l[i]=p at hr ⊢
  refine Ev_succ ?_
  simp only [laws_lpHas.l0,f1,ci_nn i,if_true,hr]
  rw [w1]
  by_cases hp:p=s
  ·subst hp
   simp only [if_true]
   rw [hasB_iff.2 (List.mem_cons_self)]
   exact Ev.now _
  ·have hp':¬ (p.toList=s.toList):=fun e=>hp (toList_eq_iff.1 e)
   simp only [hp',if_false]
   rw [show hasB (p :: l.drop (i+1)) s=hasB (l.drop (i+1)) s from by unfold hasB;rw [List.any_cons,beq_eq_false_iff_ne.2 hp',Bool.false_or]]
   exact next
theorem hasL_ev (l:List ByteArray) (s:ByteArray) (hl:l.length≤1000000):Ev (fun k=>laws_lpHas.f k l s) (hasB l s):=hasL_l l s hl l.length 0 (by omega)
theorem once_l (a:List ByteArray) (ha:a.length≤1000000) (h:a.Nodup) (d:Nat):∀ (i:Nat),i+d=a.length→Ev (fun k=>laws_lpOnce.l0 k a (i:Int)) true:=by
 induction d with
 | zero=>
  intro i hi
  refine Ev_succ ?_
  simp only [laws_lpOnce.l0,show ¬ ((i:Int) < (a.length:Int)) from by omega,if_false]
  exact Ev.now _
 | succ d ih=>
  intro i hi
  have hlt:i < a.length:=by omega
  have hr:=rd_at hlt
  have w1:=w64n1 i (by omega)
  have f1:(i:Int) < (a.length:Int):=by omega
  have f2:(i:Int)≤(a.length:Int):=by omega
  have hm:a[i] ∉ a.take i:=by
   intro hm
   have h2:=h
   rw [← List.take_append_drop i a,List.nodup_append] at h2
   exact h2.2.2 _ hm a[i] (by rw [List.drop_eq_getElem_cons hlt];exact List.mem_cons_self) rfl
  have next:=ih (i+1) (by omega)
  generalize a[i]=p at hr hm
  have he:=hasL_ev (a.take i) p (by rw [List.length_take];omega)
  rw [Bool.eq_false_iff.2 (fun e=>hm (hasB_iff.1 e))] at he
  refine Ev_succ ?_
  simp only [laws_lpOnce.l0,f1,f2,ci_nn i,if_true,hr,Int.toNat_natCast]
  rw [w1]
  refine Ev.bind he ?_
  simp only [Bool.false_eq_true,if_false]
  exact next
theorem once_ev (a:List ByteArray) (ha:a.length≤1000000) (h:a.Nodup):Ev (fun k=>laws_lpOnce.f k a) true:=once_l a ha h a.length 0 (by omega)
end Go.Proofs.YtpomhjkbgbociaaGreatDoor.Lp
end
section
namespace Go.Proofs.YtpomhjkbgbociaaGreatDoor.Pure
open Go.RowKit Go.Proofs.YtpomhjkbgbociaaGreatDoor.P Go.Proofs.YtpomhjkbgbociaaGreatDoorW.PrintWords Go.Proofs.YtpomhjkbgbociaaGreatDoorW.PrintLast Go.Proofs.YtpomhjkbgbociaaGreatDoorW.PrintMore Go.Proofs.YtpomhjkbgbociaaGreatDoor.Draw Go.Proofs.YtpomhjkbgbociaaGreatDoor.B Go.Proofs.YtpomhjkbgbociaaGreatDoor.Ad Go.Proofs.YtpomhjkbgbociaaGreatDoor.Wd Go.Proofs.YtpomhjkbgbociaaGreatDoor.Mk
set_option linter.unusedSimpArgs false
set_option linter.unusedVariables false
theorem told_from (t:List ByteArray) (ht:t.length≤300) (h1:t.Nodup) (h2:∀ x ∈ t,Told x) (d:Nat):∀ (i:Nat),i+d=t.length→Ev (fun k=>laws_FnWorldFromNorm.l0 k t (i:Int)) true:=by
 induction d with
 | zero=>
  intro i hi
  refine Ev_succ ?_
  simp only [laws_FnWorldFromNorm.l0,show ¬ ((i:Int) < (t.length:Int)) from by omega,if_false]
  exact Ev.bind (Lp.once_ev t (by omega) h1) (Ev.now _)
 | succ d ih=>
  intro i hi
  have hlt:i < t.length:=by omega
  have hr:=rd_at hlt
  have w1:wrap64 ((i:Int)+1)=((i+1:Nat):Int):=by rw [w64 (by omega) (by omega)];rfl
  have f1:(i:Int) < (t.length:Int):=by omega
  have f0:(0:Int)≤(i:Int):=by omega
  have hm:=h2 t[i] (List.getElem_mem hlt)
  have next:=ih (i+1) (by omega)
  generalize t[i]=p at hr hm
  obtain ⟨h,ps,asks,ask,ho,rfl⟩:=hm
  obtain ⟨s1,s2,s3,s4⟩:=ok_small ho
  have hR:=read_i (textB h ps asks ask)
  rw [read_back ho] at hR
  have hT:=addrText_i h ps asks ask ⟨by omega,fun q hq=>by have:=s2 q hq;omega⟩ (by omega) (by omega)
  rw [show addrText h ps asks ask=textB h ps asks ask from by unfold addrText;rw [if_pos ho]] at hT
  refine Ev_succ ?_
  simp only [laws_FnWorldFromNorm.l0,f1,f0,if_true,hr]
  rw [w1]
  refine Ev.bind hR ?_
  simp only [if_true]
  refine Ev.bind hT ?_
  simp only [if_true]
  exact next
theorem FnWorldFromNorm:laws_FnWorldFromNorm.Pure:=by
 intro l0 hm hz hw
 refine Ev.rounds ?_
 unfold laws_FnWorldFromNorm.f
 by_cases h:(l0.length:Int) > 1048576
 ·simp only [h,if_true];exact Ev.now _
 simp only [h,if_false]
 obtain ⟨w,a,hd,wl,wg,az⟩:=drawFrom_ev l0 hw
 obtain ⟨b1,b2,b3⟩:=big_of wg
 have hi:=from_i w b2 a (by omega)
 have hs:=from_s w (by omega) b3 a (by omega)
 have hlen:=fromO_len w a
 have he:=Lp.same_ev (fromO w a) (by omega)
 obtain ⟨t1,t2⟩:=from_told w a
 have hl:=told_from (fromO w a) hlen t1 t2 (fromO w a).length 0 (by omega)
 refine Ev.bind hd (Ev.bind hi (Ev.bind hs (Ev.bind he ?_)))
 simp only [if_true]
 exact hl
end Go.Proofs.YtpomhjkbgbociaaGreatDoor.Pure
end
section
namespace Go.Proofs.YtpomhjkbgbociaaGreatDoorW.PrintWords
open Go.ChangeShapes Go.WideShapes
theorem sized_ints {H:Type} {enc:TypeId×Value→H} {P:Program} {W:World} {base:Nat} {spare:Nat→Bool} {held:Bool} {t e:TypeId} {k:IntKind} {a:Option Addr} {len cap:Nat} {d:DataW H} {ps:List MemPlace} {ts:List TypeId} {ds:List (DataW H)} {j:Nat}
  (hsz:(DataW.weightsEach P ts ds).all (·≤reachBytes)=true) (ht:ts[j]?=some t) (hd:ds[j]?=some d) (hu:P.underlying t=some (.slice e)) (he:P.underlying e=some (.int k)) (hc:P.cellsOf e=1) {B:Nat} (hB:P.bytesOf e=B)
  (h:DataW.Trod enc P W base spare held t (.slice a len cap) d ps):len * B≤140737488351232:=by
 obtain ⟨fuel,hf⟩:=h
 rcases open_ints hu he hc hf with ⟨hcs,_⟩|⟨x,l,c,zs,hcs,_,hl,_,hz,hx,_,_⟩
 ·simp [Value.cells] at hcs
  obtain ⟨rfl,rfl,rfl⟩:=hcs
  simp
 ·simp [Value.cells] at hcs
  obtain ⟨rfl,rfl,rfl⟩:=hcs
  obtain ⟨hx,_⟩:=Prod.mk.inj hx
  subst hx
  have z:=sized_slice hsz ht hd hu
  rw [hB] at z
  have hl2:len≤zs.length:=by
   rw [hz]
   split
   ·exact hl
   ·exact Nat.le_refl _
  have h1:(lits (H:=H) k (zs.take len)).length+(lits (H:=H) k (zs.drop len)).length=zs.length:=by
   simp [lits]
   omega
  rw [h1] at z
  exact Nat.le_trans (Nat.mul_le_mul_right _ hl2) z
end Go.Proofs.YtpomhjkbgbociaaGreatDoorW.PrintWords
end
section
namespace Go.Proofs.YtpomhjkbgbociaaGreatDoor.fnWorldFromNorm
open Go.ChangeShapes Go.WideShapes Go.ChangeAt Go.RowKit
open Go.ChangeMaps (open_string shut_string)
set_option linter.unusedVariables false
theorem own : ownKnob Tryz.prog.godebug = none := by kernel_rfl
theorem laidOut : laidOutB Tryz.prog = true := by kernel_rfl
def IsRow (k : IntKind) (w : World) (a : Option Addr) (len cap : Nat) (zs : List Int) : Prop :=
 (a = none ∧ len = 0 ∧ cap = 0 ∧ zs = []) ∨
 ∃ x, a = some x ∧ len ≤ cap ∧ cap ≤ maxLen ∧ zs.length = cap ∧ (∀ i, i < zs.length → w.cell? (x.add i) = some (.int k (zs.getD i 0))) ∧ ∀ n ∈ zs, (Lit.int k n).wf = true
set_option maxRecDepth 100000 in
theorem lifted (os : Os) (started : os.Started) (H : Type) (enc : TypeId × Value → H) :
  ReturnsInHanded {} Tryz.checked os 6 .any (fun w args => (Rows.fnWorldFromNormSpec.pre enc Tryz.prog Tryz.f6 Rows.fnWorldFromNormRow.domain false w args ∧ laidMetH Tryz.prog Rows.fnWorldFromNormRow.laid w) ∧ sizedMet enc Tryz.prog Tryz.f6 (OpenSpec.ofChange Rows.fnWorldFromNormSpec) false w args)
   (Rows.fnWorldFromNormSpec.post enc Tryz.prog Tryz.f6 false true false false) := by
 refine returnsInHanded_of_change_and (C := Tryz.checked) (X := fun w _ => laidMetH Tryz.prog Rows.fnWorldFromNormRow.laid w) (fun _ _ _ hh h => h.of_heap hh) own started (by kernel_rfl) Tryz.func6
  (ChangeSpec.witness_shaped (enc := enc) (C := Tryz.checked) (os := os) (X := fun w _ => laidMetH Tryz.prog Rows.fnWorldFromNormRow.laid w) false (World.laidAll Tryz.prog os Rows.fnWorldFromNormRow.laid) #[.slice none 0 0] 8 (World.laidAll_os _ _ _)
   (World.shaped_of_ZipB (by kernel_rfl) (by kernel_rfl)) (by kernel_rfl) (by kernel_rfl) (by kernel_rfl)
   (by rw [MakeChecks.laidMetH_plain _ _ _ (by kernel_rfl)]; exact laidMet_laidAll _ (by kernel_rfl) (by kernel_rfl))) ?_
 intro W base args ds gs before hval0 hW hcnd hsz0 hL _
 have hsz : (DataW.weightsEach Tryz.prog (Tryz.f6.params.toList ++ Rows.fnWorldFromNormSpec.plain.varTypes Tryz.prog) (ds ++ gs)).all (· ≤ reachBytes) = true := hsz0
 have hval : ∀ (j : Nat) t v, Tryz.f6.params[j]? = some t → args[j]? = some v → Value.okWide Tryz.prog W .any base t v := hval0
 have hW' := hW
 obtain ⟨p, q, hA0, hV, rfl, hfz, hnd⟩ := hW
 have hA : DataW.TrodAll enc Tryz.prog W 0 (fun _ => true) true Tryz.f6.params.toList args.toList ds p := hA0
 rw [Tryz.params6] at hA hval hsz
 obtain ⟨v0, vs0, d0, ds0, p0, q0, hargs, rfl, rfl, h0, r0⟩ := trodAll_cons hA
 obtain ⟨rfl, rfl, rfl⟩ := trodAll_nil r0
 obtain rfl : args = #[v0] := by cases args; simp_all
 obtain ⟨rfl, rfl⟩ := trodVars_none hV
 obtain ⟨a0, len0, cap0, rfl⟩ := okWide_slice Tryz.underlying22 (hval 0 22 v0 rfl rfl)
 have k0 := h0
 have lt0 : ∀ x ∈ p0, x.block < W.heap.size := by obtain ⟨m, hm⟩ := k0; exact DataW.trod_lt m _ _ _ hm
 obtain ⟨z0, w0⟩ : ∃ zs, IsRow .u8 W a0 len0 cap0 zs := by
  obtain ⟨fuel, hf⟩ := h0
  rcases open_ints Tryz.underlying22 Tryz.underlying5 (by kernel_rfl) hf with ⟨hcs, _⟩ | ⟨x, l, c, zs, hcs, _, hl, hm, hz, _, hcell, hwz⟩
  ·simp [Value.cells] at hcs
   obtain ⟨rfl, rfl, rfl⟩ := hcs
   exact ⟨[], .inl ⟨rfl, rfl, rfl, rfl⟩⟩
  ·simp [Value.cells] at hcs
   obtain ⟨rfl, rfl, rfl⟩ := hcs
   exact ⟨zs, .inr ⟨_, rfl, hl, hm, by simpa using hz, hcell, hwz⟩⟩
 have y0 : len0 * 1 ≤ 140737488351232 := YtpomhjkbgbociaaGreatDoorW.PrintWords.sized_ints hsz (j := 0) (t := 22) rfl rfl Tryz.underlying22 Tryz.underlying5 (by kernel_rfl) (by kernel_rfl) h0
 clear hA0 hval0 hsz0 hsz
 refine (P.laws_FnWorldFromNorm.walk Pure.FnWorldFromNorm a0 len0 cap0 z0 W w0 y0).mono fun e W' ⟨he, bel⟩ => ?_
 subst he
 exact ⟨_, rfl, _, _, _, [], _, [], hW', trodAll_mk1 (shut_bool Tryz.underlying4 _), (trodAll_cons_mk (Below.trod laidOut (by kernel_rfl) (of_decide_eq_true (by kernel_rfl)) k0 bel lt0) trodAll_mk0), rfl, bel.frame _, fun h => by cases h⟩
set_option maxHeartbeats 4000000 in
theorem over : Rows.fnWorldFromNormRow.holds Tryz.pinned (OpenSpec.ofChange Rows.fnWorldFromNormSpec) :=
 OpenClaim.holds_of_wide 6 Tryz.f6 rfl rfl rfl rfl rfl rfl rfl ⟨rfl, rfl, rfl, rfl, rfl⟩ rfl rfl rfl rfl rfl (by as_aux_lemma => kernel_rfl) Tryz.func6 (by as_aux_lemma => kernel_rfl)
  (of_decide_eq_true (by as_aux_lemma => kernel_rfl)) (by unfold Func.isWrapper; first | (rw [if_pos (by decide +kernel)]; kernel_rfl) | (rw [if_neg (by decide +kernel)]; exact ⟨rfl, rfl⟩))
  (fun os started H enc _ => lifted os started H enc)
theorem card_holds : Rows.FnWorldFromNormCardSaid :=
 Claim7.holds_tied_plain_at .later [] [.data, .pinned] true (true, "8ccead1d440ea5be438632557c9df39bd7b6c3a8cb993065304fadd78b4977b4") false over (fun _ h => by cases h) (by as_aux_lemma => kernel_rfl) (fun _ h => by cases h) fnWorldFromNorm_row_tie rfl ⟨rfl, rfl⟩ (by as_aux_lemma => kernel_rfl) rfl
  (fun f fn hf hfn => by
   obtain rfl : f = 6 := Option.some.inj ((show Tryz.prog.funcNamed "loop.example/pedlar/laws.FnWorldFromNorm" = some 6 by as_aux_lemma => kernel_rfl).symm.trans hf) |>.symm
   obtain rfl : fn = Tryz.f6 := (Option.some.inj (Tryz.func6.symm.trans hfn)).symm
   exact ⟨by as_aux_lemma => kernel_rfl, fun j t ht => by
    rw [Tryz.params6] at ht
    have hm : t ∈ [22] := by simpa using Array.mem_of_getElem? ht
    have hall : ([22].all fun u => !Tryz.prog.wantsStandIn u) = true := by as_aux_lemma => kernel_rfl
    exact (show Tryz.prog.wantsStandIn t = false by simpa using List.all_eq_true.1 hall t hm)⟩)
  (by as_aux_lemma => kernel_rfl)
#print axioms card_holds
end Go.Proofs.YtpomhjkbgbociaaGreatDoor.fnWorldFromNorm
namespace Go.Proofs.YtpomhjkbgbociaaGreatDoor
theorem fnWorldFromNorm_holds : Rows.FnWorldFromNormCardSaid := fnWorldFromNorm.card_holds
end Go.Proofs.YtpomhjkbgbociaaGreatDoor
end
