/- FnExactWorldNotice holds of the given program at every input: it reports whether WorldNotice, for these arguments, returns the same value as the reference model in every field, leaves its arguments unmodified, and returns memory that it shares neither with its arguments nor with the result of another call. No condition. Written by a program of this session (wip/pr.py). -/
import Derived.Test.YtloijngehifbmaaGreatDoorZFnExactWorldNoticeb
import Derived.Test.YtloijngehifbmaaGreatDoorZFnExactWorldNoticed
import Derived.Test.YtloijngehifbmaaGreatDoorZFnExactWorldNoticec
import Derived.Lib.IndexAny
import Derived.SizedLaws
import Derived.ChangeSlices
import Derived.Test.YtloijngehifbmaaGreatDoorRows
import Derived.Test.YtloijngehifbmaaGreatDoorCards
import Derived.Test.YtloijngehifbmaaGreatDoorTie
import Derived.LaidMore
import Derived.Lay
import Derived.SevenTiedAt
import Derived.Stop.Joined
import Derived.Lib.SmallJoins
import Derived.WalkKit
import Derived.ProofKit
import Derived.OpenShut
import Derived.ShutString
import Derived.ChangeOld
import Derived.Below

section
namespace Go.Proofs.YtloijngehifbmaaGreatDoor.P
open Go.RowKit Go.Proofs.YtloijngehifbmaaGreatDoorW.PrintWords Go.Proofs.YtloijngehifbmaaGreatDoorW.PrintLast Go.Proofs.YtloijngehifbmaaGreatDoorW.PrintMore
attribute [local go_sem] max2_int min2_int max_two min_two max_three min_three max_four min_four
set_option linter.unusedVariables false
set_option linter.unusedSimpArgs false
set_option maxHeartbeats 8000000
set_option maxRecDepth 100000
def laws_FnExactWorldNotice.j0:Nat→List (S49)→ByteArray→ByteArray→Bool→List ByteArray→List (S93)→Int→List ByteArray→List (S93)→Int→Option (Bool)
 | 0,_,_,_,_,_,_,_,_,_,_=>none
 | k+1,x0,x1,x2,x56,x648000,x648001,x648002,x659000,x659001,x659002=>if x56=true then (some false) else ((laws_markGroup.f k x659000 x659001 x659002 1).bind fun bt667=>((laws_heldGroup.f k bt667.2.1 bt667.2.2 x659002 1).bind fun t670=>(if t670 < 0 then (some false) else (if t670=bt667.1 then ((laws_toPageS.f k x0).bind fun t671=>((impl_WorldNotice.f k t671 x1 x2).bind fun bt674=>((laws_eqGroup.f k bt674.1 bt674.2.1 bt674.2.2 x648000 x648001 x648002).bind fun t682=>(if t682=true then ((laws_heldGroup.f k bt667.2.1 bt667.2.2 x659002 1).bind fun t683=>(if t683 < 0 then (some false) else (if t683=bt667.1 then (some true) else (some false)))) else (some false))))) else (some false)))))
def laws_FnExactWorldNotice.f (k:Nat) (l0:List (S49)) (a1:ByteArray) (a2:ByteArray):Option (Bool):=if (a1.size:Int) > 1048576 then (some true) else (if (a2.size:Int) > 1048576 then (some true) else ((laws_szPageS.f k l0 1048576).bind fun t636=>(if t636 < 0 then (some true) else ((laws_toPageS.f k l0).bind fun t637=>((spec_WorldNotice.f k t637 a1 a2).bind fun bt640=>((laws_toPageS.f k l0).bind fun t648=>((impl_WorldNotice.f k t648 a1 a2).bind fun bt651=>((laws_eqGroup.f k bt651.1 bt651.2.1 bt651.2.2 bt640.1 bt640.2.1 bt640.2.2).bind fun t659=>(if t659=true then ((laws_toPageS.f k l0).bind fun t660=>((laws_eqPageS.f k t648 t660).bind fun t663=>(if t663=true then ((laws_markPageS.f k t648 1).bind fun bt664=>(if bt664.1 < 0 then (laws_FnExactWorldNotice.j0 k l0 a1 a2 true bt640.1 bt640.2.1 bt640.2.2 bt651.1 bt651.2.1 bt651.2.2) else ((laws_eqGroup.f k bt651.1 bt651.2.1 bt651.2.2 bt640.1 bt640.2.1 bt640.2.2).bind fun t666=>(laws_FnExactWorldNotice.j0 k l0 a1 a2 (!t666) bt640.1 bt640.2.1 bt640.2.2 bt651.1 bt651.2.1 bt651.2.2)))) else (some false)))) else (some false))))))))))
theorem laws_FnExactWorldNotice.calls (k:Nat) (A0:Option Addr) (c0:Nat) (l0:List (S49)) (a1:ByteArray) (a2:ByteArray) (r:Bool) (w:World) (hr0:Kd.C k49 w A0 l0.length l0) (hc0:l0.length≤c0) (h:laws_FnExactWorldNotice.f k l0 a1 a2=some r) :
  Calls Tryz.prog 4 #[.slice A0 l0.length c0,.string a1,.string a2] w fun e w'=>e=.returned (.bool r)∧Below w.heap.size w w':=by
 have hu32:=Tryz.underlying32;have HR0:=A_ hr0;have HC0:=A_ hc0;clear hr0 hc0;have HB:=A_ (Below.refl w.heap.size w);unfold laws_FnExactWorldNotice.f at h
 have H:=h;clear h;replace H:=iteE H;rcases H with ⟨c4,H⟩|⟨c4,H⟩
 ·have c4b0:=gtT c4
  have c4b1:decide (1048576 < a1.size)=true:=dT (by omega);clear c4;obtain rfl:=sI H;go_enter Tryz.func4,Tryz.ntmps4;go_wp2
  go_ret
  exact ⟨zz1,(zz0 HB)⟩
 ·have c4b0:=gtF c4
  have c4b1:decide (1048576 < a1.size)=false:=dF (by omega);clear c4;replace H:=iteE H;rcases H with ⟨c5,H⟩|⟨c5,H⟩
  ·have c5b0:=gtT c5
   have c5b1:decide (1048576 < a2.size)=true:=dT (by omega);clear c5;obtain rfl:=sI H;go_enter Tryz.func4,Tryz.ntmps4;go_wp2
   go_ret
   exact ⟨zz1,(zz0 HB)⟩
  ·have c5b0:=gtF c5
   have c5b1:decide (1048576 < a2.size)=false:=dF (by omega);clear c5;replace H:=bindA H;obtain ⟨t636,A6,H⟩:=H;have HF7:=A_ H;clear H;go_enter Tryz.func4,Tryz.ntmps4;go_upto_if 25 with (first|(refine gR 6 (some 23) Tryz.func6 (laws_szPageS.calls k _ _ l0 1048576 t636 _ ?side1 ?side2 A6.out) ?_;(case side1=>exact (zz81 HR0));(case side2=>exact HC0.out);rintro w8 hb;replace HB:=A_ (bS (zz0 HB) hb);(try clear hb)))
   obtain ⟨H⟩:=HF7;replace H:=iteEd H;rcases H with ⟨c9b0,H⟩|⟨c9b0,H⟩
   ·(first|rw [c9b0]|(simp only [i64_w,i32_w];rw [c9b0])|skip)
    obtain rfl:=sI H;go_wp2
    go_ret
    exact ⟨zz1,(zz0 HB)⟩
   ·(first|rw [c9b0]|(simp only [i64_w,i32_w];rw [c9b0])|skip)
    replace H:=bindA H;obtain ⟨t637,A10,H⟩:=H;replace H:=bindA H;obtain ⟨⟨t640,t643,t646⟩,A11,H⟩:=H;try dsimp only at H
    replace H:=bindA H;obtain ⟨t648,A12,H⟩:=H;replace H:=bindA H;obtain ⟨⟨t651,t654,t657⟩,A13,H⟩:=H;try dsimp only at H
    replace H:=bindA H;obtain ⟨t659,A14,H⟩:=H;have HF15:=A_ H;clear H;go_upto_if 40 with (first|(refine gV 8 (some 27) Tryz.func8 (laws_toPageS.calls k _ _ l0 t637 _ ?side1 ?side2 A10.out) ?_;(case side1=>exact (zz41 HR0 HB));(case side2=>exact HC0.out);rintro v638 w16 ⟨ho0,hb⟩;have HO639:=A_ (Kd.R_lower ho0 (below_size (zz0 HB)));replace HB:=A_ (bS (zz0 HB) hb);(try clear hb ho0);obtain ⟨Ao17,co17,eo17⟩:=Kd.R_slice HO639.out;subst eo17)|((with_reducible refine gC (f:=11) rfl ?_);refine gsL (some 30) Tryz.func11 #[.slice Ao17 t637.length co17,.string a1,.string a2] ?_;(with_reducible refine (spec_WorldNotice.calls k _ _ t637 a1 a2 t640 t643 t646 _ ?side1 ?side2 A11.out).mono ?_);(case side1=>exact (zz110 HO639));(case side2=>exact (Kd.R_reads' HO639.out).2.1);rintro e w18 ⟨v641,v644,rfl,ho0,ho1,hb⟩;refine ⟨_,rfl,?_⟩;replace HO639:=A_ (rB (zz8 HO639) hb);have HO642:=A_ (Kd.R_lower ho0 (below_size (zz0 HB)));have HO645:=A_ (Kd.R_lower ho1 (below_size (zz0 HB)));replace HB:=A_ (bS (zz0 HB) hb);(try clear hb ho0 ho1))|(refine boxF 8 #[.slice none 0 0,.slice none 0 0,.int .i64 0] 32 ?_;intro gb647 hg w19 BK647 hb;replace HO639:=A_ (rB (zz8 HO639) hb);replace HO642:=A_ (rB (zz8 HO642) hb);replace HO645:=A_ (rB (zz8 HO645) hb);have GE647:=geB hg (zz0 HB);replace HB:=A_ (bS (zz0 HB) hb);clear hb hg;obtain ⟨Ao20,co20,eo20⟩:=Kd.R_slice HO642.out;subst eo20;obtain ⟨_,_,_,_,_,_⟩:=cf3 BK647;obtain ⟨Ao22,co22,eo22⟩:=Kd.R_slice HO645.out;subst eo22)|(refine gV 8 (some 32) Tryz.func8 (laws_toPageS.calls k _ _ l0 t648 _ ?side1 ?side2 A12.out) ?_;(case side1=>exact Kd.C_below HR0.out (zz2 HB GE647));(case side2=>exact HC0.out);rintro v649 w23 ⟨ho0,hb⟩;replace HO642:=A_ (rB (zz199 HO642 BK647) hb);replace HO645:=A_ (rB (zz199 HO645 BK647) hb);have HO650:=A_ (Kd.R_lower (Kd.R_new' ho0 (Kd.R_lt (zz199 HO639 BK647))) (below_size (zz2 HB GE647)));replace HO639:=A_ (Kd.R_elder' (zz199 HO639 BK647) (Kd.R_base ho0) hb);replace BK647:=A_ (bB (g:=gb647) (o:=.cells #[.slice Ao20 t640.length co20,.slice Ao22 t643.length co22,.int .i64 t646] 32 (0,0)) (zz9 BK647) hb);replace HB:=A_ (bS (zz2 HB GE647) hb);(try clear hb ho0);obtain ⟨Ao24,co24,eo24⟩:=Kd.R_slice HO650.out;subst eo24)|((with_reducible refine gC (f:=12) rfl ?_);refine gsL (some 36) Tryz.func12 #[.slice Ao24 t648.length co24,.string a1,.string a2] ?_;(with_reducible refine (impl_WorldNotice.calls k _ _ t648 a1 a2 t651 t654 t657 _ ?side1 ?side2 A13.out).mono ?_);(case side1=>exact (zz110 HO650));(case side2=>exact (Kd.R_reads' HO650.out).2.1);rintro e w25 ⟨v652,v655,rfl,ho0,ho1,hb⟩;refine ⟨_,rfl,?_⟩;replace HO639:=A_ (rB (zz8 HO639) hb);replace HO650:=A_ (rB (zz8 HO650) hb);have HO653:=A_ (Kd.R_lower (Kd.R_new' ho0 (Kd.R_lt (zz8 HO642))) (below_size (zz2 HB GE647)));replace HO642:=A_ (Kd.R_elder' (zz8 HO642) (Kd.R_base ho0) hb);have HO656:=A_ (Kd.R_lower (Kd.R_new' ho1 (Kd.R_lt (zz8 HO645))) (below_size (zz2 HB GE647)));replace HO645:=A_ (Kd.R_elder' (zz8 HO645) (Kd.R_base ho1) hb);replace BK647:=A_ (bB (zz7 BK647) hb);replace HB:=A_ (bS (zz2 HB GE647) hb);(try clear hb ho0 ho1))|(refine boxF 10 #[.slice none 0 0,.slice none 0 0,.int .i64 0] 32 ?_;intro gb658 hg w26 BK658 hb;replace HO639:=A_ (rB (zz8 HO639) hb);replace HO642:=A_ (rB (zz8 HO642) hb);replace HO645:=A_ (rB (zz8 HO645) hb);replace HO650:=A_ (rB (zz8 HO650) hb);replace HO653:=A_ (rB (zz8 HO653) hb);replace HO656:=A_ (rB (zz8 HO656) hb);have GE658:=geB hg (zz2 HB GE647);replace HB:=A_ (bS (zz2 HB GE647) hb);have NB647_658:=A_ ((by rw [hg];exact Nat.ne_of_lt (blk_lt (zz7 BK647)):gb647≠gb658));have NB658_647:=A_ ((by rw [hg];exact Nat.ne_of_gt (blk_lt (zz7 BK647)):gb658≠gb647));replace BK647:=A_ (bB (zz7 BK647) hb);clear hb hg;obtain ⟨Ao27,co27,eo27⟩:=Kd.R_slice HO653.out;subst eo27;have hnb28:=NB658_647.out;have hnc28:=NB647_658.out;obtain ⟨_,_,_,_,_,_⟩:=cf3 BK658;obtain ⟨Ao30,co30,eo30⟩:=Kd.R_slice HO656.out;subst eo30;obtain ⟨_,_,_,_,_,_⟩:=cf3 BK647)|((with_reducible refine gC (f:=13) rfl ?_);refine gsL (some 39) Tryz.func13 #[.agg #[.slice Ao27 t651.length co27,.slice Ao30 t654.length co30,.int .i64 t657],.agg #[.slice Ao20 t640.length co20,.slice Ao22 t643.length co22,.int .i64 t646]] ?_;(with_reducible refine (laws_eqGroup.calls k _ _ t651 _ _ t654 t657 _ _ t640 _ _ t643 t646 t659 _ ?side1 ?side2 ?side3 ?side4 ?side5 ?side6 ?side7 ?side8 A14.out).mono ?_);(case side1=>exact (by refine (Kd.R_reads' (e:=9) (base:=w.heap.size) (ok:=fun k_=>(True∧some k_≠(.slice Ao20 t640.length co20:Value).ownBlock)) (n:=t651.length) (c:=co27) ?_).2.2;exact (zz200 HO653 BK658)));(case side2=>exact (Kd.R_reads' HO653.out).2.1);(case side3=>exact (by refine (Kd.R_reads' (e:=93) (base:=w.heap.size) (ok:=fun k_=>(True∧some k_≠(.slice Ao22 t643.length co22:Value).ownBlock)) (n:=t654.length) (c:=co30) ?_).2.2;exact (zz200 HO656 BK658)));(case side4=>exact (Kd.R_reads' HO656.out).2.1);(case side5=>exact (by refine (Kd.R_reads' (e:=9) (base:=w.heap.size) (ok:=fun k_=>(True∧some k_≠(.slice Ao27 t651.length co27:Value).ownBlock)) (n:=t640.length) (c:=co20) ?_).2.2;exact (zz200 HO642 BK658)));(case side6=>exact (Kd.R_reads' HO642.out).2.1);(case side7=>exact (by refine (Kd.R_reads' (e:=93) (base:=w.heap.size) (ok:=fun k_=>(True∧some k_≠(.slice Ao30 t654.length co30:Value).ownBlock)) (n:=t643.length) (c:=co22) ?_).2.2;exact (zz200 HO645 BK658)));(case side8=>exact (Kd.R_reads' HO645.out).2.1);rintro e w32 ⟨rfl,hb⟩;refine ⟨_,rfl,?_⟩;replace HO639:=A_ (rB (zz200 HO639 BK658) hb);replace HO642:=A_ (rB (zz200 HO642 BK658) hb);replace HO645:=A_ (rB (zz200 HO645 BK658) hb);replace HO650:=A_ (rB (zz200 HO650 BK658) hb);replace HO653:=A_ (rB (zz200 HO653 BK658) hb);replace HO656:=A_ (rB (zz200 HO656 BK658) hb);replace BK647:=A_ (bB (g:=gb647) (o:=.cells #[.slice Ao20 t640.length co20,.slice Ao22 t643.length co22,.int .i64 t646] 32 (0,0)) (zz12 BK647 NB647_658) hb);replace BK658:=A_ (bB (g:=gb658) (o:=.cells #[.slice Ao27 t651.length co27,.slice Ao30 t654.length co30,.int .i64 t657] 32 (0,0)) (zz9 BK658) hb);replace HB:=A_ (bS (zz11 HB GE647 GE658) hb);(try clear hb)))
    obtain ⟨H⟩:=HF15;replace H:=iteB H;rcases H with ⟨rfl,H⟩|⟨rfl,H⟩
    ·replace H:=bindA H
     obtain ⟨t660,A34,H⟩:=H;replace H:=bindA H;obtain ⟨t663,A35,H⟩:=H;have HF36:=A_ H;clear H;go_upto_if 45 with (first|(refine gV 8 (some 43) Tryz.func8 (laws_toPageS.calls k _ _ l0 t660 _ ?side1 ?side2 A34.out) ?_;(case side1=>exact (zz41 HR0 HB));(case side2=>exact HC0.out);rintro v661 w37 ⟨ho0,hb⟩;replace HO642:=A_ (rB (zz8 HO642) hb);replace HO645:=A_ (rB (zz8 HO645) hb);replace HO653:=A_ (rB (zz8 HO653) hb);replace HO656:=A_ (rB (zz8 HO656) hb);have HO662:=A_ (Kd.R_lower (Kd.R_new' (Kd.R_new' ho0 (Kd.R_lt (zz8 HO639))) (Kd.R_lt (zz8 HO650))) (below_size (zz11 HB GE647 GE658)));replace HO639:=A_ (Kd.R_elder' (zz8 HO639) (Kd.R_base ho0) hb);replace HO650:=A_ (Kd.R_elder' (zz8 HO650) (Kd.R_base ho0) hb);replace BK647:=A_ (bB (zz7 BK647) hb);replace BK658:=A_ (bB (zz7 BK658) hb);replace HB:=A_ (bS (zz11 HB GE647 GE658) hb);(try clear hb ho0);obtain ⟨Ao38,co38,eo38⟩:=Kd.R_slice HO662.out;subst eo38)|(refine gR 10 (some 44) Tryz.func10 (laws_eqPageS.calls k _ _ t648 _ _ t660 t663 _ ?side1 ?side2 ?side3 ?side4 A35.out) ?_;(case side1=>exact (zz110 HO650));(case side2=>exact (Kd.R_reads' HO650.out).2.1);(case side3=>exact (zz110 HO662));(case side4=>exact (Kd.R_reads' HO662.out).2.1);rintro w39 hb;replace HO639:=A_ (rB (zz8 HO639) hb);replace HO642:=A_ (rB (zz8 HO642) hb);replace HO645:=A_ (rB (zz8 HO645) hb);replace HO650:=A_ (rB (zz8 HO650) hb);replace HO653:=A_ (rB (zz8 HO653) hb);replace HO656:=A_ (rB (zz8 HO656) hb);replace HO662:=A_ (rB (zz8 HO662) hb);replace BK647:=A_ (bB (zz7 BK647) hb);replace BK658:=A_ (bB (zz7 BK658) hb);replace HB:=A_ (bS (zz11 HB GE647 GE658) hb);(try clear hb)))
     obtain ⟨H⟩:=HF36;replace H:=iteB H;rcases H with ⟨rfl,H⟩|⟨rfl,H⟩
     ·replace H:=bindA H
      obtain ⟨⟨t664,t665⟩,A41,H⟩:=H;try dsimp only at H
      have HC42:=A_ H;clear H;go_upto_region 18 with (first|(refine gR 14 (some 48) Tryz.func14 (laws_markPageS.calls k (fun k_=>some k_=(.slice Ao24 t648.length co24:Value).ownBlock) (.slice Ao24 t648.length co24) t648 1 t664 t665 w _ ?side1 ?side2 A41.out) ?_;(case side1=>exact (zz11 HB GE647 GE658));(case side2=>exact Kd.R_tight rfl HO650.out);rintro w43 ⟨hy0,hb,hkp⟩;replace HO639:=A_ (Kd.R_mono (ok':=fun k_=>some k_≠(.slice Ao24 t648.length co24:Value).ownBlock∧some k_≠(.slice Ao38 t660.length co38:Value).ownBlock) (Kd.R_keptB (HO639.out) hkp (fun k_ hk_ hs_=>by first|exact (hk_.1.2) hs_|(first|exact hk_.1 hs_|exact hk_.2 hs_|exact hk_.1.2 hs_|exact hk_.2.2 hs_|exact hk_.1.1 hs_|exact hk_.2.1 hs_|exact hk_.2.2.2 hs_|exact hk_.1.1.1 hs_|exact hk_.1.2.1 hs_|exact hk_.1.2.2 hs_|exact hk_.2.2.1 hs_|exact hk_.1.1.2 hs_|exact hk_.1.2.2.1 hs_|exact hk_.1.1.2.2 hs_|exact hk_.1.1.2.1 hs_|exact hk_.2.2.2.1 hs_|exact hk_.1.2.2.2 hs_|exact hk_.1.1.1.2 hs_|exact hk_.2.2.2.2 hs_|exact hk_.1.1.1.1 hs_|exact hk_.2.2.2.2.1 hs_|exact hk_.1.1.1.2.1 hs_|exact hk_.1.1.1.1.2 hs_|exact hk_.1.1.2.2.1 hs_|exact hk_.1.1.1.1.1 hs_|exact hk_.1.1.1.2.2 hs_|exact hk_.1.2.2.2.1 hs_|exact hk_.1.2.2.2.2 hs_|exact hk_.1.1.2.2.2 hs_|exact hk_.1.1.1.2.2.2 hs_|exact hk_.1.1.1.1.1.2 hs_|exact hk_.1.1.1.1.2.2 hs_|exact hk_.1.1.1.1.1.1 hs_|exact hk_.1.1.1.1.2.1 hs_|exact hk_.1.1.1.2.2.1 hs_|exact hk_.1.1.2.2.2.2 hs_|exact hk_.1.2.2.2.2.1 hs_|exact hk_.1.1.2.2.2.1 hs_|exact hk_.1.1.1.2.2.2.1 hs_|exact hk_.1.1.1.1.1.2.2 hs_|exact hk_.1.1.1.2.2.2.2 hs_|exact hk_.1.1.2.2.2.2.1 hs_|exact hk_.1.1.1.1.2.2.1 hs_|exact hk_.1.1.1.1.2.2.2 hs_|exact hk_.1.1.1.1.1.2.1 hs_|exact hk_.1.1.1.1.1.2.2.2 hs_|exact hk_.1.1.1.2.2.2.2.1 hs_|exact hk_.1.1.1.1.2.2.2.2 hs_|exact hk_.1.1.1.1.1.2.2.1 hs_|exact hk_.1.1.1.1.2.2.2.1 hs_|exact hk_.1.1.1.1.1.2.2.2.2 hs_|exact hk_.1.1.1.1.1.2.2.2.1 hs_|exact hk_.1.1.1.1.2.2.2.2.1 hs_|exact hk_.1.1.1.1.1.2.2.2.2.1 hs_))) (fun k_ hk_=>by first|exact ⟨hk_.1.1.2,hk_.1.2⟩|(refine ⟨?_,?_⟩ <;> (first|exact hk_.1|exact hk_.2|exact hk_.1.2|exact hk_.2.2|exact hk_.1.1|exact hk_.2.1|exact hk_.2.2.2|exact hk_.1.1.1|exact hk_.1.2.1|exact hk_.1.2.2|exact hk_.2.2.1|exact hk_.1.1.2|exact hk_.1.2.2.1|exact hk_.1.1.2.2|exact hk_.1.1.2.1|exact hk_.2.2.2.1|exact hk_.1.2.2.2|exact hk_.1.1.1.2|exact hk_.2.2.2.2|exact hk_.1.1.1.1|exact hk_.2.2.2.2.1|exact hk_.1.1.1.2.1|exact hk_.1.1.1.1.2|exact hk_.1.1.2.2.1|exact hk_.1.1.1.1.1|exact hk_.1.1.1.2.2|exact hk_.1.2.2.2.1|exact hk_.1.2.2.2.2|exact hk_.1.1.2.2.2|exact hk_.1.1.1.2.2.2|exact hk_.1.1.1.1.1.2|exact hk_.1.1.1.1.2.2|exact hk_.1.1.1.1.1.1|exact hk_.1.1.1.1.2.1|exact hk_.1.1.1.2.2.1|exact hk_.1.1.2.2.2.2|exact hk_.1.2.2.2.2.1|exact hk_.1.1.2.2.2.1|exact hk_.1.1.1.2.2.2.1|exact hk_.1.1.1.1.1.2.2|exact hk_.1.1.1.2.2.2.2|exact hk_.1.1.2.2.2.2.1|exact hk_.1.1.1.1.2.2.1|exact hk_.1.1.1.1.2.2.2|exact hk_.1.1.1.1.1.2.1|exact hk_.1.1.1.1.1.2.2.2|exact hk_.1.1.1.2.2.2.2.1|exact hk_.1.1.1.1.2.2.2.2|exact hk_.1.1.1.1.1.2.2.1|exact hk_.1.1.1.1.2.2.2.1|exact hk_.1.1.1.1.1.2.2.2.2|exact hk_.1.1.1.1.1.2.2.2.1|exact hk_.1.1.1.1.2.2.2.2.1|exact hk_.1.1.1.1.1.2.2.2.2.1))));replace HO642:=A_ (Kd.R_mono (ok':=fun k_=>some k_≠(.slice Ao27 t651.length co27:Value).ownBlock) (Kd.R_keptB ((Kd.R_apart' HO642.out (Kd.R_typed HO650.out) (by decide))) hkp (fun k_ hk_ hs_=>by first|exact (hk_.2) hs_|(first|exact hk_.1 hs_|exact hk_.2 hs_|exact hk_.1.2 hs_|exact hk_.2.2 hs_|exact hk_.1.1 hs_|exact hk_.2.1 hs_|exact hk_.2.2.2 hs_|exact hk_.1.1.1 hs_|exact hk_.1.2.1 hs_|exact hk_.1.2.2 hs_|exact hk_.2.2.1 hs_|exact hk_.1.1.2 hs_|exact hk_.1.2.2.1 hs_|exact hk_.1.1.2.2 hs_|exact hk_.1.1.2.1 hs_|exact hk_.2.2.2.1 hs_|exact hk_.1.2.2.2 hs_|exact hk_.1.1.1.2 hs_|exact hk_.2.2.2.2 hs_|exact hk_.1.1.1.1 hs_|exact hk_.2.2.2.2.1 hs_|exact hk_.1.1.1.2.1 hs_|exact hk_.1.1.1.1.2 hs_|exact hk_.1.1.2.2.1 hs_|exact hk_.1.1.1.1.1 hs_|exact hk_.1.1.1.2.2 hs_|exact hk_.1.2.2.2.1 hs_|exact hk_.1.2.2.2.2 hs_|exact hk_.1.1.2.2.2 hs_|exact hk_.1.1.1.2.2.2 hs_|exact hk_.1.1.1.1.1.2 hs_|exact hk_.1.1.1.1.2.2 hs_|exact hk_.1.1.1.1.1.1 hs_|exact hk_.1.1.1.1.2.1 hs_|exact hk_.1.1.1.2.2.1 hs_|exact hk_.1.1.2.2.2.2 hs_|exact hk_.1.2.2.2.2.1 hs_|exact hk_.1.1.2.2.2.1 hs_|exact hk_.1.1.1.2.2.2.1 hs_|exact hk_.1.1.1.1.1.2.2 hs_|exact hk_.1.1.1.2.2.2.2 hs_|exact hk_.1.1.2.2.2.2.1 hs_|exact hk_.1.1.1.1.2.2.1 hs_|exact hk_.1.1.1.1.2.2.2 hs_|exact hk_.1.1.1.1.1.2.1 hs_|exact hk_.1.1.1.1.1.2.2.2 hs_|exact hk_.1.1.1.2.2.2.2.1 hs_|exact hk_.1.1.1.1.2.2.2.2 hs_|exact hk_.1.1.1.1.1.2.2.1 hs_|exact hk_.1.1.1.1.2.2.2.1 hs_|exact hk_.1.1.1.1.1.2.2.2.2 hs_|exact hk_.1.1.1.1.1.2.2.2.1 hs_|exact hk_.1.1.1.1.2.2.2.2.1 hs_|exact hk_.1.1.1.1.1.2.2.2.2.1 hs_))) (fun k_ hk_=>hk_.1.1.2));replace HO645:=A_ (Kd.R_mono (ok':=fun k_=>some k_≠(.slice Ao30 t654.length co30:Value).ownBlock) (Kd.R_keptB ((Kd.R_apart' HO645.out (Kd.R_typed HO650.out) (by decide))) hkp (fun k_ hk_ hs_=>by first|exact (hk_.2) hs_|(first|exact hk_.1 hs_|exact hk_.2 hs_|exact hk_.1.2 hs_|exact hk_.2.2 hs_|exact hk_.1.1 hs_|exact hk_.2.1 hs_|exact hk_.2.2.2 hs_|exact hk_.1.1.1 hs_|exact hk_.1.2.1 hs_|exact hk_.1.2.2 hs_|exact hk_.2.2.1 hs_|exact hk_.1.1.2 hs_|exact hk_.1.2.2.1 hs_|exact hk_.1.1.2.2 hs_|exact hk_.1.1.2.1 hs_|exact hk_.2.2.2.1 hs_|exact hk_.1.2.2.2 hs_|exact hk_.1.1.1.2 hs_|exact hk_.2.2.2.2 hs_|exact hk_.1.1.1.1 hs_|exact hk_.2.2.2.2.1 hs_|exact hk_.1.1.1.2.1 hs_|exact hk_.1.1.1.1.2 hs_|exact hk_.1.1.2.2.1 hs_|exact hk_.1.1.1.1.1 hs_|exact hk_.1.1.1.2.2 hs_|exact hk_.1.2.2.2.1 hs_|exact hk_.1.2.2.2.2 hs_|exact hk_.1.1.2.2.2 hs_|exact hk_.1.1.1.2.2.2 hs_|exact hk_.1.1.1.1.1.2 hs_|exact hk_.1.1.1.1.2.2 hs_|exact hk_.1.1.1.1.1.1 hs_|exact hk_.1.1.1.1.2.1 hs_|exact hk_.1.1.1.2.2.1 hs_|exact hk_.1.1.2.2.2.2 hs_|exact hk_.1.2.2.2.2.1 hs_|exact hk_.1.1.2.2.2.1 hs_|exact hk_.1.1.1.2.2.2.1 hs_|exact hk_.1.1.1.1.1.2.2 hs_|exact hk_.1.1.1.2.2.2.2 hs_|exact hk_.1.1.2.2.2.2.1 hs_|exact hk_.1.1.1.1.2.2.1 hs_|exact hk_.1.1.1.1.2.2.2 hs_|exact hk_.1.1.1.1.1.2.1 hs_|exact hk_.1.1.1.1.1.2.2.2 hs_|exact hk_.1.1.1.2.2.2.2.1 hs_|exact hk_.1.1.1.1.2.2.2.2 hs_|exact hk_.1.1.1.1.1.2.2.1 hs_|exact hk_.1.1.1.1.2.2.2.1 hs_|exact hk_.1.1.1.1.1.2.2.2.2 hs_|exact hk_.1.1.1.1.1.2.2.2.1 hs_|exact hk_.1.1.1.1.2.2.2.2.1 hs_|exact hk_.1.1.1.1.1.2.2.2.2.1 hs_))) (fun k_ hk_=>hk_.1.1.2));replace BK647:=A_ (blk_kept (zz7 BK647) hkp (fun hs_=>(fun e_=>(Kd.R_ne HO650.out BK647.out (by decide)) e_) hs_));replace HO653:=A_ (Kd.R_mono (ok':=fun k_=>some k_≠(.slice Ao20 t640.length co20:Value).ownBlock) (Kd.R_keptB ((Kd.R_apart' HO653.out (Kd.R_typed HO650.out) (by decide))) hkp (fun k_ hk_ hs_=>by first|exact (hk_.2) hs_|(first|exact hk_.1 hs_|exact hk_.2 hs_|exact hk_.1.2 hs_|exact hk_.2.2 hs_|exact hk_.1.1 hs_|exact hk_.2.1 hs_|exact hk_.2.2.2 hs_|exact hk_.1.1.1 hs_|exact hk_.1.2.1 hs_|exact hk_.1.2.2 hs_|exact hk_.2.2.1 hs_|exact hk_.1.1.2 hs_|exact hk_.1.2.2.1 hs_|exact hk_.1.1.2.2 hs_|exact hk_.1.1.2.1 hs_|exact hk_.2.2.2.1 hs_|exact hk_.1.2.2.2 hs_|exact hk_.1.1.1.2 hs_|exact hk_.2.2.2.2 hs_|exact hk_.1.1.1.1 hs_|exact hk_.2.2.2.2.1 hs_|exact hk_.1.1.1.2.1 hs_|exact hk_.1.1.1.1.2 hs_|exact hk_.1.1.2.2.1 hs_|exact hk_.1.1.1.1.1 hs_|exact hk_.1.1.1.2.2 hs_|exact hk_.1.2.2.2.1 hs_|exact hk_.1.2.2.2.2 hs_|exact hk_.1.1.2.2.2 hs_|exact hk_.1.1.1.2.2.2 hs_|exact hk_.1.1.1.1.1.2 hs_|exact hk_.1.1.1.1.2.2 hs_|exact hk_.1.1.1.1.1.1 hs_|exact hk_.1.1.1.1.2.1 hs_|exact hk_.1.1.1.2.2.1 hs_|exact hk_.1.1.2.2.2.2 hs_|exact hk_.1.2.2.2.2.1 hs_|exact hk_.1.1.2.2.2.1 hs_|exact hk_.1.1.1.2.2.2.1 hs_|exact hk_.1.1.1.1.1.2.2 hs_|exact hk_.1.1.1.2.2.2.2 hs_|exact hk_.1.1.2.2.2.2.1 hs_|exact hk_.1.1.1.1.2.2.1 hs_|exact hk_.1.1.1.1.2.2.2 hs_|exact hk_.1.1.1.1.1.2.1 hs_|exact hk_.1.1.1.1.1.2.2.2 hs_|exact hk_.1.1.1.2.2.2.2.1 hs_|exact hk_.1.1.1.1.2.2.2.2 hs_|exact hk_.1.1.1.1.1.2.2.1 hs_|exact hk_.1.1.1.1.2.2.2.1 hs_|exact hk_.1.1.1.1.1.2.2.2.2 hs_|exact hk_.1.1.1.1.1.2.2.2.1 hs_|exact hk_.1.1.1.1.2.2.2.2.1 hs_|exact hk_.1.1.1.1.1.2.2.2.2.1 hs_))) (fun k_ hk_=>hk_.1.1.2));replace HO656:=A_ (Kd.R_mono (ok':=fun k_=>some k_≠(.slice Ao22 t643.length co22:Value).ownBlock) (Kd.R_keptB ((Kd.R_apart' HO656.out (Kd.R_typed HO650.out) (by decide))) hkp (fun k_ hk_ hs_=>by first|exact (hk_.2) hs_|(first|exact hk_.1 hs_|exact hk_.2 hs_|exact hk_.1.2 hs_|exact hk_.2.2 hs_|exact hk_.1.1 hs_|exact hk_.2.1 hs_|exact hk_.2.2.2 hs_|exact hk_.1.1.1 hs_|exact hk_.1.2.1 hs_|exact hk_.1.2.2 hs_|exact hk_.2.2.1 hs_|exact hk_.1.1.2 hs_|exact hk_.1.2.2.1 hs_|exact hk_.1.1.2.2 hs_|exact hk_.1.1.2.1 hs_|exact hk_.2.2.2.1 hs_|exact hk_.1.2.2.2 hs_|exact hk_.1.1.1.2 hs_|exact hk_.2.2.2.2 hs_|exact hk_.1.1.1.1 hs_|exact hk_.2.2.2.2.1 hs_|exact hk_.1.1.1.2.1 hs_|exact hk_.1.1.1.1.2 hs_|exact hk_.1.1.2.2.1 hs_|exact hk_.1.1.1.1.1 hs_|exact hk_.1.1.1.2.2 hs_|exact hk_.1.2.2.2.1 hs_|exact hk_.1.2.2.2.2 hs_|exact hk_.1.1.2.2.2 hs_|exact hk_.1.1.1.2.2.2 hs_|exact hk_.1.1.1.1.1.2 hs_|exact hk_.1.1.1.1.2.2 hs_|exact hk_.1.1.1.1.1.1 hs_|exact hk_.1.1.1.1.2.1 hs_|exact hk_.1.1.1.2.2.1 hs_|exact hk_.1.1.2.2.2.2 hs_|exact hk_.1.2.2.2.2.1 hs_|exact hk_.1.1.2.2.2.1 hs_|exact hk_.1.1.1.2.2.2.1 hs_|exact hk_.1.1.1.1.1.2.2 hs_|exact hk_.1.1.1.2.2.2.2 hs_|exact hk_.1.1.2.2.2.2.1 hs_|exact hk_.1.1.1.1.2.2.1 hs_|exact hk_.1.1.1.1.2.2.2 hs_|exact hk_.1.1.1.1.1.2.1 hs_|exact hk_.1.1.1.1.1.2.2.2 hs_|exact hk_.1.1.1.2.2.2.2.1 hs_|exact hk_.1.1.1.1.2.2.2.2 hs_|exact hk_.1.1.1.1.1.2.2.1 hs_|exact hk_.1.1.1.1.2.2.2.1 hs_|exact hk_.1.1.1.1.1.2.2.2.2 hs_|exact hk_.1.1.1.1.1.2.2.2.1 hs_|exact hk_.1.1.1.1.2.2.2.2.1 hs_|exact hk_.1.1.1.1.1.2.2.2.2.1 hs_))) (fun k_ hk_=>hk_.1.1.2));replace BK658:=A_ (blk_kept (zz7 BK658) hkp (fun hs_=>(fun e_=>(Kd.R_ne HO650.out BK658.out (by decide)) e_) hs_));replace HO650:=A_ (Kd.R_reok rfl hy0 (fun k_ e_=>HO650.out.1 k_ e_));replace HO662:=A_ (Kd.R_mono (ok':=fun k_=>some k_≠(.slice Ao17 t637.length co17:Value).ownBlock∧some k_≠(.slice Ao24 t648.length co24:Value).ownBlock) (Kd.R_keptB (HO662.out) hkp (fun k_ hk_ hs_=>by first|exact (hk_.2) hs_|(first|exact hk_.1 hs_|exact hk_.2 hs_|exact hk_.1.2 hs_|exact hk_.2.2 hs_|exact hk_.1.1 hs_|exact hk_.2.1 hs_|exact hk_.2.2.2 hs_|exact hk_.1.1.1 hs_|exact hk_.1.2.1 hs_|exact hk_.1.2.2 hs_|exact hk_.2.2.1 hs_|exact hk_.1.1.2 hs_|exact hk_.1.2.2.1 hs_|exact hk_.1.1.2.2 hs_|exact hk_.1.1.2.1 hs_|exact hk_.2.2.2.1 hs_|exact hk_.1.2.2.2 hs_|exact hk_.1.1.1.2 hs_|exact hk_.2.2.2.2 hs_|exact hk_.1.1.1.1 hs_|exact hk_.2.2.2.2.1 hs_|exact hk_.1.1.1.2.1 hs_|exact hk_.1.1.1.1.2 hs_|exact hk_.1.1.2.2.1 hs_|exact hk_.1.1.1.1.1 hs_|exact hk_.1.1.1.2.2 hs_|exact hk_.1.2.2.2.1 hs_|exact hk_.1.2.2.2.2 hs_|exact hk_.1.1.2.2.2 hs_|exact hk_.1.1.1.2.2.2 hs_|exact hk_.1.1.1.1.1.2 hs_|exact hk_.1.1.1.1.2.2 hs_|exact hk_.1.1.1.1.1.1 hs_|exact hk_.1.1.1.1.2.1 hs_|exact hk_.1.1.1.2.2.1 hs_|exact hk_.1.1.2.2.2.2 hs_|exact hk_.1.2.2.2.2.1 hs_|exact hk_.1.1.2.2.2.1 hs_|exact hk_.1.1.1.2.2.2.1 hs_|exact hk_.1.1.1.1.1.2.2 hs_|exact hk_.1.1.1.2.2.2.2 hs_|exact hk_.1.1.2.2.2.2.1 hs_|exact hk_.1.1.1.1.2.2.1 hs_|exact hk_.1.1.1.1.2.2.2 hs_|exact hk_.1.1.1.1.1.2.1 hs_|exact hk_.1.1.1.1.1.2.2.2 hs_|exact hk_.1.1.1.2.2.2.2.1 hs_|exact hk_.1.1.1.1.2.2.2.2 hs_|exact hk_.1.1.1.1.1.2.2.1 hs_|exact hk_.1.1.1.1.2.2.2.1 hs_|exact hk_.1.1.1.1.1.2.2.2.2 hs_|exact hk_.1.1.1.1.1.2.2.2.1 hs_|exact hk_.1.1.1.1.2.2.2.2.1 hs_|exact hk_.1.1.1.1.1.2.2.2.2.1 hs_))) (fun k_ hk_=>by first|exact ⟨hk_.1.1.2,hk_.1.2⟩|(refine ⟨?_,?_⟩ <;> (first|exact hk_.1|exact hk_.2|exact hk_.1.2|exact hk_.2.2|exact hk_.1.1|exact hk_.2.1|exact hk_.2.2.2|exact hk_.1.1.1|exact hk_.1.2.1|exact hk_.1.2.2|exact hk_.2.2.1|exact hk_.1.1.2|exact hk_.1.2.2.1|exact hk_.1.1.2.2|exact hk_.1.1.2.1|exact hk_.2.2.2.1|exact hk_.1.2.2.2|exact hk_.1.1.1.2|exact hk_.2.2.2.2|exact hk_.1.1.1.1|exact hk_.2.2.2.2.1|exact hk_.1.1.1.2.1|exact hk_.1.1.1.1.2|exact hk_.1.1.2.2.1|exact hk_.1.1.1.1.1|exact hk_.1.1.1.2.2|exact hk_.1.2.2.2.1|exact hk_.1.2.2.2.2|exact hk_.1.1.2.2.2|exact hk_.1.1.1.2.2.2|exact hk_.1.1.1.1.1.2|exact hk_.1.1.1.1.2.2|exact hk_.1.1.1.1.1.1|exact hk_.1.1.1.1.2.1|exact hk_.1.1.1.2.2.1|exact hk_.1.1.2.2.2.2|exact hk_.1.2.2.2.2.1|exact hk_.1.1.2.2.2.1|exact hk_.1.1.1.2.2.2.1|exact hk_.1.1.1.1.1.2.2|exact hk_.1.1.1.2.2.2.2|exact hk_.1.1.2.2.2.2.1|exact hk_.1.1.1.1.2.2.1|exact hk_.1.1.1.1.2.2.2|exact hk_.1.1.1.1.1.2.1|exact hk_.1.1.1.1.1.2.2.2|exact hk_.1.1.1.2.2.2.2.1|exact hk_.1.1.1.1.2.2.2.2|exact hk_.1.1.1.1.1.2.2.1|exact hk_.1.1.1.1.2.2.2.1|exact hk_.1.1.1.1.1.2.2.2.2|exact hk_.1.1.1.1.1.2.2.2.1|exact hk_.1.1.1.1.2.2.2.2.1|exact hk_.1.1.1.1.1.2.2.2.2.1))));replace HB:=A_ (hb);(try clear hb)))
      (try simp only [Act.put,List.setIfInBounds_toArray,List.set_cons_zero,List.set_cons_succ])
      go_cut [56] (fun v56 wc=>∃ (kq:Nat) (x56_41:Bool),v56=.bool x56_41∧Aside0 (laws_FnExactWorldNotice.j0 kq l0 a1 a2 x56_41 t640 t643 t646 t651 t654 t657=some r)∧Aside0 (kq≤k)∧Aside0 (Kd.R Kd.string 9 wc w.heap.size (fun k_=>some k_≠((.slice Ao27 t651.length co27):Value).ownBlock) (.slice Ao20 t640.length co20) t640)∧Aside0 (Kd.R k93 93 wc w.heap.size (fun k_=>some k_≠((.slice Ao30 t654.length co30):Value).ownBlock) (.slice Ao22 t643.length co22) t643)∧Aside0 (Kd.R Kd.string 9 wc w.heap.size (fun k_=>some k_≠((.slice Ao20 t640.length co20):Value).ownBlock) (.slice Ao27 t651.length co27) t651)∧Aside0 (Kd.R k93 93 wc w.heap.size (fun k_=>some k_≠((.slice Ao22 t643.length co22):Value).ownBlock) (.slice Ao30 t654.length co30) t654)∧Aside0 (wc.heap[gb647]?=some (.cells #[(.slice Ao20 t640.length co20),(.slice Ao22 t643.length co22),.int .i64 t646] 32 (0,0)))∧Aside0 (wc.heap[gb658]?=some (.cells #[(.slice Ao27 t651.length co27),(.slice Ao30 t654.length co30),.int .i64 t657] 32 (0,0)))∧Aside0 (Below w.heap.size w wc))
      case first=>
       obtain ⟨H⟩:=HC42;replace H:=iteEd H;rcases H with ⟨c44b0,H⟩|⟨c44b0,H⟩
       ·(first|rw [c44b0]|(simp only [i64_w,i32_w];rw [c44b0])|skip)
        have H':=A_ H;clear H;go_wp2
        go_meet
        case rel=>exact ⟨_,(true),zz3,H',⟨zz22⟩,⟨(zz8 HO642)⟩,⟨(zz8 HO645)⟩,⟨(zz8 HO653)⟩,⟨(zz8 HO656)⟩,⟨(zz7 BK647)⟩,⟨(zz7 BK658)⟩,⟨(zz11 HB GE647 GE658)⟩⟩
       ·(first|rw [c44b0]|(simp only [i64_w,i32_w];rw [c44b0])|skip)
        replace H:=bindA H;obtain ⟨t666,A45,H⟩:=H;have H':=A_ H;clear H;have hnb46:=NB658_647.out;have hnc46:=NB647_658.out;obtain ⟨_,_,_,_,_,_⟩:=cf3 BK658;obtain ⟨_,_,_,_,_,_⟩:=cf3 BK647;go_wp2_with (first|(go_at_call 13;(with_reducible refine (laws_eqGroup.calls k _ _ t651 _ _ t654 t657 _ _ t640 _ _ t643 t646 t666 _ ?side1 ?side2 ?side3 ?side4 ?side5 ?side6 ?side7 ?side8 A45.out).mono ?_);(case side1=>exact (zz110 HO653));(case side2=>exact (Kd.R_reads' HO653.out).2.1);(case side3=>exact (zz110 HO656));(case side4=>exact (Kd.R_reads' HO656.out).2.1);(case side5=>exact (zz110 HO642));(case side6=>exact (Kd.R_reads' HO642.out).2.1);(case side7=>exact (zz110 HO645));(case side8=>exact (Kd.R_reads' HO645.out).2.1);rintro e w49 ⟨rfl,hb⟩;replace HO639:=A_ (rB (zz8 HO639) hb);replace HO642:=A_ (rB (zz8 HO642) hb);replace HO645:=A_ (rB (zz8 HO645) hb);replace HO650:=A_ (rB (zz8 HO650) hb);replace HO653:=A_ (rB (zz8 HO653) hb);replace HO656:=A_ (rB (zz8 HO656) hb);replace HO662:=A_ (rB (zz8 HO662) hb);replace BK647:=A_ (bB (zz7 BK647) hb);replace BK658:=A_ (bB (zz7 BK658) hb);replace HB:=A_ (bS (zz11 HB GE647 GE658) hb);(try clear hb)))
        go_meet
        case rel=>exact ⟨_,(!t666),zz3,H',⟨zz22⟩,⟨(zz8 HO642)⟩,⟨(zz8 HO645)⟩,⟨(zz8 HO653)⟩,⟨(zz8 HO656)⟩,⟨(zz7 BK647)⟩,⟨(zz7 BK658)⟩,⟨(zz11 HB GE647 GE658)⟩⟩
      case rest=>
       clear HC42;obtain ⟨kq,x56_41,rfl,HA,HJ41,HO_648000,HO_648001,HO_659000,HO_659001,BK647,BK658,HB⟩:=hcut;cases kq with
       | zero=>exact absurd HA.out (by simp [laws_FnExactWorldNotice.j0])
       | succ kj41=>
        obtain ⟨H⟩:=HA;simp only [laws_FnExactWorldNotice.j0] at H
        replace H:=iteB H;rcases H with ⟨rfl,H⟩|⟨rfl,H⟩
        ·obtain rfl:=sI H
         go_wp2
         go_ret
         exact ⟨zz1,(zz11 HB GE647 GE658)⟩
        ·replace H:=bindA H
         obtain ⟨⟨t667,t668,t669⟩,A51,H⟩:=H;try dsimp only at H
         replace H:=bindA H;obtain ⟨t670,A52,H⟩:=H;have HF53:=A_ H;clear H;have hnb54:=NB658_647.out;have hnc54:=NB647_658.out;obtain ⟨_,_,_,_,_,_⟩:=cf3 BK658;go_upto_if 64 with (first|(refine gR 15 (some 59) Tryz.func15 (laws_markGroup.calls kj41 (fun k_=>some k_=(.slice Ao27 t651.length co27:Value).ownBlock) (.slice Ao27 t651.length co27) t651 (fun k_=>some k_=(.slice Ao30 t654.length co30:Value).ownBlock) (.slice Ao30 t654.length co30) t654 t657 1 t667 t668 t669 w _ ?side1 ?side2 ?side3 A51.out) ?_;(case side1=>exact (zz11 HB GE647 GE658));(case side2=>exact Kd.R_tight rfl HO_659000.out);(case side3=>exact Kd.R_tight rfl HO_659001.out);rintro w56 ⟨hy0,hy1,hb,hkp⟩;replace HO_648000:=A_ (Kd.R_mono (ok':=fun k_=>some k_≠(.slice Ao27 t651.length co27:Value).ownBlock) (Kd.R_keptB ((Kd.R_apart' HO_648000.out (Kd.R_typed HO_659001.out) (by decide))) hkp (fun k_ hk_ hs_=>Or.elim hs_ (fun e_=>(hk_.1) e_) (fun e_=>(hk_.2) e_))) (fun k_ hk_=>hk_.1.1));replace HO_648001:=A_ (Kd.R_mono (ok':=fun k_=>some k_≠(.slice Ao30 t654.length co30:Value).ownBlock) (Kd.R_keptB ((Kd.R_apart' HO_648001.out (Kd.R_typed HO_659000.out) (by decide))) hkp (fun k_ hk_ hs_=>Or.elim hs_ (fun e_=>(hk_.2) e_) (fun e_=>(hk_.1) e_))) (fun k_ hk_=>hk_.1.1));replace BK647:=A_ (blk_kept (zz7 BK647) hkp (fun hs_=>Or.elim hs_ (fun e_=>(fun e_=>(Kd.R_ne HO_659000.out BK647.out (by decide)) e_) e_) (fun e_=>(fun e_=>(Kd.R_ne HO_659001.out BK647.out (by decide)) e_) e_)));replace BK658:=A_ (blk_kept (zz7 BK658) hkp (fun hs_=>Or.elim hs_ (fun e_=>(fun e_=>(Kd.R_ne HO_659000.out BK658.out (by decide)) e_) e_) (fun e_=>(fun e_=>(Kd.R_ne HO_659001.out BK658.out (by decide)) e_) e_)));replace HO_659000:=A_ (Kd.R_reok rfl hy0 (fun k_ e_=>HO_659000.out.1 k_ e_));replace HO_659001:=A_ (Kd.R_reok rfl hy1 (fun k_ e_=>HO_659001.out.1 k_ e_));replace HB:=A_ (hb);(try clear hb);obtain ⟨_,_,_,_,_,_⟩:=cf3 BK658)|((with_reducible refine gC (f:=16) rfl ?_);refine goesL_ (some 62) rfl rfl Tryz.func16 (by kernel_rfl) rfl #[.agg #[.slice Ao27 t668.length co27,.slice Ao30 t669.length co30,.int .i64 t657],.int .i64 1] rfl (zz206 HO_659000 HO_659001) ?_;(with_reducible refine (laws_heldGroup.calls kj41 _ _ t668 _ _ t669 t657 1 t670 _ ?side1 ?side2 ?side3 ?side4 A52.out).mono ?_);(case side1=>exact (zz110 HO_659000));(case side2=>exact (by rw [show t668.length=t651.length from (Kd.R_reads' HO_659000.out).1.symm];exact (Kd.R_reads' HO_659000.out).2.1));(case side3=>exact (zz110 HO_659001));(case side4=>exact (by rw [show t669.length=t654.length from (Kd.R_reads' HO_659001.out).1.symm];exact (Kd.R_reads' HO_659001.out).2.1));rintro e w58 ⟨rfl,hb⟩;refine ⟨_,rfl,?_⟩;replace HO_648000:=A_ (rB (zz8 HO_648000) hb);replace HO_648001:=A_ (rB (zz8 HO_648001) hb);replace HO_659000:=A_ (rB (zz8 HO_659000) hb);replace HO_659001:=A_ (rB (zz8 HO_659001) hb);replace BK647:=A_ (bB (zz7 BK647) hb);replace BK658:=A_ (bB (zz7 BK658) hb);replace HB:=A_ (bS (zz11 HB GE647 GE658) hb);(try clear hb)))
         obtain ⟨H⟩:=HF53;replace H:=iteEd H;rcases H with ⟨c59b0,H⟩|⟨c59b0,H⟩
         ·(first|rw [c59b0]|(simp only [i64_w,i32_w];rw [c59b0])|skip)
          obtain rfl:=sI H;go_wp2
          go_ret
          exact ⟨zz1,(zz11 HB GE647 GE658)⟩
         ·(first|rw [c59b0]|(simp only [i64_w,i32_w];rw [c59b0])|skip)
          replace H:=iteEq H;rcases H with ⟨c60b0,c60b1,H⟩|⟨c60b0,c60b1,c60,H⟩
          ·replace H:=bindA H
           obtain ⟨t671,A61,H⟩:=H;replace H:=bindA H;obtain ⟨⟨t674,t677,t680⟩,A62,H⟩:=H;try dsimp only at H
           replace H:=bindA H;obtain ⟨t682,A63,H⟩:=H;have HF64:=A_ H;clear H;go_upto_if 76 with (first|(refine gV 8 (some 69) Tryz.func8 (laws_toPageS.calls kj41 _ _ l0 t671 _ ?side1 ?side2 A61.out) ?_;(case side1=>exact (zz41 HR0 HB));(case side2=>exact HC0.out);rintro v672 w65 ⟨ho0,hb⟩;replace HO_648000:=A_ (rB (zz8 HO_648000) hb);replace HO_648001:=A_ (rB (zz8 HO_648001) hb);replace HO_659000:=A_ (rB (zz8 HO_659000) hb);replace HO_659001:=A_ (rB (zz8 HO_659001) hb);have HO673:=A_ (Kd.R_lower ho0 (below_size (zz11 HB GE647 GE658)));replace BK647:=A_ (bB (zz7 BK647) hb);replace BK658:=A_ (bB (zz7 BK658) hb);replace HB:=A_ (bS (zz11 HB GE647 GE658) hb);(try clear hb ho0);obtain ⟨Ao66,co66,eo66⟩:=Kd.R_slice HO673.out;subst eo66)|((with_reducible refine gC (f:=12) rfl ?_);refine gsL (some 72) Tryz.func12 #[.slice Ao66 t671.length co66,.string a1,.string a2] ?_;(with_reducible refine (impl_WorldNotice.calls kj41 _ _ t671 a1 a2 t674 t677 t680 _ ?side1 ?side2 A62.out).mono ?_);(case side1=>exact (zz110 HO673));(case side2=>exact (Kd.R_reads' HO673.out).2.1);rintro e w67 ⟨v675,v678,rfl,ho0,ho1,hb⟩;refine ⟨_,rfl,?_⟩;replace HO673:=A_ (rB (zz8 HO673) hb);have HO676:=A_ (Kd.R_lower (Kd.R_new' (Kd.R_new' ho0 (Kd.R_lt (zz8 HO_648000))) (Kd.R_lt (zz8 HO_659000))) (below_size (zz11 HB GE647 GE658)));replace HO_648000:=A_ (Kd.R_elder' (zz8 HO_648000) (Kd.R_base ho0) hb);replace HO_659000:=A_ (Kd.R_elder' (zz8 HO_659000) (Kd.R_base ho0) hb);have HO679:=A_ (Kd.R_lower (Kd.R_new' (Kd.R_new' ho1 (Kd.R_lt (zz8 HO_648001))) (Kd.R_lt (zz8 HO_659001))) (below_size (zz11 HB GE647 GE658)));replace HO_648001:=A_ (Kd.R_elder' (zz8 HO_648001) (Kd.R_base ho1) hb);replace HO_659001:=A_ (Kd.R_elder' (zz8 HO_659001) (Kd.R_base ho1) hb);replace BK647:=A_ (bB (zz7 BK647) hb);replace BK658:=A_ (bB (zz7 BK658) hb);replace HB:=A_ (bS (zz11 HB GE647 GE658) hb);(try clear hb ho0 ho1))|(refine boxF 14 #[.slice none 0 0,.slice none 0 0,.int .i64 0] 32 ?_;intro gb681 hg w68 BK681 hb;replace HO_648000:=A_ (rB (zz8 HO_648000) hb);replace HO_648001:=A_ (rB (zz8 HO_648001) hb);replace HO_659000:=A_ (rB (zz8 HO_659000) hb);replace HO_659001:=A_ (rB (zz8 HO_659001) hb);replace HO673:=A_ (rB (zz8 HO673) hb);replace HO676:=A_ (rB (zz8 HO676) hb);replace HO679:=A_ (rB (zz8 HO679) hb);have GE681:=geB hg (zz11 HB GE647 GE658);replace HB:=A_ (bS (zz11 HB GE647 GE658) hb);have NB647_681:=A_ ((by rw [hg];exact Nat.ne_of_lt (blk_lt (zz7 BK647)):gb647≠gb681));have NB681_647:=A_ ((by rw [hg];exact Nat.ne_of_gt (blk_lt (zz7 BK647)):gb681≠gb647));replace BK647:=A_ (bB (zz7 BK647) hb);have NB658_681:=A_ ((by rw [hg];exact Nat.ne_of_lt (blk_lt (zz7 BK658)):gb658≠gb681));have NB681_658:=A_ ((by rw [hg];exact Nat.ne_of_gt (blk_lt (zz7 BK658)):gb681≠gb658));replace BK658:=A_ (bB (zz7 BK658) hb);clear hb hg;obtain ⟨Ao69,co69,eo69⟩:=Kd.R_slice HO676.out;subst eo69;have hnb70:=NB681_647.out;have hnc70:=NB647_681.out;have hnb71:=NB681_658.out;have hnc71:=NB658_681.out;obtain ⟨_,_,_,_,_,_⟩:=cf3 BK681;obtain ⟨Ao73,co73,eo73⟩:=Kd.R_slice HO679.out;subst eo73;have hnb74:=NB647_658.out;have hnc74:=NB658_647.out;obtain ⟨_,_,_,_,_,_⟩:=cf3 BK647)|((with_reducible refine gC (f:=13) rfl ?_);refine gsL (some 75) Tryz.func13 #[.agg #[.slice Ao69 t674.length co69,.slice Ao73 t677.length co73,.int .i64 t680],.agg #[.slice Ao20 t640.length co20,.slice Ao22 t643.length co22,.int .i64 t646]] ?_;(with_reducible refine (laws_eqGroup.calls kj41 _ _ t674 _ _ t677 t680 _ _ t640 _ _ t643 t646 t682 _ ?side1 ?side2 ?side3 ?side4 ?side5 ?side6 ?side7 ?side8 A63.out).mono ?_);(case side1=>exact (by refine (Kd.R_reads' (e:=9) (base:=w.heap.size) (ok:=fun k_=>((True∧some k_≠(.slice Ao20 t640.length co20:Value).ownBlock)∧some k_≠(.slice Ao27 t651.length co27:Value).ownBlock)) (n:=t674.length) (c:=co69) ?_).2.2;exact (zz209 HO676 BK681)));(case side2=>exact (Kd.R_reads' HO676.out).2.1);(case side3=>exact (by refine (Kd.R_reads' (e:=93) (base:=w.heap.size) (ok:=fun k_=>((True∧some k_≠(.slice Ao22 t643.length co22:Value).ownBlock)∧some k_≠(.slice Ao30 t654.length co30:Value).ownBlock)) (n:=t677.length) (c:=co73) ?_).2.2;exact (zz209 HO679 BK681)));(case side4=>exact (Kd.R_reads' HO679.out).2.1);(case side5=>exact (by refine (Kd.R_reads' (e:=9) (base:=w.heap.size) (ok:=fun k_=>(some k_≠(.slice Ao27 t651.length co27:Value).ownBlock∧some k_≠(.slice Ao69 t674.length co69:Value).ownBlock)) (n:=t640.length) (c:=co20) ?_).2.2;exact (zz209 HO_648000 BK681)));(case side6=>exact (Kd.R_reads' HO_648000.out).2.1);(case side7=>exact (by refine (Kd.R_reads' (e:=93) (base:=w.heap.size) (ok:=fun k_=>(some k_≠(.slice Ao30 t654.length co30:Value).ownBlock∧some k_≠(.slice Ao73 t677.length co73:Value).ownBlock)) (n:=t643.length) (c:=co22) ?_).2.2;exact (zz209 HO_648001 BK681)));(case side8=>exact (Kd.R_reads' HO_648001.out).2.1);rintro e w76 ⟨rfl,hb⟩;refine ⟨_,rfl,?_⟩;replace HO_648000:=A_ (rB (zz209 HO_648000 BK681) hb);replace HO_648001:=A_ (rB (zz209 HO_648001 BK681) hb);replace HO_659000:=A_ (rB (zz209 HO_659000 BK681) hb);replace HO_659001:=A_ (rB (zz209 HO_659001 BK681) hb);replace HO673:=A_ (rB (zz209 HO673 BK681) hb);replace HO676:=A_ (rB (zz209 HO676 BK681) hb);replace HO679:=A_ (rB (zz209 HO679 BK681) hb);replace BK647:=A_ (bB (g:=gb647) (o:=.cells #[.slice Ao20 t640.length co20,.slice Ao22 t643.length co22,.int .i64 t646] 32 (0,0)) (zz12 BK647 NB647_681) hb);replace BK658:=A_ (bB (g:=gb658) (o:=.cells #[.slice Ao27 t651.length co27,.slice Ao30 t654.length co30,.int .i64 t657] 32 (0,0)) (zz12 BK658 NB658_681) hb);replace BK681:=A_ (bB (g:=gb681) (o:=.cells #[.slice Ao69 t674.length co69,.slice Ao73 t677.length co73,.int .i64 t680] 32 (0,0)) (zz9 BK681) hb);replace HB:=A_ (bS (zz13 HB GE647 GE658 GE681) hb);(try clear hb)))
           obtain ⟨H⟩:=HF64;replace H:=iteB H;rcases H with ⟨rfl,H⟩|⟨rfl,H⟩
           ·replace H:=bindA H
            obtain ⟨t683,A78,H⟩:=H;have HF79:=A_ H;clear H;have hnb80:=NB658_647.out;have hnc80:=NB647_658.out;have hnb81:=NB658_681.out;have hnc81:=NB681_658.out;obtain ⟨_,_,_,_,_,_⟩:=cf3 BK658;go_upto_if 81 with (first|((with_reducible refine gC (f:=16) rfl ?_);refine goesL_ (some 79) rfl rfl Tryz.func16 (by kernel_rfl) rfl #[.agg #[.slice Ao27 t668.length co27,.slice Ao30 t669.length co30,.int .i64 t657],.int .i64 1] rfl (zz206 HO_659000 HO_659001) ?_;(with_reducible refine (laws_heldGroup.calls kj41 _ _ t668 _ _ t669 t657 1 t683 _ ?side1 ?side2 ?side3 ?side4 A78.out).mono ?_);(case side1=>exact (zz110 HO_659000));(case side2=>exact (by rw [show t668.length=t651.length from (Kd.R_reads' HO_659000.out).1.symm];exact (Kd.R_reads' HO_659000.out).2.1));(case side3=>exact (zz110 HO_659001));(case side4=>exact (by rw [show t669.length=t654.length from (Kd.R_reads' HO_659001.out).1.symm];exact (Kd.R_reads' HO_659001.out).2.1));rintro e w83 ⟨rfl,hb⟩;refine ⟨_,rfl,?_⟩;replace HO_648000:=A_ (rB (zz8 HO_648000) hb);replace HO_648001:=A_ (rB (zz8 HO_648001) hb);replace HO_659000:=A_ (rB (zz8 HO_659000) hb);replace HO_659001:=A_ (rB (zz8 HO_659001) hb);replace HO673:=A_ (rB (zz8 HO673) hb);replace HO676:=A_ (rB (zz8 HO676) hb);replace HO679:=A_ (rB (zz8 HO679) hb);replace BK647:=A_ (bB (zz7 BK647) hb);replace BK658:=A_ (bB (zz7 BK658) hb);replace BK681:=A_ (bB (zz7 BK681) hb);replace HB:=A_ (bS (zz13 HB GE647 GE658 GE681) hb);(try clear hb)))
            obtain ⟨H⟩:=HF79;replace H:=iteEd H;rcases H with ⟨c84b0,H⟩|⟨c84b0,H⟩
            ·(first|rw [c84b0]|(simp only [i64_w,i32_w];rw [c84b0])|skip)
             obtain rfl:=sI H;go_wp2
             go_ret
             exact ⟨zz1,(zz13 HB GE647 GE658 GE681)⟩
            ·(first|rw [c84b0]|(simp only [i64_w,i32_w];rw [c84b0])|skip)
             replace H:=iteEq H;rcases H with ⟨c85b0,c85b1,H⟩|⟨c85b0,c85b1,c85,H⟩
             ·obtain rfl:=sI H
              go_wp2
              go_ret
              exact ⟨zz1,(zz13 HB GE647 GE658 GE681)⟩
             ·obtain rfl:=sI H
              go_wp2
              go_ret
              exact ⟨zz1,(zz13 HB GE647 GE658 GE681)⟩
           ·obtain rfl:=sI H
            go_wp2
            go_ret
            exact ⟨zz1,(zz13 HB GE647 GE658 GE681)⟩
          ·obtain rfl:=sI H
           go_wp2
           go_ret
           exact ⟨zz1,(zz11 HB GE647 GE658)⟩
     ·obtain rfl:=sI H
      go_wp2
      go_ret
      exact ⟨zz1,(zz11 HB GE647 GE658)⟩
    ·obtain rfl:=sI H
     go_wp2
     go_ret
     exact ⟨zz1,(zz11 HB GE647 GE658)⟩
end Go.Proofs.YtloijngehifbmaaGreatDoor.P
end
section
namespace Go.Proofs.YtloijngehifbmaaGreatDoor.Ad
open Go.RowKit Go.Proofs.YtloijngehifbmaaGreatDoor.P Go.Proofs.YtloijngehifbmaaGreatDoorW.PrintWords Go.Proofs.YtloijngehifbmaaGreatDoorW.PrintLast Go.Proofs.YtloijngehifbmaaGreatDoorW.PrintMore Go.Proofs.YtloijngehifbmaaGreatDoor.B
set_option linter.unusedVariables false
set_option linter.unusedSimpArgs false
theorem plain_all:∀ n:Nat,n < 256→spec_l1Plain.f (n:Int)=some (plainB (UInt8.ofNat n)):=by decide +kernel
theorem of_toNat (c:UInt8):UInt8.ofNat c.toNat=c:=UInt8.ofNat_toNat
theorem nums_one (n:Nat) (h:n < 256):strOfNums [(n:Int) % 256]=ofL [UInt8.ofNat n]:=by
 unfold strOfNums ofL
 simp only [List.map_cons,List.map_nil,ByteArray.mk.injEq]
 congr 2
 rw [show ((n:Int) % 256)=(n:Int) from by omega]
 simp
theorem drop_at {l:List UInt8} {i:Nat} (h:i < l.length):l.drop i=l[i] :: l.drop (i+1):=List.drop_eq_getElem_cons h
theorem bt_get (s:ByteArray) (i:Nat) (h:i < (L s).length):bt s i=(((L s)[i]).toNat:Int):=by
 rw [bt_L,List.getD_eq_getElem?_getD,List.getElem?_eq_getElem h];rfl
theorem app_nil (a:ByteArray):a++ofL []=a:=by apply L_inj;rw [L_app,L_of,List.append_nil]
theorem bt_at {s:ByteArray} {i:Nat} {c:UInt8} {l:List UInt8} (h:(L s).drop i=c :: l):i < s.size∧bt s i=(c.toNat:Int)∧(L s).drop (i+1)=l:=by
 have hl:i < (L s).length:=by
  rcases Nat.lt_or_ge i (L s).length with h'|h'
  ·exact h'
  ·rw [List.drop_eq_nil_of_le h'] at h;cases h
 have hd:(L s).drop i=(L s)[i] :: (L s).drop (i+1):=List.drop_eq_getElem_cons hl
 rw [h] at hd
 injection hd with h1 h2
 refine ⟨by rw [← L_size];exact hl,?_,h2.symm⟩
 rw [bt_L,List.getD_eq_getElem?_getD,List.getElem?_eq_getElem hl,← h1]
 rfl
theorem bt_end {s:ByteArray} {i:Nat} (h:(L s).drop i=[]):s.size≤i:=by
 rw [← L_size];exact List.drop_eq_nil_iff.1 h
theorem u8_eq {a b:UInt8}:((a.toNat:Int)=(b.toNat:Int))↔a=b:=by
 constructor
 ·intro h;exact UInt8.toNat_inj.1 (by omega)
 ·intro h;rw [h]
theorem rd_at {l:List ByteArray} {i:Nat} (h:i < l.length):rdOf ByteArray.empty l (i:Int)=l[i]:=by
 unfold rdOf
 rw [List.getD_eq_getElem?_getD,Int.toNat_natCast,List.getElem?_eq_getElem h]
 rfl
theorem hex_all:∀ n:Nat,n < 256→spec_l1Hex.f 2 (n:Int)=some (match hexN (UInt8.ofNat n) with|some x=>(x:Int)|none=>-1):=by decide +kernel
theorem sign_all:∀ n:Nat,n < 256→(spec_l1Sign.f (n:Int)).map L=some [37,fig (n / 16),fig (n % 16)]:=by decide +kernel
theorem hex_ev (c:UInt8):Ev (fun k=>spec_l1Hex.f k (c.toNat:Int)) (match hexN c with|some x=>(x:Int)|none=>-1):=by
 refine Ev.of (fun k=>spec_l1Hex.mono _ k) (k:=2) ?_
 have:=hex_all c.toNat c.toNat_lt
 rwa [of_toNat] at this
theorem sign_f (n:Nat) (h:n < 256):spec_l1Sign.f (n:Int)=some (ofL [37,fig (n / 16),fig (n % 16)]):=by
 have:=sign_all n h
 obtain ⟨s,hs,e⟩:=Option.map_eq_some_iff.1 this
 rw [hs,← e,of_L]
theorem enc_ev (s acc:ByteArray) (i n:Nat) (h:n < 256) (hi:i < 1000000) (ha:acc.size≤1000000) {r:ByteArray×Bool}
  (H:Ev (fun k=>spec_EscNorm.l0 k s (acc++ofL (encN n)) (i+1:Nat)) r):Ev (fun k=>spec_EscNorm.j2 k s acc (i:Int) (n:Int)) r:=by
 refine Ev.step (fun k=>?_) H
 have hw:wrap64 ((i:Int)+1)=((i+1:Nat):Int):=by rw [w64 (by omega) (by omega)];omega
 simp only [spec_EscNorm.j2]
 rw [show ((n:Int) % 256)=(n:Int) from by omega,plain_all n h]
 simp only [Option.bind_some]
 by_cases hp:plainB (UInt8.ofNat n)=true
 ·have e:=nums_one n h
  rw [show ((n:Int) % 256)=(n:Int) from by omega] at e
  have he:encN n=[UInt8.ofNat n]:=by unfold encN;rw [if_pos hp]
  have hz:=ofL_size [UInt8.ofNat n]
  rw [if_pos hp,e,if_pos (by simp at hz;omega),hw,he]
 ·have he:encN n=[37,fig (n / 16),fig (n % 16)]:=by unfold encN;rw [if_neg hp]
  rw [if_neg hp,sign_f n h]
  simp only [Option.bind_some]
  have hz:=ofL_size [37,fig (n / 16),fig (n % 16)]
  rw [if_pos (by simp at hz;omega),hw,he]
def escR (acc:ByteArray) (o:Option (List UInt8)):ByteArray×Bool:=match o with
 | some r=>(acc++ofL r,true)
 | none=>(⟨#[]⟩,false)
theorem escR_map (acc:ByteArray) (x:List UInt8) (o:Option (List UInt8)):escR acc (o.map (x++·))=escR (acc++ofL x) o:=by
 cases o with
 | none=>rfl
 | some r=>simp only [escR,Option.map_some,ofL_app,ByteArray.append_assoc]
theorem esc_l (s:ByteArray) (hs:s.size≤60) (n:Nat):∀ (i:Nat) (acc:ByteArray),i≤s.size→s.size - i≤n→acc.size≤3 * i →
  Ev (fun k=>spec_EscNorm.l0 k s acc (i:Int)) (escR acc (esc ((L s).drop i))):=by
 have hL:=L_size s
 induction n with
 | zero=>
  intro i acc hi hn ha
  refine Ev.of (fun k=>spec_EscNorm.mono_l k |>.1 _ _ _) (k:=1) ?_
  simp only [spec_EscNorm.l0]
  rw [if_neg (by omega),List.drop_eq_nil_of_le (by omega)]
  simp only [esc,escR]
  rw [app_nil]
 | succ n ih=>
  intro i acc hi hn ha
  by_cases hlt:i < s.size
  ·have hlt':i < (L s).length:=by omega
   rw [drop_at hlt']
   have hb:=bt_get s i hlt'
   by_cases hc:(L s)[i]=37
   ·have hb37:bt s i=37:=by rw [hb,hc];rfl
    have w2:wrap64 ((i:Int)+2)=((i+2:Nat):Int):=by rw [w64 (by omega) (by omega)];omega
    have w1:wrap64 ((i:Int)+1)=((i+1:Nat):Int):=by rw [w64 (by omega) (by omega)];omega
    rw [hc]
    by_cases h2:i+2 < s.size
    ·have g1:i+1 < (L s).length:=by omega
     have g2:i+2 < (L s).length:=by omega
     rw [drop_at g1,drop_at g2]
     have b1:=bt_get s (i+1) g1
     have b2:=bt_get s (i+2) g2
     have q1:=hex_ev (L s)[i+1]
     have q2:=hex_ev (L s)[i+2]
     have l1:=@hexN_lt (L s)[i+1]
     have l2:=@hexN_lt (L s)[i+2]
     generalize (L s)[i+1]=ca at b1 q1 l1 ⊢
     generalize (L s)[i+2]=cb at b2 q2 l2 ⊢
     have e3:i+2+1=i+3:=rfl
     have bad:Ev (fun k=>spec_EscNorm.j1 k s acc (i:Int) true) ((⟨#[]⟩:ByteArray),false):=
      Ev.of (fun k=>spec_EscNorm.mono_l k |>.2.2 _ _ _ _) (k:=1) (by simp [spec_EscNorm.j1])
     refine Ev.step (f:=fun k=>(spec_l1Hex.f k (ca.toNat:Int)).bind fun t=>if t < 0 then spec_EscNorm.j1 k s acc (i:Int) true else (spec_l1Hex.f k (cb.toNat:Int)).bind fun t2=>spec_EscNorm.j1 k s acc (i:Int) (decide (t2 < 0))) (fun k=>?_) ?_
     ·simp only [spec_EscNorm.l0]
      rw [if_pos (by omega),if_pos (by omega),if_pos hb37,w2,w1,if_neg (by omega),if_pos (by omega),if_pos (by omega),b1]
      congr 1
      funext t
      by_cases ht:t < 0
      ·rw [if_pos ht,if_pos ht]
      ·rw [if_neg ht,if_neg ht,if_pos (by omega),if_pos (by omega),b2]
     ·refine Ev.bind q1 ?_
      cases ha':hexN ca with
      | none=>
       rw [esc_bad1 _ _ ha']
       simp only [show ((-1:Int) < 0) from by omega,if_true]
       exact bad
      | some x=>
       have hx:=l1 ha'
       simp only [show ¬ ((x:Int) < 0) from by omega,if_false]
       refine Ev.bind q2 ?_
       cases hb':hexN cb with
       | none=>
        rw [esc_bad2 _ _ hb']
        simp only [show decide ((-1:Int) < 0)=true from by decide]
        exact bad
       | some y=>
        have hy:=l2 hb'
        simp only [show decide ((y:Int) < 0)=false from by simp]
        rw [ha'] at q1
        rw [hb'] at q2
        refine Ev.step (f:=fun k=>(spec_l1Hex.f k (ca.toNat:Int)).bind fun t=>(spec_l1Hex.f k (cb.toNat:Int)).bind fun t2=>spec_EscNorm.j2 k s acc ((i+2:Nat):Int) (wrap64 (wrap64 (t * 16)+t2))) (fun k=>?_) ?_
        ·simp only [spec_EscNorm.j1]
         rw [if_neg (by simp),w1,w2,if_pos (by omega),if_pos (by omega),b1]
         congr 1
         funext t
         rw [if_pos (by omega),if_pos (by omega),b2]
        ·refine Ev.bind q1 (Ev.bind q2 ?_)
         rw [esc_sign _ ha' hb']
         rw [show wrap64 (wrap64 ((x:Int) * 16)+(y:Int))=((x * 16+y:Nat):Int) from by rw [w64 (n:=(x:Int) * 16) (by omega) (by omega),w64 (by omega) (by omega)];omega]
         refine enc_ev s acc (i+2) (x * 16+y) (by omega) (by omega) (by omega) ?_
         rw [escR_map]
         exact ih (i+2+1) _ (by omega) (by omega) (by have z:=ofL_size (encN (x * 16+y));have:=encN_len (x * 16+y);rw [ByteArray.size_append];omega)
    ·rw [esc_short (by rw [List.length_drop];omega)]
     refine Ev.of (fun k=>spec_EscNorm.mono_l k |>.1 _ _ _) (k:=2) ?_
     simp only [spec_EscNorm.l0,spec_EscNorm.j1]
     rw [if_pos (by omega),if_pos (by omega),if_pos hb37,w2,if_pos (by omega)]
     rfl
   ·have hb37:¬ bt s i=37:=by
     rw [hb]
     intro e
     exact hc (UInt8.toNat_inj.1 (by have:(37:UInt8).toNat=37:=rfl;omega))
    rw [esc_plain _ hc]
    have hlt8:=(L s)[i].toNat_lt
    refine Ev.step (f:=fun k=>spec_EscNorm.j2 k s acc (i:Int) (((L s)[i].toNat:Nat):Int)) (fun k=>?_) ?_
    ·simp only [spec_EscNorm.l0]
     rw [if_pos (by omega),if_pos (by omega),if_neg hb37,hb,w64 (by omega) (by omega)]
    ·refine enc_ev s acc i _ (by omega) (by omega) (by omega) ?_
     rw [escR_map]
     exact ih (i+1) _ (by omega) (by omega) (by have z:=ofL_size (encN (L s)[i].toNat);have:=encN_len (L s)[i].toNat;rw [ByteArray.size_append];omega)
  ·refine Ev.of (fun k=>spec_EscNorm.mono_l k |>.1 _ _ _) (k:=1) ?_
   simp only [spec_EscNorm.l0]
   rw [if_neg (by omega),List.drop_eq_nil_of_le (by omega)]
   simp only [esc,escR]
   rw [app_nil]
theorem escNorm_ev (s:ByteArray):Ev (fun k=>spec_EscNorm.f k s) (escNorm s):=by
 unfold spec_EscNorm.f escNorm
 by_cases h:s.size > 60
 ·simp only [show ((s.size:Int) > 60) from by omega,if_true,h]
  exact Ev.now _
 ·simp only [show ¬ ((s.size:Int) > 60) from by omega,if_false,h]
  have:=esc_l s (by omega) s.size 0 ⟨#[]⟩ (by omega) (by omega) (Nat.le_refl 0)
  simp only [List.drop_zero] at this
  have e:escR (⟨#[]⟩:ByteArray) (esc (L s))=escO (esc (L s)):=by
   unfold escR escO
   cases esc (L s) with
   | none=>rfl
   | some r=>simp only [Prod.mk.injEq,and_true];apply L_inj;rw [L_app];rfl
  rw [← e]
  exact this
theorem norm_ev (s:ByteArray):Ev (fun k=>spec_l1Norm.f k s) (isNorm s):=by
 unfold spec_l1Norm.f isNorm
 refine Ev.bind (escNorm_ev s) ?_
 by_cases h:(escNorm s).2=true
 ·simp only [h,if_true,Bool.true_and]
  exact Ev.now _
 ·simp only [h,if_false,Bool.false_and]
  exact Ev.now _
theorem spec_house_l (s:ByteArray) (hs:s.size≤140737488351232) (d:Nat):∀ (k:Nat) (i:Nat),i+d=s.size→d < k →
  spec_l1House.l0 k s (i:Int)=some (smallFrom s d i && (decide (1≤s.size) && decide (s.size≤5))):=by
 induction d with
 | zero=>
  intro k i h hk
  obtain ⟨k,rfl⟩:∃ m,k=m+1:=⟨k - 1,by omega⟩
  simp only [spec_l1House.l0,smallFrom,spec_l6In.f]
  rw [if_neg (by omega)]
  by_cases h1:1≤s.size
  ·rw [if_pos (by omega)];simp [h1];omega
  ·rw [if_neg (by omega)];simp [h1]
 | succ d ih=>
  intro k i h hk
  obtain ⟨k,rfl⟩:∃ m,k=m+1:=⟨k - 1,by omega⟩
  simp only [spec_l1House.l0,smallFrom]
  rw [if_pos (by omega),if_pos (by omega)]
  by_cases h1:bt s i < 97
  ·rw [if_pos h1,if_pos h1];rfl
  ·rw [if_neg h1,if_neg h1]
   by_cases h2:bt s i > 122
   ·rw [if_pos h2,if_pos h2];rfl
   ·rw [if_neg h2,if_neg h2,w64 (by omega) (by omega)]
    exact ih k (i+1) (by omega) (by omega)
theorem house_ev (s:ByteArray) (hs:s.size≤140737488351232):Ev (fun k=>spec_l1House.f k s) (isHouse s):=by
 refine Ev.of (fun k=>spec_l1House.mono _ k) (k:=s.size+1) ?_
 unfold spec_l1House.f
 have:=spec_house_l s hs s.size (s.size+1) 0 (by omega) (by omega)
 rw [show ((0:Nat):Int)=0 from rfl] at this
 rw [this]
 unfold isHouse isSmall
 cases smallFrom s s.size 0 <;> simp
structure Parts (ps:List ByteArray):Prop where
 few:ps.length≤1000
 short:∀ p ∈ ps,p.size≤1048576
def fin (asks:Bool) (ask b:ByteArray):ByteArray:=if asks=true then (b++⟨#[63]⟩)++ask else b
theorem path_end (acc house:ByteArray) (parts:List ByteArray) (asks:Bool) (ask:ByteArray) (i:Nat) (hi:i=parts.length) (ha:acc.size≤2000000000) (hq:ask.size≤1048576) :
  Ev (fun k=>spec_l1Path.l0 k acc (i:Int) house parts asks ask) (fin asks ask acc):=by
 refine Ev.of (fun k=>spec_l1Path.mono_l k _ _ _ _ _ _) (k:=1) ?_
 simp only [spec_l1Path.l0,fin]
 rw [if_neg (by omega)]
 by_cases h:asks=true
 ·rw [if_pos h,if_pos h,if_pos (by omega),if_pos (by omega)]
 ·rw [if_neg h,if_neg h]
theorem path_l (house:ByteArray) (parts:List ByteArray) (asks:Bool) (ask:ByteArray) (hP:Parts parts) (hq:ask.size≤1048576) (d:Nat):∀ (i:Nat) (acc:ByteArray),i+d=parts.length→1≤i→(acc.size:Int)≤1+(i:Int) * 1048577 →
  Ev (fun k=>spec_l1Path.l0 k acc (i:Int) house parts asks ask) (fin asks ask ((parts.drop i).foldl (fun a q=>(a++⟨#[47]⟩)++q) acc)):=by
 have hf:=hP.few
 induction d with
 | zero=>
  intro i acc hi _ ha
  rw [List.drop_eq_nil_of_le (by omega)]
  exact path_end acc house parts asks ask i (by omega) (by omega) hq
 | succ d ih=>
  intro i acc hi h1 ha
  have hlt:i < parts.length:=by omega
  have hz:=hP.short parts[i] (List.getElem_mem hlt)
  rw [List.drop_eq_getElem_cons hlt,List.foldl_cons]
  have h47:(⟨#[47]⟩:ByteArray).size=1:=rfl
  have hsz:((acc++(⟨#[47]⟩:ByteArray))++parts[i]).size=acc.size+1+parts[i].size:=by rw [ByteArray.size_append,ByteArray.size_append,h47]
  have f1:(i:Int) < (parts.length:Int):=by omega
  have f2:(i:Int) > 0:=by omega
  have f3:acc.size+1≤9223372036854775807:=by omega
  have f4:0≤(i:Int):=by omega
  have f5:acc.size+1+parts[i].size≤9223372036854775807:=by omega
  have hw:wrap64 ((i:Int)+1)=((i+1:Nat):Int):=by rw [w64 (by omega) (by omega)];omega
  have h:=ih (i+1) ((acc++(⟨#[47]⟩:ByteArray))++parts[i]) (by omega) (by omega) (by rw [hsz];omega)
  refine Ev.step (fun k=>?_) h
  simp only [spec_l1Path.l0]
  rw [if_pos f1,if_pos f2,if_pos f3,if_pos f4,rd_at hlt,if_pos f5,hw]
theorem path_ev (house:ByteArray) (parts:List ByteArray) (asks:Bool) (ask:ByteArray) (hP:Parts parts) (hq:ask.size≤1048576) :
  Ev (fun k=>spec_l1Path.f k house parts asks ask) (pathB parts asks ask):=by
 unfold spec_l1Path.f
 match parts,hP with
 | [],hP=>
  have:=path_end ⟨#[47]⟩ house [] asks ask 0 rfl (by decide) hq
  exact this
 | p :: r,hP=>
  have hz:=hP.short p List.mem_cons_self
  have hs:((⟨#[47]⟩:ByteArray)++p).size=1+p.size:=by rw [ByteArray.size_append];rfl
  refine Ev.step (fun k=>?_) (path_l house (p :: r) asks ask hP hq r.length 1 ((⟨#[47]⟩:ByteArray)++p) (by simp;omega) (by omega) (by omega))
  have h47:(⟨#[47]⟩:ByteArray).size=1:=rfl
  have hr0:rdOf ByteArray.empty (p :: r) 0=p:=rfl
  simp only [spec_l1Path.l0]
  have f1:(0:Int) < ((p :: r).length:Int):=by simp only [List.length_cons];omega
  have f5:(⟨#[47]⟩:ByteArray).size+p.size≤9223372036854775807:=by omega
  rw [if_pos f1,if_neg (by omega),if_pos (by omega),hr0,if_pos f5,w64 (by omega) (by omega)]
  rfl
theorem path_size (parts:List ByteArray) (asks:Bool) (ask:ByteArray) (hP:Parts parts) (hq:ask.size≤1048576):(pathB parts asks ask).size≤2000000000:=by
 have hf:=hP.few
 have hb:((body parts).size:Int)≤1+(parts.length:Int) * 1048577:=by
  match parts,hP with
  | [],_=>simp [body];decide
  | p :: r,hP=>
   have key:∀ (r:List ByteArray) (acc:ByteArray),(∀ q ∈ r,q.size≤1048576)→((r.foldl (fun a q=>(a++⟨#[47]⟩)++q) acc).size:Int)≤(acc.size:Int)+(r.length:Int) * 1048577:=by
    intro r
    induction r with
    | nil=>intro acc _;simp
    | cons q r ih=>
     intro acc h
     have:=ih ((acc++⟨#[47]⟩)++q) (fun x hx=>h x (List.mem_cons_of_mem _ hx))
     have hq:=h q List.mem_cons_self
     have h47:(⟨#[47]⟩:ByteArray).size=1:=rfl
     rw [List.foldl_cons]
     rw [ByteArray.size_append,ByteArray.size_append] at this
     simp only [List.length_cons]
     omega
   have:=key r ((⟨#[47]⟩:ByteArray)++p) (fun x hx=>hP.short x (List.mem_cons_of_mem _ hx))
   have hz:=hP.short p List.mem_cons_self
   have hs:((⟨#[47]⟩:ByteArray)++p).size=1+p.size:=by rw [ByteArray.size_append];rfl
   simp only [body,List.length_cons]
   omega
 unfold pathB
 have h63:(⟨#[63]⟩:ByteArray).size=1:=rfl
 split
 ·rw [ByteArray.size_append,ByteArray.size_append];omega
 ·omega
theorem text_ev (house:ByteArray) (parts:List ByteArray) (asks:Bool) (ask:ByteArray) (hP:Parts parts) (hq:ask.size≤1048576) (hh:house.size≤1048576) :
  Ev (fun k=>spec_l1Text.f k house parts asks ask) (textB house parts asks ask):=by
 unfold spec_l1Text.f
 have hz:=path_size parts asks ask hP hq
 simp only [show 2+house.size≤9223372036854775807 from by omega,if_true]
 refine Ev.bind (path_ev house parts asks ask hP hq) ?_
 simp only [show 2+house.size+(pathB parts asks ask).size≤9223372036854775807 from by omega,if_true]
 exact Ev.now _
theorem ok_l (house:ByteArray) (parts:List ByteArray) (asks:Bool) (ask:ByteArray) (hP:Parts parts) (hq:ask.size≤1048576) (hh:house.size≤1048576) (d:Nat):∀ (i:Nat),i+d=parts.length →
  Ev (fun k=>spec_AddrOk.l0 k (i:Int) house parts asks ask) ((parts.drop i).all partOk && decide ((textB house parts asks ask).size≤60)):=by
 have hf:=hP.few
 induction d with
 | zero=>
  intro i hi
  rw [List.drop_eq_nil_of_le (by omega)]
  simp only [List.all_nil,Bool.true_and]
  refine Ev.step (f:=fun k=>(spec_l1Text.f k house parts asks ask).bind fun t=>some (decide ((t.size:Int)≤60))) (fun k=>?_) (Ev.bind (text_ev house parts asks ask hP hq hh) ?_)
  ·simp only [spec_AddrOk.l0]
   rw [if_neg (by omega)]
  ·have e:decide (((textB house parts asks ask).size:Int)≤60)=decide ((textB house parts asks ask).size≤60):=by rw [Bool.eq_iff_iff];simp;omega
   rw [e]
   exact Ev.now _
 | succ d ih=>
  intro i hi
  have hlt:i < parts.length:=by omega
  rw [List.drop_eq_getElem_cons hlt,List.all_cons]
  refine Ev.step (f:=fun k=>(spec_l1Norm.f k parts[i]).bind fun t=>if t=true then (if parts[i].toList=[] then some false else if parts[i].toList=[46] then some false else if parts[i].toList=[46,46] then some false else spec_AddrOk.l0 k ((i+1:Nat):Int) house parts asks ask) else some false) (fun k=>?_) (Ev.bind (norm_ev parts[i]) ?_)
  ·simp only [spec_AddrOk.l0]
   rw [if_pos (by omega),if_pos (by omega),rd_at hlt,w64 (by omega) (by omega)]
   rfl
  ·by_cases h1:isNorm parts[i]=true
   ·by_cases h2:parts[i].toList=[]
    ·simp only [h1,h2,if_true]
     rw [show partOk parts[i]=false from by simp [partOk,h2]]
     exact Ev.now _
    ·by_cases h3:parts[i].toList=[46]
     ·simp only [h1,h3,if_true]
      rw [show partOk parts[i]=false from by simp [partOk,h3]]
      exact Ev.now _
     ·by_cases h4:parts[i].toList=[46,46]
      ·simp only [h1,h4,if_true]
       rw [show partOk parts[i]=false from by simp [partOk,h4]]
       exact Ev.now _
      ·simp only [h1,h2,h3,h4,if_true,if_false]
       rw [show partOk parts[i]=true from by simp [partOk,h1,h2,h3,h4],Bool.true_and]
       exact ih (i+1) (by omega)
   ·simp only [h1,if_false]
    rw [show partOk parts[i]=false from by simp [partOk,h1]]
    exact Ev.now _
theorem addrOk_ev (house:ByteArray) (parts:List ByteArray) (asks:Bool) (ask:ByteArray) (hP:Parts parts) (hq:ask.size≤1048576) (hh:house.size≤1048576) :
  Ev (fun k=>spec_AddrOk.f k house parts asks ask) (addrOk house parts asks ask):=by
 have hf:=hP.few
 have bad:∀ r,r=false→Ev (fun k=>spec_AddrOk.j0 k true house parts asks ask) r:=fun r hr=>by
  subst hr
  exact Ev.of (fun k=>spec_AddrOk.mono_l k |>.1 _ _ _ _ _) (k:=1) (by simp [spec_AddrOk.j0])
 have good:Ev (fun k=>spec_AddrOk.j0 k false house parts asks ask) (parts.all partOk && decide ((textB house parts asks ask).size≤60)):=by
  refine Ev.step (fun k=>?_) (by simpa using ok_l house parts asks ask hP hq hh parts.length 0 (by omega))
  simp [spec_AddrOk.j0]
 unfold spec_AddrOk.f
 refine Ev.bind (house_ev house (by omega)) ?_
 by_cases h1:isHouse house=true
 ·simp only [h1,if_true]
  by_cases h2:parts.length≤5
  ·simp only [show ¬ ((parts.length:Int) > 5) from by omega,if_false]
   refine Ev.bind (norm_ev ask) ?_
   by_cases h3:isNorm ask=true
   ·simp only [h3,if_true]
    by_cases h4:asks=true
    ·simp only [h4,if_true]
     rw [h4] at good
     rw [show addrOk house parts true ask=(parts.all partOk && decide ((textB house parts true ask).size≤60)) from by simp [addrOk,h1,h2,h3]]
     exact good
    ·rw [show (fun k=>if asks=true then spec_AddrOk.j0 k false house parts asks ask else spec_AddrOk.j0 k (ask.toList != []) house parts asks ask)=(fun k=>spec_AddrOk.j0 k (ask.toList != []) house parts asks ask) from by funext k;rw [if_neg h4]]
     by_cases h5:ask.toList=[]
     ·obtain rfl:asks=false:=by simpa using h4
      simp only [h5,bne_self_eq_false,Bool.false_eq_true,if_false]
      rw [show addrOk house parts false ask=(parts.all partOk && decide ((textB house parts false ask).size≤60)) from by simp [addrOk,h1,h2,h3,h5]]
      exact good
     ·rw [show (ask.toList != ([]:List UInt8))=true from by simp [h5]]
      exact bad _ (by simp [addrOk,h4,h5])
   ·simp only [h3,if_false]
    exact bad _ (by simp [addrOk,h3])
  ·simp only [show (parts.length:Int) > 5 from by omega,if_true]
   exact bad _ (by simp [addrOk,h2])
 ·simp only [h1,if_false]
  exact bad _ (by simp [addrOk,h1])
theorem addrText_ev (house:ByteArray) (parts:List ByteArray) (asks:Bool) (ask:ByteArray) (hP:Parts parts) (hq:ask.size≤1048576) (hh:house.size≤1048576) :
  Ev (fun k=>spec_AddrText.f k house parts asks ask) (addrText house parts asks ask):=by
 unfold spec_AddrText.f addrText
 refine Ev.bind (addrOk_ev house parts asks ask hP hq hh) ?_
 by_cases h:addrOk house parts asks ask=true
 ·simp only [h,if_true]
  exact Ev.bind (text_ev house parts asks ask hP hq hh) (Ev.now _)
 ·simp only [h,if_false]
  exact Ev.now _
def ints (l:List UInt8):List Int:=l.map fun c=>(c.toNat:Int)
theorem ints_app (a b:List UInt8):ints (a++b)=ints a++ints b:=by simp [ints]
theorem ints_len (a:List UInt8):(ints a).length=a.length:=by simp [ints]
theorem nums_ints (l:List UInt8):strOfNums (ints l)=ofL l:=by
 unfold strOfNums ofL ints
 rw [List.map_map]
 congr 2
 have h:((fun n:Int=>UInt8.ofNat n.toNat) ∘ fun c:UInt8=>(c.toNat:Int))=id:=by funext c;simp
 exact (congrArg (fun f=>List.map f l) h).trans (List.map_id l)
theorem figv_all:∀ n:Nat,n < 256→impl_figureValue.f (n:Int)=some (match hexN (UInt8.ofNat n) with|some x=>((x:Int),true)|none=>(0,false)):=by decide +kernel
theorem figv (c:UInt8):impl_figureValue.f (c.toNat:Int)=some (match hexN c with|some x=>((x:Int),true)|none=>(0,false)):=by
 have:=figv_all c.toNat c.toNat_lt
 rwa [of_toNat] at this
theorem stands_all:∀ n:Nat,n < 256→impl_standsForItself.f (n:Int)=some (plainB (UInt8.ofNat n)):=by decide +kernel
def hexT:ByteArray:=⟨#[48,49,50,51,52,53,54,55,56,57,65,66,67,68,69,70]⟩
theorem put_all:∀ n:Nat,n < 256→(plainB (UInt8.ofNat n)=true→[(n:Int)]=ints (encN n))∧(plainB (UInt8.ofNat n)=false→0≤(n:Int) / 16∧(n:Int) / 16 < 16∧0≤Go.bits .and .u8 (n:Int) 15∧Go.bits .and .u8 (n:Int) 15 < 16 ∧
  ([37,bt hexT ((n:Int) / 16),bt hexT (Go.bits .and .u8 (n:Int) 15)]:List Int)=ints (encN n)):=by decide +kernel
theorem sign_i (s:ByteArray) (i:Nat) (hs:s.size≤60) (hi:i < s.size) :
  impl_signByte.f s (i:Int)=some (if h:i+2 < (L s).length then (match hexN ((L s)[i+1]'(by omega)),hexN ((L s)[i+2]'h) with|some x,some y=>(((x * 16+y:Nat):Int),true)|_,_=>(0,false)) else (0,false)):=by
 have hL:=L_size s
 unfold impl_signByte.f
 rw [w64 (n:=(s.size:Int) - i) (by omega) (by omega)]
 by_cases h:i+2 < (L s).length
 ·rw [dif_pos h,if_neg (by omega),w64 (n:=(i:Int)+1) (by omega) (by omega),w64 (n:=(i:Int)+2) (by omega) (by omega),if_pos (by omega),if_pos (by omega)]
  have b1:=bt_get s (i+1) (by omega)
  have b2:=bt_get s (i+2) h
  have l1:=@hexN_lt ((L s)[i+1]'(by omega))
  have l2:=@hexN_lt ((L s)[i+2]'h)
  rw [show ((i:Int)+1)=((i+1:Nat):Int) from by omega,show ((i:Int)+2)=((i+2:Nat):Int) from by omega,b1,b2]
  generalize (L s)[i+1]'(by omega)=ca at l1 ⊢
  generalize (L s)[i+2]'h=cb at l2 ⊢
  rw [figv ca,figv cb]
  simp only [Option.bind_some]
  rw [if_pos (by omega),if_pos (by omega)]
  cases ha:hexN ca with
  | none=>simp
  | some x=>
   cases hb:hexN cb with
   | none=>simp
   | some y=>
    have:=l1 ha
    have:=l2 hb
    simp only [if_true]
    rw [w64 (n:=(x:Int) * 16) (by omega) (by omega),w64 (by omega) (by omega)]
    congr 2
    omega
 ·rw [dif_neg h,if_pos (by omega)]
theorem enc_i (s:ByteArray) (acc:List UInt8) (n:Nat) (j:Int) (h:n < 256) (ha:acc.length≤1000000) (k:Nat) :
  ((impl_standsForItself.f (n:Int)).bind fun t=>(if t=true then (if (ints acc).length < 140737488355328 then (impl_EscNorm.l0 k s (ints acc++[(n:Int)]) j) else (none)) else (if 0≤((n:Int) / 16) then (if ((n:Int) / 16) < 16 then (if 0≤(Go.bits .and .u8 (n:Int) 15) then (if (Go.bits .and .u8 (n:Int) 15) < 16 then ((some (([37,bt (⟨#[48,49,50,51,52,53,54,55,56,57,65,66,67,68,69,70]⟩:ByteArray) ((n:Int) / 16),bt (⟨#[48,49,50,51,52,53,54,55,56,57,65,66,67,68,69,70]⟩:ByteArray) (Go.bits .and .u8 (n:Int) 15)]:List Int):List Int)).bind fun y=>(if (ints acc).length+y.length < 140737488355328 then (impl_EscNorm.l0 k s (ints acc++y) j) else (none))) else (none)) else (none)) else (none)) else (none))))=impl_EscNorm.l0 k s (ints (acc++encN n)) j:=by
 obtain ⟨p1,p2⟩:=put_all n h
 rw [stands_all n h]
 simp only [Option.bind_some]
 have hl:=ints_len acc
 cases hp:plainB (UInt8.ofNat n) with
 | true=>rw [if_pos rfl,if_pos (by omega),ints_app,p1 hp]
 | false=>
  obtain ⟨q1,q2,q3,q4,q5⟩:=p2 hp
  rw [if_neg (by simp),if_pos q1,if_pos q2,if_pos q3,if_pos q4]
  unfold hexT at q5
  rw [q5]
  have:=encN_len n
  have:=ints_len (encN n)
  rw [if_pos (by omega),ints_app]
theorem esc_i (s:ByteArray) (hs:s.size≤60) (n:Nat):∀ (i:Nat) (acc:List UInt8),i≤s.size→s.size - i≤n→acc.length≤3 * i →
  Ev (fun k=>impl_EscNorm.l0 k s (ints acc) (i:Int)) (escR (ofL acc) (esc ((L s).drop i))):=by
 have hL:=L_size s
 induction n with
 | zero=>
  intro i acc hi hn ha
  refine Ev.of (fun k=>impl_EscNorm.mono_l k |> fun h=>h _ _ _) (k:=1) ?_
  simp only [impl_EscNorm.l0]
  rw [if_neg (by omega),List.drop_eq_nil_of_le (by omega)]
  simp only [esc,escR]
  rw [app_nil,nums_ints]
 | succ n ih=>
  intro i acc hi hn ha
  by_cases hlt:i < s.size
  ·have hlt':i < (L s).length:=by omega
   rw [drop_at hlt']
   have hb:=bt_get s i hlt'
   by_cases hc:(L s)[i]=37
   ·have hb37:bt s i=37:=by rw [hb,hc];rfl
    have w3:wrap64 (wrap64 ((i:Int)+2)+1)=((i+2+1:Nat):Int):=by rw [w64 (n:=(i:Int)+2) (by omega) (by omega),w64 (by omega) (by omega)];omega
    rw [hc]
    have sg:=sign_i s i hs hlt
    refine Ev_succ ?_
    simp only [impl_EscNorm.l0]
    simp only [show ((i:Int) < (s.size:Int)) from by omega,show ((0:Int)≤(i:Int)) from by omega,hb37,if_true,sg,Option.bind_some,w3]
    by_cases h2:i+2 < (L s).length
    ·have g1:i+1 < (L s).length:=by omega
     rw [drop_at g1,drop_at h2]
     simp only [h2,dif_pos]
     generalize (L s)[i+1]'g1=ca
     generalize (L s)[i+2]'h2=cb
     cases ha':hexN ca with
     | none=>
      rw [esc_bad1 _ _ ha']
      simp only [Bool.false_eq_true,if_false]
      exact Ev.now _
     | some x=>
      cases hb':hexN cb with
      | none=>
       rw [esc_bad2 _ _ hb']
       simp only [Bool.false_eq_true,if_false]
       exact Ev.now _
      | some y=>
       have hx:=hexN_lt ha'
       have hy:=hexN_lt hb'
       rw [esc_sign _ ha' hb',escR_map]
       simp only [if_true]
       refine Ev.congr (fun k=>enc_i s acc (x * 16+y) _ (by omega) (by omega) k) ?_
       have:=encN_len (x * 16+y)
       rw [← ofL_app]
       exact ih (i+2+1) _ (by omega) (by omega) (by rw [List.length_append];omega)
    ·rw [esc_short (by rw [List.length_drop];omega)]
     simp only [h2,dif_neg,not_false_eq_true,Bool.false_eq_true,if_false]
     exact Ev.now _
   ·have hb37:¬ bt s i=37:=by
     rw [hb]
     intro e
     exact hc (UInt8.toNat_inj.1 (by have:(37:UInt8).toNat=37:=rfl;omega))
    rw [esc_plain _ hc]
    have hlt8:=(L s)[i].toNat_lt
    have w1:wrap64 ((i:Int)+1)=((i+1:Nat):Int):=by rw [w64 (by omega) (by omega)];omega
    refine Ev_succ ?_
    simp only [impl_EscNorm.l0]
    simp only [show ((i:Int) < (s.size:Int)) from by omega,show ((0:Int)≤(i:Int)) from by omega,hb37,if_true,if_false,w1]
    rw [escR_map]
    simp only [hb]
    refine Ev.congr (fun k=>enc_i s acc (L s)[i].toNat _ (by omega) (by omega) k) ?_
    have hz:=encN_len (L s)[i].toNat
    rw [← ofL_app]
    refine ih (i+1) _ (by omega) (by omega) ?_
    rw [List.length_append];omega
  ·refine Ev.of (fun k=>impl_EscNorm.mono_l k |> fun h=>h _ _ _) (k:=1) ?_
   simp only [impl_EscNorm.l0]
   rw [if_neg (by omega),List.drop_eq_nil_of_le (by omega)]
   simp only [esc,escR]
   rw [app_nil,nums_ints]
theorem escNorm_i (s:ByteArray):Ev (fun k=>impl_EscNorm.f k s) (escNorm s):=by
 unfold impl_EscNorm.f escNorm
 by_cases h:s.size > 60
 ·simp only [show ((s.size:Int) > 60) from by omega,if_true,h]
  exact Ev.now _
 ·simp only [show ¬ ((s.size:Int) > 60) from by omega,if_false,h]
  have:=esc_i s (by omega) s.size 0 [] (by omega) (by omega) (Nat.le_refl 0)
  simp only [List.drop_zero] at this
  have e:escR (ofL []) (esc (L s))=escO (esc (L s)):=by
   unfold escR escO
   cases esc (L s) with
   | none=>rfl
   | some r=>simp only [Prod.mk.injEq,and_true];apply L_inj;rw [L_app];rfl
  rw [← e]
  exact this
theorem norm_i (s:ByteArray):Ev (fun k=>impl_isNormal.f k s) (isNorm s):=by
 unfold impl_isNormal.f isNorm
 refine Ev.bind (escNorm_i s) ?_
 by_cases h:(escNorm s).2=true
 ·simp only [h,if_true,Bool.true_and]
  exact Ev.now _
 ·simp only [h,if_false,Bool.false_and]
  exact Ev.now _
theorem small_i (s:ByteArray) (hs:s.size≤140737488351232) (d:Nat):∀ (k:Nat) (i:Nat),i+d=s.size→d < k →
  impl_allSmallLetters.l0 k s (i:Int)=some (smallFrom s d i):=by
 induction d with
 | zero=>
  intro k i h hk
  obtain ⟨k,rfl⟩:∃ m,k=m+1:=⟨k - 1,by omega⟩
  simp only [impl_allSmallLetters.l0,smallFrom]
  rw [if_neg (by omega)]
 | succ d ih=>
  intro k i h hk
  obtain ⟨k,rfl⟩:∃ m,k=m+1:=⟨k - 1,by omega⟩
  simp only [impl_allSmallLetters.l0,smallFrom]
  rw [if_pos (by omega),if_pos (by omega)]
  by_cases h1:bt s i < 97
  ·rw [if_pos h1,if_pos h1]
  ·rw [if_neg h1,if_neg h1]
   by_cases h2:bt s i > 122
   ·rw [if_pos h2,if_pos h2]
   ·rw [if_neg h2,if_neg h2,w64 (by omega) (by omega)]
    exact ih k (i+1) (by omega) (by omega)
theorem smalls_i (s:ByteArray) (hs:s.size≤140737488351232):Ev (fun k=>impl_allSmallLetters.f k s) (isSmall s):=by
 refine Ev.of (fun k=>impl_allSmallLetters.mono _ k) (k:=s.size+1) ?_
 exact small_i s hs s.size (s.size+1) 0 (by omega) (by omega)
theorem house_i (s:ByteArray) (hs:s.size≤140737488351232):Ev (fun k=>impl_isHouse.f k s) (isHouse s):=by
 unfold impl_isHouse.f isHouse
 by_cases h1:1≤s.size
 ·simp only [show ((s.size:Int) ≥ 1) from by omega,if_true,h1,decide_true,Bool.true_and]
  by_cases h2:s.size≤5
  ·simp only [show ((s.size:Int)≤5) from by omega,if_true,h2,decide_true,Bool.true_and]
   exact Ev.bind (smalls_i s hs) (Ev.now _)
  ·simp only [show ¬ ((s.size:Int)≤5) from by omega,if_false,h2,decide_false,Bool.false_and]
   exact Ev.now _
 ·simp only [show ¬ ((s.size:Int) ≥ 1) from by omega,if_false,h1,decide_false,Bool.false_and]
  exact Ev.now _
theorem L_fold:∀ (r:List ByteArray) (acc:ByteArray),L (r.foldl (fun a q=>(a++⟨#[47]⟩)++q) acc)=L acc++Lib.joinTail [47] (r.map L)
 | [],acc=>by simp [Lib.joinTail]
 | q :: r,acc=>by
  rw [List.foldl_cons,L_fold r,L_app,L_app]
  simp [Lib.joinTail,L]
theorem L_body (ps:List ByteArray):L (body ps)=47 :: Lib.join (ps.map L) [47]:=by
 cases ps with
 | nil=>rfl
 | cons p r=>
  unfold body
  rw [L_fold,List.map_cons,Lib.join_cons,L_app]
  rfl
theorem body_join (ps:List ByteArray):(⟨#[47]⟩:ByteArray)++ofL (Lib.join (ps.map L) [47])=body ps:=by
 apply L_inj
 rw [L_app,L_of,L_body]
 rfl
theorem join_len (ps:List ByteArray):(Lib.join (ps.map L) [47]).length+1=(body ps).size:=by
 rw [← L_size,L_body];simp
theorem path_i (parts:List ByteArray) (asks:Bool) (ask house:ByteArray) (hP:Parts parts) (hq:ask.size≤1048576):impl_writePath.f house parts asks ask=some (pathB parts asks ask):=by
 have hz:=path_size parts false ask hP hq
 have hb:pathB parts false ask=body parts:=rfl
 rw [hb] at hz
 have hj:=join_len parts
 have hf:=hP.few
 unfold impl_writePath.f strings_Join.f
 have e47:L (⟨#[47]⟩:ByteArray)=[47]:=rfl
 rw [e47,if_pos ⟨by omega,by omega⟩]
 simp only [Option.bind_some]
 have hs:=ofL_size (Lib.join (parts.map L) [47])
 rw [if_pos (by omega),body_join]
 by_cases h:asks=true
 ·rw [if_pos h,if_pos (by omega),if_pos (by omega)]
  unfold pathB
  rw [if_pos h,ByteArray.append_assoc]
 ·rw [if_neg h]
  unfold pathB
  rw [if_neg h]
theorem text_i (house:ByteArray) (parts:List ByteArray) (asks:Bool) (ask:ByteArray) (hP:Parts parts) (hq:ask.size≤1048576) (hh:house.size≤1048576) :
  impl_writeAddr.f house parts asks ask=some (textB house parts asks ask):=by
 have hz:=path_size parts asks ask hP hq
 unfold impl_writeAddr.f
 rw [if_pos (by omega),path_i parts asks ask house hP hq]
 simp only [Option.bind_some]
 rw [if_pos (by omega)]
 rfl
def okEnd (house:ByteArray) (parts:List ByteArray) (asks:Bool) (ask:ByteArray):Bool:=isNorm ask && (asks || ask.toList == []) && decide ((textB house parts asks ask).size≤60)
theorem ok_i (house:ByteArray) (parts:List ByteArray) (asks:Bool) (ask:ByteArray) (hP:Parts parts) (hq:ask.size≤1048576) (hh:house.size≤1048576) (d:Nat):∀ (i:Nat),i+d=parts.length →
  Ev (fun k=>impl_AddrOk.l0 k parts (parts.length:Int) (i:Int) house parts asks ask) ((parts.drop i).all partOk && okEnd house parts asks ask):=by
 have hf:=hP.few
 induction d with
 | zero=>
  intro i hi
  rw [List.drop_eq_nil_of_le (by omega)]
  simp only [List.all_nil,Bool.true_and]
  refine Ev_succ ?_
  simp only [impl_AddrOk.l0]
  simp only [show ¬ ((i:Int) < (parts.length:Int)) from by omega,if_false,text_i house parts asks ask hP hq hh,Option.bind_some]
  refine Ev.bind (norm_i ask) ?_
  unfold okEnd
  have e:decide (((textB house parts asks ask).size:Int)≤60)=decide ((textB house parts asks ask).size≤60):=by rw [Bool.eq_iff_iff];simp;omega
  by_cases h3:isNorm ask=true
  ·simp only [h3,if_true,Bool.true_and,e]
   by_cases h4:asks=true
   ·simp only [h4,if_true,Bool.true_or,Bool.true_and]
    exact Ev.now _
   ·by_cases h5:ask.toList=[]
    ·simp only [h4,if_false,h5,if_true,beq_self_eq_true,Bool.or_true,Bool.true_and]
     exact Ev.now _
    ·simp only [h4,if_false,h5,show (ask.toList == ([]:List UInt8))=false from by simp [h5],Bool.or_false,Bool.false_and]
     exact Ev.now _
  ·simp only [h3,if_false,Bool.false_and]
   exact Ev.now _
 | succ d ih=>
  intro i hi
  have hlt:i < parts.length:=by omega
  rw [List.drop_eq_getElem_cons hlt,List.all_cons]
  refine Ev_succ ?_
  simp only [impl_AddrOk.l0]
  have w1:wrap64 ((i:Int)+1)=((i+1:Nat):Int):=by rw [w64 (by omega) (by omega)];omega
  simp only [show ((i:Int) < (parts.length:Int)) from by omega,show ((0:Int)≤(i:Int)) from by omega,if_true,rd_at hlt,w1]
  by_cases h2:parts[i].toList=[]
  ·simp only [h2,if_true]
   rw [show partOk parts[i]=false from by simp [partOk,h2]]
   exact Ev.now _
  ·by_cases h3:parts[i].toList=[46]
   ·simp only [h2,h3,if_true,if_false]
    rw [show partOk parts[i]=false from by simp [partOk,h3]]
    first|exact Ev.now _|simpa using Ev.now _
   ·by_cases h4:parts[i].toList=[46,46]
    ·simp only [h2,h3,h4,if_true,if_false]
     rw [show partOk parts[i]=false from by simp [partOk,h4]]
     first|exact Ev.now _|simpa using Ev.now _
    ·simp only [h2,h3,h4,if_false]
     refine Ev.bind (norm_i parts[i]) ?_
     by_cases h1:isNorm parts[i]=true
     ·simp only [h1,if_true]
      rw [show partOk parts[i]=true from by simp [partOk,h1,h2,h3,h4],Bool.true_and]
      exact ih (i+1) (by omega)
     ·simp only [h1,if_false]
      rw [show partOk parts[i]=false from by simp [partOk,h1]]
      exact Ev.now _
theorem okEnd_is (house:ByteArray) (parts:List ByteArray) (asks:Bool) (ask:ByteArray):addrOk house parts asks ask=(isHouse house && decide (parts.length≤5) && (parts.all partOk && okEnd house parts asks ask)):=by
 unfold addrOk okEnd
 cases isHouse house <;> cases decide (parts.length≤5) <;> cases isNorm ask <;> cases (asks || ask.toList == []) <;> cases parts.all partOk <;> rfl
theorem addrOk_i (house:ByteArray) (parts:List ByteArray) (asks:Bool) (ask:ByteArray) (hP:Parts parts) (hq:ask.size≤1048576) (hh:house.size≤1048576) :
  Ev (fun k=>impl_AddrOk.f k house parts asks ask) (addrOk house parts asks ask):=by
 have hf:=hP.few
 have bad:Ev (fun k=>impl_AddrOk.j0 k true house parts asks ask) false:=Ev_succ (by simp only [impl_AddrOk.j0,if_true];exact Ev.now _)
 unfold impl_AddrOk.f
 rw [okEnd_is]
 refine Ev.bind (house_i house (by omega)) ?_
 by_cases h1:isHouse house=true
 ·simp only [h1,if_true,Bool.true_and]
  by_cases h2:parts.length≤5
  ·rw [show decide ((parts.length:Int) > 5)=false from by simp;omega]
   simp only [h2,decide_true,Bool.true_and]
   refine Ev_succ ?_
   simp only [impl_AddrOk.j0,Bool.false_eq_true,if_false]
   have:=ok_i house parts asks ask hP hq hh parts.length 0 (by omega)
   simpa using this
  ·rw [show decide ((parts.length:Int) > 5)=true from by simp;omega]
   simp only [h2,decide_false,Bool.false_and]
   exact bad
 ·simp only [h1,if_false,Bool.false_and]
  exact bad
def cutL (c:UInt8):List UInt8→List UInt8×List UInt8×Bool
 | []=>([],[],false)
 | x :: xs=>if x=c then ([],xs,true) else (x :: (cutL c xs).1,(cutL c xs).2)
theorem cutL_false {c:UInt8}:∀ {l:List UInt8},(cutL c l).2.2=false→(cutL c l).1=l∧(cutL c l).2.1=[]
 | [],_=>by simp [cutL]
 | x :: xs,h=>by
  unfold cutL at h ⊢
  by_cases e:x=c
  ·rw [if_pos e] at h;cases h
  ·rw [if_neg e] at h ⊢
   have:=cutL_false (l:=xs) h
   exact ⟨by rw [this.1],this.2⟩
theorem cutL_true {c:UInt8}:∀ {l:List UInt8},(cutL c l).2.2=true→l=(cutL c l).1++c :: (cutL c l).2.1
 | [],h=>by simp [cutL] at h
 | x :: xs,h=>by
  unfold cutL at h ⊢
  by_cases e:x=c
  ·rw [if_pos e,e];rfl
  ·rw [if_neg e] at h ⊢
   have:=cutL_true (l:=xs) h
   show x :: xs=x :: ((cutL c xs).1++c :: (cutL c xs).2.1)
   rw [← this]
theorem cutL_len {c:UInt8}:∀ (l:List UInt8),(cutL c l).1.length+(cutL c l).2.1.length≤l.length∧((cutL c l).2.2=true→(cutL c l).1.length+(cutL c l).2.1.length+1=l.length)
 | []=>by simp [cutL]
 | x :: xs=>by
  unfold cutL
  by_cases e:x=c
  ·rw [if_pos e];simp
  ·rw [if_neg e]
   have:=cutL_len (c:=c) xs
   simp only [List.length_cons]
   exact ⟨by omega,fun h=>by have:=this.2 h;omega⟩
def cutB (c:UInt8) (s:ByteArray):ByteArray×ByteArray×Bool:=(ofL (cutL c (L s)).1,ofL (cutL c (L s)).2.1,(cutL c (L s)).2.2)
theorem cut_l (s:ByteArray) (c:UInt8) (hs:s.size≤140737488351232):∀ (l:List UInt8) (i:Nat),(L s).drop i=l →
  Ev (fun k=>spec_l1Cut.l0 k s (c.toNat:Int) (i:Int)) (ofL ((L s).take i++(cutL c l).1),ofL (cutL c l).2.1,(cutL c l).2.2)
 | [],i,h=>by
  have:=bt_end h
  have n1:¬ ((i:Int) < (s.size:Int)):=by omega
  refine Ev_succ ?_
  simp only [spec_l1Cut.l0,n1,if_false]
  have e:(L s).take i=L s:=List.take_of_length_le (by rw [L_size];omega)
  simp only [cutL,e,List.append_nil,of_L]
  exact Ev.now _
 | x :: xs,i,h=>by
  obtain ⟨hi,hb,hd⟩:=bt_at h
  refine Ev_succ ?_
  have e1:wrap64 ((i:Int)+1)=((i+1:Nat):Int):=by rw [w64 (by omega) (by omega)];rfl
  have f1:(i:Int) < (s.size:Int):=by omega
  have f2:(0:Int)≤(i:Int):=by omega
  have f3:(i:Int)≤(s.size:Int):=by omega
  have f4:(0:Int)≤((i+1:Nat):Int):=by omega
  have f5:((i+1:Nat):Int)≤(s.size:Int):=by omega
  simp only [spec_l1Cut.l0,e1,f1,f2,f3,f4,f5,if_true,hb,u8_eq]
  unfold cutL
  by_cases e:x=c
  ·simp only [e,if_true]
   have a1:s.extract 0 ((i:Int)).toNat=ofL ((L s).take i++[]):=by
    apply L_inj;rw [L_ext,L_of];simp
   have a2:s.extract ((((i+1:Nat):Int))).toNat s.size=ofL xs:=by
    apply L_inj;rw [L_ext,L_of,Int.toNat_natCast,hd,List.take_of_length_le]
    rw [← hd,List.length_drop,L_size];omega
   rw [a1,a2]
   exact Ev.now _
  ·simp only [e,if_false]
   have:=cut_l s c hs xs (i+1) hd
   have ht:(L s).take (i+1)++(cutL c xs).1=(L s).take i++(x :: (cutL c xs).1):=by
    have hl:i < (L s).length:=by rw [L_size];exact hi
    have:(L s)[i]=x:=by
     have hd2:(L s).drop i=(L s)[i] :: (L s).drop (i+1):=List.drop_eq_getElem_cons hl
     rw [h] at hd2
     injection hd2 with h1 h2
     exact h1.symm
    rw [List.take_succ_eq_append_getElem hl,this]
    simp
   rw [ht] at this
   exact this
theorem cut_ev (s:ByteArray) (c:UInt8) (hs:s.size≤140737488351232):Ev (fun k=>spec_l1Cut.f k s (c.toNat:Int)) (cutB c s):=by
 have:=cut_l s c hs (L s) 0 rfl
 simp only [List.take_zero,List.nil_append] at this
 exact this
def splitN (c:UInt8):Nat→List UInt8→List (List UInt8)
 | 0,l=>[l]
 | n+1,l=>(cutL c l).1 :: (if (cutL c l).2.2=true then splitN c n (cutL c l).2.1 else [])
def splitL (c:UInt8) (l:List UInt8):List (List UInt8):=splitN c (l.length+1) l
theorem splitN_eq (c:UInt8):∀ (n m:Nat) (l:List UInt8),l.length < n→l.length < m→splitN c n l=splitN c m l
 | 0,_,l,h,_=>absurd h (by omega)
 | _+1,0,l,_,h=>absurd h (by omega)
 | n+1,m+1,l,h1,h2=>by
  simp only [splitN]
  by_cases e:(cutL c l).2.2=true
  ·have:=(cutL_len (c:=c) l).2 e
   rw [if_pos e,if_pos e,splitN_eq c n m _ (by omega) (by omega)]
  ·rw [if_neg e,if_neg e]
theorem splitL_eq (c:UInt8) (l:List UInt8):splitL c l=(cutL c l).1 :: (if (cutL c l).2.2=true then splitL c (cutL c l).2.1 else []):=by
 unfold splitL
 rw [splitN]
 by_cases e:(cutL c l).2.2=true
 ·have:=(cutL_len (c:=c) l).2 e
  rw [if_pos e,if_pos e,splitN_eq c _ ((cutL c l).2.1.length+1) _ (by omega) (by omega)]
 ·rw [if_neg e,if_neg e]
theorem splitN_len (c:UInt8):∀ (n:Nat) (l:List UInt8),(splitN c n l).length≤l.length+1
 | 0,l=>by simp [splitN]
 | n+1,l=>by
  simp only [splitN]
  by_cases e:(cutL c l).2.2=true
  ·have:=(cutL_len (c:=c) l).2 e
   have ih:=splitN_len c n (cutL c l).2.1
   rw [if_pos e];simp only [List.length_cons];omega
  ·rw [if_neg e];simp
theorem splitL_len (c:UInt8) (l:List UInt8):(splitL c l).length≤l.length+1:=splitN_len c _ l
theorem splitN_mem (c:UInt8):∀ (n:Nat) (l p:List UInt8),p ∈ splitN c n l→p.length≤l.length
 | 0,l,p,h=>by simp [splitN] at h;rw [h];exact Nat.le_refl _
 | n+1,l,p,h=>by
  simp only [splitN,List.mem_cons] at h
  have hc:=(cutL_len (c:=c) l).1
  rcases h with h|h
  ·rw [h];omega
  ·by_cases e:(cutL c l).2.2=true
   ·rw [if_pos e] at h
    have:=splitN_mem c n _ p h
    omega
   ·rw [if_neg e] at h;cases h
theorem splitL_mem (c:UInt8) (l p:List UInt8) (h:p ∈ splitL c l):p.length≤l.length:=splitN_mem c _ l p h
theorem split_l (c:UInt8) (n:Nat):∀ (s:ByteArray) (acc:List ByteArray),s.size < n→s.size≤1000000000→acc.length+s.size≤2000000000 →
  Ev (fun k=>spec_l1Split.l0 k (c.toNat:Int) acc s true) (acc++(splitL c (L s)).map ofL):=by
 induction n with
 | zero=>intro s acc h;exact absurd h (by omega)
 | succ n ih=>
  intro s acc h h1 h2
  refine Ev_succ ?_
  simp only [spec_l1Split.l0,if_true]
  refine Ev.bind (cut_ev s c (by omega)) ?_
  have g1:acc.length < 8796093022208:=by omega
  simp only [g1,if_true]
  rw [splitL_eq]
  have hl:=cutL_len (c:=c) (L s)
  rw [L_size] at hl
  by_cases e:(cutL c (L s)).2.2=true
  ·have e':(cutB c s).2.2=true:=e
   have hz:(ofL (cutL c (L s)).2.1).size=(cutL c (L s)).2.1.length:=ofL_size _
   have:=hl.2 e
   have ih':=ih (ofL (cutL c (L s)).2.1) (acc++[ofL (cutL c (L s)).1]) (by omega) (by omega) (by simp only [List.length_append,List.length_singleton];omega)
   rw [if_pos e]
   simp only [cutB,e]
   rw [L_of] at ih'
   simpa using ih'
  ·have e':(cutL c (L s)).2.2=false:=by simpa using e
   rw [if_neg e]
   simp only [cutB,e']
   refine Ev_succ ?_
   simp only [spec_l1Split.l0]
   simp
   exact Ev.now _
theorem split_ev (s:ByteArray) (c:UInt8) (hs:s.size≤1000000000):Ev (fun k=>spec_l1Split.f k s (c.toNat:Int)) ((splitL c (L s)).map ofL):=by
 have:=split_l c (s.size+1) s [] (by omega) hs (by simp;omega)
 rw [List.nil_append] at this
 exact this
def isName (s:ByteArray):Bool:=decide (1≤s.size) && decide (s.size≤8) && isSmall s
theorem spec_name_l (s:ByteArray) (hs:s.size≤140737488351232) (d:Nat):∀ (k:Nat) (i:Nat),i+d=s.size→d < k →
  spec_l2Name.l0 k s (i:Int)=some (smallFrom s d i && (decide (1≤s.size) && decide (s.size≤8))):=by
 induction d with
 | zero=>
  intro k i h hk
  obtain ⟨k,rfl⟩:∃ m,k=m+1:=⟨k - 1,by omega⟩
  simp only [spec_l2Name.l0,smallFrom,spec_l6In.f]
  rw [if_neg (by omega)]
  by_cases h1:1≤s.size
  ·rw [if_pos (by omega)];simp [h1];omega
  ·rw [if_neg (by omega)];simp [h1]
 | succ d ih=>
  intro k i h hk
  obtain ⟨k,rfl⟩:∃ m,k=m+1:=⟨k - 1,by omega⟩
  simp only [spec_l2Name.l0,smallFrom]
  rw [if_pos (by omega),if_pos (by omega)]
  by_cases h1:bt s i < 97
  ·rw [if_pos h1,if_pos h1];rfl
  ·rw [if_neg h1,if_neg h1]
   by_cases h2:bt s i > 122
   ·rw [if_pos h2,if_pos h2];rfl
   ·rw [if_neg h2,if_neg h2,w64 (by omega) (by omega)]
    exact ih k (i+1) (by omega) (by omega)
theorem name_ev (s:ByteArray) (hs:s.size≤140737488351232):Ev (fun k=>spec_l2Name.f k s) (isName s):=by
 refine Ev.of (fun k=>spec_l2Name.mono _ k) (k:=s.size+1) ?_
 unfold spec_l2Name.f
 have:=spec_name_l s hs s.size (s.size+1) 0 (by omega) (by omega)
 rw [show ((0:Nat):Int)=0 from rfl] at this
 rw [this]
 unfold isName isSmall
 cases smallFrom s s.size 0 <;> simp
def patB (c:UInt8):Bool:=plainB c || c == 47 || c == 42 || c == 63 || c == 37 || (decide (65≤c.toNat) && decide (c.toNat≤70))
def okL:List UInt8→Bool
 | []=>true
 | c :: r=>(patB c || (c == 36 && r.isEmpty)) && okL r
def ruleOk (p:ByteArray):Bool:=decide (1≤p.size) && decide (p.size≤16) && (bt p 0 == 47) && okL (L p)
theorem plain_f (c:UInt8):spec_l1Plain.f (c.toNat:Int)=some (plainB c):=by
 have:=plain_all c.toNat c.toNat_lt
 rwa [of_toNat] at this
theorem ok_spec_l (s:ByteArray) (hs:s.size≤1000000):∀ (l:List UInt8) (i:Nat),(L s).drop i=l→Ev (fun k=>spec_RuleOk.l0 k s (i:Int)) (okL l)
 | [],i,h=>by
  have:=bt_end h
  have n1:¬ ((i:Int) < (s.size:Int)):=by omega
  refine Ev_succ ?_
  simp only [spec_RuleOk.l0,n1,if_false]
  exact Ev.now _
 | x :: xs,i,h=>by
  obtain ⟨hi,hb,hd⟩:=bt_at h
  have e1:wrap64 ((i:Int)+1)=((i+1:Nat):Int):=by rw [w64 (by omega) (by omega)];rfl
  have e2:wrap64 ((s.size:Int) - 1)=(s.size:Int) - 1:=w64 (by omega) (by omega)
  have f1:(i:Int) < (s.size:Int):=by omega
  have f2:(0:Int)≤(i:Int):=by omega
  have hx:xs.length+(i+1)=s.size:=by rw [← L_size,← hd,List.length_drop];rw [L_size];omega
  have hE:xs.isEmpty=decide ((i:Int)=(s.size:Int) - 1):=by
   cases xs with
   | nil=>simp at hx ⊢;omega
   | cons y ys=>simp at hx ⊢;omega
  have ih:=ok_spec_l s hs xs (i+1) hd
  have c1:((x.toNat:Int)=47)↔(x == 47)=true:=by rw [beq_iff_eq];exact u8_eq (b:=47)
  have c2:((x.toNat:Int)=42)↔(x == 42)=true:=by rw [beq_iff_eq];exact u8_eq (b:=42)
  have c3:((x.toNat:Int)=63)↔(x == 63)=true:=by rw [beq_iff_eq];exact u8_eq (b:=63)
  have c4:((x.toNat:Int)=37)↔(x == 37)=true:=by rw [beq_iff_eq];exact u8_eq (b:=37)
  have c5:((x.toNat:Int)=36)↔(x == 36)=true:=by rw [beq_iff_eq];exact u8_eq (b:=36)
  have c6:((x.toNat:Int) ≥ 65)↔(decide (65≤x.toNat))=true:=by rw [decide_eq_true_eq];omega
  have c7:((x.toNat:Int)≤70)↔(decide (x.toNat≤70))=true:=by rw [decide_eq_true_eq];omega
  have c8:((i:Int)=(s.size:Int) - 1)↔xs.isEmpty=true:=by rw [hE,decide_eq_true_eq]
  refine Ev_succ ?_
  simp only [spec_RuleOk.l0,e1,e2,f1,f2,if_true,hb,plain_f,Option.bind_some,okL,patB,c1,c2,c3,c4,c5,c6,c7,c8]
  have yes:Ev (fun k=>spec_RuleOk.l0 k s ((i+1:Nat):Int)) (true && okL xs):=by rw [Bool.true_and];exact ih
  have no:Ev (fun k=>some false) (false && okL xs):=by rw [Bool.false_and];exact Ev.now _
  cases plainB x
  ·cases (x == 47)
   ·cases (x == 42)
    ·cases (x == 63)
     ·cases (x == 37)
      ·cases (x == 36) <;> cases xs.isEmpty <;> cases decide (65≤x.toNat) <;> cases decide (x.toNat≤70) <;> first|exact yes|exact no
      ·exact yes
     ·exact yes
    ·exact yes
   ·exact yes
  ·exact yes
theorem ruleOk_spec (p:ByteArray):Ev (fun k=>spec_RuleOk.f k p) (ruleOk p):=by
 unfold spec_RuleOk.f ruleOk
 by_cases h2:p.size≤16
 ·have n2:¬ (p.size:Int) > 16:=by omega
  by_cases h1:p.size=0
  ·have z:=toList_nil.2 h1
   have n1:¬ 1≤p.size:=by omega
   simp only [n2,if_false,z,if_true,n1,decide_false,Bool.false_and]
   refine Ev_succ ?_
   simp only [spec_RuleOk.j0,if_true]
   exact Ev.now _
  ·have z:¬ p.toList=[]:=fun e=>h1 (toList_nil.1 e)
   have n1:1≤p.size:=by omega
   have n3:(0:Int) < (p.size:Int):=by omega
   simp only [n2,n1,n3,z,h2,if_true,if_false,decide_true,Bool.true_and]
   refine Ev_succ ?_
   by_cases h3:bt p 0=47
   ·simp only [spec_RuleOk.j0,h3,bne_self_eq_false,Bool.false_eq_true,if_false,beq_self_eq_true,Bool.true_and]
    have:=ok_spec_l p (by omega) _ 0 rfl
    rw [List.drop_zero] at this
    exact this
   ·have h4:(bt p 0 != 47)=true:=by simpa using h3
    have h5:(bt p 0 == 47)=false:=by simpa using h3
    simp only [spec_RuleOk.j0,h4,h5,if_true,Bool.false_and]
    exact Ev.now _
 ·have n2:(p.size:Int) > 16:=by omega
  simp only [n2,h2,if_true,decide_false,Bool.and_false,Bool.false_and]
  refine Ev_succ ?_
  simp only [spec_RuleOk.j0,if_true]
  exact Ev.now _
def endsD (p:ByteArray):Bool:=(L p).getLast? == some 36
def bodyD (p:ByteArray):ByteArray:=if endsD p=true then p.extract 0 (p.size - 1) else p
theorem L_last {p:ByteArray} (h:1≤p.size):∃ l c,L p=l++[c]∧l.length+1=p.size:=by
 have hl:=L_size p
 have hn:L p≠[]:=fun e=>by rw [e] at hl;simp at hl;omega
 refine ⟨(L p).dropLast,(L p).getLast hn,(List.dropLast_concat_getLast hn).symm,?_⟩
 rw [List.length_dropLast];omega
theorem sz36:(⟨#[36]⟩:ByteArray).size=1:=rfl
theorem suf_f (p:ByteArray) (hp:p.size≤140737488351232):stringslite_HasSuffix.f p (⟨#[36]⟩:ByteArray)=some (endsD p):=by
 unfold stringslite_HasSuffix.f endsD
 rw [sz36]
 by_cases h:1≤p.size
 ·obtain ⟨l,c,e,hl⟩:=L_last h
  have w:wrap64 ((p.size:Int) - ((1:Nat):Int))=((p.size - 1:Nat):Int):=by rw [w64 (by omega) (by omega)];omega
  rw [w,if_pos (by omega),if_pos (by omega),if_pos (by omega),Int.toNat_natCast,Lib.toList_data]
  have x:L (p.extract (p.size - 1) p.size)=[c]:=by
   have hz:p.size - l.length=1:=by omega
   rw [L_ext,e,List.drop_append,show p.size - 1=l.length from by omega,hz]
   simp
  show some ((p.extract (p.size - 1) p.size).data.toList == _)=_
  rw [show (p.extract (p.size - 1) p.size).data.toList=[c] from x,e]
  simp [Lib.toList_data]
 ·rw [if_neg (by omega)]
  have:L p=[]:=List.length_eq_zero_iff.1 (by rw [L_size];omega)
  rw [this];rfl
theorem ends_size {p:ByteArray} (h:endsD p=true):1≤p.size:=by
 rcases Nat.lt_or_ge p.size 1 with h'|h'
 ·have:L p=[]:=List.length_eq_zero_iff.1 (by rw [L_size];omega)
  unfold endsD at h;rw [this] at h;cases h
 ·exact h'
theorem trim_f (p:ByteArray) (hp:p.size≤140737488351232):strings_TrimSuffix.f p (⟨#[36]⟩:ByteArray)=some (bodyD p):=by
 simp only [strings_TrimSuffix.f,stringslite_TrimSuffix.f,suf_f p hp,Option.bind_some,bodyD,sz36]
 by_cases h:endsD p=true
 ·have:=ends_size h
  have w:wrap64 ((p.size:Int) - ((1:Nat):Int))=((p.size - 1:Nat):Int):=by rw [w64 (by omega) (by omega)];omega
  rw [if_pos h,if_pos h,w,if_pos (by omega),if_pos (by omega),Int.toNat_natCast];rfl
 ·rw [if_neg h,if_neg h];rfl
theorem body_size (p:ByteArray):(bodyD p).size≤p.size:=by
 unfold bodyD
 split
 ·rw [ByteArray.size_extract];omega
 ·exact Nat.le_refl _
theorem pat_all:∀ n:Nat,n < 256→impl_isPatternByte.f (n:Int)=some (patB (UInt8.ofNat n)):=by decide +kernel
theorem pat_f (c:UInt8):impl_isPatternByte.f (c.toNat:Int)=some (patB c):=by
 have:=pat_all c.toNat c.toNat_lt
 rwa [of_toNat] at this
theorem okL_app (c:UInt8):∀ l:List UInt8,okL (l++[c])=(l.all patB && (patB c || c == 36))
 | []=>by simp [okL]
 | x :: l=>by
  simp only [List.cons_append,okL,okL_app c l,List.all_cons]
  cases l <;> simp [Bool.and_assoc]
theorem body_ok (p:ByteArray):(L (bodyD p)).all patB=okL (L p):=by
 by_cases h0:1≤p.size
 ·obtain ⟨l,c,e,hl⟩:=L_last h0
  have he:endsD p=(c == 36):=by unfold endsD;rw [e];simp
  rw [e,okL_app]
  unfold bodyD
  rw [he]
  by_cases h:c=36
  ·subst h
   rw [if_pos (by simp),L_ext,e,show p.size - 1 - 0=l.length from by omega]
   simp
  ·have h':(c == 36)=false:=by simpa using h
   rw [h',if_neg (by simp),e,Bool.or_false]
   simp
 ·have:L p=[]:=List.length_eq_zero_iff.1 (by rw [L_size];omega)
  have h1:endsD p=false:=by unfold endsD;rw [this];rfl
  unfold bodyD
  rw [h1,if_neg (by simp),this];rfl
theorem ok_impl_l (s:ByteArray) (hs:s.size≤1000000):∀ (l:List UInt8) (i:Nat),(L s).drop i=l→Ev (fun k=>impl_RuleOk.l0 k s (i:Int)) (l.all patB)
 | [],i,h=>by
  have:=bt_end h
  have n1:¬ ((i:Int) < (s.size:Int)):=by omega
  refine Ev_succ ?_
  simp only [impl_RuleOk.l0,n1,if_false]
  exact Ev.now _
 | x :: xs,i,h=>by
  obtain ⟨hi,hb,hd⟩:=bt_at h
  have e1:wrap64 ((i:Int)+1)=((i+1:Nat):Int):=by rw [w64 (by omega) (by omega)];rfl
  have f1:(i:Int) < (s.size:Int):=by omega
  have f2:(0:Int)≤(i:Int):=by omega
  refine Ev_succ ?_
  simp only [impl_RuleOk.l0,e1,f1,f2,if_true,hb,pat_f,Option.bind_some,List.all_cons]
  by_cases e:patB x=true
  ·simp only [e,if_true,Bool.true_and]
   exact ok_impl_l s hs xs (i+1) hd
  ·simp only [e,if_false,Bool.not_eq_true] at e ⊢
   simp only [e,Bool.false_and,Bool.false_eq_true,if_false]
   exact Ev.now _
theorem ruleOk_impl (p:ByteArray) (hp:p.size≤140737488351232):Ev (fun k=>impl_RuleOk.f k p) (ruleOk p):=by
 unfold impl_RuleOk.f ruleOk
 by_cases h1:p.size < 1
 ·have n1:(p.size:Int) < 1:=by omega
  have n2:¬ 1≤p.size:=by omega
  simp only [n1,if_true,n2,decide_false,Bool.false_and]
  refine Ev_succ ?_
  simp only [impl_RuleOk.j0,if_true]
  exact Ev.now _
 ·have n1:¬ (p.size:Int) < 1:=by omega
  have n1':1≤p.size:=by omega
  by_cases h2:p.size≤16
  ·have n2:¬ (p.size:Int) > 16:=by omega
   have n3:(0:Int) < (p.size:Int):=by omega
   simp only [n1,n2,n3,n1',h2,if_true,if_false,decide_true,Bool.true_and]
   refine Ev_succ ?_
   by_cases h3:bt p 0=47
   ·simp only [impl_RuleOk.j0,h3,bne_self_eq_false,Bool.false_eq_true,if_false,beq_self_eq_true,Bool.true_and,trim_f p hp,Option.bind_some]
    have:=ok_impl_l (bodyD p) (by have:=body_size p;omega) _ 0 rfl
    rw [List.drop_zero,body_ok] at this
    exact this
   ·have h4:(bt p 0 != 47)=true:=by simpa using h3
    have h5:(bt p 0 == 47)=false:=by simpa using h3
    simp only [impl_RuleOk.j0,h4,h5,if_true,Bool.false_and]
    exact Ev.now _
  ·have n2:(p.size:Int) > 16:=by omega
   simp only [n1,n2,n1',h2,if_true,if_false,decide_true,decide_false,Bool.true_and,Bool.false_and]
   refine Ev_succ ?_
   simp only [impl_RuleOk.j0,if_true]
   exact Ev.now _
end Go.Proofs.YtloijngehifbmaaGreatDoor.Ad
end
section
namespace Go.Proofs.YtloijngehifbmaaGreatDoor.Ad
open Go.RowKit Go.Proofs.YtloijngehifbmaaGreatDoorW.PrintWords Go.Proofs.YtloijngehifbmaaGreatDoor.B
set_option linter.unusedVariables false
set_option linter.unusedSimpArgs false
abbrev A5:=ByteArray×List ByteArray×Bool×ByteArray×Bool
def none5:A5:=((⟨#[]⟩:ByteArray),([]:List ByteArray),false,(⟨#[]⟩:ByteArray),false)
def escAll:List ByteArray→Option (List ByteArray)
 | []=>some []
 | q :: qs=>if (escNorm q).2=true then (escAll qs).map ((escNorm q).1 :: ·) else none
def clean1 (acc:List ByteArray) (p:ByteArray):List ByteArray:=
 if p.toList=[] then acc else if p.toList=[46] then acc else if p.toList=[46,46] then acc.take (acc.length - 1) else acc++[p]
def pathClean (ps:List ByteArray):List ByteArray:=ps.foldl clean1 []
def wayO (house:ByteArray) (base:List ByteArray) (way:ByteArray):A5:=
 match escAll ((splitL 47 (L (cutB 63 way).1)).map ofL) with
 | none=>none5
 | some ps=>if (escNorm (cutB 63 way).2.1).2=true then (if addrOk house (pathClean (base++ps)) (cutB 63 way).2.2 (escNorm (cutB 63 way).2.1).1=true then (house,pathClean (base++ps),(cutB 63 way).2.2,(escNorm (cutB 63 way).2.1).1,true) else none5) else none5
def houseL:List UInt8→List UInt8×List UInt8
 | []=>([],[])
 | x :: xs=>if x=47∨x=63 then ([],x :: xs) else (x :: (houseL xs).1,(houseL xs).2)
def wholeO (rest:ByteArray):A5:=wayO (smallB (ofL (houseL (L rest)).1)) [] (ofL (houseL (L rest)).2)
def readO (raw:ByteArray):A5:=
 if raw.size > 60 then none5 else if (cutB 35 raw).1.size < 2 then none5 else if (L (cutB 35 raw).1).take 2=[47,47] then wholeO ((cutB 35 raw).1.extract 2 (cutB 35 raw).1.size) else none5
def Fine (a:A5):Prop:=a=none5∨(a.2.2.2.2=true∧addrOk a.1 a.2.1 a.2.2.1 a.2.2.2.1=true)
theorem fine_none:Fine none5:=Or.inl rfl
theorem fine_way (h:ByteArray) (b:List ByteArray) (w:ByteArray):Fine (wayO h b w):=by
 unfold wayO
 split
 ·exact fine_none
 ·split
  ·split
   ·rename_i hh
    exact Or.inr ⟨rfl,hh⟩
   ·exact fine_none
  ·exact fine_none
theorem fine_read (raw:ByteArray):Fine (readO raw):=by
 unfold readO
 split
 ·exact fine_none
 ·split
  ·exact fine_none
  ·split
   ·exact fine_way _ _ _
   ·exact fine_none
theorem isHouse_size {s:ByteArray} (h:isHouse s=true):s.size≤5:=by
 unfold isHouse at h
 simp only [Bool.and_eq_true,decide_eq_true_eq] at h
 exact h.1.2
theorem clean1_mem {acc:List ByteArray} {p x:ByteArray} (h:x ∈ clean1 acc p):x ∈ acc∨x=p:=by
 unfold clean1 at h
 split at h
 ·exact Or.inl h
 ·split at h
  ·exact Or.inl h
  ·split at h
   ·exact Or.inl (List.mem_of_mem_take h)
   ·rcases List.mem_append.1 h with h|h
    ·exact Or.inl h
    ·exact Or.inr (List.mem_singleton.1 h)
theorem clean1_len (acc:List ByteArray) (p:ByteArray):(clean1 acc p).length≤acc.length+1:=by
 unfold clean1
 split
 ·omega
 ·split
  ·omega
  ·split
   ·rw [List.length_take];omega
   ·simp
theorem cleanF_mem:∀ {ps acc:List ByteArray} {x:ByteArray},x ∈ ps.foldl clean1 acc→x ∈ acc∨x ∈ ps
 | [],acc,x,h=>Or.inl h
 | p :: ps,acc,x,h=>by
  rw [List.foldl_cons] at h
  rcases cleanF_mem h with h|h
  ·rcases clean1_mem h with h|h
   ·exact Or.inl h
   ·exact Or.inr (by rw [h];exact List.mem_cons_self)
  ·exact Or.inr (List.mem_cons_of_mem _ h)
theorem cleanF_len:∀ (ps acc:List ByteArray),(ps.foldl clean1 acc).length≤acc.length+ps.length
 | [],acc=>by simp
 | p :: ps,acc=>by
  rw [List.foldl_cons]
  have:=cleanF_len ps (clean1 acc p)
  have:=clean1_len acc p
  simp only [List.length_cons];omega
end Go.Proofs.YtloijngehifbmaaGreatDoor.Ad
end
section
namespace Go.Proofs.YtloijngehifbmaaGreatDoor.Ad
open Go.RowKit Go.Proofs.YtloijngehifbmaaGreatDoor.P Go.Proofs.YtloijngehifbmaaGreatDoorW.PrintWords Go.Proofs.YtloijngehifbmaaGreatDoorW.PrintLast Go.Proofs.YtloijngehifbmaaGreatDoorW.PrintMore Go.Proofs.YtloijngehifbmaaGreatDoor.B
set_option linter.unusedVariables false
set_option linter.unusedSimpArgs false
theorem index_cut (c:UInt8):∀ l:List UInt8,Lib.indexByte l c=if (cutL c l).2.2=true then (((cutL c l).1.length:Nat):Int) else -1
 | []=>rfl
 | x :: xs=>by
  unfold Lib.indexByte cutL
  by_cases h:x=c
  ·subst h;simp
  ·have hb:(x == c)=false:=by simp [h]
   simp only [hb,h,if_false,Bool.false_eq_true,index_cut c xs]
   by_cases h2:(cutL c xs).2.2=true
   ·simp only [h2,if_true]
    have:((((cutL c xs).1.length:Nat):Int) == -1)=false:=by simp
    rw [this]
    simp
   ·simp only [h2,if_false,Bool.false_eq_true]
    rfl
theorem cut_parts {c:UInt8} {s:ByteArray} (h:(cutL c (L s)).2.2=true) :
  s.extract 0 (cutL c (L s)).1.length=ofL (cutL c (L s)).1∧s.extract ((cutL c (L s)).1.length+1) s.size=ofL (cutL c (L s)).2.1∧(cutL c (L s)).1.length+1≤s.size:=by
 have e:=cutL_true h
 have hn:=(cutL_len (c:=c) (L s)).2 h
 rw [L_size] at hn
 generalize (cutL c (L s)).1=a at *
 generalize (cutL c (L s)).2.1=b at *
 have e':s.data.toList=a++c :: b:=e
 refine ⟨?_,?_,by omega⟩
 ·apply L_inj
  rw [L_ext,L_of,e']
  simp
 ·apply L_inj
  have:(a++c :: b).drop (a.length+1)=b:=by rw [List.drop_append];simp
  rw [L_ext,L_of,e',this,List.take_of_length_le (by omega)]
theorem cut_i (s:ByteArray) (c:UInt8) (hs:s.size≤140737488351232):strings_Cut.f s ⟨#[c]⟩=some (cutB c s):=by
 have e1:L (⟨#[c]⟩:ByteArray)=[c]:=rfl
 have e2:(⟨#[c]⟩:ByteArray).size=1:=rfl
 unfold strings_Cut.f stringslite_Cut.f stringslite_Index.f cutB
 rw [e1]
 simp only [Option.bind_some,index_cut,e2]
 by_cases h:(cutL c (L s)).2.2=true
 ·obtain ⟨h1,h2,h3⟩:=cut_parts h
  simp only [h,if_true]
  rw [if_pos (by omega),if_pos (by omega),if_pos (by omega),w64 (by omega) (by omega),if_pos (by omega),if_pos (by omega)]
  simp only [Option.bind_some,Int.toNat_natCast]
  rw [h1,show (((cutL c (L s)).1.length:Int)+((1:Nat):Int)).toNat=(cutL c (L s)).1.length+1 from by omega,h2]
 ·simp only [h,if_false,Bool.false_eq_true]
  rw [if_neg (by decide)]
  obtain ⟨g1,g2⟩:=cutL_false (c:=c) (l:=L s) (by simpa using h)
  simp only [Option.bind_some,g1,g2,of_L]
  first|done|rfl
theorem count_cut_false {c:UInt8}:∀ {l:List UInt8},Lib.countByte l c=0→(cutL c l).2.2=false
 | [],_=>rfl
 | x :: xs,h=>by
  unfold Lib.countByte at h
  unfold cutL
  by_cases e:x=c
  ·subst e;simp at h
  ·rw [if_neg e]
   have h':Lib.countByte xs c=0:=by unfold Lib.countByte;rw [List.count_cons] at h;omega
   exact count_cut_false h'
theorem count_cut_true {c:UInt8} {m:Nat}:∀ {l:List UInt8},Lib.countByte l c=m+1→(cutL c l).2.2=true∧Lib.countByte (cutL c l).2.1 c=m
 | [],h=>by simp [Lib.countByte] at h
 | x :: xs,h=>by
  unfold Lib.countByte at h
  unfold cutL
  by_cases e:x=c
  ·subst e
   rw [if_pos rfl]
   refine ⟨rfl,?_⟩
   unfold Lib.countByte
   rw [List.count_cons_self] at h
   exact Nat.succ.inj h
  ·rw [if_neg e]
   have h':Lib.countByte xs c=m+1:=by
    unfold Lib.countByte
    rw [List.count_cons_of_ne e] at h
    exact h
   exact count_cut_true h'
theorem w64n0 (a:Nat) (h:a < 4611686018427387904):wrap64 ((a:Int)+0)=(a:Int):=by rw [w64 (by omega) (by omega)];omega
theorem w64n1 (a:Nat) (h:a < 4611686018427387904):wrap64 ((a:Int)+1)=((a+1:Nat):Int):=by rw [w64 (by omega) (by omega)];omega
theorem w64n2 (a:Nat) (h:a < 4611686018427387904):wrap64 ((a:Int)+((1:Nat):Int))=((a+1:Nat):Int):=by rw [w64 (by omega) (by omega)];omega
theorem w64b {n m:Nat} (h:n+1≤m) (hm:m≤1000000000):n < 4611686018427387904:=by omega
theorem w64d {n m:Nat} (h:n+m≤2000000000):n < 4611686018427387904:=by omega
theorem ci_lt (a m:Nat):(a:Int) < ((a+(m+1):Nat):Int):=by omega
theorem ci_neg (n:Nat):¬ ((n:Int) < 0):=by omega
theorem ci_nn (n:Nat):(0:Int)≤(n:Int):=by omega
theorem ci_le {n s:Nat} (h:n+1≤s):(n:Int)≤(s:Int):=by omega
theorem ci_le1 {n s:Nat} (h:n+1≤s):((n+1:Nat):Int)≤(s:Int):=by omega
theorem ci_l6 {a m l:Nat} (h:l=a+(m+2)):(a:Int) < (l:Int):=by omega
theorem set_mid (a:List ByteArray) (m:Nat) (p e:ByteArray):(a++List.replicate (m+1) e).set a.length p=(a++[p])++List.replicate m e:=by
 rw [List.set_append_right _ _ (Nat.le_refl _),Nat.sub_self,List.replicate_succ,List.set_cons_zero,List.append_assoc]
 rfl
theorem take_mid (a b:List ByteArray) (p:ByteArray):((a++[p])++b).take (a.length+1)=a++[p]:=by
 rw [List.take_append_of_le_length (by simp)]
 exact List.take_of_length_le (by simp)
theorem split_li (c:UInt8):∀ (m:Nat) (s:ByteArray) (a:List ByteArray),Lib.countByte (L s) c=m→s.size≤1000000000→a.length+m≤2000000000 →
  Ev (fun k=>strings_genSplit.l0 k s ⟨#[c]⟩ 0 ((a.length+m:Nat):Int) (a++List.replicate (m+1) (⟨#[]⟩:ByteArray)) (a.length:Int)) (a++(splitL c (L s)).map ofL):=by
 intro m
 have e1:L (⟨#[c]⟩:ByteArray)=[c]:=rfl
 have e2:(⟨#[c]⟩:ByteArray).size=1:=rfl
 induction m with
 | zero=>
  intro s a hc hs ha
  have hf:=count_cut_false hc
  obtain ⟨g1,g2⟩:=cutL_false hf
  rw [splitL_eq,hf]
  refine Ev_succ ?_
  simp only [strings_genSplit.l0]
  have hl:(a++List.replicate (0+1) (⟨#[]⟩:ByteArray)).length=a.length+1:=by simp
  have hw:wrap64 ((a.length:Int)+1)=((a.length+1:Nat):Int):=by rw [w64 (by omega) (by omega)];omega
  simp only [show ¬ ((a.length:Int) < ((a.length+0:Nat):Int)) from by omega,if_false,hl,show ((0:Int)≤(a.length:Int)) from by omega,show ((a.length:Int) < ((a.length+1:Nat):Int)) from by omega,if_true,hw,
   show ((0:Int)≤((a.length+1:Nat):Int)) from by omega,Int.toNat_natCast,Int.le_refl]
  rw [set_mid,take_mid]
  simp only [Bool.false_eq_true,if_false,List.map_cons,List.map_nil,g1,of_L]
  exact Ev.now _
 | succ m ih=>
  intro s a hc hs ha
  obtain ⟨ht,hc'⟩:=count_cut_true hc
  obtain ⟨h1,h2,h3⟩:=cut_parts ht
  have hix:Lib.indexByte (L s) c=(((cutL c (L s)).1.length:Nat):Int):=by rw [index_cut,if_pos ht]
  rw [splitL_eq,if_pos ht]
  have hz:(ofL (cutL c (L s)).2.1).size≤1000000000:=by
   have:=(cutL_len (c:=c) (L s)).1
   rw [L_size] at this
   rw [ofL_size];omega
  have key:=ih (ofL (cutL c (L s)).2.1) (a++[ofL (cutL c (L s)).1]) (by rw [L_of];exact hc') hz (by simp;omega)
  rw [L_of] at key
  rw [List.map_cons,show a++ofL (cutL c (L s)).1 :: List.map ofL (splitL c (cutL c (L s)).2.1)=a++[ofL (cutL c (L s)).1]++List.map ofL (splitL c (cutL c (L s)).2.1) from by simp]
  generalize (cutL c (L s)).1.length=n at h1 h2 h3 hix
  rw [show (cutL c (L s)).2.1=L (s.extract (n+1) s.size) from by rw [h2,L_of]]
  rw [← h1] at key ⊢
  rw [← h2] at key
  clear hz h1 h2 hc' ht hc
  have hl:(a++List.replicate (m+1+1) (⟨#[]⟩:ByteArray)).length=a.length+(m+2):=by simp
  have hl2:(a++[s.extract 0 n]).length=a.length+1:=by simp
  rw [hl2] at key
  refine Ev.step (fun k=>?_) key
  have c1:=ci_lt a.length m
  have c2:=ci_neg n
  have c3:=ci_nn n
  have c4:=ci_le h3
  have c5:=ci_nn a.length
  have c6:=ci_l6 hl
  have c7:=ci_nn (n+1)
  have c8:=ci_le1 h3
  have hw:wrap64 ((a.length:Int)+1)=((a.length+1:Nat):Int):=w64n1 a.length (w64d ha)
  have hw0:wrap64 ((n:Int)+0)=(n:Int):=w64n0 n (w64b h3 hs)
  have hw1:wrap64 ((n:Int)+((1:Nat):Int))=((n+1:Nat):Int):=w64n2 n (w64b h3 hs)
  simp only [strings_genSplit.l0,strings_Index.f,stringslite_Index.f]
  rw [if_pos c1,hix,Option.bind_some,Option.bind_some]
  rw [if_neg c2,hw0,if_pos c3,if_pos c4,if_pos c5,if_pos c6,e2,hw1,if_pos c7,if_pos c8,hw]
  simp only [Int.toNat_natCast]
  rw [set_mid,show a.length+1+m=a.length+(m+1) from by rw [Nat.add_assoc,Nat.add_comm 1 m]]
theorem split_i (s:ByteArray) (c:UInt8) (hs:s.size≤1000000000):Ev (fun k=>strings_Split.f k s ⟨#[c]⟩) ((splitL c (L s)).map ofL):=by
 have e1:L (⟨#[c]⟩:ByteArray)=[c]:=rfl
 have hcnt:Lib.countByte (L s) c≤s.size:=by rw [← L_size];exact List.count_le_length
 unfold strings_Split.f strings_genSplit.f strings_Count.f
 have en:¬ ((⟨#[c]⟩:ByteArray).toList=([]:List UInt8)):=by rw [toList_nil];show ¬ (1=0);omega
 rw [e1]
 simp only [show ¬ ((-1:Int)=0) from by omega,if_false,en,show ((-1:Int) < 0) from by omega,if_true,Option.bind_some]
 refine Ev.bind (a:=(splitL c (L s)).map ofL) ?_ (Ev.now _)
 refine Ev_succ ?_
 have hw:wrap64 (((Lib.countByte (L s) c:Nat):Int)+1)=((Lib.countByte (L s) c+1:Nat):Int):=by rw [w64 (by omega) (by omega)];omega
 have hw2:wrap64 ((s.size:Int)+1)=((s.size+1:Nat):Int):=by rw [w64 (by omega) (by omega)];omega
 have hm:mn ((Lib.countByte (L s) c+1:Nat):Int) ((s.size+1:Nat):Int)=((Lib.countByte (L s) c+1:Nat):Int):=by unfold mn;split <;> omega
 have hw3:wrap64 (((Lib.countByte (L s) c+1:Nat):Int) - 1)=((0+Lib.countByte (L s) c:Nat):Int):=by rw [w64 (by omega) (by omega)];omega
 simp only [strings_genSplit.j0,hw,hw2,hm,show ((0:Int)≤((Lib.countByte (L s) c+1:Nat):Int)) from by omega,if_true,Int.toNat_natCast,show Lib.countByte (L s) c+1≤17592186044416 from by omega,hw3]
 have:=split_li c (Lib.countByte (L s) c) s [] rfl hs (by simp;omega)
 simpa using this
theorem fine_parts {a:A5} (h:Fine a):Parts a.2.1∧a.1.size≤60∧a.2.2.2.1.size≤60:=by
 rcases h with rfl|⟨_,h⟩
 ·exact ⟨⟨by simp [none5],by simp [none5]⟩,Nat.zero_le _,Nat.zero_le _⟩
 ·unfold addrOk at h
  simp only [Bool.and_eq_true,decide_eq_true_eq] at h
  obtain ⟨⟨⟨⟨⟨h1,h2⟩,h3⟩,h4⟩,h5⟩,h6⟩:=h
  refine ⟨⟨by omega,fun p hp=>?_⟩,?_,?_⟩
  ·have:=List.all_eq_true.1 h5 p hp
   unfold partOk at this
   simp only [Bool.and_eq_true] at this
   have:=isNorm_size this.1.1.1
   omega
  ·have:=isHouse_size h1;omega
  ·exact isNorm_size h3
theorem clean_l (ps:List ByteArray) (hl:ps.length≤1000000) (d:Nat):∀ (i:Nat) (acc:List ByteArray),i+d=ps.length→acc.length≤i →
  Ev (fun k=>spec_PathClean.l0 k ps acc (i:Int)) ((ps.drop i).foldl clean1 acc):=by
 induction d with
 | zero=>
  intro i acc hi ha
  have n1:¬ ((i:Int) < (ps.length:Int)):=by omega
  rw [List.drop_eq_nil_of_le (by omega)]
  refine Ev_succ ?_
  simp only [spec_PathClean.l0,n1,if_false]
  exact Ev.now _
 | succ d ih=>
  intro i acc hi ha
  have hi':i < ps.length:=by omega
  have f1:(i:Int) < (ps.length:Int):=by omega
  have f2:(0:Int)≤(i:Int):=by omega
  have e1:wrap64 ((i:Int)+1)=((i+1:Nat):Int):=by rw [w64 (by omega) (by omega)];rfl
  have hr:=rd_at hi'
  rw [List.drop_eq_getElem_cons hi',List.foldl_cons]
  generalize ps[i]=p at hr ⊢
  have hc:=clean1_len acc p
  have ih':=ih (i+1) (clean1 acc p) (by omega) (by omega)
  refine Ev_succ ?_
  simp only [spec_PathClean.l0,f1,f2,if_true,hr]
  unfold clean1 at ih' ⊢
  by_cases h1:p.toList=[]
  ·simp only [h1,if_true] at ih' ⊢
   refine Ev_succ ?_
   simp only [spec_PathClean.j1,if_true,e1]
   exact ih'
  ·simp only [h1,if_false] at ih' ⊢
   refine Ev_succ ?_
   by_cases h2:p.toList=[46]
   ·simp only [h2,if_true] at ih' ⊢
    simp only [spec_PathClean.j1,beq_self_eq_true,if_true,e1]
    exact ih'
   ·have h2':(p.toList == [46])=false:=by simpa using h2
    simp only [h2,if_false] at ih' ⊢
    simp only [spec_PathClean.j1,h2',Bool.false_eq_true,if_false,f1,f2,if_true,hr,e1]
    by_cases h3:p.toList=[46,46]
    ·have m:mx (wrap64 ((acc.length:Int) - 1)) 0=((acc.length - 1:Nat):Int):=by
      rw [w64 (by omega) (by omega)];unfold mx;split <;> omega
     have g1:(0:Int)≤((acc.length - 1:Nat):Int):=by omega
     have g2:((acc.length - 1:Nat):Int)≤(acc.length:Int):=by omega
     simp only [h3,if_true] at ih' ⊢
     simp only [m,g1,g2,if_true,Int.toNat_natCast]
     exact ih'
    ·have g3:acc.length < 8796093022208:=by omega
     simp only [h3,if_false] at ih' ⊢
     simp only [g3,if_true]
     exact ih'
theorem clean_ev (ps:List ByteArray) (hl:ps.length≤1000000):Ev (fun k=>spec_PathClean.f k ps) (pathClean ps):=
 clean_l ps hl ps.length 0 [] (by omega) (by simp)
def wayE (house:ByteArray) (asks:Bool) (ask:ByteArray) (ps:List ByteArray):A5:=
 if (escNorm ask).2=true then (if addrOk house (pathClean ps) asks (escNorm ask).1=true then (house,pathClean ps,asks,(escNorm ask).1,true) else none5) else none5
theorem way_l (house ask:ByteArray) (asks:Bool) (base:List ByteArray) (b0:Bool) (a0:ByteArray) (hh:house.size≤100000) (ls:List ByteArray) (hl:ls.length≤900) (d:Nat) :
  ∀ (i:Nat) (acc:List ByteArray),i+d=ls.length→acc.length≤i+50→(∀ p ∈ acc,p.size≤1048576) →
  Ev (fun k=>spec_l1Way.l0 k ask asks acc ls (i:Int) house base b0 a0) (match escAll (ls.drop i) with|none=>none5|some ps=>wayE house asks ask (acc++ps)):=by
 induction d with
 | zero=>
  intro i acc hi ha hp
  have n1:¬ ((i:Int) < (ls.length:Int)):=by omega
  rw [List.drop_eq_nil_of_le (by omega)]
  refine Ev_succ ?_
  simp only [spec_l1Way.l0,n1,if_false,escAll,List.append_nil]
  refine Ev.bind (escNorm_ev ask) (Ev.bind (clean_ev acc (by omega)) ?_)
  have hz:=escNorm_size ask
  unfold wayE
  by_cases h1:(escNorm ask).2=true
  ·simp only [h1,if_true]
   have hP:Parts (pathClean acc):=⟨by have:=cleanF_len acc [];unfold pathClean;simp only [List.length_nil] at this;omega,fun p hq=>by
    rcases cleanF_mem hq with h|h
    ·cases h
    ·exact hp p h⟩
   refine Ev.bind (addrOk_ev house (pathClean acc) asks (escNorm ask).1 hP (by omega) (by omega)) ?_
   by_cases h2:addrOk house (pathClean acc) asks (escNorm ask).1=true
   ·simp only [h2,if_true];exact Ev.now _
   ·simp only [h2,if_false];exact Ev.now _
  ·simp only [h1,if_false];exact Ev.now _
 | succ d ih=>
  intro i acc hi ha hp
  have hi':i < ls.length:=by omega
  have f1:(i:Int) < (ls.length:Int):=by omega
  have f2:(0:Int)≤(i:Int):=by omega
  have e1:wrap64 ((i:Int)+1)=((i+1:Nat):Int):=by rw [w64 (by omega) (by omega)];rfl
  have hr:=rd_at hi'
  rw [List.drop_eq_getElem_cons hi']
  generalize ls[i]=p at hr ⊢
  have hz:=escNorm_size p
  refine Ev_succ ?_
  simp only [spec_l1Way.l0,f1,f2,if_true,hr,e1]
  refine Ev.bind (escNorm_ev p) ?_
  unfold escAll
  by_cases h1:(escNorm p).2=true
  ·have g3:acc.length < 8796093022208:=by omega
   simp only [h1,if_true,g3]
   have ih':=ih (i+1) (acc++[(escNorm p).1]) (by omega) (by simp;omega) (fun x hx=>by
    rcases List.mem_append.1 hx with h|h
    ·exact hp x h
    ·rw [List.mem_singleton.1 h];omega)
   cases he:escAll (ls.drop (i+1)) with
   | none=>rw [he] at ih';exact ih'
   | some ps=>
    rw [he] at ih'
    simp only [Option.map_some]
    simpa using ih'
  ·simp only [h1,if_false];exact Ev.now _
theorem cutB_size (c:UInt8) (s:ByteArray):(cutB c s).1.size≤s.size∧(cutB c s).2.1.size≤s.size:=by
 have:=(cutL_len (c:=c) (L s)).1
 rw [L_size] at this
 unfold cutB
 constructor
 ·show (ofL _).size≤_;rw [ofL_size];omega
 ·show (ofL _).size≤_;rw [ofL_size];omega
theorem way_ev (house:ByteArray) (base:List ByteArray) (b0:Bool) (a0 way:ByteArray) (hh:house.size≤100000) (hb:base.length≤50) (hp:∀ p ∈ base,p.size≤1048576) (hw:way.size≤800) :
  Ev (fun k=>spec_l1Way.f k house base b0 a0 way) (wayO house base way):=by
 unfold spec_l1Way.f wayO
 refine Ev.bind (cut_ev way 63 (by omega)) ?_
 have hc:=cutB_size 63 way
 have g:([]:List ByteArray).length+base.length < 8796093022208:=by simp;omega
 simp only [Option.bind_some,g,if_true,List.nil_append]
 refine Ev.bind (split_ev (cutB 63 way).1 47 (by omega)) ?_
 have hl:=splitL_len 47 (L (cutB 63 way).1)
 rw [L_size] at hl
 have:=way_l house (cutB 63 way).2.1 (cutB 63 way).2.2 base b0 a0 hh ((splitL 47 (L (cutB 63 way).1)).map ofL) (by rw [List.length_map];omega) _ 0 base (Nat.zero_add _) (by omega) hp
 rw [List.drop_zero] at this
 exact this
theorem house_l (s h:ByteArray) (hs:s.size≤800):∀ (l:List UInt8) (i:Nat),(L s).drop i=l→h=s →
  Ev (fun k=>spec_l1Whole.l0 k s h (⟨#[]⟩:ByteArray) (i:Int)) (wayO (smallB (ofL ((L s).take i++(houseL l).1))) [] (ofL (houseL l).2))
 | [],i,h',e=>by
  have:=bt_end h'
  have n1:¬ ((i:Int) < (s.size:Int)):=by omega
  have eq:(L s).take i=L s:=List.take_of_length_le (by rw [L_size];omega)
  subst e
  refine Ev_succ ?_
  simp only [spec_l1Whole.l0,n1,if_false,houseL,eq,List.append_nil,of_L,spec_l1Small.f,show h.size≤140737488351232 from by omega,if_true,Option.bind_some]
  refine Ev.bind (way_ev (smallB h) [] false _ _ (by unfold smallB;rw [ofL_size,List.length_map,L_size];omega) (by simp) (by simp) (by decide)) ?_
  exact Ev.now _
 | x :: xs,i,h',e=>by
  obtain ⟨hi,hb,hd⟩:=bt_at h'
  have e1:wrap64 ((i:Int)+1)=((i+1:Nat):Int):=by rw [w64 (by omega) (by omega)];rfl
  have f1:(i:Int) < (s.size:Int):=by omega
  have f2:(0:Int)≤(i:Int):=by omega
  have f3:(i:Int)≤(s.size:Int):=by omega
  have c1:((x.toNat:Int)=47)↔x=47:=u8_eq (b:=47)
  have c2:((x.toNat:Int)=63)↔x=63:=u8_eq (b:=63)
  have x1:s.extract 0 i=ofL ((L s).take i):=by apply L_inj;rw [L_ext,L_of];simp
  have x2:s.extract i s.size=ofL (x :: xs):=by
   apply L_inj;rw [L_ext,L_of,h',List.take_of_length_le]
   rw [← h',List.length_drop,L_size];omega
  have z1:(ofL ((L s).take i)).size≤800:=by rw [ofL_size,List.length_take,L_size];omega
  have z2:(ofL (x :: xs)).size≤800:=by rw [ofL_size,← h',List.length_drop,L_size];omega
  have fin:Ev (fun k=>(spec_l1Way.f k (smallB (ofL ((L s).take i))) ([]:List ByteArray) false (⟨#[]⟩:ByteArray) (ofL (x :: xs))).bind fun bt204=>(some (bt204.1,bt204.2.1,bt204.2.2.1,bt204.2.2.2.1,bt204.2.2.2.2))) (wayO (smallB (ofL ((L s).take i++[]))) [] (ofL (x :: xs))):=by
   rw [List.append_nil]
   refine Ev.bind (way_ev _ [] false _ _ (by unfold smallB;rw [ofL_size,List.length_map,L_size];omega) (by simp) (by simp) z2) ?_
   exact Ev.now _
  refine Ev_succ ?_
  simp only [spec_l1Whole.l0,f1,f2,f3,if_true,hb,c1,c2,e1,Int.toNat_natCast,x1,x2,spec_l1Small.f,show (ofL ((L s).take i)).size≤140737488351232 from by omega,Option.bind_some]
  unfold houseL
  by_cases h1:x=47
  ·simp only [h1,if_true,true_or]
   rw [h1] at fin
   exact fin
  ·by_cases h2:x=63
   ·simp only [h1,h2,if_true,if_false,or_true,show ¬ ((63:UInt8)=47) from by decide]
    rw [h2] at fin
    exact fin
   ·simp only [h1,h2,if_false,or_self]
    have:=house_l s h hs xs (i+1) hd e
    have ht:(L s).take (i+1)++(houseL xs).1=(L s).take i++(x :: (houseL xs).1):=by
     have hl:i < (L s).length:=by rw [L_size];exact hi
     have:(L s)[i]=x:=by
      have hd2:(L s).drop i=(L s)[i] :: (L s).drop (i+1):=List.drop_eq_getElem_cons hl
      rw [h'] at hd2
      injection hd2 with h1 h2
      exact h1.symm
     rw [List.take_succ_eq_append_getElem hl,this]
     simp
    rw [ht] at this
    exact this
theorem whole_ev (s:ByteArray) (hs:s.size≤800):Ev (fun k=>spec_l1Whole.f k s) (wholeO s):=by
 have:=house_l s s hs (L s) 0 rfl rfl
 simp only [List.take_zero,List.nil_append] at this
 exact this
theorem read_ev (raw:ByteArray) (hs:raw.size≤140737488351232):Ev (fun k=>spec_AddrRead.f k raw) (readO raw):=by
 unfold spec_AddrRead.f readO
 refine Ev.bind (cut_ev raw 35 hs) ?_
 have hc:=(cutB_size 35 raw).1
 generalize (cutB 35 raw).1=c at hc ⊢
 by_cases h1:raw.size > 60
 ·have n1:(raw.size:Int) > 60:=by omega
  simp only [n1,h1,if_true];exact Ev.now _
 ·have n1:¬ (raw.size:Int) > 60:=by omega
  simp only [n1,h1,if_false]
  by_cases h2:c.size < 2
  ·have n2:(c.size:Int) < 2:=by omega
   simp only [n2,h2,if_true];exact Ev.now _
  ·have n2:¬ (c.size:Int) < 2:=by omega
   have n3:(2:Int)≤(c.size:Int):=by omega
   have hx:((c.extract 0 2).toList=[47,47])↔((L c).take 2=[47,47]):=by
    rw [Lib.toList_data]
    show L (c.extract 0 2)=_↔_
    rw [L_ext];simp
   simp only [n2,h2,n3,if_true,if_false,show (0:Int)≤2 from by omega,hx]
   by_cases h3:(L c).take 2=[47,47]
   ·simp only [h3,if_true]
    have hz:(c.extract 2 c.size).size≤800:=by rw [ByteArray.size_extract];omega
    generalize c.extract 2 c.size=z at hz ⊢
    exact Ev.bind (whole_ev z hz) (Ev.now _)
   ·simp only [h3,if_false];exact Ev.now _
theorem clean_li (ps:List ByteArray) (hl:ps.length≤1000000) (d:Nat):∀ (i:Nat) (acc:List ByteArray),i+d=ps.length→acc.length≤i →
  Ev (fun k=>impl_PathClean.l0 k acc ps (ps.length:Int) (i:Int)) ((ps.drop i).foldl clean1 acc):=by
 induction d with
 | zero=>
  intro i acc hi ha
  rw [List.drop_eq_nil_of_le (by omega)]
  refine Ev_succ ?_
  simp only [impl_PathClean.l0,show ¬ ((i:Int) < (ps.length:Int)) from by omega,if_false]
  exact Ev.now _
 | succ d ih=>
  intro i acc hi ha
  have hlt:i < ps.length:=by omega
  have hr:=rd_at hlt
  have w1:=w64n1 i (by omega)
  have f1:(i:Int) < (ps.length:Int):=by omega
  have f2:=ci_nn i
  rw [List.drop_eq_getElem_cons hlt,List.foldl_cons]
  generalize ps[i]=p at hr ⊢
  have next:∀ acc',acc'.length≤i+1→acc'=clean1 acc p→Ev (fun k=>impl_PathClean.l0 k acc' ps (ps.length:Int) ((i+1:Nat):Int)) ((ps.drop (i+1)).foldl clean1 (clean1 acc p)):=fun acc' h1 h2=>by
   rw [← h2];exact ih (i+1) acc' (by omega) h1
  refine Ev_succ ?_
  simp only [impl_PathClean.l0,f1,f2,if_true]
  rw [hr]
  by_cases h1:p.toList=[]
  ·simp only [h1,if_true]
   refine Ev_succ ?_
   simp only [impl_PathClean.j1]
   simp only [show (([]:List UInt8) == [])=true from rfl,if_true]
   rw [w1]
   exact next acc (by omega) (by unfold clean1;rw [if_pos h1])
  ·simp only [h1,if_false]
   by_cases h2:p.toList=[46]
   ·refine Ev_succ ?_
    simp only [impl_PathClean.j1]
    simp only [h2,show (([46]:List UInt8) == [46])=true from rfl,if_true]
    rw [w1]
    exact next acc (by omega) (by unfold clean1;rw [if_neg h1,if_pos h2])
   ·refine Ev_succ ?_
    simp only [impl_PathClean.j1]
    simp only [show (p.toList == ([46]:List UInt8))=false from by simp [h2],Bool.false_eq_true,if_false]
    by_cases h3:p.toList=[46,46]
    ·simp only [h3,if_true]
     have hc:clean1 acc p=acc.take (acc.length - 1):=by unfold clean1;rw [if_neg h1,if_neg h2,if_pos h3]
     by_cases h4:acc.length=0
     ·simp only [show ¬ ((acc.length:Int) > 0) from by omega,if_false]
      rw [w1]
      exact next acc (by omega) (by rw [hc,List.length_eq_zero_iff.1 h4];rfl)
     ·have w2:wrap64 ((acc.length:Int) - 1)=((acc.length - 1:Nat):Int):=by rw [w64 (by omega) (by omega)];omega
      simp only [show ((acc.length:Int) > 0) from by omega,if_true]
      rw [w2]
      simp only [show ((0:Int)≤((acc.length - 1:Nat):Int)) from by omega,show (((acc.length - 1:Nat):Int)≤(acc.length:Int)) from by omega,if_true,Int.toNat_natCast]
      rw [w1]
      exact next _ (by rw [List.length_take];omega) hc.symm
    ·simp only [h3,if_false,show acc.length < 8796093022208 from by omega,if_true]
     rw [w1]
     exact next _ (by simp;omega) (by unfold clean1;rw [if_neg h1,if_neg h2,if_neg h3])
theorem clean_i (ps:List ByteArray) (hl:ps.length≤1000000):Ev (fun k=>impl_PathClean.f k ps) (pathClean ps):=
 clean_li ps hl ps.length 0 [] (by omega) (by simp)
def wayI (house:ByteArray) (asks:Bool) (ask:ByteArray) (ps:List ByteArray):A5:=if addrOk house (pathClean ps) asks ask=true then (house,pathClean ps,asks,ask,true) else none5
theorem way_li (house ask:ByteArray) (asks:Bool) (hh:house.size≤100000) (hq:ask.size≤1048576) (ls:List ByteArray) (hl:ls.length≤900) (d:Nat) :
  ∀ (i:Nat) (acc:List ByteArray),i+d=ls.length→acc.length≤50+i→(∀ p ∈ acc,p.size≤1048576) →
  Ev (fun k=>impl_readWay.l0 k house ask asks acc ls (ls.length:Int) (i:Int)) (match escAll (ls.drop i) with|none=>none5|some ps=>wayI house asks ask (acc++ps)):=by
 induction d with
 | zero=>
  intro i acc hi ha hp
  rw [List.drop_eq_nil_of_le (by omega)]
  refine Ev_succ ?_
  simp only [impl_readWay.l0,show ¬ ((i:Int) < (ls.length:Int)) from by omega,if_false,escAll,List.append_nil]
  refine Ev.bind (clean_i acc (by omega)) ?_
  unfold wayI
  have hP:Parts (pathClean acc):=⟨by have:=cleanF_len acc [];unfold pathClean;simp only [List.length_nil] at this;omega,fun p hq=>by
   rcases cleanF_mem hq with h|h
   ·cases h
   ·exact hp p h⟩
  refine Ev.bind (addrOk_i house (pathClean acc) asks ask hP (by omega) (by omega)) ?_
  by_cases h2:addrOk house (pathClean acc) asks ask=true
  ·simp only [h2,if_true];exact Ev.now _
  ·simp only [h2,if_false];exact Ev.now _
 | succ d ih=>
  intro i acc hi ha hp
  have hi':i < ls.length:=by omega
  have f1:(i:Int) < (ls.length:Int):=by omega
  have f2:=ci_nn i
  have e1:=w64n1 i (by omega)
  have hr:=rd_at hi'
  rw [List.drop_eq_getElem_cons hi']
  generalize ls[i]=p at hr ⊢
  have hz:=escNorm_size p
  refine Ev_succ ?_
  simp only [impl_readWay.l0,f1,f2,if_true,hr,e1]
  refine Ev.bind (escNorm_i p) ?_
  unfold escAll
  by_cases h1:(escNorm p).2=true
  ·have g3:acc.length < 8796093022208:=by omega
   simp only [h1,if_true,g3]
   have ih':=ih (i+1) (acc++[(escNorm p).1]) (by omega) (by simp;omega) (fun x hx=>by
    rcases List.mem_append.1 hx with h|h
    ·exact hp x h
    ·rw [List.mem_singleton.1 h];omega)
   cases he:escAll (ls.drop (i+1)) with
   | none=>rw [he] at ih';exact ih'
   | some ps=>
    rw [he] at ih'
    simp only [Option.map_some]
    simpa using ih'
  ·simp only [h1,if_false];exact Ev.now _
theorem way_i (house:ByteArray) (base:List ByteArray) (way:ByteArray) (hh:house.size≤100000) (hb:base.length≤50) (hp:∀ p ∈ base,p.size≤1048576) (hw:way.size≤800) :
  Ev (fun k=>impl_readWay.f k house base way) (wayO house base way):=by
 unfold impl_readWay.f wayO
 have hc:=cutB_size 63 way
 rw [cut_i way 63 (by omega)]
 simp only [Option.bind_some]
 have hz:=escNorm_size (cutB 63 way).2.1
 refine Ev.bind (escNorm_i (cutB 63 way).2.1) ?_
 by_cases h1:(escNorm (cutB 63 way).2.1).2=true
 ·simp only [h1,if_true,slices_Clone_string_string.f,show base.length * 16≤140737488355328 from by omega,Option.bind_some]
  refine Ev.bind (split_i (cutB 63 way).1 47 (by omega)) ?_
  have hl:=splitL_len 47 (L (cutB 63 way).1)
  rw [L_size] at hl
  have:=way_li house (escNorm (cutB 63 way).2.1).1 (cutB 63 way).2.2 hh (by omega) ((splitL 47 (L (cutB 63 way).1)).map ofL) (by rw [List.length_map];omega) _ 0 base (Nat.zero_add _) (by omega) hp
  rw [List.drop_zero] at this
  exact this
 ·simp only [h1,if_false]
  generalize escAll ((splitL 47 (L (cutB 63 way).1)).map ofL)=o
  cases o <;> exact Ev.now _
theorem any_house:∀ l:List UInt8,(Lib.indexAny l [47,63]=-1→houseL l=(l,[]))∧(∀ n:Nat,Lib.indexAny l [47,63]=(n:Int)→houseL l=(l.take n,l.drop n)∧n≤l.length)
 | []=>⟨fun _=>rfl,fun n h=>by unfold Lib.indexAny at h;omega⟩
 | x :: xs=>by
  obtain ⟨i1,i2⟩:=any_house xs
  unfold Lib.indexAny houseL
  by_cases h:x=47∨x=63
  ·have hc:([47,63]:List UInt8).contains x=true:=by rcases h with h|h <;> subst h <;> decide
   rw [if_pos h,if_pos hc]
   refine ⟨fun e=>by omega,fun n e=>?_⟩
   obtain rfl:n=0:=by omega
   exact ⟨rfl,Nat.zero_le _⟩
  ·have hc:¬ ([47,63]:List UInt8).contains x=true:=by
    simp only [List.contains_cons,List.contains_nil,Bool.or_false,Bool.or_eq_true,beq_iff_eq]
    exact h
   rw [if_neg h,if_neg hc]
   have hge:=Lib.indexAny_ge [47,63] xs
   by_cases h2:Lib.indexAny xs [47,63]=-1
   ·have hb:(Lib.indexAny xs [47,63] == -1)=true:=by simp [h2]
    rw [if_pos hb]
    refine ⟨fun _=>by rw [i1 h2],fun n e=>by omega⟩
   ·have hb:¬ (Lib.indexAny xs [47,63] == -1)=true:=by simp [h2]
    rw [if_neg hb]
    refine ⟨fun e=>by omega,fun n e=>?_⟩
    obtain ⟨m,hm⟩:∃ m:Nat,Lib.indexAny xs [47,63]=(m:Int):=⟨(Lib.indexAny xs [47,63]).toNat,by omega⟩
    obtain ⟨g1,g2⟩:=i2 m hm
    obtain rfl:n=m+1:=by omega
    rw [g1]
    exact ⟨rfl,by simp only [List.length_cons];omega⟩
def wholeI (s:ByteArray):A5:=if s.size < 2 then none5 else if (L s).take 2=[47,47] then wholeO (s.extract 2 s.size) else none5
theorem prefix_i (s:ByteArray) (hs:s.size≤800):stringslite_HasPrefix.f s ⟨#[47,47]⟩=some (decide (2≤s.size) && decide ((L s).take 2=[47,47])):=by
 unfold stringslite_HasPrefix.f
 have e2:(⟨#[47,47]⟩:ByteArray).size=2:=rfl
 rw [e2]
 by_cases h:2≤s.size
 ·rw [if_pos (by omega),if_pos (by omega),if_pos (by omega)]
  have hx:(s.extract 0 2).toList=(L s).take 2:=by rw [Lib.toList_data];show L (s.extract 0 2)=_;rw [L_ext];simp
  have hy:(⟨#[47,47]⟩:ByteArray).toList=[47,47]:=by rw [Lib.toList_data]
  simp only [Int.toNat_natCast,hx,hy,h,decide_true,Bool.true_and]
  congr 1
  rw [Bool.eq_iff_iff];simp
 ·rw [if_neg (by omega)]
  simp [h]
theorem whole_i (s:ByteArray) (hs:s.size≤800):Ev (fun k=>impl_readWhole.f k s) (wholeI s):=by
 unfold impl_readWhole.f strings_CutPrefix.f stringslite_CutPrefix.f wholeI
 have e2:(⟨#[47,47]⟩:ByteArray).size=2:=rfl
 rw [prefix_i s hs,e2]
 simp only [Option.bind_some]
 by_cases h:2≤s.size
 ·by_cases h3:(L s).take 2=[47,47]
  ·simp only [h,h3,decide_true,Bool.true_and,if_true,show ¬ (s.size < 2) from by omega,if_false]
   rw [if_pos (by omega),if_pos (by omega)]
   simp only [Option.bind_some,if_true,Int.toNat_natCast]
   have hz:(s.extract 2 s.size).size≤800:=by rw [ByteArray.size_extract];omega
   generalize s.extract 2 s.size=z at hz
   unfold strings_IndexAny.f wholeO
   have ez:L (⟨#[47,63]⟩:ByteArray)=[47,63]:=rfl
   rw [ez,if_pos ⟨rfl,by omega⟩]
   obtain ⟨a1,a2⟩:=any_house (L z)
   have hge:=Lib.indexAny_ge [47,63] (L z)
   by_cases hi:Lib.indexAny (L z) [47,63]=-1
   ·have hH:=a1 hi
    rw [hH]
    have x1:z.extract 0 ((z.size:Int)).toNat=z:=by apply L_inj;rw [L_ext,Int.toNat_natCast,List.drop_zero];exact List.take_of_length_le (by rw [Nat.sub_zero];exact Nat.le_of_eq (L_size z))
    have x2:z.extract ((z.size:Int)).toNat z.size=ofL []:=by apply L_inj;rw [L_ext,L_of,Int.toNat_natCast,Nat.sub_self];exact List.take_zero
    rw [of_L]
    refine Ev.congr (f:=fun k=>(impl_readWay.f k (smallB z) [] (ofL [])).bind fun b=>some (b.1,b.2.1,b.2.2.1,b.2.2.2.1,b.2.2.2.2)) (fun k=>?_) ?_
    ·rw [hi,Option.bind_some,if_pos (by omega),if_pos (by omega),if_pos (by omega)]
     first|rw [x1,x2]|(simp only [Int.toNat_natCast] at x1 x2;rw [x1,x2])
     unfold impl_smallLetters.f
     rw [if_pos (by omega),Option.bind_some]
    refine Ev.bind (way_i (smallB z) [] (ofL []) (by unfold smallB;rw [ofL_size,List.length_map,L_size];omega) (by simp) (by simp) (by decide)) ?_
    exact Ev.now _
   ·obtain ⟨n,hn⟩:∃ n:Nat,Lib.indexAny (L z) [47,63]=(n:Int):=⟨(Lib.indexAny (L z) [47,63]).toNat,by omega⟩
    obtain ⟨hH,hle⟩:=a2 n hn
    rw [L_size] at hle
    rw [hH]
    have x1:z.extract 0 ((n:Int)).toNat=ofL ((L z).take n):=by apply L_inj;rw [L_ext,L_of];simp
    have x2:z.extract ((n:Int)).toNat z.size=ofL ((L z).drop n):=by
     apply L_inj;rw [L_ext,L_of,Int.toNat_natCast]
     exact List.take_of_length_le (by rw [List.length_drop,L_size];exact Nat.le_refl _)
    have s1:(ofL ((L z).take n)).size≤800:=by rw [ofL_size,List.length_take,L_size];omega
    have s2:(ofL ((L z).drop n)).size≤800:=by rw [ofL_size,List.length_drop,L_size];omega
    generalize ofL ((L z).take n)=y at s1 x1 ⊢
    refine Ev.congr (f:=fun k=>(impl_readWay.f k (smallB y) [] (ofL ((L z).drop n))).bind fun b=>some (b.1,b.2.1,b.2.2.1,b.2.2.2.1,b.2.2.2.2)) (fun k=>?_) ?_
    ·rw [hn,Option.bind_some,if_neg (by omega),if_pos (by omega),if_pos (by omega),x1,x2]
     unfold impl_smallLetters.f
     rw [if_pos (by omega),Option.bind_some]
    refine Ev.bind (way_i (smallB y) [] _ (by unfold smallB;rw [ofL_size,List.length_map,L_size];omega) (by simp) (by simp) s2) ?_
    exact Ev.now _
  ·simp only [h,h3,decide_true,decide_false,Bool.and_false,Bool.false_eq_true,if_false,Option.bind_some,show ¬ (s.size < 2) from by omega]
   exact Ev.now _
 ·simp only [h,decide_false,Bool.false_and,Bool.false_eq_true,if_false,Option.bind_some,show s.size < 2 from by omega,if_true]
  exact Ev.now _
theorem read_i (raw:ByteArray):Ev (fun k=>impl_AddrRead.f k raw) (readO raw):=by
 unfold impl_AddrRead.f readO
 by_cases h:raw.size > 60
 ·simp only [show ((raw.size:Int) > 60) from by omega,if_true,h]
  exact Ev.now _
 ·simp only [show ¬ ((raw.size:Int) > 60) from by omega,if_false,h]
  have hc:=cutB_size 35 raw
  rw [cut_i raw 35 (by omega)]
  simp only [Option.bind_some]
  refine Ev.bind (whole_i (cutB 35 raw).1 (by omega)) ?_
  exact Ev.now _

end Go.Proofs.YtloijngehifbmaaGreatDoor.Ad
end
section
namespace Go.Proofs.YtloijngehifbmaaGreatDoor.Wd
open Go.RowKit Go.Proofs.YtloijngehifbmaaGreatDoor.P Go.Proofs.YtloijngehifbmaaGreatDoorW.PrintWords Go.Proofs.YtloijngehifbmaaGreatDoorW.PrintLast Go.Proofs.YtloijngehifbmaaGreatDoorW.PrintMore Go.Proofs.YtloijngehifbmaaGreatDoor.B Go.Proofs.YtloijngehifbmaaGreatDoor.Ad
set_option linter.unusedVariables false
set_option linter.unusedSimpArgs false
def norm (s:ByteArray):Bool:=(readO s).2.2.2.2 && (textB (readO s).1 (readO s).2.1 (readO s).2.2.1 (readO s).2.2.2.1).toList == s.toList
theorem readAddr_i (s:ByteArray):Ev (fun k=>impl_readAddress.f k s) (if norm s=true then ((readO s).1,(readO s).2.1,(readO s).2.2.1,(readO s).2.2.2.1,true) else none5):=by
 unfold impl_readAddress.f
 refine Ev.bind (read_i s) ?_
 have hF:=fine_read s
 obtain ⟨q1,q2,q3⟩:=fine_parts hF
 unfold norm
 by_cases h:(readO s).2.2.2.2=true
 ·have ht:=text_i (readO s).1 (readO s).2.1 (readO s).2.2.1 (readO s).2.2.2.1 q1 (by omega) (by omega)
  simp only [h,if_true,ht,Option.bind_some,Bool.true_and]
  by_cases h2:(textB (readO s).1 (readO s).2.1 (readO s).2.2.1 (readO s).2.2.2.1).toList=s.toList
  ·simp only [h2,if_true,beq_self_eq_true]
   exact Ev.now _
  ·simp only [h2,if_false,beq_eq_false_iff_ne.mpr h2,Bool.false_eq_true]
   exact Ev.now _
 ·have h':(readO s).2.2.2.2=false:=by simpa using h
  simp only [h',Bool.false_and,Bool.false_eq_true,if_false]
  exact Ev.now _
theorem isAddr_i (s:ByteArray):Ev (fun k=>impl_isAddress.f k s) (norm s):=by
 unfold impl_isAddress.f
 refine Ev.bind (readAddr_i s) ?_
 by_cases h:norm s=true
 ·rw [if_pos h,h];exact Ev.now _
 ·rw [if_neg h]
  have h':norm s=false:=by simpa using h
  rw [h']
  exact Ev.now _
theorem norm_s (s:ByteArray) (hs:s.size≤140737488351232):Ev (fun k=>spec_l11Norm.f k s) (norm s):=by
 unfold spec_l11Norm.f
 refine Ev.bind (read_ev s hs) ?_
 have hF:=fine_read s
 obtain ⟨q1,q2,q3⟩:=fine_parts hF
 unfold norm
 by_cases h:(readO s).2.2.2.2=true
 ·simp only [h,if_true,Bool.true_and]
  have ho:addrOk (readO s).1 (readO s).2.1 (readO s).2.2.1 (readO s).2.2.2.1=true:=by
   rcases hF with e|e
   ·rw [e] at h;cases h
   ·exact e.2
  refine Ev.bind (addrText_ev _ _ _ _ q1 (by omega) (by omega)) ?_
  unfold addrText
  rw [if_pos ho]
  exact Ev.now _
 ·have h':(readO s).2.2.2.2=false:=by simpa using h
  simp only [h',Bool.false_and,Bool.false_eq_true,if_false]
  exact Ev.now _
abbrev Pg:=S57
def pgOk (p:Pg):Bool:=norm p.f0 && decide (p.f1.size≤300) && decide (0≤p.f3) && decide (p.f3≤9) && (p.f2.toList == [] || norm p.f2 && p.f1.toList == [])
theorem pageOk_i (p:Pg):Ev (fun k=>impl_pageOk.f k p.f0 p.f1 p.f2 p.f3) (pgOk p):=by
 unfold impl_pageOk.f pgOk
 refine Ev.bind (isAddr_i p.f0) ?_
 cases norm p.f0 with
 | false=>simp only [Bool.false_and,Bool.false_eq_true,if_false];exact Ev.now _
 | true=>
  simp only [if_true,Bool.true_and]
  by_cases h1:(p.f1.size:Int) > 300
  ·simp only [h1,if_true,show ¬ p.f1.size≤300 from by omega,decide_false,Bool.false_and];exact Ev.now _
  ·simp only [h1,if_false,show p.f1.size≤300 from by omega,decide_true,Bool.true_and]
   by_cases h2:p.f3 < 0
   ·simp only [h2,if_true,show ¬ 0≤p.f3 from by omega,decide_false,Bool.false_and];exact Ev.now _
   ·simp only [h2,if_false,show 0≤p.f3 from by omega,decide_true,Bool.true_and]
    by_cases h3:p.f3 > 9
    ·simp only [h3,if_true,show ¬ p.f3≤9 from by omega,decide_false,Bool.false_and];exact Ev.now _
    ·simp only [h3,if_false,show p.f3≤9 from by omega,decide_true,Bool.true_and]
     by_cases h4:p.f2.toList=([]:List UInt8)
     ·simp only [h4,if_true,beq_self_eq_true,Bool.true_or];exact Ev.now _
     ·simp only [h4,if_false,beq_eq_false_iff_ne.mpr h4,Bool.false_or]
      refine Ev.bind (isAddr_i p.f2) ?_
      cases norm p.f2 with
      | false=>simp only [Bool.false_and,Bool.false_eq_true,if_false];exact Ev.now _
      | true=>simp only [if_true,Bool.true_and];exact Ev.now _
theorem pagesOk_i:∀ (l:List Pg),(∀ p ∈ l,p.f0.size≤9223372036854775807)→Ev (fun k=>pagesOk k l) (l.all pgOk)
 | [],_=>by simp only [pagesOk,List.all_nil];exact Ev.now _
 | p :: r,h=>by
  simp only [pagesOk,h p (List.mem_cons_self ..),if_true,List.all_cons]
  refine Ev.bind (pageOk_i p) ?_
  cases pgOk p with
  | false=>simp only [Bool.false_and,Bool.false_eq_true,if_false];exact Ev.now _
  | true=>simp only [if_true,Bool.true_and];exact pagesOk_i r (fun q hq=>h q (List.mem_cons_of_mem _ hq))
def fresh:List Pg→Bool
 | []=>true
 | p :: r=>!(r.any fun q=>decide (q.f0=p.f0)) && fresh r
theorem at_any (a:ByteArray):∀ (r:List Pg),(pageAtR a r).isSome=r.any fun q=>decide (q.f0=a)
 | []=>rfl
 | p :: r=>by
  unfold pageAtR
  by_cases h:p.f0=a
  ·simp [h]
  ·simp [h,at_any a r]
theorem size_fresh:∀ (r:List Pg),Maps.size (mapR r)≤r.length∧(Maps.size (mapR r)=r.length↔fresh r=true)
 | []=>⟨Nat.le_refl _,by simp [fresh,mapR,Maps.size]⟩
 | p :: r=>by
  obtain ⟨h1,h2⟩:=size_fresh r
  rw [mapR_size,at_any]
  unfold fresh
  cases hb:(r.any fun q=>decide (q.f0=p.f0)) with
  | true=>simp only [if_true,Bool.not_true,Bool.false_and,List.length_cons];exact ⟨by omega,by constructor <;> intro h <;> first|omega|cases h⟩
  | false=>simp only [Bool.false_eq_true,if_false,Bool.not_false,Bool.true_and,List.length_cons];exact ⟨by omega,by rw [← h2];omega⟩
def worldOk (l:List Pg):Bool:=decide (l.length≤12) && l.all pgOk && fresh l.reverse
theorem made_i (l:List Pg) (h:∀ p ∈ l,p.f0.size≤9223372036854775807):Ev (fun k=>(impl_worldOf.f k l).bind fun t=>if t=true then some ((Maps.size (mapD l):Int) == (l.length:Int)) else some false) (worldOk l):=by
 unfold impl_worldOf.f worldOk
 by_cases h12:12 < l.length
 ·simp only [h12,if_true,Option.bind_some,Bool.false_eq_true,if_false,show ¬ l.length≤12 from by omega,decide_false,Bool.false_and]
  exact Ev.now _
 ·simp only [h12,if_false,show l.length≤12 from by omega,decide_true,Bool.true_and]
  refine Ev.bind (pagesOk_i l h) ?_
  cases l.all pgOk with
  | false=>simp only [Bool.false_eq_true,if_false,Bool.false_and];exact Ev.now _
  | true=>
   simp only [if_true,Bool.true_and]
   have:=(size_fresh l.reverse).2
   rw [List.length_reverse] at this
   have e:((Maps.size (mapD l):Int) == (l.length:Int))=fresh l.reverse:=by
    unfold mapD
    rw [Bool.eq_iff_iff,← this]
    simp
    omega
   rw [e]
   exact Ev.now _
theorem made2 (l:List Pg) (h:∀ p ∈ l,p.f0.size≤9223372036854775807):∃ b,Ev (fun k=>impl_worldOf.f k l) b∧(b=false→worldOk l=false)∧(b=true→((Maps.size (mapD l):Int) == (l.length:Int))=worldOk l):=by
 obtain ⟨K,hK⟩:=made_i l h
 obtain ⟨b,hb,hb2⟩:=Option.bind_eq_some_iff.mp (hK K (Nat.le_refl _))
 refine ⟨b,Ev.of (fun k=>impl_worldOf.mono l k) hb,fun e=>?_,fun e=>?_⟩
 ·subst e
  rw [if_neg (by decide)] at hb2
  exact (Option.some.inj hb2).symm
 ·subst e
  rw [if_pos rfl] at hb2
  exact Option.some.inj hb2
theorem rd_pg {l:List Pg} {i:Nat} (h:i < l.length):rd_T57 l (i:Int)=l[i]:=by
 simp [rd_T57,List.getD,List.getElem?_eq_getElem h]
def restOk (l:List Pg):Nat→Nat→Bool
 | 0,_=>decide (l.length≤12)
 | d+1,i=>pgOk (rd_T57 l (i:Int)) && !((l.take i).any fun q=>decide (q.f0=(rd_T57 l (i:Int)).f0)) && restOk l d (i+1)
theorem inner_s (l:List Pg) (i:Nat) (hi:i < l.length) (hl:l.length≤1048576) (R:Bool) (hR:Ev (fun k=>spec_WorldOk.l0 k l ((i+1:Nat):Int)) R) (d:Nat):∀ (j:Nat),j+d=i →
  Ev (fun k=>spec_WorldOk.l1 k l (i:Int) (j:Int)) (!(((l.take i).drop j).any fun q=>decide (q.f0=(rd_T57 l (i:Int)).f0)) && R):=by
 induction d with
 | zero=>
  intro j hj
  obtain rfl:j=i:=by omega
  have w1:wrap64 ((j:Int)+1)=((j+1:Nat):Int):=by rw [w64 (by omega) (by omega)];rfl
  refine Ev_succ ?_
  simp only [spec_WorldOk.l1,show ¬ ((j:Int) < (j:Int)) from by omega,if_false]
  rw [w1,List.drop_of_length_le (by rw [List.length_take];omega)]
  simpa using hR
 | succ d ih=>
  intro j hj
  have hjl:j < l.length:=by omega
  have w1:wrap64 ((j:Int)+1)=((j+1:Nat):Int):=by rw [w64 (by omega) (by omega)];rfl
  have hd:(l.take i).drop j=l[j] :: (l.take i).drop (j+1):=by
   rw [List.drop_eq_getElem_cons (by rw [List.length_take];omega)]
   congr 1
   simp
  refine Ev_succ ?_
  simp only [spec_WorldOk.l1,show (j:Int) < (i:Int) from by omega,ci_nn j,ci_nn i,show (j:Int) < (l.length:Int) from by omega,show (i:Int) < (l.length:Int) from by omega,if_true]
  rw [w1,hd,rd_pg hjl,List.any_cons]
  by_cases he:l[j].f0.toList=(rd_T57 l (i:Int)).f0.toList
  ·simp only [he,if_true,decide_eq_true (toList_inj.1 he),Bool.true_or,Bool.not_true,Bool.false_and]
   exact Ev.now _
  ·simp only [he,if_false,decide_eq_false (fun e=>he (toList_inj.2 e)),Bool.false_or]
   exact ih (j+1) (by omega)
theorem outer_s (l:List Pg) (hl:l.length≤1048576) (hs:∀ p ∈ l,p.f0.size≤140737488351232∧p.f2.size≤140737488351232) (d:Nat):∀ (i:Nat),i+d=l.length→Ev (fun k=>spec_WorldOk.l0 k l (i:Int)) (restOk l d i):=by
 induction d with
 | zero=>
  intro i hi
  refine Ev_succ ?_
  simp only [spec_WorldOk.l0,show ¬ ((i:Int) < (l.length:Int)) from by omega,if_false,restOk]
  have e:decide ((l.length:Int)≤12)=decide (l.length≤12):=by rw [Bool.eq_iff_iff];simp;omega
  rw [e]
  exact Ev.now _
 | succ d ih=>
  intro i hi
  have hlt:i < l.length:=by omega
  have hr:=rd_pg hlt
  have hm:=hs _ (List.getElem_mem hlt)
  have stop:Ev (fun k=>spec_WorldOk.j1 k l (i:Int) true) false:=Ev_succ (by simp only [spec_WorldOk.j1,if_true];exact Ev.now _)
  have go:Ev (fun k=>spec_WorldOk.j1 k l (i:Int) false) (!((l.take i).any fun q=>decide (q.f0=(rd_T57 l (i:Int)).f0)) && restOk l d (i+1)):=by
   refine Ev_succ ?_
   simp only [spec_WorldOk.j1,Bool.false_eq_true,if_false]
   have:=inner_s l i hlt hl _ (ih (i+1) (by omega)) i 0 (by omega)
   simpa using this
  unfold restOk pgOk
  refine Ev_succ ?_
  simp only [spec_WorldOk.l0,show (i:Int) < (l.length:Int) from by omega,ci_nn i,if_true]
  rw [hr]
  rw [hr] at go
  refine Ev.bind (norm_s _ hm.1) ?_
  generalize l[i]=p at go hm ⊢
  cases norm p.f0 with
  | false=>simp only [Bool.false_and,Bool.false_eq_true,if_false];exact stop
  | true=>
   simp only [if_true,Bool.true_and]
   by_cases h1:(p.f1.size:Int) > 300
   ·simp only [h1,if_true,show ¬ p.f1.size≤300 from by omega,decide_false,Bool.false_and];exact stop
   ·simp only [h1,if_false,show p.f1.size≤300 from by omega,decide_true,Bool.true_and]
    have hin:spec_l6In.f p.f3 0 9=some (decide (0≤p.f3) && decide (p.f3≤9)):=by
     unfold spec_l6In.f
     by_cases ha:0≤p.f3 <;> by_cases hb:p.f3≤9 <;> simp [ha,hb]
    rw [hin]
    simp only [Option.bind_some]
    by_cases h23:(decide (0≤p.f3) && decide (p.f3≤9))=true
    ·simp only [h23,if_true,Bool.true_and]
     by_cases h4:p.f2.toList=([]:List UInt8)
     ·simp only [h4,if_true,beq_self_eq_true,Bool.true_or,Bool.true_and];exact go
     ·simp only [h4,if_false,beq_eq_false_iff_ne.mpr h4,Bool.false_or]
      by_cases h5:p.f1.toList=([]:List UInt8)
      ·simp only [h5,if_true,beq_self_eq_true,Bool.and_true]
       refine Ev.bind (norm_s _ hm.2) ?_
       cases norm p.f2 with
       | false=>simp only [Bool.not_false,Bool.false_and];exact stop
       | true=>simp only [Bool.not_true,Bool.true_and];exact go
      ·simp only [h5,if_false,beq_eq_false_iff_ne.mpr h5,Bool.and_false,Bool.false_and];exact stop
    ·have h23':(decide (0≤p.f3) && decide (p.f3≤9))=false:=by simpa using h23
     simp only [h23',Bool.false_eq_true,if_false,Bool.false_and];exact stop
theorem rest_world (l:List Pg) (d:Nat):∀ (i:Nat),i+d=l.length→fresh (l.take i).reverse=true→restOk l d i=(decide (l.length≤12) && (l.drop i).all pgOk && fresh l.reverse):=by
 induction d with
 | zero=>
  intro i hi hf
  obtain rfl:i=l.length:=by omega
  rw [List.take_length] at hf
  simp [restOk,hf]
 | succ d ih=>
  intro i hi hf
  have hlt:i < l.length:=by omega
  have ht:(l.take (i+1)).reverse=l[i] :: (l.take i).reverse:=by
   rw [List.take_succ_eq_append_getElem hlt,List.reverse_append]
   rfl
  rw [List.drop_eq_getElem_cons hlt,List.all_cons]
  unfold restOk
  rw [rd_pg hlt]
  cases ha:((l.take i).any fun q=>decide (q.f0=l[i].f0)) with
  | false=>
   rw [ih (i+1) (by omega) (by rw [ht];unfold fresh;rw [List.any_reverse,ha,hf];rfl)]
   cases pgOk l[i] <;> simp
  | true=>
   have hn:fresh l.reverse=false:=by
    have e:l.reverse=(l.drop (i+1)).reverse++(l.take (i+1)).reverse:=by rw [← List.reverse_append,List.take_append_drop]
    rw [e,ht]
    generalize (l.drop (i+1)).reverse=x
    induction x with
    | nil=>simp only [List.nil_append];unfold fresh;rw [List.any_reverse,ha];rfl
    | cons y x ih2=>simp only [List.cons_append];unfold fresh;rw [ih2,Bool.and_false]
   simp [hn]
theorem worldOk_s (l:List Pg) (hl:l.length≤1048576) (hs:∀ p ∈ l,p.f0.size≤140737488351232∧p.f2.size≤140737488351232):Ev (fun k=>spec_WorldOk.f k l) (worldOk l):=by
 unfold spec_WorldOk.f
 have h:=outer_s l hl hs l.length 0 (by omega)
 rw [rest_world l l.length 0 (by omega) (by simp [fresh])] at h
 rw [List.drop_zero] at h
 exact h
abbrev Lp:=S49
def conv (p:Lp):Pg:=⟨p.f0,p.f1,p.f2,p.f3⟩
theorem rd_lp {l:List Lp} {i:Nat} (h:i < l.length):rd_T49 l (i:Int)=l[i]:=by
 simp [rd_T49,List.getD,List.getElem?_eq_getElem h]
theorem szPg (p:Lp) (h0:p.f0.size≤4611686018427387904) (h1:p.f1.size≤4611686018427387904) (h2:p.f2.size≤4611686018427387904) (x:Int) (hx:0≤x) (hx':x≤1048576) :
  ∃ r:Int,laws_szPage.f p.f0 p.f1 p.f2 p.f3 x=some r∧r≤1048576∧-1≤r∧(0≤r→p.f0.size≤1048576∧p.f1.size≤1048576∧p.f2.size≤1048576):=by
 unfold laws_szPage.f
 have w1:wrap64 (x - (p.f0.size:Int))=x - (p.f0.size:Int):=w64 (by omega) (by omega)
 rw [w1]
 by_cases c1:x - (p.f0.size:Int) < 0
 ·exact ⟨-1,by simp only [c1,if_true],by omega,by omega,fun h=>by omega⟩
 have w2:wrap64 (x - (p.f0.size:Int) - (p.f1.size:Int))=x - (p.f0.size:Int) - (p.f1.size:Int):=w64 (by omega) (by omega)
 rw [w2]
 by_cases c2:x - (p.f0.size:Int) - (p.f1.size:Int) < 0
 ·exact ⟨-1,by simp only [c1,c2,if_true,if_false],by omega,by omega,fun h=>by omega⟩
 have w3:wrap64 (x - (p.f0.size:Int) - (p.f1.size:Int) - (p.f2.size:Int))=x - (p.f0.size:Int) - (p.f1.size:Int) - (p.f2.size:Int):=w64 (by omega) (by omega)
 rw [w3]
 by_cases c3:x - (p.f0.size:Int) - (p.f1.size:Int) - (p.f2.size:Int) < 0
 ·exact ⟨-1,by simp only [c1,c2,c3,if_true,if_false],by omega,by omega,fun h=>by omega⟩
 ·exact ⟨x - (p.f0.size:Int) - (p.f1.size:Int) - (p.f2.size:Int),by simp only [c1,c2,c3,if_false],by omega,by omega,fun _=>⟨by omega,by omega,by omega⟩⟩
theorem szPgs_l (l:List Lp) (hl:l.length≤2513169434916) (hs:∀ p ∈ l,p.f0.size≤4611686018427387904∧p.f1.size≤4611686018427387904∧p.f2.size≤4611686018427387904) (d:Nat):∀ (i:Nat) (x:Int),i+d=l.length→0≤x→x≤1048576 →
  ∃ r:Int,Ev (fun k=>laws_szPageS.l0 k l x (i:Int)) r∧(0≤r→∀ p ∈ l.drop i,p.f0.size≤1048576∧p.f1.size≤1048576∧p.f2.size≤1048576):=by
 induction d with
 | zero=>
  intro i x hi h0 h1
  refine ⟨x,Ev_succ ?_,fun _ p hp=>?_⟩
  ·simp only [laws_szPageS.l0,show ¬ ((i:Int) < (l.length:Int)) from by omega,if_false]
   exact Ev.now _
  ·rw [List.drop_eq_nil_of_le (by omega)] at hp;cases hp
 | succ d ih=>
  intro i x hi h0 h1
  have hlt:i < l.length:=by omega
  have hr:=rd_lp hlt
  have w1:wrap64 ((i:Int)+1)=((i+1:Nat):Int):=by rw [w64 (by omega) (by omega)];rfl
  have f1:(i:Int) < (l.length:Int):=by omega
  obtain ⟨z0,z1,z2⟩:=hs l[i] (List.getElem_mem hlt)
  rw [List.drop_eq_getElem_cons hlt]
  generalize l[i]=p at hr z0 z1 z2 ⊢
  obtain ⟨q,e,q1,q2,q3⟩:=szPg p z0 z1 z2 x h0 h1
  by_cases hn:q < 0
  ·refine ⟨-1,Ev_succ ?_,fun h=>by omega⟩
   simp only [laws_szPageS.l0,f1,ci_nn i,if_true,hr,e,Option.bind_some,hn]
   exact Ev.now _
  ·obtain ⟨r,er,r3⟩:=ih (i+1) q (by omega) (by omega) (by omega)
   refine ⟨r,Ev_succ ?_,fun h s hq=>?_⟩
   ·simp only [laws_szPageS.l0,f1,ci_nn i,if_true,hr,e,Option.bind_some,hn,if_false]
    rw [w1]
    exact er
   ·rcases List.mem_cons.1 hq with rfl|hq
    ·exact q3 (by omega)
    ·exact r3 h s hq
theorem szPgs_ev (l:List Lp) (hl:l.length≤2513169434916) (hs:∀ p ∈ l,p.f0.size≤4611686018427387904∧p.f1.size≤4611686018427387904∧p.f2.size≤4611686018427387904) :
  ∃ r:Int,Ev (fun k=>laws_szPageS.f k l 1048576) r∧(0≤r→l.length≤1048576∧∀ p ∈ l,p.f0.size≤1048576∧p.f1.size≤1048576∧p.f2.size≤1048576):=by
 unfold laws_szPageS.f
 have w1:wrap64 ((1048576:Int) - (l.length:Int))=1048576 - (l.length:Int):=w64 (by omega) (by omega)
 rw [w1]
 by_cases c1:(1048576:Int) - (l.length:Int) < 0
 ·exact ⟨-1,by simp only [c1,if_true];exact Ev.now _,fun h=>by omega⟩
 ·obtain ⟨r,e,h3⟩:=szPgs_l l hl hs l.length 0 (1048576 - (l.length:Int)) (by omega) (by omega) (by omega)
  refine ⟨r,by simp only [c1,if_false];exact e,fun h=>⟨by omega,?_⟩⟩
  simpa using h3 h
theorem toPgs_l (l:List Lp) (hl:l.length≤1048576) (d:Nat):∀ (i:Nat),i+d=l.length→Ev (fun k=>laws_toPageS.l0 k l ((l.take i).map conv++List.replicate d z57) (i:Int)) (l.map conv):=by
 induction d with
 | zero=>
  intro i hi
  refine Ev_succ ?_
  simp only [laws_toPageS.l0,show ¬ ((i:Int) < (l.length:Int)) from by omega,if_false]
  rw [List.take_of_length_le (by omega),List.replicate_zero,List.append_nil]
  exact Ev.now _
 | succ d ih=>
  intro i hi
  have hlt:i < l.length:=by omega
  have hr:=rd_lp hlt
  have w1:wrap64 ((i:Int)+1)=((i+1:Nat):Int):=by rw [w64 (by omega) (by omega)];rfl
  have f1:(i:Int) < (l.length:Int):=by omega
  have next:=ih (i+1) (by omega)
  have f2:(i:Int) < (((l.take i).map conv++List.replicate (d+1) z57).length:Int):=by
   rw [List.length_append,List.length_map,List.length_take,List.length_replicate];omega
  have hset:((l.take i).map conv++List.replicate (d+1) z57).set i (conv l[i])=(l.take (i+1)).map conv++List.replicate d z57:=by
   have e:((l.take i).map conv).length=i:=by rw [List.length_map,List.length_take];omega
   rw [List.set_append_right i _ (by omega),e,Nat.sub_self,List.replicate_succ,List.set_cons_zero,List.take_succ_eq_append_getElem hlt,List.map_append,List.append_assoc]
   rfl
  refine Ev_succ ?_
  simp only [laws_toPageS.l0,laws_toPage.f,f1,f2,ci_nn i,if_true,hr,Int.toNat_natCast,Option.bind_some]
  rw [w1]
  rw [show (⟨l[i].f0,l[i].f1,l[i].f2,l[i].f3⟩:Pg)=conv l[i] from rfl,hset]
  exact next
theorem toPgs_ev (l:List Lp) (hl:l.length≤1048576):Ev (fun k=>laws_toPageS.f k l) (l.map conv):=by
 have:=toPgs_l l hl l.length 0 (Nat.zero_add _)
 rw [List.take_zero,List.map_nil,List.nil_append] at this
 unfold laws_toPageS.f
 simp only [show (0:Int)≤(l.length:Int) from by omega,if_true,Int.toNat_natCast,show l.length≤5026338869833 from by omega]
 exact this
theorem eqPgs_l (l:List Pg) (hl:l.length≤1048576) (d:Nat):∀ (i:Nat),i+d=l.length→Ev (fun k=>laws_eqPageS.l0 k l l (i:Int)) true:=by
 induction d with
 | zero=>
  intro i hi
  refine Ev_succ ?_
  simp only [laws_eqPageS.l0,show ¬ ((i:Int) < (l.length:Int)) from by omega,if_false]
  exact Ev.now _
 | succ d ih=>
  intro i hi
  have w1:wrap64 ((i:Int)+1)=((i+1:Nat):Int):=by rw [w64 (by omega) (by omega)];rfl
  refine Ev_succ ?_
  simp only [laws_eqPageS.l0,laws_eqPage.f,show (i:Int) < (l.length:Int) from by omega,ci_nn i,if_true,Option.bind_some]
  rw [w1]
  exact ih (i+1) (by omega)
theorem eqPgs_ev (l:List Pg) (hl:l.length≤1048576):Ev (fun k=>laws_eqPageS.f k l l) true:=by
 unfold laws_eqPageS.f
 simp only [if_true]
 exact eqPgs_l l hl l.length 0 (by omega)
theorem at_find (a:ByteArray):∀ (r:List Pg),pageAtR a r=r.find? fun q=>decide (q.f0=a)
 | []=>rfl
 | p :: r=>by
  unfold pageAtR
  by_cases h:p.f0=a
  ·simp [h]
  ·simp [h,at_find a r]
theorem fresh_one:∀ {r:List Pg},fresh r=true→∀ p ∈ r,∀ q ∈ r,p.f0=q.f0→p=q
 | x :: r,h,p,hp,q,hq,e=>by
  unfold fresh at h
  simp only [Bool.and_eq_true,Bool.not_eq_true',List.any_eq_false,decide_eq_true_eq] at h
  rcases List.mem_cons.1 hp with e1|hp'
  ·rcases List.mem_cons.1 hq with e2|hq'
   ·rw [e1,e2]
   ·exact absurd (by rw [← e,e1]) (h.1 q hq')
  ·rcases List.mem_cons.1 hq with e2|hq'
   ·exact absurd (by rw [e,e2]) (h.1 p hp')
   ·exact fresh_one h.2 p hp' q hq' e
theorem at_first {l:List Pg} (h:fresh l.reverse=true) (a:ByteArray):pageAtR a l.reverse=l.find? fun q=>decide (q.f0=a):=by
 rw [at_find]
 cases h1:l.reverse.find? fun q=>decide (q.f0=a) with
 | none=>
  symm
  rw [List.find?_eq_none] at h1 ⊢
  exact fun x hx=>h1 x (List.mem_reverse.2 hx)
 | some p=>
  have hp:=List.mem_of_find?_eq_some h1
  have ep:p.f0=a:=by simpa using List.find?_some h1
  cases h2:l.find? fun q=>decide (q.f0=a) with
  | none=>
   rw [List.find?_eq_none] at h2
   exact absurd (decide_eq_true ep) (h2 p (List.mem_reverse.1 hp))
  | some q=>
   have hq:=List.mem_of_find?_eq_some h2
   have eq:q.f0=a:=by simpa using List.find?_some h2
   rw [fresh_one h p hp q (List.mem_reverse.2 hq) (ep.trans eq.symm)]
def atO (l:List Pg) (a:ByteArray):ByteArray×ByteArray×ByteArray×Int×Bool:=
 match l.find? fun q=>decide (q.f0=a) with
 | some p=>(p.f0,p.f1,p.f2,p.f3,true)
 | none=>((⟨#[]⟩:ByteArray),(⟨#[]⟩:ByteArray),(⟨#[]⟩:ByteArray),0,false)
theorem at_l (l:List Pg) (hl:l.length≤1048576) (a:ByteArray) (d:Nat):∀ (i:Nat),i+d=l.length→Ev (fun k=>spec_l11At.l0 k l a (i:Int)) (atO (l.drop i) a):=by
 induction d with
 | zero=>
  intro i hi
  refine Ev_succ ?_
  simp only [spec_l11At.l0,show ¬ ((i:Int) < (l.length:Int)) from by omega,if_false]
  rw [List.drop_of_length_le (by omega)]
  exact Ev.now _
 | succ d ih=>
  intro i hi
  have hlt:i < l.length:=by omega
  have w1:wrap64 ((i:Int)+1)=((i+1:Nat):Int):=by rw [w64 (by omega) (by omega)];rfl
  have next:=ih (i+1) (by omega)
  refine Ev_succ ?_
  simp only [spec_l11At.l0,show (i:Int) < (l.length:Int) from by omega,ci_nn i,if_true]
  rw [w1,rd_pg hlt,List.drop_eq_getElem_cons hlt]
  generalize l[i]=p at *
  by_cases he:p.f0.toList=a.toList
  ·simp only [he,if_true,atO,List.find?_cons,decide_eq_true (toList_inj.1 he)]
   exact Ev.now _
  ·simp only [he,if_false,atO,List.find?_cons,decide_eq_false (fun e=>he (toList_inj.2 e))]
   exact next
theorem get_s (l:List Pg) (hl:l.length≤1048576) (hf:fresh l.reverse=true) (a:ByteArray) (t:Int) (h0:¬ t < 0):Ev (fun k=>spec_l11Get.f k l a t) (getF l a t):=by
 unfold getF
 rw [at_first hf]
 have hA:=at_l l hl a l.length 0 (by omega)
 rw [List.drop_zero] at hA
 unfold spec_l11Get.f spec_l11At.f
 unfold atO at hA
 cases hq:l.find? fun q=>decide (q.f0=a) with
 | none=>
  rw [hq] at hA
  refine Ev.bind hA ?_
  simp only [Bool.false_eq_true,if_false]
  exact Ev.now _
 | some p=>
  rw [hq] at hA
  refine Ev.bind hA ?_
  simp only [h0,if_false,if_true]
  by_cases h3:t < p.f3
  ·simp only [h3,if_true];exact Ev.now _
  ·by_cases h2:p.f2.toList=([]:List UInt8)
   ·simp only [h3,if_false,h2,if_true];exact Ev.now _
   ·simp only [h3,if_false,h2];exact Ev.now _
end Go.Proofs.YtloijngehifbmaaGreatDoor.Wd
end
section
namespace Go.Proofs.YtloijngehifbmaaGreatDoor.Nf
open Go.RowKit Go.Proofs.YtloijngehifbmaaGreatDoor.P Go.Proofs.YtloijngehifbmaaGreatDoorW.PrintWords Go.Proofs.YtloijngehifbmaaGreatDoorW.PrintLast Go.Proofs.YtloijngehifbmaaGreatDoorW.PrintMore Go.Proofs.YtloijngehifbmaaGreatDoor.B Go.Proofs.YtloijngehifbmaaGreatDoor.Ad
set_option linter.unusedVariables false
set_option linter.unusedSimpArgs false
theorem nn (i:Nat):(0:Int)≤(i:Int):=by omega
theorem rd_ge {l:List Ge} {i:Nat} (h:i < l.length):rd_T32 l (i:Int)=l[i]:=by
 simp [rd_T32,List.getD,List.getElem?_eq_getElem h]
theorem rd_str {l:List ByteArray} {i:Nat} (h:i < l.length):rdOf ByteArray.empty l (i:Int)=l[i]:=by
 simp [rdOf,List.getD,List.getElem?_eq_getElem h]
theorem has_any (x:ByteArray) (l:List ByteArray):Lib.containsS l x=l.any fun s=>s.toList == x.toList:=by
 rw [Bool.eq_iff_iff,Lib.containsS_iff,List.any_eq_true]
 constructor
 ·intro h;exact ⟨x,h,by simp⟩
 ·rintro ⟨s,hs,e⟩
  rw [beq_iff_eq] at e
  rw [← toList_inj.1 e]
  exact hs
structure Fine (n:List Ge):Prop where
 few:n.length≤1000000000
 names:∀ g ∈ n,g.f0.length≤1000000000
 rules:sumR n≤1000000000
theorem names_l (n:List Ge) (x:ByteArray) (some_:Bool) (i:Nat) (ns:List ByteArray) (rs:List Re) (w:Int) (hi:i < n.length) (hf:n.length≤1000000000) (hn:n[i].f0.length≤1000000000) (hb:rs.length+n[i].f1.length≤1000000000)
  (R:List ByteArray×List Re×Int×Bool)
  (hT:hasN x n[i]=true→Ev (fun k=>spec_l2Of.l0 k n x true ((i+1:Nat):Int) ns (rs++n[i].f1) (mx w n[i].f2)) R)
  (hF:hasN x n[i]=false→Ev (fun k=>spec_l2Of.l0 k n x some_ ((i+1:Nat):Int) ns rs w) R) (d:Nat) :
  ∀ (j:Nat) (b:Bool),j+d=n[i].f0.length→(b || (n[i].f0.drop j).any fun s=>s.toList == x.toList)=hasN x n[i]→Ev (fun k=>spec_l2Of.l1 k n x some_ (i:Int) b (j:Int) ns rs w) R:=by
 have w1:wrap64 ((i:Int)+1)=((i+1:Nat):Int):=by rw [w64 (by omega) (by omega)];rfl
 induction d with
 | zero=>
  intro j b hj hb2
  rw [List.drop_of_length_le (by omega),List.any_nil,Bool.or_false] at hb2
  refine Ev_succ ?_
  simp only [spec_l2Of.l1,nn i,show (i:Int) < (n.length:Int) from by omega,if_true,rd_ge hi,show ¬ ((j:Int) < (n[i].f0.length:Int)) from by omega,if_false,w1]
  cases b with
  | true=>
   simp only [if_true,show rs.length+n[i].f1.length < 5864062014805 from by omega]
   exact hT hb2.symm
  | false=>
   simp only [Bool.false_eq_true,if_false]
   exact hF hb2.symm
 | succ d ih=>
  intro j b hj hb2
  have hlt:j < n[i].f0.length:=by omega
  have w2:wrap64 ((j:Int)+1)=((j+1:Nat):Int):=by rw [w64 (by omega) (by omega)];rfl
  rw [List.drop_eq_getElem_cons hlt,List.any_cons] at hb2
  refine Ev_succ ?_
  simp only [spec_l2Of.l1,nn i,nn j,show (i:Int) < (n.length:Int) from by omega,if_true,rd_ge hi,show (j:Int) < (n[i].f0.length:Int) from by omega,w2,rd_str hlt]
  cases b with
  | true=>
   simp only [if_true]
   exact ih (j+1) true (by omega) (by rw [← hb2,Bool.true_or,Bool.true_or])
  | false=>
   simp only [Bool.false_eq_true,if_false]
   exact ih (j+1) _ (by omega) (by rw [← hb2,Bool.false_or])
theorem groups_l (n:List Ge) (x:ByteArray) (hf:Fine n) (ns:List ByteArray) (d:Nat):∀ (i:Nat) (b:Bool) (rs:List Re) (w:Int),i+d=n.length→rs.length+sumR (n.drop i)≤1000000000 →
  Ev (fun k=>spec_l2Of.l0 k n x b (i:Int) ns rs w) (ns,(toldF x (n.drop i) rs w).1,(toldF x (n.drop i) rs w).2,b || (n.drop i).any (hasN x)):=by
 induction d with
 | zero=>
  intro i b rs w hi _
  rw [List.drop_of_length_le (by omega)]
  refine Ev_succ ?_
  simp only [spec_l2Of.l0,show ¬ ((i:Int) < (n.length:Int)) from by omega,if_false,toldF,List.any_nil,Bool.or_false]
  exact Ev.now _
 | succ d ih=>
  intro i b rs w hi hs
  have hlt:i < n.length:=by omega
  rw [List.drop_eq_getElem_cons hlt] at hs ⊢
  simp only [sumR,List.map_cons,List.sum_cons] at hs
  have hs2:rs.length+(n[i].f1.length+sumR (n.drop (i+1)))≤1000000000:=hs
  refine Ev_succ ?_
  simp only [spec_l2Of.l0,show (i:Int) < (n.length:Int) from by omega,if_true]
  refine names_l n x b i ns rs w hlt hf.few (hf.names _ (List.getElem_mem hlt)) (by omega) _ (fun h=>?_) (fun h=>?_) n[i].f0.length 0 false (by omega) (by rw [Bool.false_or,List.drop_zero];exact (has_any x _).symm)
  ·have:=ih (i+1) true (rs++n[i].f1) (mx w n[i].f2) (by omega) (by rw [List.length_append];omega)
   simp only [toldF,h,if_true,List.any_cons,Bool.true_or,Bool.or_true] at this ⊢
   exact this
  ·have:=ih (i+1) b rs w (by omega) (by omega)
   simp only [toldF,h,Bool.false_eq_true,if_false,List.any_cons,Bool.false_or] at this ⊢
   exact this
theorem of_ev (n:List Ge) (x:ByteArray) (hf:Fine n):Ev (fun k=>spec_l2Of.f k n x) ([x],(toldF x n [] 0).1,(toldF x n [] 0).2,n.any (hasN x)):=by
 have h:=groups_l n x hf [x] n.length 0 false [] 0 (by omega) (by rw [List.drop_zero,List.length_nil,Nat.zero_add];exact hf.rules)
 rw [List.drop_zero,Bool.false_or] at h
 exact h
def forG (n:List Ge) (x:ByteArray):List ByteArray×List Re×Int:=([x],(toldF (askF n x) n [] 0).1,(toldF (askF n x) n [] 0).2)
theorem for_s (n:List Ge) (x:ByteArray) (hf:Fine n):Ev (fun k=>spec_NoticeFor.f k n x) (forG n x):=by
 unfold spec_NoticeFor.f forG askF
 refine Ev.bind (of_ev n x hf) ?_
 by_cases h:n.any (hasN x)=true
 ·simp only [h,if_true]
  exact Ev.now _
 ·simp only [h,if_false]
  exact Ev.bind (of_ev n _ hf) (Ev.now _)
theorem for_i (n:List Ge) (x:ByteArray) (hf:Fine n):Ev (fun k=>impl_NoticeFor.f k n x) (forG n x):=by
 exact ⟨0,fun k _=>if_pos ⟨hf.few,hf.names,hf.rules⟩⟩
theorem told_len (x:ByteArray):∀ (n:List Ge) (rs:List Re) (w:Int),(toldF x n rs w).1.length≤rs.length+sumR n
 | [],rs,w=>by simp [toldF,sumR]
 | g :: r,rs,w=>by
  have e:sumR (g :: r)=g.f1.length+sumR r:=by simp [sumR]
  unfold toldF
  split
  ·have:=told_len x r (rs++g.f1) (mx w g.f2)
   rw [List.length_append] at this
   omega
  ·have:=told_len x r rs w
   omega
theorem fine_nil:Fine []:=⟨by simp,(fun g hg=>by cases hg),by simp [sumR]⟩
end Go.Proofs.YtloijngehifbmaaGreatDoor.Nf
end
section
namespace Go.Proofs.YtloijngehifbmaaGreatDoor.Nn
open Go.RowKit Go.Proofs.YtloijngehifbmaaGreatDoor.P Go.Proofs.YtloijngehifbmaaGreatDoorW.PrintWords Go.Proofs.YtloijngehifbmaaGreatDoorW.PrintLast Go.Proofs.YtloijngehifbmaaGreatDoorW.PrintMore Go.Proofs.YtloijngehifbmaaGreatDoor.B Go.Proofs.YtloijngehifbmaaGreatDoor.Ad
set_option linter.unusedVariables false
set_option linter.unusedSimpArgs false
def gname (s:ByteArray):Bool:=s.toList == [42] || isName s
theorem impl_small_l (s:ByteArray) (hs:s.size≤140737488351232) (d:Nat):∀ (k:Nat) (i:Nat),i+d=s.size→d < k →
  impl_allSmallLetters.l0 k s (i:Int)=some (smallFrom s d i):=by
 induction d with
 | zero=>
  intro k i h hk
  obtain ⟨k,rfl⟩:∃ m,k=m+1:=⟨k - 1,by omega⟩
  simp only [impl_allSmallLetters.l0,smallFrom]
  rw [if_neg (by omega)]
 | succ d ih=>
  intro k i h hk
  obtain ⟨k,rfl⟩:∃ m,k=m+1:=⟨k - 1,by omega⟩
  simp only [impl_allSmallLetters.l0,smallFrom]
  rw [if_pos (by omega),if_pos (by omega)]
  by_cases h1:bt s i < 97
  ·rw [if_pos h1,if_pos h1]
  ·rw [if_neg h1,if_neg h1]
   by_cases h2:bt s i > 122
   ·rw [if_pos h2,if_pos h2]
   ·rw [if_neg h2,if_neg h2,w64 (by omega) (by omega)]
    exact ih k (i+1) (by omega) (by omega)
theorem impl_name (s:ByteArray) (hs:s.size≤140737488351232):Ev (fun k=>impl_isName.f k s) (isName s):=by
 unfold impl_isName.f isName isSmall
 by_cases h1:1≤s.size
 ·by_cases h2:s.size≤8
  ·simp only [show (s.size:Int) ≥ 1 from by omega,show (s.size:Int)≤8 from by omega,if_true,h1,h2,decide_true,Bool.true_and]
   refine Ev.bind (a:=smallFrom s s.size 0) ?_ (Ev.now _)
   refine Ev.of (fun k=>impl_allSmallLetters.mono _ k) (k:=s.size+1) ?_
   exact impl_small_l s hs s.size (s.size+1) 0 (by omega) (by omega)
  ·simp only [show (s.size:Int) ≥ 1 from by omega,show ¬ (s.size:Int)≤8 from by omega,if_true,if_false,h2,decide_false,Bool.and_false,Bool.false_and]
   exact Ev.now _
 ·simp only [show ¬ (s.size:Int) ≥ 1 from by omega,if_false,h1,decide_false,Bool.false_and]
  exact Ev.now _
theorem impl_gname (s:ByteArray) (hs:s.size≤140737488351232):Ev (fun k=>impl_isGroupName.f k s) (gname s):=by
 unfold impl_isGroupName.f gname
 by_cases h:s.toList=([42]:List UInt8)
 ·simp only [h,if_true,beq_self_eq_true,Bool.true_or]
  exact Ev.now _
 ·simp only [h,if_false,beq_eq_false_iff_ne.mpr h,Bool.false_or]
  exact Ev.bind (impl_name s hs) (Ev.now _)
end Go.Proofs.YtloijngehifbmaaGreatDoor.Nn
end
section
namespace Go.Proofs.YtloijngehifbmaaGreatDoor.Rn
open Go.RowKit Go.Proofs.YtloijngehifbmaaGreatDoor.P Go.Proofs.YtloijngehifbmaaGreatDoorW.PrintWords Go.Proofs.YtloijngehifbmaaGreatDoorW.PrintLast Go.Proofs.YtloijngehifbmaaGreatDoorW.PrintMore Go.Proofs.YtloijngehifbmaaGreatDoor.B Go.Proofs.YtloijngehifbmaaGreatDoor.Ad Go.Proofs.YtloijngehifbmaaGreatDoor.Nn
set_option linter.unusedVariables false
set_option linter.unusedSimpArgs false
def numFrom (s:ByteArray):Nat→Nat→Int→Int
 | 0,_,n=>n
 | d+1,i,n=>if bt s i < 48 then 0 else if bt s i > 57 then 0 else numFrom s d (i+1) (mn (wrap64 ((wrap64 (n * 10))+(((bt s i) - 48) % 256))) 20)
def numP (s:ByteArray):Int:=numFrom s s.size 0 0
theorem mn_le (a b:Int):mn a b≤b:=by unfold mn;split <;> omega
theorem num_bound (s:ByteArray):∀ (d i:Nat) (n:Int),0≤n→n≤20→0≤numFrom s d i n∧numFrom s d i n≤20
 | 0,_,n,h0,h1=>⟨h0,h1⟩
 | d+1,i,n,h0,h1=>by
  unfold numFrom
  by_cases c1:bt s i < 48
  ·rw [if_pos c1];omega
  ·rw [if_neg c1]
   by_cases c2:bt s i > 57
   ·rw [if_pos c2];omega
   ·rw [if_neg c2]
    have e1:wrap64 (n * 10)=n * 10:=w64 (by omega) (by omega)
    have e2:wrap64 (n * 10+((bt s i - 48) % 256))=n * 10+((bt s i - 48) % 256):=w64 (by omega) (by omega)
    refine num_bound s d (i+1) _ ?_ (mn_le _ _)
    rw [e1,e2]
    unfold mn
    split <;> omega
theorem numP_bound (s:ByteArray):0≤numP s∧numP s≤20:=num_bound s _ _ 0 (by omega) (by omega)
theorem num_s (s:ByteArray) (hs:s.size≤140737488351232) (d:Nat):∀ (k i:Nat) (n:Int),i+d=s.size→d < k→spec_l2Num.l0 k s 20 n (i:Int)=some (numFrom s d i n):=by
 induction d with
 | zero=>
  intro k i n h hk
  obtain ⟨k,rfl⟩:∃ m,k=m+1:=⟨k - 1,by omega⟩
  simp only [spec_l2Num.l0,numFrom]
  rw [if_neg (by omega)]
 | succ d ih=>
  intro k i n h hk
  obtain ⟨k,rfl⟩:∃ m,k=m+1:=⟨k - 1,by omega⟩
  simp only [spec_l2Num.l0,numFrom]
  rw [if_pos (by omega),if_pos (by omega)]
  by_cases h1:bt s i < 48
  ·rw [if_pos h1,if_pos h1]
  ·rw [if_neg h1,if_neg h1]
   by_cases h2:bt s i > 57
   ·rw [if_pos h2,if_pos h2]
   ·rw [if_neg h2,if_neg h2,w64 (n:=(i:Int)+1) (by omega) (by omega)]
    exact ih k (i+1) _ (by omega) (by omega)
theorem num_i (s:ByteArray) (hs:s.size≤140737488351232) (d:Nat):∀ (k i:Nat) (n:Int),i+d=s.size→d < k→impl_readWait.l0 k s n (i:Int)=some (numFrom s d i n):=by
 induction d with
 | zero=>
  intro k i n h hk
  obtain ⟨k,rfl⟩:∃ m,k=m+1:=⟨k - 1,by omega⟩
  simp only [impl_readWait.l0,numFrom]
  rw [if_neg (by omega)]
 | succ d ih=>
  intro k i n h hk
  obtain ⟨k,rfl⟩:∃ m,k=m+1:=⟨k - 1,by omega⟩
  simp only [impl_readWait.l0,numFrom]
  rw [if_pos (by omega),if_pos (by omega)]
  by_cases h1:bt s i < 48
  ·rw [if_pos h1,if_pos h1]
  ·rw [if_neg h1,if_neg h1]
   by_cases h2:bt s i > 57
   ·rw [if_pos h2,if_pos h2]
   ·rw [if_neg h2,if_neg h2,w64 (n:=(i:Int)+1) (by omega) (by omega)]
    exact ih k (i+1) _ (by omega) (by omega)
theorem num_spec (s:ByteArray) (hs:s.size≤140737488351232):Ev (fun k=>spec_l2Num.f k s 20) (numP s):=
 Ev.of (fun k=>spec_l2Num.mono _ _ k) (k:=s.size+1) (num_s s hs s.size (s.size+1) 0 0 (by omega) (by omega))
theorem num_impl (s:ByteArray) (hs:s.size≤140737488351232):Ev (fun k=>impl_readWait.f k s) (numP s):=
 Ev.of (fun k=>impl_readWait.mono _ k) (k:=s.size+1) (num_i s hs s.size (s.size+1) 0 0 (by omega) (by omega))
def wordRL (x1 x2:ByteArray):Option RL:=
 if x1.toList=([99,97,108,108,101,114]:List UInt8) then (if gname x2=true then some (.caller x2) else none)
 else if x1.toList=([108,101,116]:List UInt8) then (if ruleOk x2=true then some (.rule true x2) else none)
 else if x1.toList=([98,97,114]:List UInt8) then (if ruleOk x2=true then some (.rule false x2) else none)
 else if x1.toList=([119,97,105,116]:List UInt8) then some (.wait (numP x2))
 else none
def lineRL (s:ByteArray):Option RL:=wordRL (cutB 32 s).1 (cutB 32 s).2.1
theorem cut_size (s:ByteArray):(cutB 32 s).2.1.size≤s.size:=by
 have:=(cutL_len (c:=32) (L s)).1
 rw [L_size] at this
 show (ofL (cutL 32 (L s)).2.1).size≤_
 rw [← L_size,L_of]
 omega
theorem word_impl (x1 x2:ByteArray) (hs:x2.size≤140737488351232):Ev (fun k=>impl_readLine.g k x1 x2) (wordRL x1 x2):=by
 unfold impl_readLine.g wordRL
 by_cases c1:x1.toList=([99,97,108,108,101,114]:List UInt8)
 ·simp only [c1,if_true];exact Ev.bind (impl_gname x2 hs) (Ev.now _)
 simp only [c1,if_false]
 by_cases c2:x1.toList=([108,101,116]:List UInt8)
 ·simp only [c2,if_true];exact Ev.bind (ruleOk_impl x2 hs) (Ev.now _)
 simp only [c2,if_false]
 by_cases c3:x1.toList=([98,97,114]:List UInt8)
 ·simp only [c3,if_true];exact Ev.bind (ruleOk_impl x2 hs) (Ev.now _)
 simp only [c3,if_false]
 by_cases c4:x1.toList=([119,97,105,116]:List UInt8)
 ·simp only [c4,if_true];exact Ev.bind (num_impl x2 hs) (Ev.now _)
 simp only [c4,if_false]
 exact Ev.now _
theorem line_impl (s:ByteArray) (hs:s.size≤1000000000):Ev (fun k=>impl_readLine.f k s) (lineRL s):=by
 unfold impl_readLine.f
 rw [cut_i s 32 (by omega)]
 simp only [Option.bind_some]
 exact word_impl _ _ (by have:=cut_size s;omega)
structure Ok (gs:List Gp) (b:Bool) (n:Nat):Prop where
 few:gs.length≤n
 names:∀ g ∈ gs,g.f0.length≤n
 begun:gs.length≠0→(lastG gs).f1.length≠0→b=true
 form:∀ g ∈ gs,g.f0.length≠0∧g.f1.length≤6∧0≤g.f2∧g.f2≤20∧∀ r ∈ g.f1,ruleOk r.f1=true
theorem last_mem {gs:List Gp} (h:gs.length≠0):lastG gs ∈ gs:=by
 unfold lastG
 rw [List.getD_eq_getElem?_getD,List.getElem?_eq_getElem (by omega)]
 exact List.getElem_mem _
theorem last_set {gs:List Gp} (h:gs.length≠0) (x:Gp):lastG (gs.set (gs.length - 1) x)=x:=by
 unfold lastG
 rw [List.length_set,List.getD_eq_getElem?_getD,List.getElem?_set_self (by omega)]
 rfl
theorem last_app (gs:List Gp) (x:Gp):lastG (gs++[x])=x:=by
 unfold lastG
 rw [List.length_append,List.length_singleton,List.getD_eq_getElem?_getD,List.getElem?_append_right (by omega)]
 simp
theorem word_good {x1 x2:ByteArray} {x:RL} (h:wordRL x1 x2=some x):match x with|.caller _=>True|.rule _ p=>ruleOk p=true|.wait n=>0≤n∧n≤20:=by
 unfold wordRL at h
 split at h
 ·split at h
  ·obtain rfl:=Option.some.inj h;trivial
  ·cases h
 ·split at h
  ·split at h
   ·rename_i hr;obtain rfl:=Option.some.inj h;exact hr
   ·cases h
  ·split at h
   ·split at h
    ·rename_i hr;obtain rfl:=Option.some.inj h;exact hr
    ·cases h
   ·split at h
    ·obtain rfl:=Option.some.inj h;exact numP_bound x2
    ·cases h
theorem Ok.set {gs:List Gp} {b b':Bool} {n:Nat} (h:Ok gs b n) (h0:gs.length≠0) (x:Gp) (hx0:x.f0.length≤n+1) (hb:x.f1.length≠0→b'=true)
  (hf:x.f0.length≠0∧x.f1.length≤6∧0≤x.f2∧x.f2≤20∧∀ r ∈ x.f1,ruleOk r.f1=true):Ok (gs.set (gs.length - 1) x) b' (n+1):=by
 refine ⟨by rw [List.length_set];have:=h.few;omega,fun g hg=>?_,fun _=>by rw [last_set h0];exact hb,fun g hg=>?_⟩
 ·rcases List.mem_or_eq_of_mem_set hg with hg|rfl
  ·have:=h.names g hg;omega
  ·exact hx0
 ·rcases List.mem_or_eq_of_mem_set hg with hg|rfl
  ·exact h.form g hg
  ·exact hf
theorem Ok.up {gs:List Gp} {b:Bool} {n:Nat} (h:Ok gs b n):Ok gs b (n+1):=⟨by have:=h.few;omega,fun g hg=>by have:=h.names g hg;omega,h.begun,h.form⟩
theorem Ok.take {gs:List Gp} {b:Bool} {n:Nat} (h:Ok gs b n) {x1 x2:ByteArray} {x:RL} (hx:wordRL x1 x2=some x):Ok (takeF gs b x).1 (takeF gs b x).2 (n+1):=by
 have hg:=word_good hx
 have hf:=h.few
 cases x with
 | caller y=>
  simp only [takeF]
  by_cases c:b=true∨gs.length=0
  ·simp only [c,if_true]
   refine ⟨by rw [List.length_append,List.length_singleton];omega,fun g hg=>?_,fun _ hl=>by rw [last_app] at hl;simp at hl,fun g hg=>?_⟩
   ·rcases List.mem_append.1 hg with hg|hg
    ·have:=h.names g hg;omega
    ·rw [List.mem_singleton.1 hg];simp
   ·rcases List.mem_append.1 hg with hg|hg
    ·exact h.form g hg
    ·rw [List.mem_singleton.1 hg];simp
  ·simp only [c,if_false]
   have h0:gs.length≠0:=fun e=>c (.inr e)
   have hm:=last_mem h0
   have hn:=h.names _ hm
   obtain ⟨f1,f2,f3,f4,f5⟩:=h.form _ hm
   exact h.set h0 _ (by simp only [List.length_append,List.length_singleton];omega) (fun hl=>h.begun h0 hl) ⟨by simp,f2,f3,f4,f5⟩
 | rule l p=>
  simp only [takeF]
  by_cases h0:gs.length=0
  ·simp only [h0,if_true];exact h.up
  ·simp only [h0,if_false]
   have hm:=last_mem h0
   have hn:=h.names _ hm
   obtain ⟨f1,f2,f3,f4,f5⟩:=h.form _ hm
   by_cases h6:(lastG gs).f1.length < 6
   ·simp only [h6,if_true]
    refine h.set h0 _ (show (lastG gs).f0.length≤n+1 by omega) (fun _=>rfl) ⟨f1,by simp only [List.length_append,List.length_singleton];omega,f3,f4,fun r hr=>?_⟩
    rcases List.mem_append.1 hr with hr|hr
    ·exact f5 r hr
    ·rw [List.mem_singleton.1 hr];exact hg
   ·simp only [h6,if_false]
    exact ⟨by omega,fun g hg=>by have:=h.names g hg;omega,fun _ _=>rfl,h.form⟩
 | wait m=>
  simp only [takeF]
  by_cases h0:gs.length=0
  ·simp only [h0,if_true];exact h.up
  ·simp only [h0,if_false]
   have hm:=last_mem h0
   have hn:=h.names _ hm
   obtain ⟨f1,f2,f3,f4,f5⟩:=h.form _ hm
   exact h.set h0 _ (show (lastG gs).f0.length≤n+1 by omega) (fun _=>rfl) ⟨f1,f2,hg.1,hg.2,f5⟩
def stepRL (gs:List Gp) (b:Bool):Option RL→List Gp×Bool
 | none=>(gs,b)
 | some x=>takeF gs b x
theorem lineName_ev (x1 x2:ByteArray) (hs:x2.size≤140737488351232):Ev (fun k=>lineName k x1 x2) (decide (x1.toList=([99,97,108,108,101,114]:List UInt8)) && gname x2):=by
 unfold lineName gname
 by_cases c1:x1.toList=([99,97,108,108,101,114]:List UInt8)
 ·simp only [c1,if_true,decide_true,Bool.true_and]
  by_cases c2:x2.toList=([42]:List UInt8)
  ·simp only [c2,if_true,beq_self_eq_true,Bool.true_or];exact Ev.now _
  ·simp only [c2,if_false,beq_eq_false_iff_ne.mpr c2,Bool.false_or];exact name_ev x2 hs
 ·simp only [c1,if_false,decide_false,Bool.false_and];exact Ev.now _
theorem lineRule_ev (x1 x2:ByteArray) (m:Nat):Ev (fun k=>lineRule k x1 x2 m) (decide (x1.toList=([108,101,116]:List UInt8)∨x1.toList=([98,97,114]:List UInt8)) && (ruleOk x2 && decide (m < 6))):=by
 unfold lineRule
 by_cases c1:x1.toList=([108,101,116]:List UInt8)∨x1.toList=([98,97,114]:List UInt8)
 ·simp only [c1,if_true,decide_true,Bool.true_and];exact Ev.bind (ruleOk_spec x2) (Ev.now _)
 ·simp only [c1,if_false,decide_false,Bool.false_and];exact Ev.now _
theorem line_spec (x1 x2:ByteArray) (hs:x2.size≤140737488351232) (gs:List Gp) (b:Bool) (n:Nat) (h:Ok gs b n) (hn:n < 100000):Ev (fun k=>spec_l2Line.f k gs x1 x2 b) (stepRL gs b (wordRL x1 x2)):=by
 have hf:=h.few
 unfold spec_l2Line.f
 simp only [show gs.length < 1000000 from by omega,if_true]
 refine Ev.bind (lineName_ev x1 x2 hs) ?_
 unfold wordRL
 by_cases c1:x1.toList=([99,97,108,108,101,114]:List UInt8)
 ·have k2:¬ (x1.toList=([108,101,116]:List UInt8)∨x1.toList=([98,97,114]:List UInt8)):=by rw [c1];decide
  have k3:¬ x1.toList=([119,97,105,116]:List UInt8):=by rw [c1];decide
  simp only [c1,decide_true,Bool.true_and,if_true]
  cases hg:gname x2 with
  | true=>
   simp only [if_true,stepRL,takeF]
   by_cases c:b=true∨gs.length=0
   ·simp only [c,if_true];exact Ev.now _
   ·have h0:gs.length≠0:=fun e=>c (.inr e)
    have hb:b=false:=by cases b <;> simp_all
    have:=h.names _ (last_mem h0)
    subst hb
    simp only [c,if_false,show (lastG gs).f0.length < 1000000 from by omega,if_true]
    exact Ev.now _
  | false=>
   simp only [Bool.false_eq_true,if_false,stepRL]
   by_cases h0:gs.length=0
   ·simp only [h0,if_true];exact Ev.now _
   ·simp only [h0,if_false]
    have hr:=lineRule_ev x1 x2 (lastG gs).f1.length
    rw [decide_eq_false k2,Bool.false_and] at hr
    refine Ev.bind hr ?_
    rw [c1] at k3
    simp only [Bool.false_eq_true,if_false,k3]
    exact Ev.now _
 ·simp only [c1,decide_false,Bool.false_and,Bool.false_eq_true,if_false]
  by_cases c2:x1.toList=([108,101,116]:List UInt8)∨x1.toList=([98,97,114]:List UInt8)
  ·have k3:¬ x1.toList=([119,97,105,116]:List UInt8):=by rcases c2 with c2|c2 <;> (rw [c2];decide)
   have e:(if x1.toList=([108,101,116]:List UInt8) then (if ruleOk x2=true then some (RL.rule true x2) else none)
     else if x1.toList=([98,97,114]:List UInt8) then (if ruleOk x2=true then some (RL.rule false x2) else none)
     else if x1.toList=([119,97,105,116]:List UInt8) then some (RL.wait (numP x2)) else none)=(if ruleOk x2=true then some (RL.rule (x1.toList == ([108,101,116]:List UInt8)) x2) else none):=by
    by_cases c3:x1.toList=([108,101,116]:List UInt8)
    ·simp only [c3,if_true,beq_self_eq_true]
    ·have c4:x1.toList=([98,97,114]:List UInt8):=c2.resolve_left c3
     simp only [c4,if_true]
     rw [if_neg (by decide)]
     rfl
   rw [e]
   by_cases h0:gs.length=0
   ·simp only [h0,if_true]
    cases ruleOk x2 with
    | true=>simp only [if_true,stepRL,takeF,h0];exact Ev.now _
    | false=>simp only [Bool.false_eq_true,if_false,stepRL];exact Ev.now _
   ·simp only [h0,if_false]
    have hr:=lineRule_ev x1 x2 (lastG gs).f1.length
    rw [decide_eq_true c2,Bool.true_and] at hr
    refine Ev.bind hr ?_
    cases hk:ruleOk x2 with
    | true=>
     simp only [if_true,stepRL,takeF,h0,if_false,Bool.true_and]
     by_cases h6:(lastG gs).f1.length < 6
     ·simp only [h6,decide_true,if_true];exact Ev.now _
     ·have hb:=h.begun h0 (by omega)
      subst hb
      simp only [h6,decide_false,Bool.false_eq_true,if_false,k3]
      exact Ev.now _
    | false=>
     simp only [Bool.false_eq_true,if_false,stepRL,Bool.false_and,k3]
     exact Ev.now _
  ·have c3:¬ x1.toList=([108,101,116]:List UInt8):=fun e=>c2 (.inl e)
   have c4:¬ x1.toList=([98,97,114]:List UInt8):=fun e=>c2 (.inr e)
   simp only [c3,c4,if_false]
   by_cases h0:gs.length=0
   ·simp only [h0,if_true]
    by_cases c5:x1.toList=([119,97,105,116]:List UInt8)
    ·simp only [c5,if_true,stepRL,takeF,h0];exact Ev.now _
    ·simp only [c5,if_false,stepRL];exact Ev.now _
   ·simp only [h0,if_false]
    have hr:=lineRule_ev x1 x2 (lastG gs).f1.length
    rw [decide_eq_false c2,Bool.false_and] at hr
    refine Ev.bind hr ?_
    simp only [Bool.false_eq_true,if_false]
    by_cases c5:x1.toList=([119,97,105,116]:List UInt8)
    ·simp only [c5,if_true,stepRL,takeF,h0,if_false]
     exact Ev.bind (num_spec x2 hs) (Ev.now _)
    ·simp only [c5,if_false,stepRL];exact Ev.now _
def readRL:List ByteArray→List Gp→Bool→List Gp
 | [],gs,_=>gs
 | s :: r,gs,b=>readRL r (stepRL gs b (lineRL s)).1 (stepRL gs b (lineRL s)).2
theorem Ok.step {gs:List Gp} {b:Bool} {n:Nat} (h:Ok gs b n) (s:ByteArray):Ok (stepRL gs b (lineRL s)).1 (stepRL gs b (lineRL s)).2 (n+1):=by
 cases e:lineRL s with
 | none=>exact h.up
 | some x=>exact h.take e
theorem read_ok:∀ (ls:List ByteArray) (gs:List Gp) (b:Bool) (n:Nat),Ok gs b n→∃ b',Ok (readRL ls gs b) b' (n+ls.length)
 | [],gs,b,n,h=>⟨b,h⟩
 | s :: r,gs,b,n,h=>by
  obtain ⟨b',hb⟩:=read_ok r _ _ _ (h.step s)
  exact ⟨b',by rw [List.length_cons,show n+(r.length+1)=n+1+r.length from by omega];exact hb⟩
theorem read_spec:∀ (ls:List ByteArray) (gs:List Gp) (b:Bool) (n:Nat),Ok gs b n→n+ls.length < 100000→(∀ s ∈ ls,s.size≤1000000000)→Ev (fun k=>sLoop k ls gs b) (readRL ls gs b)
 | [],gs,b,n,h,hn,hs=>Ev.now _
 | s :: r,gs,b,n,h,hn,hs=>by
  rw [List.length_cons] at hn
  have hz:=hs s List.mem_cons_self
  have hc:=cut_size s
  simp only [sLoop]
  refine Ev.bind (cut_ev s 32 (by omega)) ?_
  refine Ev.bind (line_spec _ _ (by omega) gs b n h (by omega)) ?_
  exact read_spec r _ _ (n+1) (h.step s) (by omega) (fun x hx=>hs x (List.mem_cons_of_mem _ hx))
theorem read_impl:∀ (ls:List ByteArray) (gs:List Gp) (b:Bool) (n:Nat),Ok gs b n→n+ls.length < 100000→(∀ s ∈ ls,s.size≤1000000000)→Ev (fun k=>iLoop k ls gs b) (readRL ls gs b)
 | [],gs,b,n,h,hn,hs=>Ev.now _
 | s :: r,gs,b,n,h,hn,hs=>by
  rw [List.length_cons] at hn
  have hz:=hs s List.mem_cons_self
  have hf:=h.few
  have next:=read_impl r _ _ (n+1) (h.step s) (by omega) (fun x hx=>hs x (List.mem_cons_of_mem _ hx))
  simp only [iLoop,readRL]
  refine Ev.bind (line_impl s hz) ?_
  cases e:lineRL s with
  | none=>rw [e] at next;exact next
  | some x=>
   rw [e] at next
   have hl:(lastG gs).f0.length < 1000000:=by
    by_cases h0:gs.length=0
    ·have:gs=[]:=List.length_eq_zero_iff.1 h0
     subst this
     decide
    ·have:=h.names _ (last_mem h0);omega
   simp only [show gs.length < 1000000 from by omega,hl,and_self,if_true]
   exact next
theorem Ok.none:Ok [] false 0:=⟨Nat.le_refl _,(fun g hg=>by cases hg),fun h=>absurd rfl h,(fun g hg=>by cases hg)⟩
def linesOfT (t:ByteArray):List ByteArray:=((splitL 10 (L t)).map ofL).take 40
def noticeOf (t:ByteArray):List Gp:=readRL (linesOfT t) [] false
theorem lines_size (t:ByteArray):∀ s ∈ linesOfT t,s.size≤t.size:=by
 intro s hs
 obtain ⟨p,hp,rfl⟩:=List.mem_map.1 (List.mem_of_mem_take hs)
 have:=splitL_mem 10 (L t) p hp
 rw [L_size] at this
 rw [← L_size,L_of]
 exact this
theorem lines_few (t:ByteArray):(linesOfT t).length≤40:=by unfold linesOfT;rw [List.length_take];omega
theorem split_few (t:ByteArray):((splitL 10 (L t)).map ofL).length≤t.size+1:=by
 have:=splitL_len 10 (L t)
 rw [L_size] at this
 rw [List.length_map]
 exact this
theorem notice_spec (t:ByteArray) (ht:t.size≤100000000):Ev (fun k=>spec_NoticeRead.f k t) (noticeOf t):=by
 unfold spec_NoticeRead.f
 have:=split_few t
 have h40:=lines_few t
 refine Ev.bind (split_ev t 10 (by omega)) ?_
 simp only [show ((splitL 10 (L t)).map ofL).length≤1000000000 from by omega,if_true]
 exact read_spec (linesOfT t) [] false 0 Ok.none (by omega) (fun s hs=>by have:=lines_size t s hs;omega)
theorem notice_impl (t:ByteArray) (ht:t.size≤100000000):Ev (fun k=>impl_NoticeRead.f k t) (noticeOf t):=by
 unfold impl_NoticeRead.f
 have:=split_few t
 have h40:=lines_few t
 refine Ev.bind (split_i t 10 (by omega)) ?_
 simp only [show ((splitL 10 (L t)).map ofL).length≤1000000000 from by omega,if_true]
 exact read_impl (linesOfT t) [] false 0 Ok.none (by omega) (fun s hs=>by have:=lines_size t s hs;omega)
theorem notice_form (t:ByteArray):∃ b,Ok (noticeOf t) b 40:=by
 obtain ⟨b,hb⟩:=read_ok (linesOfT t) [] false 0 Ok.none
 have h40:=lines_few t
 exact ⟨b,by have:=hb.few;show (readRL (linesOfT t) [] false).length≤40;omega,(fun g hg=>by have:=hb.names g hg;omega),hb.begun,hb.form⟩
end Go.Proofs.YtloijngehifbmaaGreatDoor.Rn
end
section
namespace Go.Proofs.YtloijngehifbmaaGreatDoor.Wn
open Go.RowKit Go.Proofs.YtloijngehifbmaaGreatDoor.P Go.Proofs.YtloijngehifbmaaGreatDoorW.PrintWords Go.Proofs.YtloijngehifbmaaGreatDoorW.PrintLast Go.Proofs.YtloijngehifbmaaGreatDoorW.PrintMore Go.Proofs.YtloijngehifbmaaGreatDoor.B Go.Proofs.YtloijngehifbmaaGreatDoor.Ad Go.Proofs.YtloijngehifbmaaGreatDoor.Wd
set_option linter.unusedVariables false
set_option linter.unusedSimpArgs false
theorem sum_le (b:Nat):∀ n:List Ge,(∀ g ∈ n,g.f1.length≤b)→sumR n≤n.length * b
 | [],_=>by simp [sumR]
 | g :: r,h=>by
  have h1:=h g List.mem_cons_self
  have h2:=sum_le b r (fun q hq=>h q (List.mem_cons_of_mem _ hq))
  have e:sumR (g :: r)=g.f1.length+sumR r:=by simp [sumR]
  rw [e,List.length_cons,Nat.succ_mul]
  omega
theorem fine_of (t:ByteArray):Nf.Fine (Rn.noticeOf t):=by
 obtain ⟨b,ho⟩:=Rn.notice_form t
 have hfew:=ho.few
 refine ⟨by omega,fun g hg=>by have:=ho.names g hg;omega,?_⟩
 have:=sum_le 6 (Rn.noticeOf t) (fun g hg=>(ho.form g hg).2.1)
 have:(Rn.noticeOf t).length * 6≤40 * 6:=Nat.mul_le_mul_right _ hfew
 omega
def sayG (q:Int×ByteArray) (x:ByteArray):List ByteArray×List Re×Int:=if q.1=1 then Nf.forG (Rn.noticeOf q.2) x else if q.1=3 then barredF x else Nf.forG [] x
theorem say_i (q:Int×ByteArray) (x:ByteArray) (h:q.1=1→q.2.size≤100000000):Ev (fun k=>sayF k q x) (sayG q x):=by
 unfold sayF sayG
 by_cases c1:q.1=1
 ·simp only [c1,if_true]
  exact Ev.bind (Rn.notice_impl _ (h c1)) (Nf.for_i _ x (fine_of _))
 ·simp only [c1,if_false]
  by_cases c3:q.1=3
  ·simp only [c3,if_true];exact Ev.now _
  ·simp only [c3,if_false]
   exact Nf.for_i _ x Nf.fine_nil
theorem say_s (q:Int×ByteArray) (x:ByteArray) (h:q.1=1→q.2.size≤100000000):Ev (fun k=>spec_l11Said.f k q.1 q.2 x) (sayG q x):=by
 unfold spec_l11Said.f sayG
 by_cases c1:q.1=1
 ·simp only [c1,if_true]
  exact Ev.bind (Rn.notice_spec _ (h c1)) (Ev.bind (Nf.for_s _ x (fine_of _)) (Ev.now _))
 ·simp only [c1,if_false]
  by_cases c3:q.1=3
  ·simp only [c3,if_true,spec_l11Barred.f,Option.bind_some];exact Ev.now _
  ·simp only [c3,if_false]
   exact Ev.bind (Nf.for_s _ x Nf.fine_nil) (Ev.now _)
def noticeA (h:ByteArray):ByteArray:=((⟨#[47,47]⟩:ByteArray)++h)++(⟨#[47,110,111,116,105,99,101]⟩:ByteArray)
theorem noticeA_size (h:ByteArray):(noticeA h).size=h.size+9:=by
 have e1:(⟨#[47,47]⟩:ByteArray).size=2:=rfl
 have e2:(⟨#[47,110,111,116,105,99,101]⟩:ByteArray).size=7:=rfl
 unfold noticeA
 rw [ByteArray.size_append,ByteArray.size_append,e1,e2]
 omega
theorem fresh_of {l:List Pg} (h:worldOk l=true):fresh l.reverse=true:=by
 unfold worldOk at h
 simp only [Bool.and_eq_true] at h
 exact h.2
theorem got_size {l:List Pg} (h:worldOk l=true) (a:ByteArray) (t:Int):(getF l a t).1=1→(getF l a t).2.size≤100000000:=by
 unfold worldOk at h
 simp only [Bool.and_eq_true] at h
 unfold getF
 rw [at_find]
 cases hq:l.reverse.find? fun q=>decide (q.f0=a) with
 | none=>intro _;exact Nat.zero_le _
 | some p=>
  have hp:=List.mem_reverse.1 (List.mem_of_find?_eq_some hq)
  have hk:=List.all_eq_true.1 h.1.2 p hp
  unfold pgOk at hk
  simp only [Bool.and_eq_true,decide_eq_true_eq] at hk
  simp only
  split
  ·intro _;exact Nat.zero_le _
  ·split
   ·intro _;exact Nat.zero_le _
   ·split
    ·intro _
     show p.f1.size≤_
     omega
    ·intro hc;cases hc
def noticeW (l:List Pg) (h x:ByteArray):List ByteArray×List Re×Int:=if (worldOk l && (isHouse h && isName x))=true then sayG (getF l (noticeA h) 2) x else ([],[],0)
theorem noticeW_s (l:List Pg) (hl:l.length≤1048576) (hs:∀ p ∈ l,p.f0.size≤140737488351232∧p.f2.size≤140737488351232) (h x:ByteArray) (hh:h.size≤140737488351232) (hx:x.size≤140737488351232):Ev (fun k=>spec_WorldNotice.f k l h x) (noticeW l h x):=by
 unfold spec_WorldNotice.f noticeW
 have none_:Ev (fun k=>spec_WorldNotice.j0 k l h x true) (([]:List ByteArray),([]:List Re),(0:Int)):=by
  refine Ev_succ ?_
  simp only [spec_WorldNotice.j0,if_true]
  exact Ev.now _
 refine Ev.bind (worldOk_s l hl hs) ?_
 by_cases h1:worldOk l=true
 ·simp only [h1,if_true,Bool.true_and]
  refine Ev.bind (house_ev h hh) ?_
  by_cases h2:isHouse h=true
  ·simp only [h2,if_true,Bool.true_and]
   refine Ev.bind (name_ev x hx) ?_
   by_cases h3:isName x=true
   ·simp only [h3,if_true,Bool.not_true]
    refine Ev_succ ?_
    have hd:spec_l11Door.f h=some (noticeA h):=by
     unfold spec_l11Door.f noticeA
     rw [if_pos (by omega),if_pos (by omega)]
    simp only [spec_WorldNotice.j0,Bool.false_eq_true,if_false,hd,Option.bind_some,spec_l11Last.f]
    have hg:=get_s l hl (fresh_of h1) (noticeA h) 2 (by omega)
    refine Ev.bind (Ev.bind hg (Ev.now _)) ?_
    exact Ev.bind (say_s _ x (got_size h1 _ _)) (Ev.now _)
   ·simp only [h3,Bool.false_eq_true,if_false,Bool.not_false]
    exact none_
  ·simp only [h2,Bool.false_eq_true,if_false,Bool.false_and]
   exact none_
 ·simp only [h1,Bool.false_eq_true,if_false,Bool.false_and]
  exact none_
theorem said_i (l:List Pg) (h x:ByteArray) (hk:worldOk l=true) (hh:h.size≤140737488351232):Ev (fun k=>saidF k l h x) (sayG (getF l (noticeA h) 2) x):=by
 unfold saidF
 have hd:impl_noticeAddr.f h=some (noticeA h):=by
  unfold impl_noticeAddr.f noticeA
  rw [if_pos (by omega),if_pos (by omega)]
 have hz:=noticeA_size h
 simp only [hd,Option.bind_some,show (noticeA h).size≤9223372036854775807 from by omega,if_true]
 exact say_i _ x (got_size hk _ _)
theorem noticeW_i (l:List Pg) (hs:∀ p ∈ l,p.f0.size≤9223372036854775807) (h x:ByteArray) (hh:h.size≤140737488351232) (hx:x.size≤140737488351232):Ev (fun k=>impl_WorldNotice.f k l h x) (noticeW l h x):=by
 unfold impl_WorldNotice.f noticeW
 obtain ⟨b,hb,b0,b1⟩:=made2 l hs
 refine Ev.bind hb ?_
 cases b with
 | false=>
  simp only [b0 rfl,Bool.false_eq_true,if_false,Bool.false_and]
  exact Ev.now _
 | true=>
  simp only [if_true,b1 rfl]
  by_cases h1:worldOk l=true
  ·simp only [h1,if_true,Bool.true_and]
   refine Ev.bind (house_i h hh) ?_
   by_cases h2:isHouse h=true
   ·simp only [h2,if_true,Bool.true_and]
    refine Ev.bind (Nn.impl_name x hx) ?_
    by_cases h3:isName x=true
    ·simp only [h3,if_true]
     exact said_i l h x h1 hh
    ·simp only [h3,Bool.false_eq_true,if_false]
     exact Ev.now _
   ·simp only [h2,Bool.false_eq_true,if_false,Bool.false_and]
    exact Ev.now _
  ·simp only [h1,Bool.false_eq_true,if_false,Bool.false_and]
   exact Ev.now _
theorem for_len (n:List Ge) (x:ByteArray):(Nf.forG n x).1.length=1∧(Nf.forG n x).2.1.length≤sumR n:=by
 refine ⟨rfl,?_⟩
 have:=Nf.told_len (askF n x) n [] 0
 rw [List.length_nil,Nat.zero_add] at this
 exact this
theorem say_len (q:Int×ByteArray) (x:ByteArray):(sayG q x).1.length=1∧(sayG q x).2.1.length≤240:=by
 unfold sayG
 split
 ·obtain ⟨a,b⟩:=for_len (Rn.noticeOf q.2) x
  obtain ⟨_,ho⟩:=Rn.notice_form q.2
  have:=sum_le 6 (Rn.noticeOf q.2) (fun g hg=>(ho.form g hg).2.1)
  have:(Rn.noticeOf q.2).length * 6≤40 * 6:=Nat.mul_le_mul_right _ ho.few
  exact ⟨a,by omega⟩
 ·split
  ·exact ⟨rfl,by show 1≤240;omega⟩
  ·obtain ⟨a,b⟩:=for_len [] x
   exact ⟨a,by simp [sumR] at b;rw [b];simp⟩
theorem noticeW_len (l:List Pg) (h x:ByteArray):(noticeW l h x).1.length≤1∧(noticeW l h x).2.1.length≤240:=by
 unfold noticeW
 split
 ·obtain ⟨a,b⟩:=say_len (getF l (noticeA h) 2) x
  exact ⟨by omega,b⟩
 ·exact ⟨by simp,by simp⟩
end Go.Proofs.YtloijngehifbmaaGreatDoor.Wn
end
section
namespace Go.Proofs.YtloijngehifbmaaGreatDoor.Tx
open Go.RowKit Go.Proofs.YtloijngehifbmaaGreatDoor.P Go.Proofs.YtloijngehifbmaaGreatDoorW.PrintWords Go.Proofs.YtloijngehifbmaaGreatDoorW.PrintLast Go.Proofs.YtloijngehifbmaaGreatDoorW.PrintMore Go.Proofs.YtloijngehifbmaaGreatDoor.B
set_option linter.unusedVariables false
set_option linter.unusedSimpArgs false
theorem size_one (n:Int):(strOfNums [n]).size=1:=by simp [strOfNums,ByteArray.size]
theorem mark_l (d:Nat):∀ (k:Nat) (x:Int) (t:ByteArray),0≤x→x < 2 ^ d→x < 4611686018427387904→d < k→t.size+d≤1000→∃ r,laws_markText.l0 k x t=some r:=by
 induction d with
 | zero=>
  intro k x t h0 h1 _ hk ht
  obtain ⟨k,rfl⟩:∃ m,k=m+1:=⟨k - 1,by omega⟩
  simp only [laws_markText.l0]
  rw [if_neg (by omega),if_pos (by omega)]
  exact ⟨_,rfl⟩
 | succ d ih=>
  intro k x t h0 h1 h2 hk ht
  obtain ⟨k,rfl⟩:∃ m,k=m+1:=⟨k - 1,by omega⟩
  simp only [laws_markText.l0]
  by_cases hx:x > 0
  ·rw [if_pos hx]
   simp only [Option.bind_some,size_one]
   rw [if_pos (by omega)]
   have e:Int.tdiv x 10=x / 10:=Int.tdiv_eq_ediv_of_nonneg h0
   have hp:(2:Int) ^ (d+1)=2 * 2 ^ d:=by rw [Int.pow_succ];omega
   rw [e,w64 (n:=x / 10) (by omega) (by omega)]
   refine ih k _ _ (by omega) (by omega) (by omega) (by omega) ?_
   rw [ByteArray.size_append,size_one];omega
  ·rw [if_neg hx,if_pos (by omega)]
   exact ⟨_,rfl⟩
theorem mark_ev (x:Int) (h0:0≤x) (h1:x < 4611686018427387904):∃ r,Ev (fun k=>laws_markText.f k x) r:=by
 by_cases h:x≤0
 ·exact ⟨_,by unfold laws_markText.f;simp only [h,if_true];exact Ev.now _⟩
 ·obtain ⟨r,hr⟩:=mark_l 62 63 x ⟨#[]⟩ h0 (by omega) h1 (by omega) (by decide)
  refine ⟨r,Ev.of (fun k=>laws_markText.mono _ k) (k:=63) ?_⟩
  unfold laws_markText.f
  rw [if_neg h]
  exact hr
noncomputable def mt (x:Int):ByteArray:=Classical.epsilon fun r=>Ev (fun k=>laws_markText.f k x) r
theorem mt_ev (x:Int) (h0:0≤x) (h1:x < 4611686018427387904):Ev (fun k=>laws_markText.f k x) (mt x):=Classical.epsilon_spec (mark_ev x h0 h1)
def Marked (l:List ByteArray) (x:Int):Prop:=∀ j,j < l.length→rdOf ByteArray.empty l j=mt (x+j)
theorem markS_l (n:Nat) (x:Int) (hn:n < 1152921504606846976) (h0:0≤x) (h1:x < 1152921504606846976) (d:Nat):∀ (i:Nat) (l:List ByteArray),l.length=n→i+d=n →
  (∀ j,j < i→rdOf ByteArray.empty l j=mt (x+j)) →
  ∃ l',Ev (fun k=>laws_markStringS.l0 k l (x+i) i) (x+n,l')∧l'.length=n∧Marked l' x:=by
 induction d with
 | zero=>
  intro i l hl hi hm
  obtain rfl:i=n:=by omega
  refine ⟨l,Ev.of (fun k=>laws_markStringS.mono_l k _ _ _) (k:=1) ?_,hl,fun j hj=>hm j (by omega)⟩
  simp only [laws_markStringS.l0]
  rw [if_neg (by omega)]
 | succ d ih=>
  intro i l hl hi hm
  have hlen:(l.set i (mt (x+i))).length=n:=by rw [List.length_set];exact hl
  obtain ⟨l',h,h2,h3⟩:=ih (i+1) (l.set i (mt (x+i))) hlen (by omega) (fun j hj=>by
   unfold rdOf
   rw [List.getD_eq_getElem?_getD]
   simp only [Int.toNat_natCast]
   rcases Nat.lt_or_ge j i with hji|hji
   ·rw [List.getElem?_set_ne (by omega)]
    have:=hm j hji
    unfold rdOf at this
    rw [List.getD_eq_getElem?_getD] at this
    simpa using this
   ·obtain rfl:j=i:=by omega
    rw [List.getElem?_set_self (by omega)]
    rfl)
  refine ⟨l',Ev.step (f:=fun k=>(laws_markText.f k (x+i)).bind fun t=>laws_markStringS.l0 k (l.set i t) (x+(i+1:Nat)) (i+1:Nat)) (fun k=>?_) (Ev.bind (mt_ev (x+i) (by omega) (by omega)) h),h2,h3⟩
  simp only [laws_markStringS.l0]
  rw [if_pos (by omega)]
  congr 1
  funext t
  rw [if_pos (by omega),w64 (n:=x+i+1) (by omega) (by omega),w64 (n:=(i:Int)+1) (by omega) (by omega)]
  simp only [Int.toNat_natCast]
  rw [show x+(i:Int)+1=x+((i+1:Nat):Int) from by omega,show (i:Int)+1=((i+1:Nat):Int) from by omega]
theorem markS_ev (l:List ByteArray) (x:Int) (hn:l.length < 1152921504606846976) (h0:0≤x) (h1:x < 1152921504606846976) :
  ∃ l',Ev (fun k=>laws_markStringS.f k l x) (x+l.length,l')∧l'.length=l.length∧Marked l' x:=by
 obtain ⟨l',h,h2,h3⟩:=markS_l l.length x hn h0 h1 l.length 0 l rfl (by omega) (fun j hj=>by omega)
 refine ⟨l',?_,h2,h3⟩
 unfold laws_markStringS.f
 simpa using h
theorem heldS_l (l:List ByteArray) (x:Int) (hn:l.length < 1152921504606846976) (h0:0≤x) (h1:x < 1152921504606846976) (hm:Marked l x) (d:Nat):∀ (i:Nat),i+d=l.length →
  Ev (fun k=>laws_heldStringS.l0 k l (x+i) i) (x+l.length):=by
 induction d with
 | zero=>
  intro i hi
  refine Ev.of (fun k=>laws_heldStringS.mono_l k _ _ _) (k:=1) ?_
  simp only [laws_heldStringS.l0]
  rw [if_neg (by omega),show (i:Nat)=l.length from by omega]
 | succ d ih=>
  intro i hi
  refine Ev.step (f:=fun k=>(laws_markText.f k (x+i)).bind fun t=>if (rdOf ByteArray.empty l (i:Int)).toList=t.toList then laws_heldStringS.l0 k l (x+(i+1:Nat)) (i+1:Nat) else some (-1)) (fun k=>?_) (Ev.bind (mt_ev (x+i) (by omega) (by omega)) ?_)
  ·simp only [laws_heldStringS.l0]
   rw [if_pos (by omega),if_pos (by omega),w64 (n:=x+i+1) (by omega) (by omega),w64 (n:=(i:Int)+1) (by omega) (by omega),show x+(i:Int)+1=x+((i+1:Nat):Int) from by omega,show (i:Int)+1=((i+1:Nat):Int) from by omega]
  ·have:=hm i (by omega)
   simp only [this,if_true]
   exact ih (i+1) (by omega)
theorem heldS_ev (l:List ByteArray) (x:Int) (hn:l.length < 1152921504606846976) (h0:0≤x) (h1:x < 1152921504606846976) (hm:Marked l x):Ev (fun k=>laws_heldStringS.f k l x) (x+l.length):=by
 unfold laws_heldStringS.f
 have:=heldS_l l x hn h0 h1 hm l.length 0 (by omega)
 simpa using this
theorem eqS_l (l:List ByteArray) (hn:l.length < 1152921504606846976) (d:Nat):∀ (i:Nat),i+d=l.length→Ev (fun k=>laws_eqStringS.l0 k l l i) true:=by
 induction d with
 | zero=>
  intro i hi
  refine Ev.of (fun k=>laws_eqStringS.mono_l k _ _ _) (k:=1) ?_
  simp only [laws_eqStringS.l0]
  rw [if_neg (by omega)]
 | succ d ih=>
  intro i hi
  refine Ev.step (f:=fun k=>laws_eqStringS.l0 k l l (i+1:Nat)) (fun k=>?_) (ih (i+1) (by omega))
  simp only [laws_eqStringS.l0]
  rw [if_pos (by omega),if_pos (by omega),if_pos (by omega),if_pos trivial,w64 (n:=(i:Int)+1) (by omega) (by omega),show (i:Int)+1=((i+1:Nat):Int) from by omega]
theorem eqS_ev (l:List ByteArray) (hn:l.length < 1152921504606846976):Ev (fun k=>laws_eqStringS.f k l l) true:=by
 unfold laws_eqStringS.f
 simp only [if_true]
 exact eqS_l l hn l.length 0 (by omega)
abbrev Rx:=S93
theorem rd_rx {l:List Rx} {i:Nat} (h:i < l.length):rd_T93 l (i:Int)=l[i]:=by
 simp [rd_T93,List.getD,List.getElem?_eq_getElem h]
theorem nn (i:Nat):(0:Int)≤(i:Int):=by omega
noncomputable def mr (x:Int) (j:Nat):Rx:=⟨(Int.tmod (x+2 * j) 3) == 0,mt (x+2 * j+1)⟩
def MarkedR (l:List Rx) (x:Int):Prop:=∀ (j:Nat) (h:j < l.length),l[j]=mr x j
theorem markR_l (n:Nat) (x:Int) (hn:n≤1000) (h0:0≤x) (h1:x≤1000000000) (d:Nat):∀ (i:Nat) (l:List Rx),l.length=n→i+d=n →
  (∀ (j:Nat) (h:j < l.length),j < i→l[j]=mr x j) →
  ∃ l',Ev (fun k=>laws_markRuleS.l0 k l (x+2 * i) i) (x+2 * n,l')∧l'.length=n∧MarkedR l' x:=by
 induction d with
 | zero=>
  intro i l hl hi hm
  refine ⟨l,Ev_succ ?_,hl,fun j hj=>hm j hj (by omega)⟩
  simp only [laws_markRuleS.l0,show ¬ ((i:Int) < (l.length:Int)) from by omega,if_false]
  rw [show (i:Nat)=n from by omega]
  exact Ev.now _
 | succ d ih=>
  intro i l hl hi hm
  have hlt:i < l.length:=by omega
  obtain ⟨l',h,h2,h3⟩:=ih (i+1) (l.set i (mr x i)) (by rw [List.length_set];exact hl) (by omega) (fun j hj hji=>by
   rcases Nat.lt_or_ge j i with hji|hji
   ·rw [List.getElem_set_ne (by omega)]
    exact hm j (by rw [List.length_set] at hj;exact hj) hji
   ·obtain rfl:j=i:=by omega
    rw [List.getElem_set_self])
  refine ⟨l',Ev_succ ?_,h2,h3⟩
  have e1:wrap64 (x+2 * (i:Int)+1)=x+2 * (i:Int)+1:=w64 (by omega) (by omega)
  have e2:wrap64 (x+2 * (i:Int)+1+1)=x+2 * ((i+1:Nat):Int):=by rw [w64 (by omega) (by omega)];omega
  have e3:wrap64 ((i:Int)+1)=((i+1:Nat):Int):=by rw [w64 (by omega) (by omega)];rfl
  have hlt2:i < (l.set i (⟨(Int.tmod (x+2 * (i:Int)) 3) == 0,(rd_T93 l (i:Int)).f1⟩:Rx)).length:=by rw [List.length_set];exact hlt
  simp only [laws_markRuleS.l0,show ((i:Int) < (l.length:Int)) from by omega,nn i,if_true,Option.bind_some,Int.toNat_natCast,e1,e2,e3]
  refine Ev.bind (mt_ev (x+2 * i+1) (by omega) (by omega)) ?_
  rw [rd_rx hlt2,List.getElem_set_self,List.set_set]
  exact h
theorem markR_ev (l:List Rx) (x:Int) (hn:l.length≤1000) (h0:0≤x) (h1:x≤1000000000) :
  ∃ l',Ev (fun k=>laws_markRuleS.f k l x) (x+2 * l.length,l')∧l'.length=l.length∧MarkedR l' x:=by
 obtain ⟨l',h,h2,h3⟩:=markR_l l.length x hn h0 h1 l.length 0 l rfl (by omega) (fun j hj hj0=>by omega)
 refine ⟨l',?_,h2,h3⟩
 unfold laws_markRuleS.f
 simpa using h
theorem heldR_l (l:List Rx) (x:Int) (hn:l.length≤1000) (h0:0≤x) (h1:x≤1000000000) (hm:MarkedR l x) (d:Nat):∀ (i:Nat),i+d=l.length →
  Ev (fun k=>laws_heldRuleS.l0 k l (x+2 * i) i) (x+2 * l.length):=by
 induction d with
 | zero=>
  intro i hi
  refine Ev_succ ?_
  simp only [laws_heldRuleS.l0,show ¬ ((i:Int) < (l.length:Int)) from by omega,if_false]
  rw [show (i:Nat)=l.length from by omega]
  exact Ev.now _
 | succ d ih=>
  intro i hi
  have hlt:i < l.length:=by omega
  have e1:wrap64 (x+2 * (i:Int)+1)=x+2 * (i:Int)+1:=w64 (by omega) (by omega)
  have e2:wrap64 (x+2 * (i:Int)+1+1)=x+2 * ((i+1:Nat):Int):=by rw [w64 (by omega) (by omega)];omega
  have e3:wrap64 ((i:Int)+1)=((i+1:Nat):Int):=by rw [w64 (by omega) (by omega)];rfl
  have next:=ih (i+1) (by omega)
  refine Ev_succ ?_
  simp only [laws_heldRuleS.l0,show ((i:Int) < (l.length:Int)) from by omega,nn i,if_true,e1,e2,e3,rd_rx hlt,hm i hlt,mr,bne_self_eq_false,Bool.false_eq_true,if_false]
  refine Ev.bind (mt_ev (x+2 * i+1) (by omega) (by omega)) ?_
  simp only [if_true]
  exact next
theorem heldR_ev (l:List Rx) (x:Int) (hn:l.length≤1000) (h0:0≤x) (h1:x≤1000000000) (hm:MarkedR l x):Ev (fun k=>laws_heldRuleS.f k l x) (x+2 * l.length):=by
 unfold laws_heldRuleS.f
 have:=heldR_l l x hn h0 h1 hm l.length 0 (by omega)
 simpa using this
theorem eqRx_l (l:List Rx) (hl:l.length≤1048576) (d:Nat):∀ (i:Nat),i+d=l.length→Ev (fun k=>laws_eqRuleS.l0 k l l (i:Int)) true:=by
 induction d with
 | zero=>
  intro i hi
  refine Ev_succ ?_
  simp only [laws_eqRuleS.l0,show ¬ ((i:Int) < (l.length:Int)) from by omega,if_false]
  exact Ev.now _
 | succ d ih=>
  intro i hi
  have w1:wrap64 ((i:Int)+1)=((i+1:Nat):Int):=by rw [w64 (by omega) (by omega)];rfl
  refine Ev_succ ?_
  simp only [laws_eqRuleS.l0,laws_eqRule.f,show (i:Int) < (l.length:Int) from by omega,nn i,if_true,bne_self_eq_false,Bool.false_eq_true,if_false,Option.bind_some]
  rw [w1]
  exact ih (i+1) (by omega)
theorem eqRx_ev (l:List Rx) (hl:l.length≤1048576):Ev (fun k=>laws_eqRuleS.f k l l) true:=by
 unfold laws_eqRuleS.f
 simp only [if_true]
 exact eqRx_l l hl l.length 0 (by omega)
theorem markGp_ev (f0:List ByteArray) (f1:List Rx) (f2:Int) (h0:f0.length≤1000) (h1:f1.length≤1000) :
  ∃ l0 l1,Ev (fun k=>laws_markGroup.f k f0 f1 f2 1) (1+(f0.length:Int)+2 * f1.length,l0,l1)∧Ev (fun k=>laws_heldGroup.f k l0 l1 f2 1) (1+(f0.length:Int)+2 * f1.length):=by
 obtain ⟨l0,e0,n0,m0⟩:=markS_ev f0 1 (by omega) (by omega) (by omega)
 obtain ⟨l1,e1,n1,m1⟩:=markR_ev f1 (1+f0.length) (by omega) (by omega) (by omega)
 refine ⟨l0,l1,?_,?_⟩
 ·unfold laws_markGroup.f
  exact Ev.bind e0 (Ev.bind e1 (Ev.now _))
 ·unfold laws_heldGroup.f
  have g0:=heldS_ev l0 1 (by omega) (by omega) (by omega) m0
  rw [n0] at g0
  have g1:=heldR_ev l1 (1+f0.length) (by omega) (by omega) (by omega) m1
  rw [n1] at g1
  refine Ev.bind g0 ?_
  simp only [show ¬ ((1:Int)+(f0.length:Int) < 0) from by omega,if_false]
  refine Ev.bind g1 ?_
  simp only [show ¬ ((1:Int)+(f0.length:Int)+2 * (f1.length:Int) < 0) from by omega,if_false]
  exact Ev.now _
theorem eqGp_ev (f0:List ByteArray) (f1:List Rx) (f2:Int) (h0:f0.length≤1000) (h1:f1.length≤1000):Ev (fun k=>laws_eqGroup.f k f0 f1 f2 f0 f1 f2) true:=by
 unfold laws_eqGroup.f
 refine Ev.bind (eqS_ev f0 (by omega)) ?_
 simp only [if_true]
 refine Ev.bind (eqRx_ev f1 (by omega)) ?_
 simp only [if_true]
 exact Ev.now _
end Go.Proofs.YtloijngehifbmaaGreatDoor.Tx
end
section
namespace Go.Proofs.YtloijngehifbmaaGreatDoor.Tx
open Go.RowKit Go.Proofs.YtloijngehifbmaaGreatDoor.P Go.Proofs.YtloijngehifbmaaGreatDoorW.PrintWords Go.Proofs.YtloijngehifbmaaGreatDoorW.PrintLast Go.Proofs.YtloijngehifbmaaGreatDoorW.PrintMore Go.Proofs.YtloijngehifbmaaGreatDoor.B Go.Proofs.YtloijngehifbmaaGreatDoor.Wd
set_option linter.unusedVariables false
set_option linter.unusedSimpArgs false
theorem ex_bind {α β:Type} {f:Nat→Option α} {a:α} {g:Nat→α→Option β} {P:β→Prop} (h:Ev f a) (h2:∃ y,Ev (fun k=>g k a) y∧P y):∃ y,Ev (fun k=>(f k).bind (g k)) y∧P y:=by
 obtain ⟨y,hy,hp⟩:=h2
 exact ⟨y,Ev.bind h hy,hp⟩
theorem ex_succ {β:Type} {f:Nat→Option β} {P:β→Prop} (h:∃ y,Ev (fun k=>f (k+1)) y∧P y):∃ y,Ev f y∧P y:=by
 obtain ⟨y,hy,hp⟩:=h
 exact ⟨y,Ev_succ hy,hp⟩
theorem markPg_l (d:Nat):∀ (i:Nat) (l:List Pg) (x:Int),i+d=l.length→l.length≤1048576→0≤x→x+4 * d≤1000000000 →
  ∃ y:Int×List Pg,Ev (fun k=>laws_markPageS.l0 k l x (i:Int)) y∧0≤y.1:=by
 induction d with
 | zero=>
  intro i l x hi hl h0 h1
  refine ex_succ ⟨(x,l),?_,h0⟩
  simp only [laws_markPageS.l0,show ¬ ((i:Int) < (l.length:Int)) from by omega,if_false]
  exact Ev.now _
 | succ d ih=>
  intro i l x hi hl h0 h1
  have e1:wrap64 (x+1)=x+1:=w64 (by omega) (by omega)
  have e2:wrap64 (x+1+1)=x+2:=by rw [w64 (by omega) (by omega)];omega
  have e3:wrap64 (x+2+1)=x+3:=by rw [w64 (by omega) (by omega)];omega
  have e4:wrap64 (x+3+1)=x+4:=by rw [w64 (by omega) (by omega)];omega
  have e5:wrap64 ((i:Int)+1)=((i+1:Nat):Int):=by rw [w64 (by omega) (by omega)];rfl
  refine ex_succ ?_
  simp only [laws_markPageS.l0,show ((i:Int) < (l.length:Int)) from by omega,show (0:Int)≤(i:Int) from by omega,if_true,Option.bind_some,Int.toNat_natCast,e1,e2,e3,e4,e5]
  refine ex_bind (mt_ev x (by omega) (by omega)) ?_
  refine ex_bind (mt_ev (x+1) (by omega) (by omega)) ?_
  refine ex_bind (mt_ev (x+2) (by omega) (by omega)) ?_
  exact ih (i+1) _ (x+4) (by simp only [List.length_set];omega) (by simp only [List.length_set];omega) (by omega) (by omega)
theorem markPg_ev (l:List Pg) (hl:l.length≤1048576):∃ y:Int×List Pg,Ev (fun k=>laws_markPageS.f k l 1) y∧0≤y.1:=
 markPg_l l.length 0 l 1 (by omega) hl (by omega) (by omega)
end Go.Proofs.YtloijngehifbmaaGreatDoor.Tx
end
section
namespace Go.Proofs.YtloijngehifbmaaGreatDoor.Pure
open Go.RowKit Go.Proofs.YtloijngehifbmaaGreatDoor.P Go.Proofs.YtloijngehifbmaaGreatDoorW.PrintWords Go.Proofs.YtloijngehifbmaaGreatDoorW.PrintLast Go.Proofs.YtloijngehifbmaaGreatDoor.B Go.Proofs.YtloijngehifbmaaGreatDoor.Ad Go.Proofs.YtloijngehifbmaaGreatDoor.Wd
set_option linter.unusedSimpArgs false
set_option linter.unusedVariables false
theorem FnExactWorldNotice (l:List Lp) (h x:ByteArray) (hl:l.length≤2513169434916) (hs:∀ p ∈ l,p.f0.size≤4611686018427387904∧p.f1.size≤4611686018427387904∧p.f2.size≤4611686018427387904) :
  Ev (fun k=>laws_FnExactWorldNotice.f k l h x) true:=by
 unfold laws_FnExactWorldNotice.f
 by_cases h1:(h.size:Int) > 1048576
 ·simp only [h1,if_true];exact Ev.now _
 simp only [h1,if_false]
 by_cases h2:(x.size:Int) > 1048576
 ·simp only [h2,if_true];exact Ev.now _
 simp only [h2,if_false]
 obtain ⟨r,hr,hb⟩:=szPgs_ev l hl hs
 refine Ev.bind hr ?_
 by_cases hr0:r < 0
 ·simp only [hr0,if_true];exact Ev.now _
 simp only [hr0,if_false]
 obtain ⟨b1,b2⟩:=hb (by omega)
 have hA:=toPgs_ev l b1
 have hlm:(l.map conv).length≤1048576:=by rw [List.length_map];omega
 have hm:∀ p ∈ l.map conv,p.f0.size≤1048576∧p.f1.size≤1048576∧p.f2.size≤1048576:=by
  intro p hp
  obtain ⟨q,hq,rfl⟩:=List.mem_map.1 hp
  exact b2 q hq
 have g1:=Wn.noticeW_s (l.map conv) hlm (fun p hp=>by have:=hm p hp;omega) h x (by omega) (by omega)
 have g2:=Wn.noticeW_i (l.map conv) (fun p hp=>by have:=hm p hp;omega) h x (by omega) (by omega)
 have gl:=Wn.noticeW_len (l.map conv) h x
 generalize Wn.noticeW (l.map conv) h x=g at g1 g2 gl
 obtain ⟨f0,f1,f2⟩:=g
 simp only at gl
 have he:=Tx.eqGp_ev f0 f1 f2 (by omega) (by omega)
 have hp:=eqPgs_ev (l.map conv) hlm
 obtain ⟨y,hy,y0⟩:=Tx.markPg_ev (l.map conv) hlm
 obtain ⟨m0,m1,em,eh⟩:=Tx.markGp_ev f0 f1 f2 (by omega) (by omega)
 refine Ev.bind hA (Ev.bind g1 (Ev.bind hA (Ev.bind g2 (Ev.bind he ?_))))
 simp only [if_true]
 refine Ev.bind hA (Ev.bind hp ?_)
 simp only [if_true]
 refine Ev.bind hy ?_
 simp only [show ¬ (y.1 < 0) from by omega,if_false]
 refine Ev.bind he (Ev_succ ?_)
 simp only [laws_FnExactWorldNotice.j0,Bool.not_true,Bool.false_eq_true,if_false]
 refine Ev.bind em (Ev.bind eh ?_)
 simp only [show ¬ ((1:Int)+(f0.length:Int)+2 * (f1.length:Int) < 0) from by omega,if_false,if_true]
 refine Ev.bind hA (Ev.bind g2 (Ev.bind he ?_))
 simp only [if_true]
 refine Ev.bind eh ?_
 simp only [show ¬ ((1:Int)+(f0.length:Int)+2 * (f1.length:Int) < 0) from by omega,if_false,if_true]
 exact Ev.now _
end Go.Proofs.YtloijngehifbmaaGreatDoor.Pure
end
section
namespace Go.Proofs.YtloijngehifbmaaGreatDoorW.PrintWords
open Go.ChangeShapes Go.WideShapes

end Go.Proofs.YtloijngehifbmaaGreatDoorW.PrintWords
end
section
namespace Go.Proofs.YtloijngehifbmaaGreatDoor.fnExactWorldNotice
open Go.ChangeShapes Go.WideShapes Go.ChangeAt Go.RowKit
open Go.ChangeMaps (open_string shut_string)
set_option linter.unusedVariables false
theorem own : ownKnob Tryz.prog.godebug = none := by kernel_rfl
theorem laidOut : laidOutB Tryz.prog = true := by kernel_rfl
set_option maxRecDepth 100000 in
theorem lifted (os : Os) (started : os.Started) (H : Type) (enc : TypeId × Value → H) :
  ReturnsInHanded {} Tryz.checked os 4 .any (fun w args => (Rows.fnExactWorldNoticeSpec.pre enc Tryz.prog Tryz.f4 Rows.fnExactWorldNoticeRow.domain false w args ∧ laidMetH Tryz.prog Rows.fnExactWorldNoticeRow.laid w) ∧ sizedMet enc Tryz.prog Tryz.f4 (OpenSpec.ofChange Rows.fnExactWorldNoticeSpec) false w args)
   (Rows.fnExactWorldNoticeSpec.post enc Tryz.prog Tryz.f4 false true false false) := by
 refine returnsInHanded_of_change_and (C := Tryz.checked) (X := fun w _ => laidMetH Tryz.prog Rows.fnExactWorldNoticeRow.laid w) (fun _ _ _ hh h => h.of_heap hh) own started (by kernel_rfl) Tryz.func4
  (ChangeSpec.witness_shaped (enc := enc) (C := Tryz.checked) (os := os) (X := fun w _ => laidMetH Tryz.prog Rows.fnExactWorldNoticeRow.laid w) false (World.laidAll Tryz.prog os Rows.fnExactWorldNoticeRow.laid) #[.slice none 0 0, .string ByteArray.empty, .string ByteArray.empty] 8 (World.laidAll_os _ _ _)
   (World.shaped_of_ZipB (by kernel_rfl) (by kernel_rfl)) (by kernel_rfl) (by kernel_rfl) (by kernel_rfl)
   (by rw [MakeChecks.laidMetH_plain _ _ _ (by kernel_rfl)]; exact laidMet_laidAll _ (by kernel_rfl) (by kernel_rfl))) ?_
 intro W base args ds gs before hval0 hW hcnd hsz0 hL _
 have hsz : (DataW.weightsEach Tryz.prog (Tryz.f4.params.toList ++ Rows.fnExactWorldNoticeSpec.plain.varTypes Tryz.prog) (ds ++ gs)).all (· ≤ reachBytes) = true := hsz0
 have hval : ∀ (j : Nat) t v, Tryz.f4.params[j]? = some t → args[j]? = some v → Value.okWide Tryz.prog W .any base t v := hval0
 have hW' := hW
 obtain ⟨p, q, hA0, hV, rfl, hfz, hnd⟩ := hW
 have hA : DataW.TrodAll enc Tryz.prog W 0 (fun _ => true) true Tryz.f4.params.toList args.toList ds p := hA0
 rw [Tryz.params4] at hA hval hsz
 obtain ⟨v0, vs0, d0, ds0, p0, q0, hargs, rfl, rfl, h0, r0⟩ := trodAll_cons hA
 obtain ⟨v1, vs1, d1, ds1, p1, q1, rfl, rfl, rfl, h1, r1⟩ := trodAll_cons r0
 obtain ⟨v2, vs2, d2, ds2, p2, q2, rfl, rfl, rfl, h2, r2⟩ := trodAll_cons r1
 obtain ⟨rfl, rfl, rfl⟩ := trodAll_nil r2
 obtain rfl : args = #[v0, v1, v2] := by cases args; simp_all
 obtain ⟨rfl, rfl⟩ := trodVars_none hV
 have k0 := h0
 have lt0 : ∀ x ∈ p0, x.block < W.heap.size := by obtain ⟨m, hm⟩ := k0; exact DataW.trod_lt m _ _ _ hm
 have k1 := h1
 have lt1 : ∀ x ∈ p1, x.block < W.heap.size := by obtain ⟨m, hm⟩ := k1; exact DataW.trod_lt m _ _ _ hm
 have k2 := h2
 have lt2 : ∀ x ∈ p2, x.block < W.heap.size := by obtain ⟨m, hm⟩ := k2; exact DataW.trod_lt m _ _ _ hm
 obtain ⟨a0, len0, cap0, rfl⟩ := okWide_slice Tryz.underlying22 (hval 0 22 v0 rfl rfl)
 obtain ⟨n0, f0⟩ := h0
 have hrb : reachBytes = 140737488351232 := rfl
 obtain ⟨A, l, c, e0, hC, hc, hw⟩ := Wd.pages_open f0
 have e0' : (.slice a0 len0 cap0 : Value) = .slice A l.length c := by simpa [Value.cells] using e0
 injection e0' with e1 e2 e3
 subst e1
 subst e2
 subst e3
 obtain ⟨w1, w2⟩ := hw reachBytes (by omega) (fun x hx => by
  have g2 := List.all_eq_true.1 hsz _ (DataW.weights_mem_each (j := 0) (t := 22) rfl rfl x hx)
  simpa using g2)
 obtain ⟨s1, e1s, rfl⟩ : ∃ s, v1 = .string s ∧ d1 = .lit (.string s.data.toList) := by
  obtain ⟨s, hs, hx, _⟩ := open_string Tryz.underlying9 (hval 1 9 v1 rfl rfl) k1
  exact ⟨s, hs, hx⟩
 subst e1s
 obtain ⟨s2, e2s, rfl⟩ : ∃ s, v2 = .string s ∧ d2 = .lit (.string s.data.toList) := by
  obtain ⟨s, hs, hx, _⟩ := open_string Tryz.underlying9 (hval 2 9 v2 rfl rfl) k2
  exact ⟨s, hs, hx⟩
 subst e2s
 obtain ⟨K, hK⟩ := Pure.FnExactWorldNotice l s1 s2 (by omega) (fun p hp => by have := w2 p hp; omega)
 clear hA0 hval0 hsz0 hsz hw
 refine (P.laws_FnExactWorldNotice.calls K a0 cap0 l s1 s2 true W hC hc (hK K (Nat.le_refl _))).mono fun e W' ⟨he, bel⟩ => ?_
 subst he
 exact ⟨_, rfl, _, _, _, [], _, [], hW', trodAll_mk1 (shut_bool Tryz.underlying4 _), (trodAll_cons_mk (Below.trod laidOut (by kernel_rfl) (of_decide_eq_true (by kernel_rfl)) k0 bel lt0) (trodAll_cons_mk (Below.trod laidOut (by kernel_rfl) (of_decide_eq_true (by kernel_rfl)) k1 bel lt1) (trodAll_cons_mk (Below.trod laidOut (by kernel_rfl) (of_decide_eq_true (by kernel_rfl)) k2 bel lt2) trodAll_mk0))), rfl, bel.frame _, fun h => by cases h⟩
set_option maxHeartbeats 4000000 in
theorem over : Rows.fnExactWorldNoticeRow.holds Tryz.pinned (OpenSpec.ofChange Rows.fnExactWorldNoticeSpec) :=
 OpenClaim.holds_of_wide 4 Tryz.f4 rfl rfl rfl rfl rfl rfl rfl ⟨rfl, rfl, rfl, rfl, rfl⟩ rfl rfl rfl rfl rfl (by as_aux_lemma => kernel_rfl) Tryz.func4 (by as_aux_lemma => kernel_rfl)
  (of_decide_eq_true (by as_aux_lemma => kernel_rfl)) (by unfold Func.isWrapper; first | (rw [if_pos (by decide +kernel)]; kernel_rfl) | (rw [if_neg (by decide +kernel)]; exact ⟨rfl, rfl⟩))
  (fun os started H enc _ => lifted os started H enc)
theorem card_holds : Rows.FnExactWorldNoticeCardSaid :=
 Claim7.holds_tied_plain_at .later [] [.data, .pinned] true (true, "1ef083c4003365797996df66185b189109dab195f9b856b84c42690569850767") true over (fun _ h => by cases h) (by as_aux_lemma => kernel_rfl) (fun _ h => by cases h) fnExactWorldNotice_row_tie rfl ⟨rfl, rfl⟩ (by as_aux_lemma => kernel_rfl) rfl
  (fun f fn hf hfn => by
   obtain rfl : f = 4 := Option.some.inj ((show Tryz.prog.funcNamed "loop.example/pedlar/laws.FnExactWorldNotice" = some 4 by as_aux_lemma => kernel_rfl).symm.trans hf) |>.symm
   obtain rfl : fn = Tryz.f4 := (Option.some.inj (Tryz.func4.symm.trans hfn)).symm
   exact ⟨by as_aux_lemma => kernel_rfl, fun j t ht => by
    rw [Tryz.params4] at ht
    have hm : t ∈ [22, 9, 9] := by simpa using Array.mem_of_getElem? ht
    have hall : ([22, 9, 9].all fun u => !Tryz.prog.wantsStandIn u) = true := by as_aux_lemma => kernel_rfl
    exact (show Tryz.prog.wantsStandIn t = false by simpa using List.all_eq_true.1 hall t hm)⟩)
  (by as_aux_lemma => kernel_rfl)
#print axioms card_holds
end Go.Proofs.YtloijngehifbmaaGreatDoor.fnExactWorldNotice
namespace Go.Proofs.YtloijngehifbmaaGreatDoor
theorem fnExactWorldNotice_holds : Rows.FnExactWorldNoticeCardSaid := fnExactWorldNotice.card_holds
end Go.Proofs.YtloijngehifbmaaGreatDoor
end
