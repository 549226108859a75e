/- Part 4 of the proof of FnWorldNotice: the plain functions of what it reaches, that Go comes to just their answers, what they answer, and the words that the walks use; conditions: each theorem's own. -/
import Derived.Test.YtloijngehifbmaaGreatDoorZFnWorldNoticeb
import Derived.Test.YtloijngehifbmaaGreatDoorZFnWorldNoticec
import Derived.Test.YtloijngehifbmaaGreatDoorZFnWorldNoticea
import Derived.Laws.BitsLemmas
import Derived.Lib.Strings
import Derived.Lib.ConvBytes
import Derived.Laws.RangeAny
import Derived.Laws.Runes
import Derived.Laws.RangeString
import Derived.Laws.Strings3
import Derived.Lib.IndexAny
import Derived.Lib.IndexBytes
import Derived.Deep.LoopGhost

set_option linter.unusedVariables false
set_option linter.unusedSimpArgs false
section
namespace Go.Proofs.YtloijngehifbmaaGreatDoor.P
open Go.RowKit Go.Proofs.YtloijngehifbmaaGreatDoorW PrintWords PrintLast PrintMore
attribute [local go_sem] max2_int min2_int max_two min_two max_three min_three max_four min_four
set_option maxHeartbeats 8000000
set_option maxRecDepth 100000
def spec_l71Ref.j0:Nat→Int→Bool→List Int→Int→Option (BA×Int)
 |0,_,_,_,_=>none
 |k+1,x4,x5,x1000,x1001=>if x5=true then((spec_l71Addr.f k x1000 x1001).bind fun bt833=>(some (bt833.1,bt833.2)))else(if x4=2 then((spec_l6Rd_of.f k x1000 x1001 (([(⟨#[97]⟩:BA),(⟨#[98]⟩:BA),(⟨#[97,47,98]⟩:BA),(⟨#[99,47,46,46,47,98]⟩:BA),(⟨#[]⟩:BA),(⟨#[120,47,46,47,99]⟩:BA)]:List BA))).bind fun bt838=>(if 1+bt838.1.size≤9223372036854775807 then(some ((⟨#[47]⟩:BA)++bt838.1,bt838.2))else(none)))else(if x4=3 then((spec_l6Rd_of.f k x1000 x1001 (([(⟨#[46,46]⟩:BA),(⟨#[46,46,47,99]⟩:BA),(⟨#[46,46,47,46,46,47,46,46]⟩:BA),(⟨#[46]⟩:BA),(⟨#[46,47,97]⟩:BA)]:List BA))).bind fun bt843=>(some (bt843.1,bt843.2)))else(if x4=4 then((spec_l6Rd_of.f k x1000 x1001 (([(⟨#[63,97]⟩:BA),(⟨#[63]⟩:BA),(⟨#[35,116,111,112]⟩:BA),(⟨#[]⟩:BA),(⟨#[97,35,98]⟩:BA),(⟨#[98,63,97]⟩:BA)]:List BA))).bind fun bt848=>(some (bt848.1,bt848.2)))else(if x4=5 then((spec_l6Rd_of.f k x1000 x1001 (([(⟨#[47,47,65,66,47,97]⟩:BA),(⟨#[47,47,99,100]⟩:BA),(⟨#[47,47,99,100,63,120]⟩:BA),(⟨#[47,47,97,98,47,37,54,49]⟩:BA),(⟨#[47,47,116,111,111,108,111,110,103,47,97]⟩:BA),(⟨#[47,47,97,49,47,98]⟩:BA),(⟨#[47,47,47,97]⟩:BA)]:List BA))).bind fun bt853=>(some (bt853.1,bt853.2)))else((spec_l6Rd_of.f k x1000 x1001 (([(⟨#[97]⟩:BA),(⟨#[98]⟩:BA),(⟨#[99]⟩:BA),(⟨#[97,47,98]⟩:BA)]:List BA))).bind fun bt858=>(some (bt858.1,bt858.2)))))))
def spec_l71Ref.f (k:Nat)(s0_0:List Int)(s0_1:Int):Option (BA×Int):=(spec_l6Rd_pick.f k s0_0 s0_1 8).bind fun bt831=>(if bt831.1=0 then(spec_l71Ref.j0 k bt831.1 (bt831.1==0) s0_0 bt831.2)else(spec_l71Ref.j0 k bt831.1 (bt831.1==1) s0_0 bt831.2))
theorem spec_l71Ref.mono_l:∀k,(∀y0 y1 y2 y3,LeO (spec_l71Ref.j0 k y0 y1 y2 y3) (spec_l71Ref.j0 (k+1) y0 y1 y2 y3))
 |0=>by intros;intro r h;simp[spec_l71Ref.j0]at h
 |k+1=>by
  have ih0:=spec_l71Ref.mono_l k;intros;unfold spec_l71Ref.j0;repeat' first|(with_reducible first|exact ih0 _ _ _ _|exact spec_l6Rd_of.mono _ _ _ _|exact spec_l6Rd_pick.mono _ _ _ _|exact spec_l71Addr.mono _ _ _|exact LeO.refl _|exact LeO.none _|refine LeO.ite ?_ ?_|refine LeO.bind ?_ (fun _=>?_))|exact LeO.none _|refine LeO.ite ?_ ?_|refine LeO.bind ?_ (fun _=>?_)
theorem spec_l71Ref.mono:∀a0 a1 k,LeO (spec_l71Ref.f k a0 a1) (spec_l71Ref.f (k+1) a0 a1):=by
 intro a0 a1 k;have ih0:=spec_l71Ref.mono_l k;unfold spec_l71Ref.f
 repeat' first|(with_reducible first|exact ih0 _ _ _ _|exact spec_l6Rd_of.mono _ _ _ _|exact spec_l6Rd_pick.mono _ _ _ _|exact spec_l71Addr.mono _ _ _|exact LeO.refl _|exact LeO.none _|refine LeO.ite ?_ ?_|refine LeO.bind ?_ (fun _=>?_))|exact LeO.none _|refine LeO.ite ?_ ?_|refine LeO.bind ?_ (fun _=>?_)
theorem spec_l71Ref.calls (k:Nat)(g:Nat)(s0_0:List Int)(s0_1:Int)(r1:BA)(r2:Int)(w0 w:World)(hI:IsS105 w0 w g s0_0 s0_1)(hB:Below w0.heap.size w0 w)(h:spec_l71Ref.f k s0_0 s0_1=some (r1,r2)):
  Calls Tryz.prog 141 #[.pointer (some ⟨g,0,none⟩)] w fun e w'=>e=.returned (.string r1)∧IsS105 w0 w' g s0_0 r2∧Below w0.heap.size w0 w'∧KeepBut w w' g none:=by
 have HI0:=A_ hI;have HK:=A_ (KeepBut.refl w g none);have HL:=A_ hB.size;clear hI;have HW0:=A_ hB.size;have HB:=A_ hB;clear hB;unfold spec_l71Ref.f at h;have H:=h;clear h;replace H:=bindA H;obtain⟨⟨t831,t832⟩,A2,H⟩:=H;try dsimp only at H;have HC3:=A_ H;clear H;go_enter Tryz.func141,Tryz.ntmps141;go_upto_if 5 with(first|(refine gR 81 (some 4) Tryz.func81 (spec_l6Rd_pick.calls k g s0_0 s0_1 8 t831 t832 w0 _ ?side1 ?side2 A2.out) ?_;(case side1=>exact(zz37 HI0));(case side2=>exact(zz39 HB HI0));rintro w4 ⟨hi,hb,hk⟩;replace HK:=A_ (KeepBut.trans (zz38 HK) hk (.inl rfl));replace HB:=A_ (hb);replace HI0:=A_ (hi);(try clear hb hk hi)))
 (try simp only[Act.put,lS_,l0_,lC_])
 go_cut [5] (fun v5 wc=>∃(kq:Nat)(x5_2:Bool),v5=.bool x5_2∧Aside0 (spec_l71Ref.j0 kq t831 x5_2 s0_0 t832=some (r1,r2))∧Aside0 (kq≤k)∧Aside0 (IsS105 w0 wc g s0_0 t832)∧Aside0 (KeepBut w wc g none)∧Aside0 (Below w0.heap.size w0 wc))
 case first=>
  obtain⟨H⟩:=HC3;replace H:=iteEq H;rcases H with⟨c5b0,c5b1,H⟩|⟨c5b0,c5b1,c5,H⟩
  ·(first|rw[c5b0]|(simp only[i64_w,i32_w];rw[c5b0])|skip)
   have H':=A_ H;clear H;go_wp2
   go_meet
   case rel=>exact⟨_,((t831==0)),zz0,H',⟨zz10⟩,⟨(zz37 HI0)⟩,⟨(zz38 HK)⟩,⟨(zz39 HB HI0)⟩⟩
  ·(first|rw[c5b0]|(simp only[i64_w,i32_w];rw[c5b0])|skip)
   have H':=A_ H;clear H;go_wp2
   go_meet
   case rel=>exact⟨_,((t831==1)),zz0,H',⟨zz10⟩,⟨(zz37 HI0)⟩,⟨(zz38 HK)⟩,⟨(zz39 HB HI0)⟩⟩
 case rest=>
  clear HC3;obtain⟨kq,x5_2,rfl,HA,HJ2,HI0,HK,HB⟩:=hcut;cases kq with
  |zero=>exact absurd HA.out (by simp[spec_l71Ref.j0])
  |succ kj2=>
   obtain⟨H⟩:=HA;simp only[spec_l71Ref.j0]at H;replace H:=iteB H;rcases H with⟨rfl,H⟩|⟨rfl,H⟩
   ·replace H:=bindA H
    obtain⟨⟨t833,t834⟩,A7,H⟩:=H;try dsimp only at H;simp only[oI_,pI_]at H;obtain⟨rfl,rfl⟩:=H;go_wp2_with (first|(refine gR 110 (some 9) Tryz.func110 (spec_l71Addr.calls kj2 g s0_0 t832 t833 t834 w0 _ ?side1 ?side2 A7.out) ?_;(case side1=>exact(zz37 HI0));(case side2=>exact(zz39 HB HI0));rintro w8 ⟨hi,hb,hk⟩;replace HK:=A_ (KeepBut.trans (zz38 HK) hk (.inl rfl));replace HB:=A_ (hb);replace HI0:=A_ (hi);(try clear hb hk hi)));go_ret;exact⟨zz9,(zz37 HI0),(zz39 HB HI0),(zz38 HK)⟩
   ·replace H:=iteE H
    rcases H with⟨c9,H⟩|⟨c9,H⟩
    ·obtain⟨c9b0,c9b1⟩:=eqT c9
     clear c9;obtain⟨y835,Ny835⟩:=toY (([(⟨#[97]⟩:BA),(⟨#[98]⟩:BA),(⟨#[97,47,98]⟩:BA),(⟨#[99,47,46,46,47,98]⟩:BA),(⟨#[]⟩:BA),(⟨#[120,47,46,47,99]⟩:BA)]:List BA));(first|with_reducible replace H:=bindZ Ny835 H|rw[←Ny835.out]at H|skip);replace H:=bindA H;obtain⟨⟨t838,t839⟩,A10,H⟩:=H;try dsimp only at H;replace H:=iteN H;obtain⟨c11,H⟩:=H;have c11b0:=eq_true c11;have c11b1:=dT c11;try have c11b2:(9223372036854775807<1+t838.size)=False:=eq_false (nL_.2 c11);simp only[oI_,pI_]at H;obtain⟨rfl,rfl⟩:=H;go_wp2_with (first|((with_reducible refine gD (N:=13) rfl ?_);refine Kd.R_lit Kd.string _ 9 ?hg (N:=13) ?hd (xs:=([(⟨#[97]⟩:BA),(⟨#[98]⟩:BA),(⟨#[97,47,98]⟩:BA),(⟨#[99,47,46,46,47,98]⟩:BA),(⟨#[]⟩:BA),(⟨#[120,47,46,47,99]⟩:BA)]:List BA)) (inner:=[.string (⟨#[97]⟩:BA),.string (⟨#[98]⟩:BA),.string (⟨#[97,47,98]⟩:BA),.string (⟨#[99,47,46,46,47,98]⟩:BA),.string (⟨#[]⟩:BA),.string (⟨#[120,47,46,47,99]⟩:BA)]) (ok:=fun _=>True) (okp:=fun _=>True) ?hr ?hp (fun _ hk=>hk) trivial (Below.refl _ _) (lL_ _) (by simp) ?_;(case hd=>rfl);(case hg=>rfl);(case hr=>exact zz5);(case hp=>exact(Reps.one (show Kd.M Kd.string _ _ _ (⟨#[97]⟩:BA) [.string (⟨#[97]⟩:BA)]from rfl) (Reps.one (show Kd.M Kd.string _ _ _ (⟨#[98]⟩:BA) [.string (⟨#[98]⟩:BA)]from rfl) (Reps.one (show Kd.M Kd.string _ _ _ (⟨#[97,47,98]⟩:BA) [.string (⟨#[97,47,98]⟩:BA)]from rfl) (Reps.one (show Kd.M Kd.string _ _ _ (⟨#[99,47,46,46,47,98]⟩:BA) [.string (⟨#[99,47,46,46,47,98]⟩:BA)]from rfl) (Reps.one (show Kd.M Kd.string _ _ _ (⟨#[]⟩:BA) [.string (⟨#[]⟩:BA)]from rfl) (Reps.one (show Kd.M Kd.string _ _ _ (⟨#[120,47,46,47,99]⟩:BA) [.string (⟨#[120,47,46,47,99]⟩:BA)]from rfl) (Reps.none _ _))))))));intro v836 w12 ho13 hb hg_ hnew_;clear hg_ hnew_;(first|rw[←Ny835.out]at ho13|(simp only[Int.reduceToNat]at ho13;rw[←Ny835.out]at ho13));have HO837:=A_ (Kd.R_lower ho13 (keep_size (w:=w) (g:=g) (row:=none) (zz38 HK)));replace HK:=A_ (KeepBut.trans (zz38 HK) (KeepBut.of_below hb g none) (.inl rfl));replace HB:=A_ (bS (zz39 HB HI0) hb);replace HI0:=A_ (IsS105.below (zz37 HI0) hb);clear hb ho13;obtain⟨Ao14,co14,eo14⟩:=Kd.R_slice HO837.out;subst eo14)|(refine gR 49 (some 14) Tryz.func49 (spec_l6Rd_of.calls kj2 g s0_0 t832 _ _ y835 t838 t839 w0 _ ?side1 ?side2 ?side3 ?side4 ?side5 A10.out) ?_;(case side1=>exact(zz37 HI0));(case side2=>exact(zz39 HB HI0));(case side3=>exact(zz46 HO837));(case side4=>exact(Kd.R_reads' HO837.out).2.1);(case side5=>exact far_slice (IsS105.own_ne HI0.out HO837.out (by decide)));rintro w15 ⟨hi,hb,hk⟩;replace HO837:=A_ (Kd.R_mono (Kd.R_keep (IsS105.apart (show IsS105 w0 _ g s0_0 t832 from(zz37 HI0)) (zz7 HO837) (by decide)) hk (fun _ h=>h.2)) (fun _ h=>h.1));replace HK:=A_ (KeepBut.trans (zz38 HK) hk (.inl rfl));replace HB:=A_ (hb);replace HI0:=A_ (hi);(try clear hb hk hi)));go_ret;exact⟨zz9,(zz37 HI0),(zz39 HB HI0),(zz38 HK)⟩
    ·obtain⟨c9b0,c9b1⟩:=eqF c9
     replace H:=iteEq H;rcases H with⟨c16b0,c16b1,H⟩|⟨c16b0,c16b1,c16,H⟩
     ·obtain⟨y840,Ny840⟩:=toY (([(⟨#[46,46]⟩:BA),(⟨#[46,46,47,99]⟩:BA),(⟨#[46,46,47,46,46,47,46,46]⟩:BA),(⟨#[46]⟩:BA),(⟨#[46,47,97]⟩:BA)]:List BA))
      (first|with_reducible replace H:=bindZ Ny840 H|rw[←Ny840.out]at H|skip)
      replace H:=bindA H;obtain⟨⟨t843,t844⟩,A17,H⟩:=H;try dsimp only at H;simp only[oI_,pI_]at H;obtain⟨rfl,rfl⟩:=H;go_wp2_with (first|((with_reducible refine gD (N:=19) rfl ?_);refine Kd.R_lit Kd.string _ 9 ?hg (N:=19) ?hd (xs:=([(⟨#[46,46]⟩:BA),(⟨#[46,46,47,99]⟩:BA),(⟨#[46,46,47,46,46,47,46,46]⟩:BA),(⟨#[46]⟩:BA),(⟨#[46,47,97]⟩:BA)]:List BA)) (inner:=[.string (⟨#[46,46]⟩:BA),.string (⟨#[46,46,47,99]⟩:BA),.string (⟨#[46,46,47,46,46,47,46,46]⟩:BA),.string (⟨#[46]⟩:BA),.string (⟨#[46,47,97]⟩:BA)]) (ok:=fun _=>True) (okp:=fun _=>True) ?hr ?hp (fun _ hk=>hk) trivial (Below.refl _ _) (lL_ _) (by simp) ?_;(case hd=>rfl);(case hg=>rfl);(case hr=>exact zz5);(case hp=>exact(Reps.one (show Kd.M Kd.string _ _ _ (⟨#[46,46]⟩:BA) [.string (⟨#[46,46]⟩:BA)]from rfl) (Reps.one (show Kd.M Kd.string _ _ _ (⟨#[46,46,47,99]⟩:BA) [.string (⟨#[46,46,47,99]⟩:BA)]from rfl) (Reps.one (show Kd.M Kd.string _ _ _ (⟨#[46,46,47,46,46,47,46,46]⟩:BA) [.string (⟨#[46,46,47,46,46,47,46,46]⟩:BA)]from rfl) (Reps.one (show Kd.M Kd.string _ _ _ (⟨#[46]⟩:BA) [.string (⟨#[46]⟩:BA)]from rfl) (Reps.one (show Kd.M Kd.string _ _ _ (⟨#[46,47,97]⟩:BA) [.string (⟨#[46,47,97]⟩:BA)]from rfl) (Reps.none _ _)))))));intro v841 w18 ho19 hb hg_ hnew_;clear hg_ hnew_;(first|rw[←Ny840.out]at ho19|(simp only[Int.reduceToNat]at ho19;rw[←Ny840.out]at ho19));have HO842:=A_ (Kd.R_lower ho19 (keep_size (w:=w) (g:=g) (row:=none) (zz38 HK)));replace HK:=A_ (KeepBut.trans (zz38 HK) (KeepBut.of_below hb g none) (.inl rfl));replace HB:=A_ (bS (zz39 HB HI0) hb);replace HI0:=A_ (IsS105.below (zz37 HI0) hb);clear hb ho19;obtain⟨Ao20,co20,eo20⟩:=Kd.R_slice HO842.out;subst eo20)|(refine gR 49 (some 20) Tryz.func49 (spec_l6Rd_of.calls kj2 g s0_0 t832 _ _ y840 t843 t844 w0 _ ?side1 ?side2 ?side3 ?side4 ?side5 A17.out) ?_;(case side1=>exact(zz37 HI0));(case side2=>exact(zz39 HB HI0));(case side3=>exact(zz46 HO842));(case side4=>exact(Kd.R_reads' HO842.out).2.1);(case side5=>exact far_slice (IsS105.own_ne HI0.out HO842.out (by decide)));rintro w21 ⟨hi,hb,hk⟩;replace HO842:=A_ (Kd.R_mono (Kd.R_keep (IsS105.apart (show IsS105 w0 _ g s0_0 t832 from(zz37 HI0)) (zz7 HO842) (by decide)) hk (fun _ h=>h.2)) (fun _ h=>h.1));replace HK:=A_ (KeepBut.trans (zz38 HK) hk (.inl rfl));replace HB:=A_ (hb);replace HI0:=A_ (hi);(try clear hb hk hi)));go_ret;exact⟨zz9,(zz37 HI0),(zz39 HB HI0),(zz38 HK)⟩
     ·replace H:=iteEq H
      rcases H with⟨c22b0,c22b1,H⟩|⟨c22b0,c22b1,c22,H⟩
      ·obtain⟨y845,Ny845⟩:=toY (([(⟨#[63,97]⟩:BA),(⟨#[63]⟩:BA),(⟨#[35,116,111,112]⟩:BA),(⟨#[]⟩:BA),(⟨#[97,35,98]⟩:BA),(⟨#[98,63,97]⟩:BA)]:List BA))
       (first|with_reducible replace H:=bindZ Ny845 H|rw[←Ny845.out]at H|skip)
       replace H:=bindA H;obtain⟨⟨t848,t849⟩,A23,H⟩:=H;try dsimp only at H;simp only[oI_,pI_]at H;obtain⟨rfl,rfl⟩:=H;go_wp2_with (first|((with_reducible refine gD (N:=24) rfl ?_);refine Kd.R_lit Kd.string _ 9 ?hg (N:=24) ?hd (xs:=([(⟨#[63,97]⟩:BA),(⟨#[63]⟩:BA),(⟨#[35,116,111,112]⟩:BA),(⟨#[]⟩:BA),(⟨#[97,35,98]⟩:BA),(⟨#[98,63,97]⟩:BA)]:List BA)) (inner:=[.string (⟨#[63,97]⟩:BA),.string (⟨#[63]⟩:BA),.string (⟨#[35,116,111,112]⟩:BA),.string (⟨#[]⟩:BA),.string (⟨#[97,35,98]⟩:BA),.string (⟨#[98,63,97]⟩:BA)]) (ok:=fun _=>True) (okp:=fun _=>True) ?hr ?hp (fun _ hk=>hk) trivial (Below.refl _ _) (lL_ _) (by simp) ?_;(case hd=>rfl);(case hg=>rfl);(case hr=>exact zz5);(case hp=>exact(Reps.one (show Kd.M Kd.string _ _ _ (⟨#[63,97]⟩:BA) [.string (⟨#[63,97]⟩:BA)]from rfl) (Reps.one (show Kd.M Kd.string _ _ _ (⟨#[63]⟩:BA) [.string (⟨#[63]⟩:BA)]from rfl) (Reps.one (show Kd.M Kd.string _ _ _ (⟨#[35,116,111,112]⟩:BA) [.string (⟨#[35,116,111,112]⟩:BA)]from rfl) (Reps.one (show Kd.M Kd.string _ _ _ (⟨#[]⟩:BA) [.string (⟨#[]⟩:BA)]from rfl) (Reps.one (show Kd.M Kd.string _ _ _ (⟨#[97,35,98]⟩:BA) [.string (⟨#[97,35,98]⟩:BA)]from rfl) (Reps.one (show Kd.M Kd.string _ _ _ (⟨#[98,63,97]⟩:BA) [.string (⟨#[98,63,97]⟩:BA)]from rfl) (Reps.none _ _))))))));intro v846 w24 ho25 hb hg_ hnew_;clear hg_ hnew_;(first|rw[←Ny845.out]at ho25|(simp only[Int.reduceToNat]at ho25;rw[←Ny845.out]at ho25));have HO847:=A_ (Kd.R_lower ho25 (keep_size (w:=w) (g:=g) (row:=none) (zz38 HK)));replace HK:=A_ (KeepBut.trans (zz38 HK) (KeepBut.of_below hb g none) (.inl rfl));replace HB:=A_ (bS (zz39 HB HI0) hb);replace HI0:=A_ (IsS105.below (zz37 HI0) hb);clear hb ho25;obtain⟨Ao26,co26,eo26⟩:=Kd.R_slice HO847.out;subst eo26)|(refine gR 49 (some 25) Tryz.func49 (spec_l6Rd_of.calls kj2 g s0_0 t832 _ _ y845 t848 t849 w0 _ ?side1 ?side2 ?side3 ?side4 ?side5 A23.out) ?_;(case side1=>exact(zz37 HI0));(case side2=>exact(zz39 HB HI0));(case side3=>exact(zz46 HO847));(case side4=>exact(Kd.R_reads' HO847.out).2.1);(case side5=>exact far_slice (IsS105.own_ne HI0.out HO847.out (by decide)));rintro w27 ⟨hi,hb,hk⟩;replace HO847:=A_ (Kd.R_mono (Kd.R_keep (IsS105.apart (show IsS105 w0 _ g s0_0 t832 from(zz37 HI0)) (zz7 HO847) (by decide)) hk (fun _ h=>h.2)) (fun _ h=>h.1));replace HK:=A_ (KeepBut.trans (zz38 HK) hk (.inl rfl));replace HB:=A_ (hb);replace HI0:=A_ (hi);(try clear hb hk hi)));go_ret;exact⟨zz9,(zz37 HI0),(zz39 HB HI0),(zz38 HK)⟩
      ·replace H:=iteEq H
       rcases H with⟨c28b0,c28b1,H⟩|⟨c28b0,c28b1,c28,H⟩
       ·obtain⟨y850,Ny850⟩:=toY (([(⟨#[47,47,65,66,47,97]⟩:BA),(⟨#[47,47,99,100]⟩:BA),(⟨#[47,47,99,100,63,120]⟩:BA),(⟨#[47,47,97,98,47,37,54,49]⟩:BA),(⟨#[47,47,116,111,111,108,111,110,103,47,97]⟩:BA),(⟨#[47,47,97,49,47,98]⟩:BA),(⟨#[47,47,47,97]⟩:BA)]:List BA))
        (first|with_reducible replace H:=bindZ Ny850 H|rw[←Ny850.out]at H|skip)
        replace H:=bindA H;obtain⟨⟨t853,t854⟩,A29,H⟩:=H;try dsimp only at H;simp only[oI_,pI_]at H;obtain⟨rfl,rfl⟩:=H;go_wp2_with (first|((with_reducible refine gD (N:=29) rfl ?_);refine Kd.R_lit Kd.string _ 9 ?hg (N:=29) ?hd (xs:=([(⟨#[47,47,65,66,47,97]⟩:BA),(⟨#[47,47,99,100]⟩:BA),(⟨#[47,47,99,100,63,120]⟩:BA),(⟨#[47,47,97,98,47,37,54,49]⟩:BA),(⟨#[47,47,116,111,111,108,111,110,103,47,97]⟩:BA),(⟨#[47,47,97,49,47,98]⟩:BA),(⟨#[47,47,47,97]⟩:BA)]:List BA)) (inner:=[.string (⟨#[47,47,65,66,47,97]⟩:BA),.string (⟨#[47,47,99,100]⟩:BA),.string (⟨#[47,47,99,100,63,120]⟩:BA),.string (⟨#[47,47,97,98,47,37,54,49]⟩:BA),.string (⟨#[47,47,116,111,111,108,111,110,103,47,97]⟩:BA),.string (⟨#[47,47,97,49,47,98]⟩:BA),.string (⟨#[47,47,47,97]⟩:BA)]) (ok:=fun _=>True) (okp:=fun _=>True) ?hr ?hp (fun _ hk=>hk) trivial (Below.refl _ _) (lL_ _) (by simp) ?_;(case hd=>rfl);(case hg=>rfl);(case hr=>exact zz5);(case hp=>exact(Reps.one (show Kd.M Kd.string _ _ _ (⟨#[47,47,65,66,47,97]⟩:BA) [.string (⟨#[47,47,65,66,47,97]⟩:BA)]from rfl) (Reps.one (show Kd.M Kd.string _ _ _ (⟨#[47,47,99,100]⟩:BA) [.string (⟨#[47,47,99,100]⟩:BA)]from rfl) (Reps.one (show Kd.M Kd.string _ _ _ (⟨#[47,47,99,100,63,120]⟩:BA) [.string (⟨#[47,47,99,100,63,120]⟩:BA)]from rfl) (Reps.one (show Kd.M Kd.string _ _ _ (⟨#[47,47,97,98,47,37,54,49]⟩:BA) [.string (⟨#[47,47,97,98,47,37,54,49]⟩:BA)]from rfl) (Reps.one (show Kd.M Kd.string _ _ _ (⟨#[47,47,116,111,111,108,111,110,103,47,97]⟩:BA) [.string (⟨#[47,47,116,111,111,108,111,110,103,47,97]⟩:BA)]from rfl) (Reps.one (show Kd.M Kd.string _ _ _ (⟨#[47,47,97,49,47,98]⟩:BA) [.string (⟨#[47,47,97,49,47,98]⟩:BA)]from rfl) (Reps.one (show Kd.M Kd.string _ _ _ (⟨#[47,47,47,97]⟩:BA) [.string (⟨#[47,47,47,97]⟩:BA)]from rfl) (Reps.none _ _)))))))));intro v851 w30 ho31 hb hg_ hnew_;clear hg_ hnew_;(first|rw[←Ny850.out]at ho31|(simp only[Int.reduceToNat]at ho31;rw[←Ny850.out]at ho31));have HO852:=A_ (Kd.R_lower ho31 (keep_size (w:=w) (g:=g) (row:=none) (zz38 HK)));replace HK:=A_ (KeepBut.trans (zz38 HK) (KeepBut.of_below hb g none) (.inl rfl));replace HB:=A_ (bS (zz39 HB HI0) hb);replace HI0:=A_ (IsS105.below (zz37 HI0) hb);clear hb ho31;obtain⟨Ao32,co32,eo32⟩:=Kd.R_slice HO852.out;subst eo32)|(refine gR 49 (some 30) Tryz.func49 (spec_l6Rd_of.calls kj2 g s0_0 t832 _ _ y850 t853 t854 w0 _ ?side1 ?side2 ?side3 ?side4 ?side5 A29.out) ?_;(case side1=>exact(zz37 HI0));(case side2=>exact(zz39 HB HI0));(case side3=>exact(zz46 HO852));(case side4=>exact(Kd.R_reads' HO852.out).2.1);(case side5=>exact far_slice (IsS105.own_ne HI0.out HO852.out (by decide)));rintro w33 ⟨hi,hb,hk⟩;replace HO852:=A_ (Kd.R_mono (Kd.R_keep (IsS105.apart (show IsS105 w0 _ g s0_0 t832 from(zz37 HI0)) (zz7 HO852) (by decide)) hk (fun _ h=>h.2)) (fun _ h=>h.1));replace HK:=A_ (KeepBut.trans (zz38 HK) hk (.inl rfl));replace HB:=A_ (hb);replace HI0:=A_ (hi);(try clear hb hk hi)));go_ret;exact⟨zz9,(zz37 HI0),(zz39 HB HI0),(zz38 HK)⟩
       ·obtain⟨y855,Ny855⟩:=toY (([(⟨#[97]⟩:BA),(⟨#[98]⟩:BA),(⟨#[99]⟩:BA),(⟨#[97,47,98]⟩:BA)]:List BA))
        (first|with_reducible replace H:=bindZ Ny855 H|rw[←Ny855.out]at H|skip)
        replace H:=bindA H;obtain⟨⟨t858,t859⟩,A34,H⟩:=H;try dsimp only at H;simp only[oI_,pI_]at H;obtain⟨rfl,rfl⟩:=H;go_wp2_with (first|((with_reducible refine gD (N:=32) rfl ?_);refine Kd.R_lit Kd.string _ 9 ?hg (N:=32) ?hd (xs:=([(⟨#[97]⟩:BA),(⟨#[98]⟩:BA),(⟨#[99]⟩:BA),(⟨#[97,47,98]⟩:BA)]:List BA)) (inner:=[.string (⟨#[97]⟩:BA),.string (⟨#[98]⟩:BA),.string (⟨#[99]⟩:BA),.string (⟨#[97,47,98]⟩:BA)]) (ok:=fun _=>True) (okp:=fun _=>True) ?hr ?hp (fun _ hk=>hk) trivial (Below.refl _ _) (lL_ _) (by simp) ?_;(case hd=>rfl);(case hg=>rfl);(case hr=>exact zz5);(case hp=>exact(Reps.one (show Kd.M Kd.string _ _ _ (⟨#[97]⟩:BA) [.string (⟨#[97]⟩:BA)]from rfl) (Reps.one (show Kd.M Kd.string _ _ _ (⟨#[98]⟩:BA) [.string (⟨#[98]⟩:BA)]from rfl) (Reps.one (show Kd.M Kd.string _ _ _ (⟨#[99]⟩:BA) [.string (⟨#[99]⟩:BA)]from rfl) (Reps.one (show Kd.M Kd.string _ _ _ (⟨#[97,47,98]⟩:BA) [.string (⟨#[97,47,98]⟩:BA)]from rfl) (Reps.none _ _))))));intro v856 w35 ho36 hb hg_ hnew_;clear hg_ hnew_;(first|rw[←Ny855.out]at ho36|(simp only[Int.reduceToNat]at ho36;rw[←Ny855.out]at ho36));have HO857:=A_ (Kd.R_lower ho36 (keep_size (w:=w) (g:=g) (row:=none) (zz38 HK)));replace HK:=A_ (KeepBut.trans (zz38 HK) (KeepBut.of_below hb g none) (.inl rfl));replace HB:=A_ (bS (zz39 HB HI0) hb);replace HI0:=A_ (IsS105.below (zz37 HI0) hb);clear hb ho36;obtain⟨Ao37,co37,eo37⟩:=Kd.R_slice HO857.out;subst eo37)|(refine gR 49 (some 33) Tryz.func49 (spec_l6Rd_of.calls kj2 g s0_0 t832 _ _ y855 t858 t859 w0 _ ?side1 ?side2 ?side3 ?side4 ?side5 A34.out) ?_;(case side1=>exact(zz37 HI0));(case side2=>exact(zz39 HB HI0));(case side3=>exact(zz46 HO857));(case side4=>exact(Kd.R_reads' HO857.out).2.1);(case side5=>exact far_slice (IsS105.own_ne HI0.out HO857.out (by decide)));rintro w38 ⟨hi,hb,hk⟩;replace HO857:=A_ (Kd.R_mono (Kd.R_keep (IsS105.apart (show IsS105 w0 _ g s0_0 t832 from(zz37 HI0)) (zz7 HO857) (by decide)) hk (fun _ h=>h.2)) (fun _ h=>h.1));replace HK:=A_ (KeepBut.trans (zz38 HK) hk (.inl rfl));replace HB:=A_ (hb);replace HI0:=A_ (hi);(try clear hb hk hi)));go_ret;exact⟨zz9,(zz37 HI0),(zz39 HB HI0),(zz38 HK)⟩
def spec_l71Page.l0:Nat→BA→Int→List Int→Int→Option (BA×Int)
 |0,_,_,_,_=>none
 |k+1,x3,x4,x1000,x1001=>if x4>0 then((spec_l6Rd_pick.f k x1000 x1001 9).bind fun bt862=>(if bt862.1=0 then(if x3.size+1≤9223372036854775807 then((spec_l71Ref.f k x1000 bt862.2).bind fun bt864=>(if x3.size+1+bt864.1.size≤9223372036854775807 then(if x3.size+1+bt864.1.size+1≤9223372036854775807 then((spec_l71Ref.f k x1000 bt864.2).bind fun bt866=>(if x3.size+1+bt864.1.size+1+bt866.1.size≤9223372036854775807 then(if x3.size+1+bt864.1.size+1+bt866.1.size+2≤9223372036854775807 then(spec_l71Page.l0 k (((((x3++(⟨#[40]⟩:BA))++bt864.1)++(⟨#[60]⟩:BA))++bt866.1)++(⟨#[62,41]⟩:BA)) (wrap64 (x4-1)) x1000 bt866.2)else(none))else(none)))else(none))else(none)))else(none))else(if bt862.1=1 then(if x3.size+2≤9223372036854775807 then((spec_l71Ref.f k x1000 bt862.2).bind fun bt868=>(if x3.size+2+bt868.1.size≤9223372036854775807 then(if x3.size+2+bt868.1.size+1≤9223372036854775807 then(spec_l71Page.l0 k (((x3++(⟨#[60,33]⟩:BA))++bt868.1)++(⟨#[62]⟩:BA)) (wrap64 (x4-1)) x1000 bt868.2)else(none))else(none)))else(none))else(if bt862.1=2 then(if x3.size+2≤9223372036854775807 then((spec_l71Ref.f k x1000 bt862.2).bind fun bt870=>(if x3.size+2+bt870.1.size≤9223372036854775807 then(if x3.size+2+bt870.1.size+1≤9223372036854775807 then(spec_l71Page.l0 k (((x3++(⟨#[60,64]⟩:BA))++bt870.1)++(⟨#[62]⟩:BA)) (wrap64 (x4-1)) x1000 bt870.2)else(none))else(none)))else(none))else(if bt862.1=3 then((spec_l6Rd_of.f k x1000 bt862.2 (([(⟨#[116,101,120,116,32]⟩:BA),(⟨#[60]⟩:BA),(⟨#[62]⟩:BA),(⟨#[40]⟩:BA),(⟨#[41]⟩:BA),(⟨#[60,97]⟩:BA)]:List BA))).bind fun bt875=>(if x3.size+bt875.1.size≤9223372036854775807 then(spec_l71Page.l0 k (x3++bt875.1) (wrap64 (x4-1)) x1000 bt875.2)else(none)))else(if x3.size+1≤9223372036854775807 then((spec_l71Ref.f k x1000 bt862.2).bind fun bt877=>(if x3.size+1+bt877.1.size≤9223372036854775807 then(if x3.size+1+bt877.1.size+1≤9223372036854775807 then(spec_l71Page.l0 k (((x3++(⟨#[60]⟩:BA))++bt877.1)++(⟨#[62]⟩:BA)) (wrap64 (x4-1)) x1000 bt877.2)else(none))else(none)))else(none)))))))else(some (x3,x1001))
def spec_l71Page.f (k:Nat)(s0_0:List Int)(s0_1:Int):Option (BA×Int):=(spec_l6Rd_pick.f k s0_0 s0_1 5).bind fun bt860=>(spec_l71Page.l0 k (⟨#[]⟩:BA) bt860.1 s0_0 bt860.2)
theorem spec_l71Page.mono_l:∀k,(∀y0 y1 y2 y3,LeO (spec_l71Page.l0 k y0 y1 y2 y3) (spec_l71Page.l0 (k+1) y0 y1 y2 y3))
 |0=>by intros;intro r h;simp[spec_l71Page.l0]at h
 |k+1=>by
  have ih0:=spec_l71Page.mono_l k;intros;unfold spec_l71Page.l0;repeat' first|(with_reducible first|exact ih0 _ _ _ _|exact spec_l6Rd_of.mono _ _ _ _|exact spec_l6Rd_pick.mono _ _ _ _|exact spec_l71Ref.mono _ _ _|exact LeO.refl _|exact LeO.none _|refine LeO.ite ?_ ?_|refine LeO.bind ?_ (fun _=>?_))|exact LeO.none _|refine LeO.ite ?_ ?_|refine LeO.bind ?_ (fun _=>?_)
theorem spec_l71Page.calls (k:Nat)(g:Nat)(s0_0:List Int)(s0_1:Int)(r1:BA)(r2:Int)(w0 w:World)(hI:IsS105 w0 w g s0_0 s0_1)(hB:Below w0.heap.size w0 w)(h:spec_l71Page.f k s0_0 s0_1=some (r1,r2)):
  Calls Tryz.prog 111 #[.pointer (some ⟨g,0,none⟩)] w fun e w'=>e=.returned (.string r1)∧IsS105 w0 w' g s0_0 r2∧Below w0.heap.size w0 w'∧KeepBut w w' g none:=by
 have HI0:=A_ hI;have HK:=A_ (KeepBut.refl w g none);have HL:=A_ hB.size;clear hI;have HW0:=A_ hB.size;have HB:=A_ hB;clear hB;unfold spec_l71Page.f at h;have H:=h;clear h;replace H:=bindA H;obtain⟨⟨t860,t861⟩,A2,H⟩:=H;try dsimp only at H;have H':=A_ H;clear H;go_enter Tryz.func111,Tryz.ntmps111;go_wp2_with (first|(refine gR 81 (some 6) Tryz.func81 (spec_l6Rd_pick.calls k g s0_0 s0_1 5 t860 t861 w0 _ ?side1 ?side2 A2.out) ?_;(case side1=>exact(zz37 HI0));(case side2=>exact(zz39 HB HI0));rintro w3 ⟨hi,hb,hk⟩;replace HK:=A_ (KeepBut.trans (zz38 HK) hk (.inl rfl));replace HB:=A_ (hb);replace HI0:=A_ (hi);(try clear hb hk hi)))
 go_loopg [3,4] k (fun kq v3 v4 w'=>∃(x3_1:BA)(x4_1:Int)(x1001_1:Int),v3=.string x3_1∧v4=.int .i64 x4_1∧Aside0 (spec_l71Page.l0 kq x3_1 x4_1 s0_0 x1001_1=some (r1,r2))∧Aside0 (kq≤k)∧Aside0 (IsS105 w0 w' g s0_0 x1001_1)∧Aside0 (KeepBut w w' g none)∧Aside0 (Below w0.heap.size w0 w'))
 case atStart=>exact⟨((⟨#[]⟩:BA)),(t860),(t861),zz0,zz0,H',⟨lL_ _⟩,⟨(zz37 HI0)⟩,⟨(zz38 HK)⟩,⟨(zz39 HB HI0)⟩⟩
 case round=>
  clear H';obtain⟨x3_1,x4_1,x1001_1,rfl,rfl,HA,HK1,HI0,HK,HB⟩:=hrel;cases gk with
  |zero=>exact absurd HA.out (by simp[spec_l71Page.l0])
  |succ k1=>
   obtain⟨H⟩:=HA;simp only[spec_l71Page.l0]at H;replace H:=iteEg H;rcases H with⟨c4b0,H⟩|⟨c4b0,H⟩
   ·replace H:=bindA H
    obtain⟨⟨t862,t863⟩,A5,H⟩:=H;try dsimp only at H;have HF6:=A_ H;clear H;go_upto_if 19 with(first|(refine gR 81 (some 12) Tryz.func81 (spec_l6Rd_pick.calls k1 g s0_0 x1001_1 9 t862 t863 w0 _ ?side1 ?side2 A5.out) ?_;(case side1=>exact(zz37 HI0));(case side2=>exact(zz39 HB HI0));rintro w7 ⟨hi,hb,hk⟩;replace HK:=A_ (KeepBut.trans (zz38 HK) hk (.inl rfl));replace HB:=A_ (hb);replace HI0:=A_ (hi);(try clear hb hk hi)))
    obtain⟨H⟩:=HF6;replace H:=iteEq H;rcases H with⟨c8b0,c8b1,H⟩|⟨c8b0,c8b1,c8,H⟩
    ·(first|rw[c8b0]|(simp only[i64_w,i32_w];rw[c8b0])|skip)
     replace H:=iteN H;obtain⟨c9,H⟩:=H;have c9b0:=eq_true c9;have c9b1:=dT c9;try have c9b2:(9223372036854775807<x3_1.size+1)=False:=eq_false (nL_.2 c9);replace H:=bindA H;obtain⟨⟨t864,t865⟩,A10,H⟩:=H;try dsimp only at H;replace H:=iteN H;obtain⟨c11,H⟩:=H;have c11b0:=eq_true c11;have c11b1:=dT c11;try have c11b2:(9223372036854775807<x3_1.size+1+t864.size)=False:=eq_false (nL_.2 c11);replace H:=iteN H;obtain⟨c12,H⟩:=H;have c12b0:=eq_true c12;have c12b1:=dT c12;try have c12b2:(9223372036854775807<x3_1.size+1+t864.size+1)=False:=eq_false (nL_.2 c12);replace H:=bindA H;obtain⟨⟨t866,t867⟩,A13,H⟩:=H;try dsimp only at H;replace H:=iteN H;obtain⟨c14,H⟩:=H;have c14b0:=eq_true c14;have c14b1:=dT c14;try have c14b2:(9223372036854775807<x3_1.size+1+t864.size+1+t866.size)=False:=eq_false (nL_.2 c14);replace H:=iteN H;obtain⟨c15,H⟩:=H;have c15b0:=eq_true c15;have c15b1:=dT c15;try have c15b2:(9223372036854775807<x3_1.size+1+t864.size+1+t866.size+2)=False:=eq_false (nL_.2 c15);have H':=A_ H;clear H;go_wp2_with (first|(refine gR 141 (some 24) Tryz.func141 (spec_l71Ref.calls k1 g s0_0 t863 t864 t865 w0 _ ?side1 ?side2 A10.out) ?_;(case side1=>exact(zz37 HI0));(case side2=>exact(zz39 HB HI0));rintro w16 ⟨hi,hb,hk⟩;replace HK:=A_ (KeepBut.trans (zz38 HK) hk (.inl rfl));replace HB:=A_ (hb);replace HI0:=A_ (hi);(try clear hb hk hi))|(refine gR 141 (some 28) Tryz.func141 (spec_l71Ref.calls k1 g s0_0 t865 t866 t867 w0 _ ?side1 ?side2 A13.out) ?_;(case side1=>exact(zz37 HI0));(case side2=>exact(zz39 HB HI0));rintro w17 ⟨hi,hb,hk⟩;replace HK:=A_ (KeepBut.trans (zz38 HK) hk (.inl rfl));replace HB:=A_ (hb);replace HI0:=A_ (hi);(try clear hb hk hi)))
     go_roundg k1
     case measure=>have:=HK1.out;omega
     case rel=>exact⟨(((((x3_1++(⟨#[40]⟩:BA))++t864)++(⟨#[60]⟩:BA))++t866)++(⟨#[62,41]⟩:BA)),(wrap64 (x4_1-1)),(t867),zz0,zz0,H',⟨(zz4 HK1)⟩,⟨(zz37 HI0)⟩,⟨(zz38 HK)⟩,⟨(zz39 HB HI0)⟩⟩
    ·(first|rw[c8b0]|(simp only[i64_w,i32_w];rw[c8b0])|skip)
     replace H:=iteEq H;rcases H with⟨c18b0,c18b1,H⟩|⟨c18b0,c18b1,c18,H⟩
     ·replace H:=iteN H
      obtain⟨c19,H⟩:=H;have c19b0:=eq_true c19;have c19b1:=dT c19;try have c19b2:(9223372036854775807<x3_1.size+2)=False:=eq_false (nL_.2 c19);replace H:=bindA H;obtain⟨⟨t868,t869⟩,A20,H⟩:=H;try dsimp only at H;replace H:=iteN H;obtain⟨c21,H⟩:=H;have c21b0:=eq_true c21;have c21b1:=dT c21;try have c21b2:(9223372036854775807<x3_1.size+2+t868.size)=False:=eq_false (nL_.2 c21);replace H:=iteN H;obtain⟨c22,H⟩:=H;have c22b0:=eq_true c22;have c22b1:=dT c22;try have c22b2:(9223372036854775807<x3_1.size+2+t868.size+1)=False:=eq_false (nL_.2 c22);have H':=A_ H;clear H;go_wp2_with (first|(refine gR 141 (some 36) Tryz.func141 (spec_l71Ref.calls k1 g s0_0 t863 t868 t869 w0 _ ?side1 ?side2 A20.out) ?_;(case side1=>exact(zz37 HI0));(case side2=>exact(zz39 HB HI0));rintro w23 ⟨hi,hb,hk⟩;replace HK:=A_ (KeepBut.trans (zz38 HK) hk (.inl rfl));replace HB:=A_ (hb);replace HI0:=A_ (hi);(try clear hb hk hi)))
      go_roundg k1
      case measure=>have:=HK1.out;omega
      case rel=>exact⟨(((x3_1++(⟨#[60,33]⟩:BA))++t868)++(⟨#[62]⟩:BA)),(wrap64 (x4_1-1)),(t869),zz0,zz0,H',⟨(zz4 HK1)⟩,⟨(zz37 HI0)⟩,⟨(zz38 HK)⟩,⟨(zz39 HB HI0)⟩⟩
     ·replace H:=iteEq H
      rcases H with⟨c24b0,c24b1,H⟩|⟨c24b0,c24b1,c24,H⟩
      ·replace H:=iteN H
       obtain⟨c25,H⟩:=H;have c25b0:=eq_true c25;have c25b1:=dT c25;try have c25b2:(9223372036854775807<x3_1.size+2)=False:=eq_false (nL_.2 c25);replace H:=bindA H;obtain⟨⟨t870,t871⟩,A26,H⟩:=H;try dsimp only at H;replace H:=iteN H;obtain⟨c27,H⟩:=H;have c27b0:=eq_true c27;have c27b1:=dT c27;try have c27b2:(9223372036854775807<x3_1.size+2+t870.size)=False:=eq_false (nL_.2 c27);replace H:=iteN H;obtain⟨c28,H⟩:=H;have c28b0:=eq_true c28;have c28b1:=dT c28;try have c28b2:(9223372036854775807<x3_1.size+2+t870.size+1)=False:=eq_false (nL_.2 c28);have H':=A_ H;clear H;go_wp2_with (first|(refine gR 141 (some 44) Tryz.func141 (spec_l71Ref.calls k1 g s0_0 t863 t870 t871 w0 _ ?side1 ?side2 A26.out) ?_;(case side1=>exact(zz37 HI0));(case side2=>exact(zz39 HB HI0));rintro w29 ⟨hi,hb,hk⟩;replace HK:=A_ (KeepBut.trans (zz38 HK) hk (.inl rfl));replace HB:=A_ (hb);replace HI0:=A_ (hi);(try clear hb hk hi)))
       go_roundg k1
       case measure=>have:=HK1.out;omega
       case rel=>exact⟨(((x3_1++(⟨#[60,64]⟩:BA))++t870)++(⟨#[62]⟩:BA)),(wrap64 (x4_1-1)),(t871),zz0,zz0,H',⟨(zz4 HK1)⟩,⟨(zz37 HI0)⟩,⟨(zz38 HK)⟩,⟨(zz39 HB HI0)⟩⟩
      ·replace H:=iteEq H
       rcases H with⟨c30b0,c30b1,H⟩|⟨c30b0,c30b1,c30,H⟩
       ·obtain⟨y872,Ny872⟩:=toY (([(⟨#[116,101,120,116,32]⟩:BA),(⟨#[60]⟩:BA),(⟨#[62]⟩:BA),(⟨#[40]⟩:BA),(⟨#[41]⟩:BA),(⟨#[60,97]⟩:BA)]:List BA))
        (first|with_reducible replace H:=bindZ Ny872 H|rw[←Ny872.out]at H|skip)
        replace H:=bindA H;obtain⟨⟨t875,t876⟩,A31,H⟩:=H;try dsimp only at H;replace H:=iteN H;obtain⟨c32,H⟩:=H;have c32b0:=eq_true c32;have c32b1:=dT c32;try have c32b2:(9223372036854775807<x3_1.size+t875.size)=False:=eq_false (nL_.2 c32);have H':=A_ H;clear H;go_wp2_with (first|((with_reducible refine gD (N:=51) rfl ?_);refine Kd.R_lit Kd.string _ 9 ?hg (N:=51) ?hd (xs:=([(⟨#[116,101,120,116,32]⟩:BA),(⟨#[60]⟩:BA),(⟨#[62]⟩:BA),(⟨#[40]⟩:BA),(⟨#[41]⟩:BA),(⟨#[60,97]⟩:BA)]:List BA)) (inner:=[.string (⟨#[116,101,120,116,32]⟩:BA),.string (⟨#[60]⟩:BA),.string (⟨#[62]⟩:BA),.string (⟨#[40]⟩:BA),.string (⟨#[41]⟩:BA),.string (⟨#[60,97]⟩:BA)]) (ok:=fun _=>True) (okp:=fun _=>True) ?hr ?hp (fun _ hk=>hk) trivial (Below.refl _ _) (lL_ _) (by simp) ?_;(case hd=>rfl);(case hg=>rfl);(case hr=>exact zz5);(case hp=>exact(Reps.one (show Kd.M Kd.string _ _ _ (⟨#[116,101,120,116,32]⟩:BA) [.string (⟨#[116,101,120,116,32]⟩:BA)]from rfl) (Reps.one (show Kd.M Kd.string _ _ _ (⟨#[60]⟩:BA) [.string (⟨#[60]⟩:BA)]from rfl) (Reps.one (show Kd.M Kd.string _ _ _ (⟨#[62]⟩:BA) [.string (⟨#[62]⟩:BA)]from rfl) (Reps.one (show Kd.M Kd.string _ _ _ (⟨#[40]⟩:BA) [.string (⟨#[40]⟩:BA)]from rfl) (Reps.one (show Kd.M Kd.string _ _ _ (⟨#[41]⟩:BA) [.string (⟨#[41]⟩:BA)]from rfl) (Reps.one (show Kd.M Kd.string _ _ _ (⟨#[60,97]⟩:BA) [.string (⟨#[60,97]⟩:BA)]from rfl) (Reps.none _ _))))))));intro v873 w33 ho34 hb hg_ hnew_;clear hg_ hnew_;(first|rw[←Ny872.out]at ho34|(simp only[Int.reduceToNat]at ho34;rw[←Ny872.out]at ho34));have HO874:=A_ (Kd.R_lower ho34 (keep_size (w:=w) (g:=g) (row:=none) (zz38 HK)));replace HK:=A_ (KeepBut.trans (zz38 HK) (KeepBut.of_below hb g none) (.inl rfl));replace HB:=A_ (bS (zz39 HB HI0) hb);replace HI0:=A_ (IsS105.below (zz37 HI0) hb);clear hb ho34;obtain⟨Ao35,co35,eo35⟩:=Kd.R_slice HO874.out;subst eo35)|(refine gR 49 (some 52) Tryz.func49 (spec_l6Rd_of.calls k1 g s0_0 t863 _ _ y872 t875 t876 w0 _ ?side1 ?side2 ?side3 ?side4 ?side5 A31.out) ?_;(case side1=>exact(zz37 HI0));(case side2=>exact(zz39 HB HI0));(case side3=>exact(zz46 HO874));(case side4=>exact(Kd.R_reads' HO874.out).2.1);(case side5=>exact far_slice (IsS105.own_ne HI0.out HO874.out (by decide)));rintro w36 ⟨hi,hb,hk⟩;replace HO874:=A_ (Kd.R_mono (Kd.R_keep (IsS105.apart (show IsS105 w0 _ g s0_0 t863 from(zz37 HI0)) (zz7 HO874) (by decide)) hk (fun _ h=>h.2)) (fun _ h=>h.1));replace HK:=A_ (KeepBut.trans (zz38 HK) hk (.inl rfl));replace HB:=A_ (hb);replace HI0:=A_ (hi);(try clear hb hk hi)))
        go_roundg k1
        case measure=>have:=HK1.out;omega
        case rel=>exact⟨(x3_1++t875),(wrap64 (x4_1-1)),(t876),zz0,zz0,H',⟨(zz4 HK1)⟩,⟨(zz37 HI0)⟩,⟨(zz38 HK)⟩,⟨(zz39 HB HI0)⟩⟩
       ·replace H:=iteN H
        obtain⟨c37,H⟩:=H;have c37b0:=eq_true c37;have c37b1:=dT c37;try have c37b2:(9223372036854775807<x3_1.size+1)=False:=eq_false (nL_.2 c37);replace H:=bindA H;obtain⟨⟨t877,t878⟩,A38,H⟩:=H;try dsimp only at H;replace H:=iteN H;obtain⟨c39,H⟩:=H;have c39b0:=eq_true c39;have c39b1:=dT c39;try have c39b2:(9223372036854775807<x3_1.size+1+t877.size)=False:=eq_false (nL_.2 c39);replace H:=iteN H;obtain⟨c40,H⟩:=H;have c40b0:=eq_true c40;have c40b1:=dT c40;try have c40b2:(9223372036854775807<x3_1.size+1+t877.size+1)=False:=eq_false (nL_.2 c40);have H':=A_ H;clear H;go_wp2_with (first|(refine gR 141 (some 16) Tryz.func141 (spec_l71Ref.calls k1 g s0_0 t863 t877 t878 w0 _ ?side1 ?side2 A38.out) ?_;(case side1=>exact(zz37 HI0));(case side2=>exact(zz39 HB HI0));rintro w41 ⟨hi,hb,hk⟩;replace HK:=A_ (KeepBut.trans (zz38 HK) hk (.inl rfl));replace HB:=A_ (hb);replace HI0:=A_ (hi);(try clear hb hk hi)))
        go_roundg k1
        case measure=>have:=HK1.out;omega
        case rel=>exact⟨(((x3_1++(⟨#[60]⟩:BA))++t877)++(⟨#[62]⟩:BA)),(wrap64 (x4_1-1)),(t878),zz0,zz0,H',⟨(zz4 HK1)⟩,⟨(zz37 HI0)⟩,⟨(zz38 HK)⟩,⟨(zz39 HB HI0)⟩⟩
   ·simp only[oI_,pI_]at H
    obtain⟨rfl,rfl⟩:=H;go_wp2;go_ret;exact⟨zz9,(zz37 HI0),(zz39 HB HI0),(zz38 HK)⟩
mutual
def spec_l71World.l0:Nat→List (S57)→List BA→Int→List Int→Int→Option ((List (S57))×Int)
 |0,_,_,_,_,_=>none
 |k+1,x3,x4,x5,x1000,x1001=>if x5<4 then((spec_l6Rd_pick.f k x1000 x1001 2).bind fun bt885=>(if bt885.1=0 then(if 0≤x5 then(if x5<(x4.length:Int)then(if 2+(rdOf bE_ x4 x5).size≤9223372036854775807 then(if 2+(rdOf bE_ x4 x5).size+7≤9223372036854775807 then((spec_l71Groups.f k x1000 bt885.2).bind fun bt888=>((spec_NoticeText.f k bt888.1).bind fun t892=>((some (([0,0,0,1,2,5]:List Int):List Int)).bind fun y893=>((spec_l6Rd_pick.f k x1000 bt888.2 6).bind fun bt896=>(if 0≤bt896.1 then(if bt896.1<(y893.length:Int)then((spec_l6Rd_pick.f k x1000 bt896.2 12).bind fun bt900=>(if bt900.1=0 then((spec_l71Addr.f k x1000 bt900.2).bind fun bt902=>(if 0≤300 then(if x3.length<2513169434916 then(spec_l71World.l0 k (x3++[(⟨((⟨#[47,47]⟩:BA)++(rdOf bE_ x4 x5))++(⟨#[47,110,111,116,105,99,101]⟩:BA),(⟨#[]⟩:BA),bt902.1,rd y893 bt896.1⟩:S57)]) x4 (wrap64 (x5+1)) x1000 bt902.2)else(none))else(spec_l71World.l0 k x3 x4 (wrap64 (x5+1)) x1000 bt902.2)))else(if(t892.size:Int)≤300 then(if x3.length<2513169434916 then(spec_l71World.l0 k (x3++[(⟨((⟨#[47,47]⟩:BA)++(rdOf bE_ x4 x5))++(⟨#[47,110,111,116,105,99,101]⟩:BA),t892,(⟨#[]⟩:BA),rd y893 bt896.1⟩:S57)]) x4 (wrap64 (x5+1)) x1000 bt900.2)else(none))else(spec_l71World.l0 k x3 x4 (wrap64 (x5+1)) x1000 bt900.2))))else(none))else(none))))))else(none))else(none))else(none))else(none))else(spec_l71World.l0 k x3 x4 (wrap64 (x5+1)) x1000 bt885.2)))else((spec_l6Rd_pick.f k x1000 x1001 7).bind fun bt910=>(spec_l71World.l1 k x3 (wrap64 (2+bt910.1)) x1000 bt910.2))
def spec_l71World.l1:Nat→List (S57)→Int→List Int→Int→Option ((List (S57))×Int)
 |0,_,_,_,_=>none
 |k+1,x3,x7,x1000,x1001=>if x7>0 then((spec_l71Addr.f k x1000 x1001).bind fun bt912=>((spec_l71Page.f k x1000 bt912.2).bind fun bt914=>((some (([0,0,0,0,1,2,4]:List Int):List Int)).bind fun y916=>((spec_l6Rd_pick.f k x1000 bt914.2 7).bind fun bt919=>(if 0≤bt919.1 then(if bt919.1<(y916.length:Int)then((spec_l6Rd_pick.f k x1000 bt919.2 8).bind fun bt923=>(if bt923.1=0 then((spec_l71Addr.f k x1000 bt923.2).bind fun bt925=>((spec_l11At.f k x3 bt912.1).bind fun bt927=>(if bt927.2.2.2.2=true then(spec_l71World.l1 k x3 (wrap64 (x7-1)) x1000 bt925.2)else(if 0≤300 then(if x3.length<2513169434916 then(spec_l71World.l1 k (x3++[(⟨bt912.1,(⟨#[]⟩:BA),bt925.1,rd y916 bt919.1⟩:S57)]) (wrap64 (x7-1)) x1000 bt925.2)else(none))else(spec_l71World.l1 k x3 (wrap64 (x7-1)) x1000 bt925.2)))))else((spec_l11At.f k x3 bt912.1).bind fun bt936=>(if bt936.2.2.2.2=true then(spec_l71World.l1 k x3 (wrap64 (x7-1)) x1000 bt923.2)else(if(bt914.1.size:Int)≤300 then(if x3.length<2513169434916 then(spec_l71World.l1 k (x3++[(⟨bt912.1,bt914.1,(⟨#[]⟩:BA),rd y916 bt919.1⟩:S57)]) (wrap64 (x7-1)) x1000 bt923.2)else(none))else(spec_l71World.l1 k x3 (wrap64 (x7-1)) x1000 bt923.2))))))else(none))else(none))))))else(some (x3,x1001))
end
def spec_l71World.f (k:Nat)(s0_0:List Int)(s0_1:Int):Option ((List (S57))×Int):=(spec_l71Houses.f).bind fun t882=>(spec_l71World.l0 k (([]:List (S57))) t882 0 s0_0 s0_1)
def spec_l71World.T7:Bool×List (List Nat×List Nat):=(true,[([],[]),([],[]),([0,1],[0,1]),([2],[2]),([3],[3]),([4],[4]),([],[]),([6],[6]),([7,7],[7]),([],[]),([],[]),([10,8],[10]),([9,11],[9,11]),([12],[12]),([5,8,13],[5,8,13]),([],[]),([15,14,11,0,1,2,3,4,5,6,7,8,9,10,11,12,13,14,15],[14,15])])
def spec_l71World.B7:List Nat:=[0,0,3,7,15,31,0,64,192,0,0,1472,4032,8128,16383,0,65535]
theorem spec_l71World.tab7:rtab .any (opsOf Tryz.f80 7)=spec_l71World.T7:=by kernel_rfl
theorem spec_l71World.bits7:waitsOk spec_l71World.T7.2 spec_l71World.B7=true:=by kernel_rfl
theorem spec_l71World.calls (k:Nat)(g:Nat)(s0_0:List Int)(s0_1:Int)(r1:List (S57))(r2:Int)(w0 w:World)(hI:IsS105 w0 w g s0_0 s0_1)(hB:Below w0.heap.size w0 w)(h:spec_l71World.f k s0_0 s0_1=some (r1,r2)):
  Calls Tryz.prog 80 #[.pointer (some ⟨g,0,none⟩)] w fun e w'=>∃v0_:Value,e=.returned (v0_)∧Kd.R k57 57 w' w.heap.size (fun _=>True) v0_ r1∧IsS105 w0 w' g s0_0 r2∧Below w0.heap.size w0 w'∧KeepBut w w' g none:=by
 have hu57:=Tryz.underlying57;have HI0:=A_ hI;have HK:=A_ (KeepBut.refl w g none);have HL:=A_ hB.size;clear hI;have HW0:=A_ hB.size;have HB:=A_ hB;clear hB;unfold spec_l71World.f at h;have H:=h;clear h;obtain⟨y879,Ny879⟩:=toY (([]:List (S57)));(first|with_reducible replace H:=bindZ Ny879 H|rw[←Ny879.out]at H|skip);replace H:=bindA H;obtain⟨t882,A2,H⟩:=H;have H':=A_ H;clear H;go_enter Tryz.func80,Tryz.ntmps80;go_wp2_with (first|((with_reducible refine gD (N:=11) rfl ?_);(try(refine gate_guard (by rfl) ?_;dsimp only));refine Kd.R_lit k57 _ 57 ?hg (N:=11) ?hd (xs:=([]:List (S57))) (inner:=[]) (ok:=fun _=>True) (okp:=fun _=>True) ?hr ?hp (fun _ hk=>hk) trivial (Below.refl _ _) (lL_ _) (by simp) ?_;(case hd=>rfl);(case hg=>rfl);(case hr=>exact zz5);(case hp=>exact(Reps.none _ _));intro v880 w3 ho4 hb hg_ hnew_;clear hg_ hnew_;(first|rw[←Ny879.out]at ho4|(simp only[Int.reduceToNat]at ho4;rw[←Ny879.out]at ho4));have HO881:=A_ (Kd.R_lower ho4 (keep_size (w:=w) (g:=g) (row:=none) (zz38 HK)));replace HK:=A_ (KeepBut.trans (zz38 HK) (KeepBut.of_below hb g none) (.inl rfl));replace HB:=A_ (bS (zz39 HB HI0) hb);replace HI0:=A_ (IsS105.below (zz37 HI0) hb);clear hb ho4)|(refine gV 107 (some 12) Tryz.func107 (spec_l71Houses.calls  t882 _ A2.out) ?_;rintro v883 w5 ⟨ho0,hb⟩;replace HO881:=A_ (rB (zz7 HO881) hb);have HO884:=A_ (Kd.R_lower ho0 (keep_size (w:=w) (g:=g) (row:=none) (zz38 HK)));replace HK:=A_ (KeepBut.trans (zz38 HK) (KeepBut.of_below hb g none) (.inl rfl));replace HB:=A_ (bS (zz39 HB HI0) hb);replace HI0:=A_ (IsS105.below (zz37 HI0) hb);(try clear hb ho0)))
 go_loopg [3,5] k (fun kq v3 v5 w'=>∃(x3_1:List (S57))(x5_1:Int)(x1001_1:Int),v5=.int .i64 x5_1∧Aside0 (spec_l71World.l0 kq x3_1 t882 x5_1 s0_0 x1001_1=some (r1,r2))∧Aside0 (kq≤k)∧Aside0 (Kd.R k57 57 w' w.heap.size (fun _=>True) v3 x3_1)∧Aside0 (Kd.R Kd.string 9 w' w.heap.size (fun _=>True) v883 t882)∧Aside0 (IsS105 w0 w' g s0_0 x1001_1)∧Aside0 (KeepBut w w' g none)∧Aside0 (Below w0.heap.size w0 w'))
 case atStart=>exact⟨(y879),(0),(s0_1),zz0,H',⟨lL_ _⟩,⟨(zz7 HO881)⟩,⟨(zz7 HO884)⟩,⟨(zz37 HI0)⟩,⟨(zz38 HK)⟩,⟨(zz39 HB HI0)⟩⟩
 case round=>
  clear H';obtain⟨x3_1,x5_1,x1001_1,rfl,HA,HK1,HO_3,HO_4,HI0,HK,HB⟩:=hrel;cases gk with
  |zero=>exact absurd HA.out (by simp[spec_l71World.l0])
  |succ k1=>
   obtain⟨H⟩:=HA;simp only[spec_l71World.l0]at H;replace H:=iteEd H;rcases H with⟨c6b0,H⟩|⟨c6b0,H⟩
   ·replace H:=bindA H
    obtain⟨⟨t885,t886⟩,A7,H⟩:=H;try dsimp only at H;have HF8:=A_ H;clear H;go_upto_if 19 with(first|(refine gR 81 (some 18) Tryz.func81 (spec_l6Rd_pick.calls k1 g s0_0 x1001_1 2 t885 t886 w0 _ ?side1 ?side2 A7.out) ?_;(case side1=>exact(zz37 HI0));(case side2=>exact(zz39 HB HI0));rintro w9 ⟨hi,hb,hk⟩;replace HO_3:=A_ (Kd.R_mono (Kd.R_keep (IsS105.apart (show IsS105 w0 _ g s0_0 x1001_1 from(zz37 HI0)) (zz7 HO_3) (by decide)) hk (fun _ h=>h.2)) (fun _ h=>h.1));replace HO_4:=A_ (Kd.R_mono (Kd.R_keep (IsS105.apart (show IsS105 w0 _ g s0_0 x1001_1 from(zz37 HI0)) (zz7 HO_4) (by decide)) hk (fun _ h=>h.2)) (fun _ h=>h.1));replace HK:=A_ (KeepBut.trans (zz38 HK) hk (.inl rfl));replace HB:=A_ (hb);replace HI0:=A_ (hi);(try clear hb hk hi)))
    obtain⟨H⟩:=HF8;replace H:=iteEq H;rcases H with⟨c10b0,c10b1,H⟩|⟨c10b0,c10b1,c10,H⟩
    ·(first|rw[c10b0]|(simp only[i64_w,i32_w];rw[c10b0])|skip)
     replace H:=iteNd H;obtain⟨c11b0,H⟩:=H;replace H:=iteNd H;obtain⟨c12b0,H⟩:=H;replace H:=iteN H;obtain⟨c13,H⟩:=H;have c13b0:=eq_true c13;have c13b1:=dT c13;try have c13b2:(9223372036854775807<2+(rdOf bE_ t882 x5_1).size)=False:=eq_false (nL_.2 c13);replace H:=iteN H;obtain⟨c14,H⟩:=H;have c14b0:=eq_true c14;have c14b1:=dT c14;try have c14b2:(9223372036854775807<2+(rdOf bE_ t882 x5_1).size+7)=False:=eq_false (nL_.2 c14);replace H:=bindA H;obtain⟨⟨t888,t891⟩,A15,H⟩:=H;try dsimp only at H;replace H:=bindA H;obtain⟨t892,A16,H⟩:=H;obtain⟨y893,Ny893,H⟩:=bindY H;replace H:=bindA H;obtain⟨⟨t896,t897⟩,A17,H⟩:=H;try dsimp only at H;replace H:=iteNd H;obtain⟨c18b0,H⟩:=H;replace H:=iteNd H;obtain⟨c19b0,H⟩:=H;replace H:=bindA H;obtain⟨⟨t900,t901⟩,A20,H⟩:=H;try dsimp only at H;have HF21:=A_ H;clear H;try go_wp2;have pi898:(0≤(t896:Int))=True:=eq_true ofD;have qi898:(t896<(y893.length:Int))=True:=eq_true ofD;replace HO_3:=A_ (Kd.R_drew HO_3.out);replace HO_4:=A_ (Kd.R_drew HO_4.out);replace HI0:=A_ (IsS105.drew HI0.out);replace HK:=A_ (keep_drew HK.out);replace HB:=A_ (below_drew1 HB.out);obtain⟨Ao23,co23,eo23⟩:=Kd.R_slice HO_4.out;(first|subst eo23|(injection eo23 with f1_ f2_ f3_;have f4_:=f1_.symm;have f5_:=f3_.symm;clear f1_ f2_ f3_;subst f4_;subst f5_));obtain⟨⟨ad887,e887,hx887_0⟩,p887,q887⟩:=atB (Kd.at_string (Kd.R_reads' HO_4.out).2.2 x5_1);cases e887;refine start_ (n:=17) (S:=fun w'=>w'.cell? (ad887.add (x5_1).toNat)=some (.string (rdOf bE_ t882 x5_1))) (ds:=[]) #[yF,yF,yF,yF,yF,yF,yF,yF,yF,yF,yF,yF,yF,yF,yF,yF,yF] (by kernel_rfl) rfl rfl (hx887_0) (fun hHeld=>?_);refine with_tabW spec_l71World.tab7 spec_l71World.bits7 (fun HT_ HW_=>?_);generalize w9.drew=w22 at HO_3 HO_4 HI0 HK HB hx887_0 hHeld ⊢;refine pureZ 0 (some 20) (yA 1 16) ?_;refine pureZ 1 (some 21) (yA 2 15) ?_;refine pureZ 2 (some 22) (yA 3 14) ?_;refine pureZ 6 (some 26) #[yT,yT,yT,yF,yF,yF,yT,yF,yF,yF,yF,yF,yF,yF,yF,yF,yF] ?_;refine pureZ 10 (some 30) #[yT,yT,yT,yF,yF,yF,yT,yF,yF,yF,yT,yF,yF,yF,yF,yF,yF] ?_;refine take_ (i:=3) (N:=some 23) (v:=?_) (a':=?_) #[yT,yT,yT,yT,yF,yF,yT,yF,yF,yF,yT,yF,yF,yF,yF,yF,yF] rfl rfl (take_ofW HT_.out HW_.out (by kernel_rfl)) (fun _ _ _ h=>h) (Or.inl ⟨by rfl,?_⟩) hHeld ?_ ?_;rotate_left
     ·intro w' s0
      go_simp
      with_reducible rfl
     rotate_left
     ·simp only[Act.put,lS_,l0_,lC_,i64_w,i32_w]
      rfl
     refine pureZ 4 (some 24) #[yT,yT,yT,yT,yT,yF,yT,yF,yF,yF,yT,yF,yF,yF,yF,yF,yF] ?_;refine pureZ 5 (some 25) #[yT,yT,yT,yT,yT,yT,yT,yF,yF,yF,yT,yF,yF,yF,yF,yF,yF] ?_;refine join_ (σ:=Value×Value×Addr×Nat) 1 (yA 16 1) (fun s_=>[(27,s_.1),(28,.string t892),(29,s_.2.1),(31,.int .i64 t896),(33,.int .i64 (rd y893 t896)),(6,.pointer (some ⟨s_.2.2.2,0,none⟩)),(32,.pointer (some (s_.2.2.1.add (t896).toNat))),(34,.agg #[.string (((⟨#[47,47]⟩:BA)++(rdOf bE_ t882 x5_1))++(⟨#[47,110,111,116,105,99,101]⟩:BA)),.string t892,.string (⟨#[]⟩:BA),.int .i64 (rd y893 t896)])]) (fun s_ w'=>(w'.cell? (ad887.add (x5_1).toNat)=some (.string (rdOf bE_ t882 x5_1)))∧(Kd.S k32 32 w' w.heap.size (fun k_=>some k_≠(.slice (some ad887) t882.length co23:Value).ownBlock) s_.1 t888)∧(Kd.R (Kd.int .i64) 3 w' w.heap.size (fun _=>True) s_.2.1 y893)∧(Kd.R k57 57 w' w.heap.size (fun k_=>k_≠s_.2.2.2) u3 x3_1)∧(Kd.R Kd.string 9 w' w.heap.size (fun _=>True) (.slice (some ad887) t882.length co23) t882)∧(∃c_,(s_.2.1:Value)=.slice (some s_.2.2.1) y893.length c_)∧(w'.heap[s_.2.2.2]?=some (.cells #[.string (⟨#[]⟩:BA),.string (⟨#[]⟩:BA),.string (⟨#[]⟩:BA),.int .i64 0] 57 (0,0)))∧(w.heap.size≤s_.2.2.2)∧(w0.heap.size≤s_.2.2.2)∧(g≠s_.2.2.2)∧(s_.2.2.2≠g)∧(IsS105 w0 w' g s0_0 t897)∧(KeepBut w w' g none)∧(Below w0.heap.size w0 w')) ?_ ?_;rotate_left
     ·intro hJ7_8_9_11_13_15
      refine join_ (σ:=Value×Value×Addr) 2 (yA 15 2) (fun s_=>[(27,s_.1),(28,.string t892),(29,s_.2.1),(31,.int .i64 t896),(33,.int .i64 (rd y893 t896)),(32,.pointer (some (s_.2.2.add (t896).toNat))),(34,.agg #[.string (((⟨#[47,47]⟩:BA)++(rdOf bE_ t882 x5_1))++(⟨#[47,110,111,116,105,99,101]⟩:BA)),.string t892,.string (⟨#[]⟩:BA),.int .i64 (rd y893 t896)])]) (fun s_ w'=>(w'.cell? (ad887.add (x5_1).toNat)=some (.string (rdOf bE_ t882 x5_1)))∧(Kd.S k32 32 w' w.heap.size (fun k_=>some k_≠(.slice (some ad887) t882.length co23:Value).ownBlock) s_.1 t888)∧(Kd.R (Kd.int .i64) 3 w' w.heap.size (fun _=>True) s_.2.1 y893)∧(Kd.R k57 57 w' w.heap.size (fun _=>True) u3 x3_1)∧(Kd.R Kd.string 9 w' w.heap.size (fun _=>True) (.slice (some ad887) t882.length co23) t882)∧(∃c_,(s_.2.1:Value)=.slice (some s_.2.2) y893.length c_)∧(IsS105 w0 w' g s0_0 t897)∧(KeepBut w w' g none)∧(Below w0.heap.size w0 w')) ?_ ?_;rotate_left
      ·intro hJ7_8_9_11_13
       refine join_ (σ:=Value×Value×Addr×Nat) 3 #[yT,yT,yT,yT,yT,yT,yT,yT,yT,yT,yT,yT,yT,yF,yF,yT,yF] (fun s_=>[(27,s_.1),(28,.string t892),(29,s_.2.1),(31,.int .i64 t896),(6,.pointer (some ⟨s_.2.2.2,0,none⟩)),(32,.pointer (some (s_.2.2.1.add (t896).toNat)))]) (fun s_ w'=>(w'.cell? (ad887.add (x5_1).toNat)=some (.string (rdOf bE_ t882 x5_1)))∧(Kd.S k32 32 w' w.heap.size (fun k_=>some k_≠(.slice (some ad887) t882.length co23:Value).ownBlock) s_.1 t888)∧(Kd.R (Kd.int .i64) 3 w' w.heap.size (fun _=>True) s_.2.1 y893)∧(Kd.R k57 57 w' w.heap.size (fun k_=>k_≠s_.2.2.2) u3 x3_1)∧(Kd.R Kd.string 9 w' w.heap.size (fun _=>True) (.slice (some ad887) t882.length co23) t882)∧(∃c_,(s_.2.1:Value)=.slice (some s_.2.2.1) y893.length c_)∧(w'.heap[s_.2.2.2]?=some (.cells #[.string (⟨#[]⟩:BA),.string (⟨#[]⟩:BA),.string (⟨#[]⟩:BA),.int .i64 0] 57 (0,0)))∧(w.heap.size≤s_.2.2.2)∧(w0.heap.size≤s_.2.2.2)∧(g≠s_.2.2.2)∧(s_.2.2.2≠g)∧(IsS105 w0 w' g s0_0 t897)∧(KeepBut w w' g none)∧(Below w0.heap.size w0 w')) ?_ ?_;rotate_left
       ·intro hJ7_8_9_11_15
        refine join_ (σ:=Value×Value×Addr) 4 (yA 13 4) (fun s_=>[(27,s_.1),(28,.string t892),(29,s_.2.1),(31,.int .i64 t896),(32,.pointer (some (s_.2.2.add (t896).toNat)))]) (fun s_ w'=>(w'.cell? (ad887.add (x5_1).toNat)=some (.string (rdOf bE_ t882 x5_1)))∧(Kd.S k32 32 w' w.heap.size (fun k_=>some k_≠(.slice (some ad887) t882.length co23:Value).ownBlock) s_.1 t888)∧(Kd.R (Kd.int .i64) 3 w' w.heap.size (fun _=>True) s_.2.1 y893)∧(Kd.R k57 57 w' w.heap.size (fun _=>True) u3 x3_1)∧(Kd.R Kd.string 9 w' w.heap.size (fun _=>True) (.slice (some ad887) t882.length co23) t882)∧(∃c_,(s_.2.1:Value)=.slice (some s_.2.2) y893.length c_)∧(IsS105 w0 w' g s0_0 t897)∧(KeepBut w w' g none)∧(Below w0.heap.size w0 w')) ?_ ?_;rotate_left
        ·intro hJ7_8_9_11
         refine join_ (σ:=Value×Value×Addr×Nat) 5 #[yT,yT,yT,yT,yT,yT,yT,yT,yT,yT,yT,yF,yF,yF,yF,yT,yF] (fun s_=>[(27,s_.1),(28,.string t892),(29,s_.2.1),(6,.pointer (some ⟨s_.2.2.2,0,none⟩))]) (fun s_ w'=>(w'.cell? (ad887.add (x5_1).toNat)=some (.string (rdOf bE_ t882 x5_1)))∧(Kd.S k32 32 w' w.heap.size (fun k_=>some k_≠(.slice (some ad887) t882.length co23:Value).ownBlock) s_.1 t888)∧(Kd.R (Kd.int .i64) 3 w' w.heap.size (fun _=>True) s_.2.1 y893)∧(Kd.R k57 57 w' w.heap.size (fun k_=>k_≠s_.2.2.2) u3 x3_1)∧(Kd.R Kd.string 9 w' w.heap.size (fun _=>True) (.slice (some ad887) t882.length co23) t882)∧(∃c_,(s_.2.1:Value)=.slice (some s_.2.2.1) y893.length c_)∧(w'.heap[s_.2.2.2]?=some (.cells #[.string (⟨#[]⟩:BA),.string (⟨#[]⟩:BA),.string (⟨#[]⟩:BA),.int .i64 0] 57 (0,0)))∧(w.heap.size≤s_.2.2.2)∧(w0.heap.size≤s_.2.2.2)∧(g≠s_.2.2.2)∧(s_.2.2.2≠g)∧(IsS105 w0 w' g s0_0 t891)∧(KeepBut w w' g none)∧(Below w0.heap.size w0 w')) ?_ ?_;rotate_left
         ·intro hJ7_8_9_15
          refine join_ (σ:=Value×Nat) 5 #[yT,yT,yT,yT,yT,yT,yT,yT,yT,yF,yT,yT,yF,yF,yF,yT,yF] (fun s_=>[(27,s_.1),(28,.string t892),(31,.int .i64 t896),(6,.pointer (some ⟨s_.2,0,none⟩))]) (fun s_ w'=>(w'.cell? (ad887.add (x5_1).toNat)=some (.string (rdOf bE_ t882 x5_1)))∧(Kd.S k32 32 w' w.heap.size (fun k_=>some k_≠(.slice (some ad887) t882.length co23:Value).ownBlock) s_.1 t888)∧(Kd.R k57 57 w' w.heap.size (fun k_=>k_≠s_.2) u3 x3_1)∧(Kd.R Kd.string 9 w' w.heap.size (fun _=>True) (.slice (some ad887) t882.length co23) t882)∧(w'.heap[s_.2]?=some (.cells #[.string (⟨#[]⟩:BA),.string (⟨#[]⟩:BA),.string (⟨#[]⟩:BA),.int .i64 0] 57 (0,0)))∧(w.heap.size≤s_.2)∧(w0.heap.size≤s_.2)∧(g≠s_.2)∧(s_.2≠g)∧(IsS105 w0 w' g s0_0 t897)∧(KeepBut w w' g none)∧(Below w0.heap.size w0 w')) ?_ ?_;rotate_left
          ·intro hJ7_8_11_15
           refine join_ (σ:=Value×Value×Addr) 6 (yA 11 6) (fun s_=>[(27,s_.1),(28,.string t892),(29,s_.2.1)]) (fun s_ w'=>(w'.cell? (ad887.add (x5_1).toNat)=some (.string (rdOf bE_ t882 x5_1)))∧(Kd.S k32 32 w' w.heap.size (fun k_=>some k_≠(.slice (some ad887) t882.length co23:Value).ownBlock) s_.1 t888)∧(Kd.R (Kd.int .i64) 3 w' w.heap.size (fun _=>True) s_.2.1 y893)∧(Kd.R k57 57 w' w.heap.size (fun _=>True) u3 x3_1)∧(Kd.R Kd.string 9 w' w.heap.size (fun _=>True) (.slice (some ad887) t882.length co23) t882)∧(∃c_,(s_.2.1:Value)=.slice (some s_.2.2) y893.length c_)∧(IsS105 w0 w' g s0_0 t891)∧(KeepBut w w' g none)∧(Below w0.heap.size w0 w')) ?_ ?_;rotate_left
           ·intro hJ7_8_9
            refine join_ (σ:=Value) 6 #[yT,yT,yT,yT,yT,yT,yT,yT,yT,yF,yT,yT,yF,yF,yF,yF,yF] (fun s_=>[(27,s_),(28,.string t892),(31,.int .i64 t896)]) (fun s_ w'=>(w'.cell? (ad887.add (x5_1).toNat)=some (.string (rdOf bE_ t882 x5_1)))∧(Kd.S k32 32 w' w.heap.size (fun k_=>some k_≠(.slice (some ad887) t882.length co23:Value).ownBlock) s_ t888)∧(Kd.R k57 57 w' w.heap.size (fun _=>True) u3 x3_1)∧(Kd.R Kd.string 9 w' w.heap.size (fun _=>True) (.slice (some ad887) t882.length co23) t882)∧(IsS105 w0 w' g s0_0 t897)∧(KeepBut w w' g none)∧(Below w0.heap.size w0 w')) ?_ ?_;rotate_left
            ·intro hJ7_8_11
             refine join_ (σ:=Value×Nat) 6 #[yT,yT,yT,yT,yT,yT,yT,yT,yT,yF,yT,yF,yF,yF,yF,yT,yF] (fun s_=>[(27,s_.1),(28,.string t892),(6,.pointer (some ⟨s_.2,0,none⟩))]) (fun s_ w'=>(w'.cell? (ad887.add (x5_1).toNat)=some (.string (rdOf bE_ t882 x5_1)))∧(Kd.S k32 32 w' w.heap.size (fun k_=>some k_≠(.slice (some ad887) t882.length co23:Value).ownBlock) s_.1 t888)∧(Kd.R k57 57 w' w.heap.size (fun k_=>k_≠s_.2) u3 x3_1)∧(Kd.R Kd.string 9 w' w.heap.size (fun _=>True) (.slice (some ad887) t882.length co23) t882)∧(w'.heap[s_.2]?=some (.cells #[.string (⟨#[]⟩:BA),.string (⟨#[]⟩:BA),.string (⟨#[]⟩:BA),.int .i64 0] 57 (0,0)))∧(w.heap.size≤s_.2)∧(w0.heap.size≤s_.2)∧(g≠s_.2)∧(s_.2≠g)∧(IsS105 w0 w' g s0_0 t891)∧(KeepBut w w' g none)∧(Below w0.heap.size w0 w')) ?_ ?_;rotate_left
             ·intro hJ7_8_15
              refine join_ (σ:=Value×Value×Addr×Nat) 6 #[yT,yT,yT,yT,yT,yT,yT,yT,yF,yT,yT,yF,yF,yF,yF,yT,yF] (fun s_=>[(27,s_.1),(29,s_.2.1),(6,.pointer (some ⟨s_.2.2.2,0,none⟩))]) (fun s_ w'=>(w'.cell? (ad887.add (x5_1).toNat)=some (.string (rdOf bE_ t882 x5_1)))∧(Kd.S k32 32 w' w.heap.size (fun k_=>some k_≠(.slice (some ad887) t882.length co23:Value).ownBlock) s_.1 t888)∧(Kd.R (Kd.int .i64) 3 w' w.heap.size (fun _=>True) s_.2.1 y893)∧(Kd.R k57 57 w' w.heap.size (fun k_=>k_≠s_.2.2.2) u3 x3_1)∧(Kd.R Kd.string 9 w' w.heap.size (fun _=>True) (.slice (some ad887) t882.length co23) t882)∧(∃c_,(s_.2.1:Value)=.slice (some s_.2.2.1) y893.length c_)∧(w'.heap[s_.2.2.2]?=some (.cells #[.string (⟨#[]⟩:BA),.string (⟨#[]⟩:BA),.string (⟨#[]⟩:BA),.int .i64 0] 57 (0,0)))∧(w.heap.size≤s_.2.2.2)∧(w0.heap.size≤s_.2.2.2)∧(g≠s_.2.2.2)∧(s_.2.2.2≠g)∧(IsS105 w0 w' g s0_0 t891)∧(KeepBut w w' g none)∧(Below w0.heap.size w0 w')) ?_ ?_;rotate_left
              ·intro hJ7_9_15
               refine join_ (σ:=Value) 7 #[yT,yT,yT,yT,yT,yT,yT,yT,yT,yF,yT,yF,yF,yF,yF,yF,yF] (fun s_=>[(27,s_),(28,.string t892)]) (fun s_ w'=>(w'.cell? (ad887.add (x5_1).toNat)=some (.string (rdOf bE_ t882 x5_1)))∧(Kd.S k32 32 w' w.heap.size (fun k_=>some k_≠(.slice (some ad887) t882.length co23:Value).ownBlock) s_ t888)∧(Kd.R k57 57 w' w.heap.size (fun _=>True) u3 x3_1)∧(Kd.R Kd.string 9 w' w.heap.size (fun _=>True) (.slice (some ad887) t882.length co23) t882)∧(IsS105 w0 w' g s0_0 t891)∧(KeepBut w w' g none)∧(Below w0.heap.size w0 w')) ?_ ?_;rotate_left
               ·intro hJ7_8
                refine join_ (σ:=Value×Value×Addr) 7 #[yT,yT,yT,yT,yT,yT,yT,yT,yF,yT,yT,yF,yF,yF,yF,yF,yF] (fun s_=>[(27,s_.1),(29,s_.2.1)]) (fun s_ w'=>(w'.cell? (ad887.add (x5_1).toNat)=some (.string (rdOf bE_ t882 x5_1)))∧(Kd.S k32 32 w' w.heap.size (fun k_=>some k_≠(.slice (some ad887) t882.length co23:Value).ownBlock) s_.1 t888)∧(Kd.R (Kd.int .i64) 3 w' w.heap.size (fun _=>True) s_.2.1 y893)∧(Kd.R k57 57 w' w.heap.size (fun _=>True) u3 x3_1)∧(Kd.R Kd.string 9 w' w.heap.size (fun _=>True) (.slice (some ad887) t882.length co23) t882)∧(∃c_,(s_.2.1:Value)=.slice (some s_.2.2) y893.length c_)∧(IsS105 w0 w' g s0_0 t891)∧(KeepBut w w' g none)∧(Below w0.heap.size w0 w')) ?_ ?_;rotate_left
                ·intro hJ7_9
                 refine join_ (σ:=Value×Nat) 7 #[yT,yT,yT,yT,yT,yT,yT,yT,yF,yF,yT,yF,yF,yF,yF,yT,yF] (fun s_=>[(27,s_.1),(6,.pointer (some ⟨s_.2,0,none⟩))]) (fun s_ w'=>(w'.cell? (ad887.add (x5_1).toNat)=some (.string (rdOf bE_ t882 x5_1)))∧(Kd.S k32 32 w' w.heap.size (fun k_=>some k_≠(.slice (some ad887) t882.length co23:Value).ownBlock) s_.1 t888)∧(Kd.R k57 57 w' w.heap.size (fun k_=>k_≠s_.2) u3 x3_1)∧(Kd.R Kd.string 9 w' w.heap.size (fun _=>True) (.slice (some ad887) t882.length co23) t882)∧(w'.heap[s_.2]?=some (.cells #[.string (⟨#[]⟩:BA),.string (⟨#[]⟩:BA),.string (⟨#[]⟩:BA),.int .i64 0] 57 (0,0)))∧(w.heap.size≤s_.2)∧(w0.heap.size≤s_.2)∧(g≠s_.2)∧(s_.2≠g)∧(IsS105 w0 w' g s0_0 t891)∧(KeepBut w w' g none)∧(Below w0.heap.size w0 w')) ?_ ?_;rotate_left
                 ·intro hJ7_15
                  refine join_ (σ:=Value×Addr×Nat) 7 #[yT,yT,yT,yT,yT,yT,yT,yF,yF,yT,yT,yF,yF,yF,yF,yT,yF] (fun s_=>[(29,s_.1),(6,.pointer (some ⟨s_.2.2,0,none⟩))]) (fun s_ w'=>(w'.cell? (ad887.add (x5_1).toNat)=some (.string (rdOf bE_ t882 x5_1)))∧(Kd.R (Kd.int .i64) 3 w' w.heap.size (fun _=>True) s_.1 y893)∧(Kd.R k57 57 w' w.heap.size (fun k_=>k_≠s_.2.2) u3 x3_1)∧(Kd.R Kd.string 9 w' w.heap.size (fun _=>True) (.slice (some ad887) t882.length co23) t882)∧(∃c_,(s_.1:Value)=.slice (some s_.2.1) y893.length c_)∧(w'.heap[s_.2.2]?=some (.cells #[.string (⟨#[]⟩:BA),.string (⟨#[]⟩:BA),.string (⟨#[]⟩:BA),.int .i64 0] 57 (0,0)))∧(w.heap.size≤s_.2.2)∧(w0.heap.size≤s_.2.2)∧(g≠s_.2.2)∧(s_.2.2≠g)∧(IsS105 w0 w' g s0_0 t886)∧(KeepBut w w' g none)∧(Below w0.heap.size w0 w')) ?_ ?_;rotate_left
                  ·intro hJ9_15
                   refine join_ (σ:=Value) 8 #[yT,yT,yT,yT,yT,yT,yT,yT,yF,yF,yT,yF,yF,yF,yF,yF,yF] (fun s_=>[(27,s_)]) (fun s_ w'=>(w'.cell? (ad887.add (x5_1).toNat)=some (.string (rdOf bE_ t882 x5_1)))∧(Kd.S k32 32 w' w.heap.size (fun k_=>some k_≠(.slice (some ad887) t882.length co23:Value).ownBlock) s_ t888)∧(Kd.R k57 57 w' w.heap.size (fun _=>True) u3 x3_1)∧(Kd.R Kd.string 9 w' w.heap.size (fun _=>True) (.slice (some ad887) t882.length co23) t882)∧(IsS105 w0 w' g s0_0 t891)∧(KeepBut w w' g none)∧(Below w0.heap.size w0 w')) ?_ ?_;rotate_left
                   ·intro hJ7
                    refine join_ (σ:=Value×Addr) 8 #[yT,yT,yT,yT,yT,yT,yT,yF,yF,yT,yT,yF,yF,yF,yF,yF,yF] (fun s_=>[(29,s_.1)]) (fun s_ w'=>(w'.cell? (ad887.add (x5_1).toNat)=some (.string (rdOf bE_ t882 x5_1)))∧(Kd.R (Kd.int .i64) 3 w' w.heap.size (fun _=>True) s_.1 y893)∧(Kd.R k57 57 w' w.heap.size (fun _=>True) u3 x3_1)∧(Kd.R Kd.string 9 w' w.heap.size (fun _=>True) (.slice (some ad887) t882.length co23) t882)∧(∃c_,(s_.1:Value)=.slice (some s_.2) y893.length c_)∧(IsS105 w0 w' g s0_0 t886)∧(KeepBut w w' g none)∧(Below w0.heap.size w0 w')) ?_ ?_;rotate_left
                    ·intro hJ9
                     refine join_ (σ:=Nat) 8 #[yT,yT,yT,yT,yT,yT,yT,yF,yF,yF,yT,yF,yF,yF,yF,yT,yF] (fun s_=>[(6,.pointer (some ⟨s_,0,none⟩))]) (fun s_ w'=>(w'.cell? (ad887.add (x5_1).toNat)=some (.string (rdOf bE_ t882 x5_1)))∧(Kd.R k57 57 w' w.heap.size (fun k_=>k_≠s_) u3 x3_1)∧(Kd.R Kd.string 9 w' w.heap.size (fun _=>True) (.slice (some ad887) t882.length co23) t882)∧(w'.heap[s_]?=some (.cells #[.string (⟨#[]⟩:BA),.string (⟨#[]⟩:BA),.string (⟨#[]⟩:BA),.int .i64 0] 57 (0,0)))∧(w.heap.size≤s_)∧(w0.heap.size≤s_)∧(g≠s_)∧(s_≠g)∧(IsS105 w0 w' g s0_0 t886)∧(KeepBut w w' g none)∧(Below w0.heap.size w0 w')) ?_ ?_;rotate_left
                     ·intro hJ15
                      refine three_ (i:=7) (j:=9) (k:=15) (Ni:=some 27) (Nj:=some 29) (Nk:=some 6) #[yT,yT,yT,yT,yT,yT,yT,yT,yF,yF,yT,yF,yF,yF,yF,yF,yF] #[yT,yT,yT,yT,yT,yT,yT,yF,yF,yT,yT,yF,yF,yF,yF,yF,yF] #[yT,yT,yT,yT,yT,yT,yT,yF,yF,yF,yT,yF,yF,yF,yF,yT,yF] rfl rfl rfl rfl rfl rfl (three_of HT_.out (by kernel_rfl)) (by decide) (by decide) (by decide) (fun K hK=>?_) (fun K hK=>?_) (fun K hK=>?_)
                      ·skip
                       refine goes_ Tryz.func109 (by kernel_rfl) rfl #[.pointer (some ⟨g,0,none⟩)] (by rfl) rfl rfl zz45 ?_;with_reducible refine(spec_l71Groups.calls k1 g s0_0 t886 t888 t891 w0 _ ?side1 ?side2 A15.out).mono ?_
                       (case side1=>exact(zz37 HI0))
                       (case side2=>exact(zz39 HB HI0))
                       rintro e w24 ⟨v889,rfl,ho0,hi,hb,hk⟩;have HS0_:=keep_cell hk (hHeld) (zz147 HI0 HO_4);refine⟨_,rfl,?_⟩;replace HO_3:=A_ (Kd.R_mono (Kd.R_keep (IsS105.apart (show IsS105 w0 _ g s0_0 t886 from(zz37 HI0)) (zz7 HO_3) (by decide)) hk (fun _ h=>h.2)) (fun _ h=>h.1));have HO890:=A_ (Kd.S_lower (Kd.S_new' ho0 (Kd.R_lt (zz7 HO_4))) (keep_size (w:=w) (g:=g) (row:=none) (zz38 HK)));replace HO_4:=A_ (Kd.R_mono (Kd.R_keep (IsS105.apart (show IsS105 w0 _ g s0_0 t886 from(zz37 HI0)) (zz7 HO_4) (by decide)) hk (fun _ h=>h.2)) (fun _ h=>h.1));replace HK:=A_ (KeepBut.trans (zz38 HK) hk (.inl rfl));replace HB:=A_ (hb);replace HI0:=A_ (hi);(try clear hb)
                       (try clear hb2)
                       (try clear hk)
                       (try clear hi)
                       (try clear ho0)
                       refine hK.out _ _ (HS0_) (fun hHeld=>?_);clear hK K;refine nZ 27 ?_;exact norm_ zz148 (hJ7 (v889) _ ⟨hHeld,(zz149 HO890),(zz7 HO_3),(zz7 HO_4),(zz37 HI0),(zz38 HK),(zz39 HB HI0)⟩)
                      ·skip
                       refine Kd.R_lit_step (Kd.int .i64) _ 3 ?hg (N:=29) ?hd (xs:=([0,0,0,1,2,5]:List Int)) (inner:=[.int .i64 0,.int .i64 0,.int .i64 0,.int .i64 1,.int .i64 2,.int .i64 5]) (ok:=fun _=>True) (okp:=fun _=>True) ?hr ?hp (fun _ hk=>hk) trivial (Below.refl _ _) (lL_ _) (by simp) ?_;(case hd=>rfl);(case hg=>rfl);(case hr=>exact zz5);(case hp=>exact rpI);intro v894 w24 ho25 hb hg_ hnew_;have HS0_:=(hb.cell (wb_ _ _ (hHeld))).trans (hHeld);clear hg_ hnew_;(first|rw[←Ny893.out]at ho25|(simp only[Int.reduceToNat]at ho25;rw[←Ny893.out]at ho25));replace HO_3:=A_ (rB (zz7 HO_3) hb);replace HO_4:=A_ (rB (zz7 HO_4) hb);have HO895:=A_ (Kd.R_lower ho25 (keep_size (w:=w) (g:=g) (row:=none) (zz38 HK)));replace HK:=A_ (KeepBut.trans (zz38 HK) (KeepBut.of_below hb g none) (.inl rfl));replace HB:=A_ (bS (zz39 HB HI0) hb);replace HI0:=A_ (IsS105.below (zz37 HI0) hb);clear hb ho25;obtain⟨Ao26,co26,eo26⟩:=Kd.R_slice HO895.out;subst eo26;obtain⟨ado26,fo26,_⟩:=Kd.at_int (Kd.R_reads' HO895.out).2.2 0 (by decide) (by rw[Ny893.out];simp);cases fo26;refine hK.out _ _ (HS0_) (fun hHeld=>?_);clear hK K;refine nZ 29 ?_;exact norm_ zz148 (hJ9 (.slice (some ado26) y893.length co26,ado26) _ ⟨hHeld,(zz7 HO895),(zz7 HO_3),(zz7 HO_4),⟨_,rfl⟩,(zz37 HI0),(zz38 HK),(zz39 HB HI0)⟩)
                      ·skip
                       refine box_step ?hg (N:=6) ?hd (cs:=#[.string (⟨#[]⟩:BA),.string (⟨#[]⟩:BA),.string (⟨#[]⟩:BA),.int .i64 0]) (t:=57) ?hr ?_;(case hd=>rfl);(case hg=>rfl);(case hr=>exact zz5);intro gb899 hg w24 hbox hb;have HS0_:=(hb.cell (wb_ _ _ (hHeld))).trans (hHeld);replace HO_3:=A_ (rB (Kd.R_elderB (zz7 HO_3) gb899 (Nat.le_of_eq hg.symm)) hb);replace HO_4:=A_ (rB (zz7 HO_4) hb);replace HB:=A_ (bS (zz39 HB HI0) hb);have BK899:=A_ (hbox);have GW899:=A_ ((by rw[hg];exact(keep_size (w:=w) (g:=g) (row:=none) (zz38 HK)):w.heap.size≤gb899));have GE899:=A_ ((nT_ HW0.out (by rw[hg];exact(keep_size (w:=w) (g:=g) (row:=none) (zz38 HK)):w.heap.size≤gb899):w0.heap.size≤gb899));replace HK:=A_ (KeepBut.trans (zz38 HK) (KeepBut.of_below hb g none) (.inl rfl));have NB0_899:=A_ ((by rw[hg];exact Nat.ne_of_lt (IsS105.lt (show IsS105 w0 _ g s0_0 t886 from(zz37 HI0))):g≠gb899));have NB899_0:=A_ ((by rw[hg];exact Nat.ne_of_gt (IsS105.lt (show IsS105 w0 _ g s0_0 t886 from(zz37 HI0))):gb899≠g));replace HI0:=A_ (IsS105.below (zz37 HI0) hb);clear hb hbox hg;refine hK.out _ _ (HS0_) (fun hHeld=>?_);clear hK K;refine nZ 6 ?_;exact norm_ zz148 (hJ15 (gb899) _ ⟨hHeld,(zz103 HO_3),(zz7 HO_4),(zz18 BK899),GW899.out,GE899.out,NB0_899.out,NB899_0.out,(zz50 HI0 NB0_899),(zz54 HK GW899),(zz51 HB HI0 GE899)⟩)
                     ·skip
                      rintro gb899 w25 ⟨hS_,h0_,h1_,h2_,h3_,h4_,h5_,h6_,h7_,h8_,h9_⟩;have n0_:=A_ h0_;have n1_:=A_ h1_;have n2_:=A_ h2_;have n3_:=A_ h3_;have n4_:=A_ h4_;have n5_:=A_ h5_;have n6_:=A_ h6_;have n7_:=A_ h7_;have n8_:=A_ h8_;have n9_:=A_ h9_;(try dsimp only at n0_ n1_ n2_ n3_ n4_ n5_ n6_ n7_ n8_ n9_);clear HO_3;clear HO_4;clear HI0;clear HK;clear HB;clear h0_ h1_ h2_ h3_ h4_ h5_ h6_ h7_ h8_ h9_;have HO_3:=n0_;have HO_4:=n1_;have BK899:=n2_;have GW899:=n3_;have GE899:=n4_;have NB0_899:=n5_;have NB899_0:=n6_;have HI0:=n7_;have HK:=n8_;have HB:=n9_;clear n0_ n1_ n2_ n3_ n4_ n5_ n6_ n7_ n8_ n9_;have hHeld:w25.cell? (ad887.add (x5_1).toNat)=some (.string (rdOf bE_ t882 x5_1)):=hS_;refine norm_ (a':=?_) ?_ ?_;rotate_left
                      ·simp only[putAll,Act.put,lS_,l0_,lC_]
                       rfl
                      refine twoZ 7 9 (some 27) (some 29) #[yT,yT,yT,yT,yT,yT,yT,yT,yF,yF,yT,yF,yF,yF,yF,yT,yF] #[yT,yT,yT,yT,yT,yT,yT,yF,yF,yT,yT,yF,yF,yF,yF,yT,yF] (fun K hK=>?_) (fun K hK=>?_)
                      ·skip
                       refine goes_ Tryz.func109 (by kernel_rfl) rfl #[.pointer (some ⟨g,0,none⟩)] (by rfl) rfl rfl zz45 ?_;with_reducible refine(spec_l71Groups.calls k1 g s0_0 t886 t888 t891 w0 _ ?side1 ?side2 A15.out).mono ?_
                       (case side1=>exact(zz50 HI0 NB0_899))
                       (case side2=>exact(zz51 HB HI0 GE899))
                       rintro e w26 ⟨v889,rfl,ho0,hi,hb,hk⟩;have HS0_:=keep_cell hk (hHeld) (zz147 HI0 HO_4);refine⟨_,rfl,?_⟩;replace HO_3:=A_ (Kd.R_mono (Kd.R_keep (IsS105.apart (show IsS105 w0 _ g s0_0 t886 from(zz50 HI0 NB0_899)) (zz7 HO_3) (by decide)) hk (fun _ h=>h.2)) (fun _ h=>h.1));replace BK899:=A_ (KeepBut.blk hk (g':=gb899) (o:=.cells #[.string (⟨#[]⟩:BA),.string (⟨#[]⟩:BA),.string (⟨#[]⟩:BA),.int .i64 0] 57 (0,0)) (zz18 BK899) NB899_0.out (by simp));have HO890:=A_ (Kd.S_lower (Kd.S_new' ho0 (Kd.R_lt (zz7 HO_4))) (keep_size (w:=w) (g:=g) (row:=none) (zz54 HK GW899)));replace HO_4:=A_ (Kd.R_mono (Kd.R_keep (IsS105.apart (show IsS105 w0 _ g s0_0 t886 from(zz50 HI0 NB0_899)) (zz7 HO_4) (by decide)) hk (fun _ h=>h.2)) (fun _ h=>h.1));replace HK:=A_ (KeepBut.trans (zz54 HK GW899) hk (.inl rfl));replace HB:=A_ (hb);replace HI0:=A_ (hi);(try clear hb)
                       (try clear hb2)
                       (try clear hk)
                       (try clear hi)
                       (try clear ho0)
                       refine hK.out _ _ (HS0_) (fun hHeld=>?_);clear hK K;refine nZ 27 ?_;exact norm_ zz148 (hJ7_15 (_,gb899) _ ⟨hHeld,(zz149 HO890),(zz7 HO_3),(zz7 HO_4),(zz18 BK899),GW899.out,GE899.out,NB0_899.out,NB899_0.out,(zz50 HI0 NB0_899),(zz54 HK GW899),(zz51 HB HI0 GE899)⟩)
                      ·skip
                       refine Kd.R_lit_step (Kd.int .i64) _ 3 ?hg (N:=29) ?hd (xs:=([0,0,0,1,2,5]:List Int)) (inner:=[.int .i64 0,.int .i64 0,.int .i64 0,.int .i64 1,.int .i64 2,.int .i64 5]) (ok:=fun _=>True) (okp:=fun _=>True) ?hr ?hp (fun _ hk=>hk) trivial (Below.refl _ _) (lL_ _) (by simp) ?_;(case hd=>rfl);(case hg=>rfl);(case hr=>exact zz5);(case hp=>exact rpI);intro v894 w26 ho27 hb hg_ hnew_;have HS0_:=(hb.cell (wb_ _ _ (hHeld))).trans (hHeld);clear hg_ hnew_;(first|rw[←Ny893.out]at ho27|(simp only[Int.reduceToNat]at ho27;rw[←Ny893.out]at ho27));replace HO_3:=A_ (rB (zz7 HO_3) hb);replace HO_4:=A_ (rB (zz7 HO_4) hb);have HO895:=A_ (Kd.R_lower ho27 (keep_size (w:=w) (g:=g) (row:=none) (zz54 HK GW899)));replace BK899:=A_ (bB (zz18 BK899) hb);replace HK:=A_ (KeepBut.trans (zz54 HK GW899) (KeepBut.of_below hb g none) (.inl rfl));replace HB:=A_ (bS (zz51 HB HI0 GE899) hb);replace HI0:=A_ (IsS105.below (zz50 HI0 NB0_899) hb);clear hb ho27;obtain⟨Ao28,co28,eo28⟩:=Kd.R_slice HO895.out;subst eo28;obtain⟨ado28,fo28,_⟩:=Kd.at_int (Kd.R_reads' HO895.out).2.2 0 (by decide) (by rw[Ny893.out];simp);cases fo28;refine hK.out _ _ (HS0_) (fun hHeld=>?_);clear hK K;refine nZ 29 ?_;exact norm_ zz148 (hJ9_15 (.slice (some ado28) y893.length co28,ado28,gb899) _ ⟨hHeld,(zz7 HO895),(zz7 HO_3),(zz7 HO_4),⟨_,rfl⟩,(zz18 BK899),GW899.out,GE899.out,NB0_899.out,NB899_0.out,(zz50 HI0 NB0_899),(zz54 HK GW899),(zz51 HB HI0 GE899)⟩)
                    ·skip
                     rintro⟨v894,adz_v894⟩ w27 ⟨hS_,h0_,h1_,h2_,h3_,h4_,h5_,h6_⟩;have n0_:=A_ h0_;have n1_:=A_ h1_;have n2_:=A_ h2_;have n3_:=A_ h3_;have n4_:=A_ h4_;have n5_:=A_ h5_;have n6_:=A_ h6_;(try dsimp only at n0_ n1_ n2_ n3_ n4_ n5_ n6_);clear HO_3;clear HO_4;clear HI0;clear HK;clear HB;clear h0_ h1_ h2_ h3_ h4_ h5_ h6_;have HO895:=n0_;have HO_3:=n1_;have HO_4:=n2_;have HA_HO895:=n3_;have HI0:=n4_;have HK:=n5_;have HB:=n6_;clear n0_ n1_ n2_ n3_ n4_ n5_ n6_;have hHeld:w27.cell? (ad887.add (x5_1).toNat)=some (.string (rdOf bE_ t882 x5_1)):=hS_;obtain⟨co28,eo28⟩:=HA_HO895.out;clear HA_HO895;subst eo28;refine norm_ (a':=?_) ?_ ?_;rotate_left
                     ·simp only[putAll,Act.put,lS_,l0_,lC_]
                      rfl
                     refine twoZ 7 15 (some 27) (some 6) #[yT,yT,yT,yT,yT,yT,yT,yT,yF,yT,yT,yF,yF,yF,yF,yF,yF] #[yT,yT,yT,yT,yT,yT,yT,yF,yF,yT,yT,yF,yF,yF,yF,yT,yF] (fun K hK=>?_) (fun K hK=>?_)
                     ·skip
                      refine goes_ Tryz.func109 (by kernel_rfl) rfl #[.pointer (some ⟨g,0,none⟩)] (by rfl) rfl rfl zz45 ?_;with_reducible refine(spec_l71Groups.calls k1 g s0_0 t886 t888 t891 w0 _ ?side1 ?side2 A15.out).mono ?_
                      (case side1=>exact(zz37 HI0))
                      (case side2=>exact(zz39 HB HI0))
                      rintro e w29 ⟨v889,rfl,ho0,hi,hb,hk⟩;have HS0_:=keep_cell hk (hHeld) (zz147 HI0 HO_4);refine⟨_,rfl,?_⟩;replace HO_3:=A_ (Kd.R_mono (Kd.R_keep (IsS105.apart (show IsS105 w0 _ g s0_0 t886 from(zz37 HI0)) (zz7 HO_3) (by decide)) hk (fun _ h=>h.2)) (fun _ h=>h.1));replace HO895:=A_ (Kd.R_mono (Kd.R_keep (IsS105.apart (show IsS105 w0 _ g s0_0 t886 from(zz37 HI0)) (zz7 HO895) (by decide)) hk (fun _ h=>h.2)) (fun _ h=>h.1));have HO890:=A_ (Kd.S_lower (Kd.S_new' ho0 (Kd.R_lt (zz7 HO_4))) (keep_size (w:=w) (g:=g) (row:=none) (zz38 HK)));replace HO_4:=A_ (Kd.R_mono (Kd.R_keep (IsS105.apart (show IsS105 w0 _ g s0_0 t886 from(zz37 HI0)) (zz7 HO_4) (by decide)) hk (fun _ h=>h.2)) (fun _ h=>h.1));replace HK:=A_ (KeepBut.trans (zz38 HK) hk (.inl rfl));replace HB:=A_ (hb);replace HI0:=A_ (hi);(try clear hb)
                      (try clear hb2)
                      (try clear hk)
                      (try clear hi)
                      (try clear ho0)
                      refine hK.out _ _ (HS0_) (fun hHeld=>?_);clear hK K;refine nZ 27 ?_;exact norm_ zz148 (hJ7_9 (_,.slice (some adz_v894) y893.length co28,adz_v894) _ ⟨hHeld,(zz149 HO890),(zz7 HO895),(zz7 HO_3),(zz7 HO_4),⟨_,rfl⟩,(zz37 HI0),(zz38 HK),(zz39 HB HI0)⟩)
                     ·skip
                      refine box_step ?hg (N:=6) ?hd (cs:=#[.string (⟨#[]⟩:BA),.string (⟨#[]⟩:BA),.string (⟨#[]⟩:BA),.int .i64 0]) (t:=57) ?hr ?_;(case hd=>rfl);(case hg=>rfl);(case hr=>exact zz5);intro gb899 hg w29 hbox hb;have HS0_:=(hb.cell (wb_ _ _ (hHeld))).trans (hHeld);replace HO_3:=A_ (rB (Kd.R_elderB (zz7 HO_3) gb899 (Nat.le_of_eq hg.symm)) hb);replace HO_4:=A_ (rB (zz7 HO_4) hb);replace HO895:=A_ (rB (zz7 HO895) hb);replace HB:=A_ (bS (zz39 HB HI0) hb);have BK899:=A_ (hbox);have GW899:=A_ ((by rw[hg];exact(keep_size (w:=w) (g:=g) (row:=none) (zz38 HK)):w.heap.size≤gb899));have GE899:=A_ ((nT_ HW0.out (by rw[hg];exact(keep_size (w:=w) (g:=g) (row:=none) (zz38 HK)):w.heap.size≤gb899):w0.heap.size≤gb899));replace HK:=A_ (KeepBut.trans (zz38 HK) (KeepBut.of_below hb g none) (.inl rfl));have NB0_899:=A_ ((by rw[hg];exact Nat.ne_of_lt (IsS105.lt (show IsS105 w0 _ g s0_0 t886 from(zz37 HI0))):g≠gb899));have NB899_0:=A_ ((by rw[hg];exact Nat.ne_of_gt (IsS105.lt (show IsS105 w0 _ g s0_0 t886 from(zz37 HI0))):gb899≠g));replace HI0:=A_ (IsS105.below (zz37 HI0) hb);clear hb hbox hg;refine hK.out _ _ (HS0_) (fun hHeld=>?_);clear hK K;refine nZ 6 ?_;exact norm_ zz148 (hJ9_15 (.slice (some adz_v894) y893.length co28,adz_v894,gb899) _ ⟨hHeld,(zz7 HO895),(zz103 HO_3),(zz7 HO_4),⟨_,rfl⟩,(zz18 BK899),GW899.out,GE899.out,NB0_899.out,NB899_0.out,(zz50 HI0 NB0_899),(zz54 HK GW899),(zz51 HB HI0 GE899)⟩)
                   ·skip
                    rintro v889 w25 ⟨hS_,h0_,h1_,h2_,h3_,h4_,h5_⟩;have n0_:=A_ h0_;have n1_:=A_ h1_;have n2_:=A_ h2_;have n3_:=A_ h3_;have n4_:=A_ h4_;have n5_:=A_ h5_;(try dsimp only at n0_ n1_ n2_ n3_ n4_ n5_);clear HO_3;clear HO_4;clear HI0;clear HK;clear HB;clear h0_ h1_ h2_ h3_ h4_ h5_;have HO890:=n0_;have HO_3:=n1_;have HO_4:=n2_;have HI0:=n3_;have HK:=n4_;have HB:=n5_;clear n0_ n1_ n2_ n3_ n4_ n5_;have hHeld:w25.cell? (ad887.add (x5_1).toNat)=some (.string (rdOf bE_ t882 x5_1)):=hS_;obtain⟨Ao26,co26,eo26⟩:=Kd.S_slice HO890.out;(first|subst eo26|(injection eo26 with f1_ f2_ f3_;have f4_:=f1_.symm;have f5_:=f3_.symm;clear f1_ f2_ f3_;subst f4_;subst f5_));refine norm_ (a':=?_) ?_ ?_;rotate_left
                    ·simp only[putAll,Act.put,lS_,l0_,lC_]
                     rfl
                    refine three_ (i:=8) (j:=9) (k:=15) (Ni:=some 28) (Nj:=some 29) (Nk:=some 6) #[yT,yT,yT,yT,yT,yT,yT,yT,yT,yF,yT,yF,yF,yF,yF,yF,yF] #[yT,yT,yT,yT,yT,yT,yT,yT,yF,yT,yT,yF,yF,yF,yF,yF,yF] #[yT,yT,yT,yT,yT,yT,yT,yT,yF,yF,yT,yF,yF,yF,yF,yT,yF] rfl rfl rfl rfl rfl rfl (three_of HT_.out (by kernel_rfl)) (by decide) (by decide) (by decide) (fun K hK=>?_) (fun K hK=>?_) (fun K hK=>?_)
                    ·skip
                     refine goes_ Tryz.func108 (by kernel_rfl) rfl #[.slice Ao26 t888.length co26] (by rfl) rfl rfl zz45 ?_;with_reducible refine(spec_NoticeText.calls k1 _ _ t888 t892 _ ?side1 ?side2 A16.out).mono ?_
                     (case side1=>exact(zz137 HO890))
                     (case side2=>exact(Kd.S_reads' HO890.out).2.1)
                     rintro e w27 ⟨rfl,hb⟩;have HS0_:=(hb.cell (wb_ _ _ (hHeld))).trans (hHeld);refine⟨_,rfl,?_⟩;replace HO_3:=A_ (rB (zz7 HO_3) hb);replace HO_4:=A_ (rB (zz7 HO_4) hb);replace HO890:=A_ (Kd.S_below (zz48 HO890) hb);replace HK:=A_ (KeepBut.trans (zz38 HK) (KeepBut.of_below hb g none) (.inl rfl));replace HB:=A_ (bS (zz39 HB HI0) hb);replace HI0:=A_ (IsS105.below (zz37 HI0) hb);(try clear hb)
                     (try clear hb2)
                     (try clear hk)
                     (try clear hi)
                     refine hK.out _ _ (HS0_) (fun hHeld=>?_);clear hK K;refine nZ 28 ?_;exact norm_ zz148 (hJ7_8 (.slice Ao26 t888.length co26) _ ⟨hHeld,(zz48 HO890),(zz7 HO_3),(zz7 HO_4),(zz37 HI0),(zz38 HK),(zz39 HB HI0)⟩)
                    ·skip
                     refine Kd.R_lit_step (Kd.int .i64) _ 3 ?hg (N:=29) ?hd (xs:=([0,0,0,1,2,5]:List Int)) (inner:=[.int .i64 0,.int .i64 0,.int .i64 0,.int .i64 1,.int .i64 2,.int .i64 5]) (ok:=fun _=>True) (okp:=fun _=>True) ?hr ?hp (fun _ hk=>hk) trivial (Below.refl _ _) (lL_ _) (by simp) ?_;(case hd=>rfl);(case hg=>rfl);(case hr=>exact zz5);(case hp=>exact rpI);intro v894 w26 ho27 hb hg_ hnew_;have HS0_:=(hb.cell (wb_ _ _ (hHeld))).trans (hHeld);clear hg_ hnew_;(first|rw[←Ny893.out]at ho27|(simp only[Int.reduceToNat]at ho27;rw[←Ny893.out]at ho27));replace HO_3:=A_ (rB (zz7 HO_3) hb);replace HO_4:=A_ (rB (zz7 HO_4) hb);replace HO890:=A_ (Kd.S_below (zz48 HO890) hb);have HO895:=A_ (Kd.R_lower ho27 (keep_size (w:=w) (g:=g) (row:=none) (zz38 HK)));replace HK:=A_ (KeepBut.trans (zz38 HK) (KeepBut.of_below hb g none) (.inl rfl));replace HB:=A_ (bS (zz39 HB HI0) hb);replace HI0:=A_ (IsS105.below (zz37 HI0) hb);clear hb ho27;obtain⟨Ao28,co28,eo28⟩:=Kd.R_slice HO895.out;subst eo28;obtain⟨ado28,fo28,_⟩:=Kd.at_int (Kd.R_reads' HO895.out).2.2 0 (by decide) (by rw[Ny893.out];simp);cases fo28;refine hK.out _ _ (HS0_) (fun hHeld=>?_);clear hK K;refine nZ 29 ?_;exact norm_ zz148 (hJ7_9 (_,.slice (some ado28) y893.length co28,ado28) _ ⟨hHeld,(zz48 HO890),(zz7 HO895),(zz7 HO_3),(zz7 HO_4),⟨_,rfl⟩,(zz37 HI0),(zz38 HK),(zz39 HB HI0)⟩)
                    ·skip
                     refine box_step ?hg (N:=6) ?hd (cs:=#[.string (⟨#[]⟩:BA),.string (⟨#[]⟩:BA),.string (⟨#[]⟩:BA),.int .i64 0]) (t:=57) ?hr ?_;(case hd=>rfl);(case hg=>rfl);(case hr=>exact zz5);intro gb899 hg w26 hbox hb;have HS0_:=(hb.cell (wb_ _ _ (hHeld))).trans (hHeld);replace HO_3:=A_ (rB (Kd.R_elderB (zz7 HO_3) gb899 (Nat.le_of_eq hg.symm)) hb);replace HO_4:=A_ (rB (zz7 HO_4) hb);replace HO890:=A_ (Kd.S_below (zz48 HO890) hb);replace HB:=A_ (bS (zz39 HB HI0) hb);have BK899:=A_ (hbox);have GW899:=A_ ((by rw[hg];exact(keep_size (w:=w) (g:=g) (row:=none) (zz38 HK)):w.heap.size≤gb899));have GE899:=A_ ((nT_ HW0.out (by rw[hg];exact(keep_size (w:=w) (g:=g) (row:=none) (zz38 HK)):w.heap.size≤gb899):w0.heap.size≤gb899));replace HK:=A_ (KeepBut.trans (zz38 HK) (KeepBut.of_below hb g none) (.inl rfl));have NB0_899:=A_ ((by rw[hg];exact Nat.ne_of_lt (IsS105.lt (show IsS105 w0 _ g s0_0 t891 from(zz37 HI0))):g≠gb899));have NB899_0:=A_ ((by rw[hg];exact Nat.ne_of_gt (IsS105.lt (show IsS105 w0 _ g s0_0 t891 from(zz37 HI0))):gb899≠g));replace HI0:=A_ (IsS105.below (zz37 HI0) hb);clear hb hbox hg;refine hK.out _ _ (HS0_) (fun hHeld=>?_);clear hK K;refine nZ 6 ?_;exact norm_ zz148 (hJ7_15 (_,gb899) _ ⟨hHeld,(zz48 HO890),(zz103 HO_3),(zz7 HO_4),(zz18 BK899),GW899.out,GE899.out,NB0_899.out,NB899_0.out,(zz50 HI0 NB0_899),(zz54 HK GW899),(zz51 HB HI0 GE899)⟩)
                  ·skip
                   rintro⟨v894,adz_v894,gb899⟩ w28 ⟨hS_,h0_,h1_,h2_,h3_,h4_,h5_,h6_,h7_,h8_,h9_,h10_,h11_⟩;have n0_:=A_ h0_;have n1_:=A_ h1_;have n2_:=A_ h2_;have n3_:=A_ h3_;have n4_:=A_ h4_;have n5_:=A_ h5_;have n6_:=A_ h6_;have n7_:=A_ h7_;have n8_:=A_ h8_;have n9_:=A_ h9_;have n10_:=A_ h10_;have n11_:=A_ h11_;(try dsimp only at n0_ n1_ n2_ n3_ n4_ n5_ n6_ n7_ n8_ n9_ n10_ n11_);clear HO_3;clear HO_4;clear HI0;clear HK;clear HB;clear h0_ h1_ h2_ h3_ h4_ h5_ h6_ h7_ h8_ h9_ h10_ h11_;have HO895:=n0_;have HO_3:=n1_;have HO_4:=n2_;have HA_HO895:=n3_;have BK899:=n4_;have GW899:=n5_;have GE899:=n6_;have NB0_899:=n7_;have NB899_0:=n8_;have HI0:=n9_;have HK:=n10_;have HB:=n11_;clear n0_ n1_ n2_ n3_ n4_ n5_ n6_ n7_ n8_ n9_ n10_ n11_;have hHeld:w28.cell? (ad887.add (x5_1).toNat)=some (.string (rdOf bE_ t882 x5_1)):=hS_;obtain⟨co29,eo29⟩:=HA_HO895.out;clear HA_HO895;subst eo29;refine norm_ (a':=?_) ?_ ?_;rotate_left
                   ·simp only[putAll,Act.put,lS_,l0_,lC_]
                    rfl
                   refine oneZ 7 (some 27) #[yT,yT,yT,yT,yT,yT,yT,yT,yF,yT,yT,yF,yF,yF,yF,yT,yF] (fun K hK=>?_);refine goes_ Tryz.func109 (by kernel_rfl) rfl #[.pointer (some ⟨g,0,none⟩)] (by rfl) rfl rfl zz45 ?_;with_reducible refine(spec_l71Groups.calls k1 g s0_0 t886 t888 t891 w0 _ ?side1 ?side2 A15.out).mono ?_
                   (case side1=>exact(zz50 HI0 NB0_899))
                   (case side2=>exact(zz51 HB HI0 GE899))
                   rintro e w30 ⟨v889,rfl,ho0,hi,hb,hk⟩;have HS0_:=keep_cell hk (hHeld) (zz147 HI0 HO_4);refine⟨_,rfl,?_⟩;replace HO_3:=A_ (Kd.R_mono (Kd.R_keep (IsS105.apart (show IsS105 w0 _ g s0_0 t886 from(zz50 HI0 NB0_899)) (zz7 HO_3) (by decide)) hk (fun _ h=>h.2)) (fun _ h=>h.1));replace HO895:=A_ (Kd.R_mono (Kd.R_keep (IsS105.apart (show IsS105 w0 _ g s0_0 t886 from(zz50 HI0 NB0_899)) (zz7 HO895) (by decide)) hk (fun _ h=>h.2)) (fun _ h=>h.1));replace BK899:=A_ (KeepBut.blk hk (g':=gb899) (o:=.cells #[.string (⟨#[]⟩:BA),.string (⟨#[]⟩:BA),.string (⟨#[]⟩:BA),.int .i64 0] 57 (0,0)) (zz18 BK899) NB899_0.out (by simp));have HO890:=A_ (Kd.S_lower (Kd.S_new' ho0 (Kd.R_lt (zz7 HO_4))) (keep_size (w:=w) (g:=g) (row:=none) (zz54 HK GW899)));replace HO_4:=A_ (Kd.R_mono (Kd.R_keep (IsS105.apart (show IsS105 w0 _ g s0_0 t886 from(zz50 HI0 NB0_899)) (zz7 HO_4) (by decide)) hk (fun _ h=>h.2)) (fun _ h=>h.1));replace HK:=A_ (KeepBut.trans (zz54 HK GW899) hk (.inl rfl));replace HB:=A_ (hb);replace HI0:=A_ (hi);(try clear hb)
                   (try clear hb2)
                   (try clear hk)
                   (try clear hi)
                   (try clear ho0)
                   refine hK.out _ _ (HS0_) (fun hHeld=>?_);clear hK K;refine nZ 27 ?_;exact norm_ zz148 (hJ7_9_15 (_,.slice (some adz_v894) y893.length co29,adz_v894,gb899) _ ⟨hHeld,(zz149 HO890),(zz7 HO895),(zz7 HO_3),(zz7 HO_4),⟨_,rfl⟩,(zz18 BK899),GW899.out,GE899.out,NB0_899.out,NB899_0.out,(zz50 HI0 NB0_899),(zz54 HK GW899),(zz51 HB HI0 GE899)⟩)
                 ·skip
                  rintro⟨v889,gb899⟩ w26 ⟨hS_,h0_,h1_,h2_,h3_,h4_,h5_,h6_,h7_,h8_,h9_,h10_⟩;have n0_:=A_ h0_;have n1_:=A_ h1_;have n2_:=A_ h2_;have n3_:=A_ h3_;have n4_:=A_ h4_;have n5_:=A_ h5_;have n6_:=A_ h6_;have n7_:=A_ h7_;have n8_:=A_ h8_;have n9_:=A_ h9_;have n10_:=A_ h10_;(try dsimp only at n0_ n1_ n2_ n3_ n4_ n5_ n6_ n7_ n8_ n9_ n10_);clear HO_3;clear HO_4;clear HI0;clear HK;clear HB;clear h0_ h1_ h2_ h3_ h4_ h5_ h6_ h7_ h8_ h9_ h10_;have HO890:=n0_;have HO_3:=n1_;have HO_4:=n2_;have BK899:=n3_;have GW899:=n4_;have GE899:=n5_;have NB0_899:=n6_;have NB899_0:=n7_;have HI0:=n8_;have HK:=n9_;have HB:=n10_;clear n0_ n1_ n2_ n3_ n4_ n5_ n6_ n7_ n8_ n9_ n10_;have hHeld:w26.cell? (ad887.add (x5_1).toNat)=some (.string (rdOf bE_ t882 x5_1)):=hS_;obtain⟨Ao27,co27,eo27⟩:=Kd.S_slice HO890.out;(first|subst eo27|(injection eo27 with f1_ f2_ f3_;have f4_:=f1_.symm;have f5_:=f3_.symm;clear f1_ f2_ f3_;subst f4_;subst f5_));refine norm_ (a':=?_) ?_ ?_;rotate_left
                  ·simp only[putAll,Act.put,lS_,l0_,lC_]
                   rfl
                  refine twoZ 8 9 (some 28) (some 29) #[yT,yT,yT,yT,yT,yT,yT,yT,yT,yF,yT,yF,yF,yF,yF,yT,yF] #[yT,yT,yT,yT,yT,yT,yT,yT,yF,yT,yT,yF,yF,yF,yF,yT,yF] (fun K hK=>?_) (fun K hK=>?_)
                  ·skip
                   refine goes_ Tryz.func108 (by kernel_rfl) rfl #[.slice Ao27 t888.length co27] (by rfl) rfl rfl zz45 ?_;with_reducible refine(spec_NoticeText.calls k1 _ _ t888 t892 _ ?side1 ?side2 A16.out).mono ?_
                   (case side1=>exact(zz137 HO890))
                   (case side2=>exact(Kd.S_reads' HO890.out).2.1)
                   rintro e w28 ⟨rfl,hb⟩;have HS0_:=(hb.cell (wb_ _ _ (hHeld))).trans (hHeld);refine⟨_,rfl,?_⟩;replace HO_3:=A_ (rB (zz7 HO_3) hb);replace HO_4:=A_ (rB (zz7 HO_4) hb);replace HO890:=A_ (Kd.S_below (zz48 HO890) hb);replace BK899:=A_ (bB (zz18 BK899) hb);replace HK:=A_ (KeepBut.trans (zz54 HK GW899) (KeepBut.of_below hb g none) (.inl rfl));replace HB:=A_ (bS (zz51 HB HI0 GE899) hb);replace HI0:=A_ (IsS105.below (zz50 HI0 NB0_899) hb);(try clear hb)
                   (try clear hb2)
                   (try clear hk)
                   (try clear hi)
                   refine hK.out _ _ (HS0_) (fun hHeld=>?_);clear hK K;refine nZ 28 ?_;exact norm_ zz148 (hJ7_8_15 (.slice Ao27 t888.length co27,gb899) _ ⟨hHeld,(zz48 HO890),(zz7 HO_3),(zz7 HO_4),(zz18 BK899),GW899.out,GE899.out,NB0_899.out,NB899_0.out,(zz50 HI0 NB0_899),(zz54 HK GW899),(zz51 HB HI0 GE899)⟩)
                  ·skip
                   refine Kd.R_lit_step (Kd.int .i64) _ 3 ?hg (N:=29) ?hd (xs:=([0,0,0,1,2,5]:List Int)) (inner:=[.int .i64 0,.int .i64 0,.int .i64 0,.int .i64 1,.int .i64 2,.int .i64 5]) (ok:=fun _=>True) (okp:=fun _=>True) ?hr ?hp (fun _ hk=>hk) trivial (Below.refl _ _) (lL_ _) (by simp) ?_;(case hd=>rfl);(case hg=>rfl);(case hr=>exact zz5);(case hp=>exact rpI);intro v894 w27 ho28 hb hg_ hnew_;have HS0_:=(hb.cell (wb_ _ _ (hHeld))).trans (hHeld);clear hg_ hnew_;(first|rw[←Ny893.out]at ho28|(simp only[Int.reduceToNat]at ho28;rw[←Ny893.out]at ho28));replace HO_3:=A_ (rB (zz7 HO_3) hb);replace HO_4:=A_ (rB (zz7 HO_4) hb);replace HO890:=A_ (Kd.S_below (zz48 HO890) hb);have HO895:=A_ (Kd.R_lower ho28 (keep_size (w:=w) (g:=g) (row:=none) (zz54 HK GW899)));replace BK899:=A_ (bB (zz18 BK899) hb);replace HK:=A_ (KeepBut.trans (zz54 HK GW899) (KeepBut.of_below hb g none) (.inl rfl));replace HB:=A_ (bS (zz51 HB HI0 GE899) hb);replace HI0:=A_ (IsS105.below (zz50 HI0 NB0_899) hb);clear hb ho28;obtain⟨Ao29,co29,eo29⟩:=Kd.R_slice HO895.out;subst eo29;obtain⟨ado29,fo29,_⟩:=Kd.at_int (Kd.R_reads' HO895.out).2.2 0 (by decide) (by rw[Ny893.out];simp);cases fo29;refine hK.out _ _ (HS0_) (fun hHeld=>?_);clear hK K;refine nZ 29 ?_;exact norm_ zz148 (hJ7_9_15 (_,.slice (some ado29) y893.length co29,ado29,gb899) _ ⟨hHeld,(zz48 HO890),(zz7 HO895),(zz7 HO_3),(zz7 HO_4),⟨_,rfl⟩,(zz18 BK899),GW899.out,GE899.out,NB0_899.out,NB899_0.out,(zz50 HI0 NB0_899),(zz54 HK GW899),(zz51 HB HI0 GE899)⟩)
                ·skip
                 rintro⟨v889,v894,adz_v894⟩ w28 ⟨hS_,h0_,h1_,h2_,h3_,h4_,h5_,h6_,h7_⟩;have n0_:=A_ h0_;have n1_:=A_ h1_;have n2_:=A_ h2_;have n3_:=A_ h3_;have n4_:=A_ h4_;have n5_:=A_ h5_;have n6_:=A_ h6_;have n7_:=A_ h7_;(try dsimp only at n0_ n1_ n2_ n3_ n4_ n5_ n6_ n7_);clear HO_3;clear HO_4;clear HI0;clear HK;clear HB;clear h0_ h1_ h2_ h3_ h4_ h5_ h6_ h7_;have HO890:=n0_;have HO895:=n1_;have HO_3:=n2_;have HO_4:=n3_;have HA_HO895:=n4_;have HI0:=n5_;have HK:=n6_;have HB:=n7_;clear n0_ n1_ n2_ n3_ n4_ n5_ n6_ n7_;have hHeld:w28.cell? (ad887.add (x5_1).toNat)=some (.string (rdOf bE_ t882 x5_1)):=hS_;obtain⟨co29,eo29⟩:=HA_HO895.out;clear HA_HO895;subst eo29;obtain⟨Ao30,co30,eo30⟩:=Kd.S_slice HO890.out;(first|subst eo30|(injection eo30 with f1_ f2_ f3_;have f4_:=f1_.symm;have f5_:=f3_.symm;clear f1_ f2_ f3_;subst f4_;subst f5_));refine norm_ (a':=?_) ?_ ?_;rotate_left
                 ·simp only[putAll,Act.put,lS_,l0_,lC_]
                  rfl
                 refine twoZ 8 15 (some 28) (some 6) (yA 11 6) #[yT,yT,yT,yT,yT,yT,yT,yT,yF,yT,yT,yF,yF,yF,yF,yT,yF] (fun K hK=>?_) (fun K hK=>?_)
                 ·skip
                  refine goes_ Tryz.func108 (by kernel_rfl) rfl #[.slice Ao30 t888.length co30] (by rfl) rfl rfl zz45 ?_;with_reducible refine(spec_NoticeText.calls k1 _ _ t888 t892 _ ?side1 ?side2 A16.out).mono ?_
                  (case side1=>exact(zz137 HO890))
                  (case side2=>exact(Kd.S_reads' HO890.out).2.1)
                  rintro e w31 ⟨rfl,hb⟩;have HS0_:=(hb.cell (wb_ _ _ (hHeld))).trans (hHeld);refine⟨_,rfl,?_⟩;replace HO_3:=A_ (rB (zz7 HO_3) hb);replace HO_4:=A_ (rB (zz7 HO_4) hb);replace HO890:=A_ (Kd.S_below (zz48 HO890) hb);replace HO895:=A_ (rB (zz7 HO895) hb);replace HK:=A_ (KeepBut.trans (zz38 HK) (KeepBut.of_below hb g none) (.inl rfl));replace HB:=A_ (bS (zz39 HB HI0) hb);replace HI0:=A_ (IsS105.below (zz37 HI0) hb);(try clear hb)
                  (try clear hb2)
                  (try clear hk)
                  (try clear hi)
                  refine hK.out _ _ (HS0_) (fun hHeld=>?_);clear hK K;refine nZ 28 ?_;exact norm_ zz148 (hJ7_8_9 (.slice Ao30 t888.length co30,.slice (some adz_v894) y893.length co29,adz_v894) _ ⟨hHeld,(zz48 HO890),(zz7 HO895),(zz7 HO_3),(zz7 HO_4),⟨_,rfl⟩,(zz37 HI0),(zz38 HK),(zz39 HB HI0)⟩)
                 ·skip
                  refine box_step ?hg (N:=6) ?hd (cs:=#[.string (⟨#[]⟩:BA),.string (⟨#[]⟩:BA),.string (⟨#[]⟩:BA),.int .i64 0]) (t:=57) ?hr ?_;(case hd=>rfl);(case hg=>rfl);(case hr=>exact zz5);intro gb899 hg w30 hbox hb;have HS0_:=(hb.cell (wb_ _ _ (hHeld))).trans (hHeld);replace HO_3:=A_ (rB (Kd.R_elderB (zz7 HO_3) gb899 (Nat.le_of_eq hg.symm)) hb);replace HO_4:=A_ (rB (zz7 HO_4) hb);replace HO890:=A_ (Kd.S_below (zz48 HO890) hb);replace HO895:=A_ (rB (zz7 HO895) hb);replace HB:=A_ (bS (zz39 HB HI0) hb);have BK899:=A_ (hbox);have GW899:=A_ ((by rw[hg];exact(keep_size (w:=w) (g:=g) (row:=none) (zz38 HK)):w.heap.size≤gb899));have GE899:=A_ ((nT_ HW0.out (by rw[hg];exact(keep_size (w:=w) (g:=g) (row:=none) (zz38 HK)):w.heap.size≤gb899):w0.heap.size≤gb899));replace HK:=A_ (KeepBut.trans (zz38 HK) (KeepBut.of_below hb g none) (.inl rfl));have NB0_899:=A_ ((by rw[hg];exact Nat.ne_of_lt (IsS105.lt (show IsS105 w0 _ g s0_0 t891 from(zz37 HI0))):g≠gb899));have NB899_0:=A_ ((by rw[hg];exact Nat.ne_of_gt (IsS105.lt (show IsS105 w0 _ g s0_0 t891 from(zz37 HI0))):gb899≠g));replace HI0:=A_ (IsS105.below (zz37 HI0) hb);clear hb hbox hg;refine hK.out _ _ (HS0_) (fun hHeld=>?_);clear hK K;refine nZ 6 ?_;exact norm_ zz148 (hJ7_9_15 (_,.slice (some adz_v894) y893.length co29,adz_v894,gb899) _ ⟨hHeld,(zz48 HO890),(zz7 HO895),(zz103 HO_3),(zz7 HO_4),⟨_,rfl⟩,(zz18 BK899),GW899.out,GE899.out,NB0_899.out,NB899_0.out,(zz50 HI0 NB0_899),(zz54 HK GW899),(zz51 HB HI0 GE899)⟩)
               ·skip
                rintro v889 w27 ⟨hS_,h0_,h1_,h2_,h3_,h4_,h5_⟩;have n0_:=A_ h0_;have n1_:=A_ h1_;have n2_:=A_ h2_;have n3_:=A_ h3_;have n4_:=A_ h4_;have n5_:=A_ h5_;(try dsimp only at n0_ n1_ n2_ n3_ n4_ n5_);clear HO_3;clear HO_4;clear HI0;clear HK;clear HB;clear h0_ h1_ h2_ h3_ h4_ h5_;have HO890:=n0_;have HO_3:=n1_;have HO_4:=n2_;have HI0:=n3_;have HK:=n4_;have HB:=n5_;clear n0_ n1_ n2_ n3_ n4_ n5_;have hHeld:w27.cell? (ad887.add (x5_1).toNat)=some (.string (rdOf bE_ t882 x5_1)):=hS_;refine norm_ (a':=?_) ?_ ?_;rotate_left
                ·simp only[putAll,Act.put,lS_,l0_,lC_]
                 rfl
                refine three_ (i:=9) (j:=11) (k:=15) (Ni:=some 29) (Nj:=some 31) (Nk:=some 6) (yA 11 6) #[yT,yT,yT,yT,yT,yT,yT,yT,yT,yF,yT,yT,yF,yF,yF,yF,yF] #[yT,yT,yT,yT,yT,yT,yT,yT,yT,yF,yT,yF,yF,yF,yF,yT,yF] rfl rfl rfl rfl rfl rfl (three_of HT_.out (by kernel_rfl)) (by decide) (by decide) (by decide) (fun K hK=>?_) (fun K hK=>?_) (fun K hK=>?_)
                ·skip
                 refine Kd.R_lit_step (Kd.int .i64) _ 3 ?hg (N:=29) ?hd (xs:=([0,0,0,1,2,5]:List Int)) (inner:=[.int .i64 0,.int .i64 0,.int .i64 0,.int .i64 1,.int .i64 2,.int .i64 5]) (ok:=fun _=>True) (okp:=fun _=>True) ?hr ?hp (fun _ hk=>hk) trivial (Below.refl _ _) (lL_ _) (by simp) ?_;(case hd=>rfl);(case hg=>rfl);(case hr=>exact zz5);(case hp=>exact rpI);intro v894 w28 ho29 hb hg_ hnew_;have HS0_:=(hb.cell (wb_ _ _ (hHeld))).trans (hHeld);clear hg_ hnew_;(first|rw[←Ny893.out]at ho29|(simp only[Int.reduceToNat]at ho29;rw[←Ny893.out]at ho29));replace HO_3:=A_ (rB (zz7 HO_3) hb);replace HO_4:=A_ (rB (zz7 HO_4) hb);replace HO890:=A_ (Kd.S_below (zz48 HO890) hb);have HO895:=A_ (Kd.R_lower ho29 (keep_size (w:=w) (g:=g) (row:=none) (zz38 HK)));replace HK:=A_ (KeepBut.trans (zz38 HK) (KeepBut.of_below hb g none) (.inl rfl));replace HB:=A_ (bS (zz39 HB HI0) hb);replace HI0:=A_ (IsS105.below (zz37 HI0) hb);clear hb ho29;obtain⟨Ao30,co30,eo30⟩:=Kd.R_slice HO895.out;subst eo30;obtain⟨ado30,fo30,_⟩:=Kd.at_int (Kd.R_reads' HO895.out).2.2 0 (by decide) (by rw[Ny893.out];simp);cases fo30;refine hK.out _ _ (HS0_) (fun hHeld=>?_);clear hK K;refine nZ 29 ?_;exact norm_ zz148 (hJ7_8_9 (_,.slice (some ado30) y893.length co30,ado30) _ ⟨hHeld,(zz48 HO890),(zz7 HO895),(zz7 HO_3),(zz7 HO_4),⟨_,rfl⟩,(zz37 HI0),(zz38 HK),(zz39 HB HI0)⟩)
                ·skip
                 refine goes_ Tryz.func81 (by kernel_rfl) rfl #[.pointer (some ⟨g,0,none⟩),.int .i64 6] (by rfl) rfl rfl zz45 ?_;with_reducible refine(spec_l6Rd_pick.calls k1 g s0_0 t891 6 t896 t897 w0 _ ?side1 ?side2 A17.out).mono ?_
                 (case side1=>exact(zz37 HI0))
                 (case side2=>exact(zz39 HB HI0))
                 rintro e w28 ⟨rfl,hi,hb,hk⟩;have HS0_:=keep_cell hk (hHeld) (zz147 HI0 HO_4);refine⟨_,rfl,?_⟩;replace HO_3:=A_ (Kd.R_mono (Kd.R_keep (IsS105.apart (show IsS105 w0 _ g s0_0 t891 from(zz37 HI0)) (zz7 HO_3) (by decide)) hk (fun _ h=>h.2)) (fun _ h=>h.1));replace HO_4:=A_ (Kd.R_mono (Kd.R_keep (IsS105.apart (show IsS105 w0 _ g s0_0 t891 from(zz37 HI0)) (zz7 HO_4) (by decide)) hk (fun _ h=>h.2)) (fun _ h=>h.1));replace HO890:=A_ (Kd.S_mono (Kd.S_keep (IsS105.apartS (show IsS105 w0 _ g s0_0 t891 from(zz37 HI0)) (zz48 HO890) (by decide)) hk (fun _ h=>h.2)) (fun _ h=>h.1));replace HK:=A_ (KeepBut.trans (zz38 HK) hk (.inl rfl));replace HB:=A_ (hb);replace HI0:=A_ (hi);(try clear hb)
                 (try clear hb2)
                 (try clear hk)
                 (try clear hi)
                 refine hK.out _ _ (HS0_) (fun hHeld=>?_);clear hK K;refine nZ 31 ?_;exact norm_ zz148 (hJ7_8_11 (v889) _ ⟨hHeld,(zz48 HO890),(zz7 HO_3),(zz7 HO_4),(zz37 HI0),(zz38 HK),(zz39 HB HI0)⟩)
                ·skip
                 refine box_step ?hg (N:=6) ?hd (cs:=#[.string (⟨#[]⟩:BA),.string (⟨#[]⟩:BA),.string (⟨#[]⟩:BA),.int .i64 0]) (t:=57) ?hr ?_;(case hd=>rfl);(case hg=>rfl);(case hr=>exact zz5);intro gb899 hg w28 hbox hb;have HS0_:=(hb.cell (wb_ _ _ (hHeld))).trans (hHeld);replace HO_3:=A_ (rB (Kd.R_elderB (zz7 HO_3) gb899 (Nat.le_of_eq hg.symm)) hb);replace HO_4:=A_ (rB (zz7 HO_4) hb);replace HO890:=A_ (Kd.S_below (zz48 HO890) hb);replace HB:=A_ (bS (zz39 HB HI0) hb);have BK899:=A_ (hbox);have GW899:=A_ ((by rw[hg];exact(keep_size (w:=w) (g:=g) (row:=none) (zz38 HK)):w.heap.size≤gb899));have GE899:=A_ ((nT_ HW0.out (by rw[hg];exact(keep_size (w:=w) (g:=g) (row:=none) (zz38 HK)):w.heap.size≤gb899):w0.heap.size≤gb899));replace HK:=A_ (KeepBut.trans (zz38 HK) (KeepBut.of_below hb g none) (.inl rfl));have NB0_899:=A_ ((by rw[hg];exact Nat.ne_of_lt (IsS105.lt (show IsS105 w0 _ g s0_0 t891 from(zz37 HI0))):g≠gb899));have NB899_0:=A_ ((by rw[hg];exact Nat.ne_of_gt (IsS105.lt (show IsS105 w0 _ g s0_0 t891 from(zz37 HI0))):gb899≠g));replace HI0:=A_ (IsS105.below (zz37 HI0) hb);clear hb hbox hg;refine hK.out _ _ (HS0_) (fun hHeld=>?_);clear hK K;refine nZ 6 ?_;exact norm_ zz148 (hJ7_8_15 (_,gb899) _ ⟨hHeld,(zz48 HO890),(zz103 HO_3),(zz7 HO_4),(zz18 BK899),GW899.out,GE899.out,NB0_899.out,NB899_0.out,(zz50 HI0 NB0_899),(zz54 HK GW899),(zz51 HB HI0 GE899)⟩)
              ·skip
               rintro⟨v889,v894,adz_v894,gb899⟩ w29 ⟨hS_,h0_,h1_,h2_,h3_,h4_,h5_,h6_,h7_,h8_,h9_,h10_,h11_,h12_⟩;have n0_:=A_ h0_;have n1_:=A_ h1_;have n2_:=A_ h2_;have n3_:=A_ h3_;have n4_:=A_ h4_;have n5_:=A_ h5_;have n6_:=A_ h6_;have n7_:=A_ h7_;have n8_:=A_ h8_;have n9_:=A_ h9_;have n10_:=A_ h10_;have n11_:=A_ h11_;have n12_:=A_ h12_;(try dsimp only at n0_ n1_ n2_ n3_ n4_ n5_ n6_ n7_ n8_ n9_ n10_ n11_ n12_);clear HO_3;clear HO_4;clear HI0;clear HK;clear HB;clear h0_ h1_ h2_ h3_ h4_ h5_ h6_ h7_ h8_ h9_ h10_ h11_ h12_;have HO890:=n0_;have HO895:=n1_;have HO_3:=n2_;have HO_4:=n3_;have HA_HO895:=n4_;have BK899:=n5_;have GW899:=n6_;have GE899:=n7_;have NB0_899:=n8_;have NB899_0:=n9_;have HI0:=n10_;have HK:=n11_;have HB:=n12_;clear n0_ n1_ n2_ n3_ n4_ n5_ n6_ n7_ n8_ n9_ n10_ n11_ n12_;have hHeld:w29.cell? (ad887.add (x5_1).toNat)=some (.string (rdOf bE_ t882 x5_1)):=hS_;obtain⟨co30,eo30⟩:=HA_HO895.out;clear HA_HO895;subst eo30;obtain⟨Ao31,co31,eo31⟩:=Kd.S_slice HO890.out;(first|subst eo31|(injection eo31 with f1_ f2_ f3_;have f4_:=f1_.symm;have f5_:=f3_.symm;clear f1_ f2_ f3_;subst f4_;subst f5_));refine norm_ (a':=?_) ?_ ?_;rotate_left
               ·simp only[putAll,Act.put,lS_,l0_,lC_]
                rfl
               refine oneZ 8 (some 28) #[yT,yT,yT,yT,yT,yT,yT,yT,yT,yT,yT,yF,yF,yF,yF,yT,yF] (fun K hK=>?_);refine goes_ Tryz.func108 (by kernel_rfl) rfl #[.slice Ao31 t888.length co31] (by rfl) rfl rfl zz45 ?_;with_reducible refine(spec_NoticeText.calls k1 _ _ t888 t892 _ ?side1 ?side2 A16.out).mono ?_
               (case side1=>exact(zz137 HO890))
               (case side2=>exact(Kd.S_reads' HO890.out).2.1)
               rintro e w32 ⟨rfl,hb⟩;have HS0_:=(hb.cell (wb_ _ _ (hHeld))).trans (hHeld);refine⟨_,rfl,?_⟩;replace HO_3:=A_ (rB (zz7 HO_3) hb);replace HO_4:=A_ (rB (zz7 HO_4) hb);replace HO890:=A_ (Kd.S_below (zz48 HO890) hb);replace HO895:=A_ (rB (zz7 HO895) hb);replace BK899:=A_ (bB (zz18 BK899) hb);replace HK:=A_ (KeepBut.trans (zz54 HK GW899) (KeepBut.of_below hb g none) (.inl rfl));replace HB:=A_ (bS (zz51 HB HI0 GE899) hb);replace HI0:=A_ (IsS105.below (zz50 HI0 NB0_899) hb);(try clear hb)
               (try clear hb2)
               (try clear hk)
               (try clear hi)
               refine hK.out _ _ (HS0_) (fun hHeld=>?_);clear hK K;refine nZ 28 ?_;exact norm_ zz148 (hJ7_8_9_15 (.slice Ao31 t888.length co31,.slice (some adz_v894) y893.length co30,adz_v894,gb899) _ ⟨hHeld,(zz48 HO890),(zz7 HO895),(zz7 HO_3),(zz7 HO_4),⟨_,rfl⟩,(zz18 BK899),GW899.out,GE899.out,NB0_899.out,NB899_0.out,(zz50 HI0 NB0_899),(zz54 HK GW899),(zz51 HB HI0 GE899)⟩)
             ·skip
              rintro⟨v889,gb899⟩ w28 ⟨hS_,h0_,h1_,h2_,h3_,h4_,h5_,h6_,h7_,h8_,h9_,h10_⟩;have n0_:=A_ h0_;have n1_:=A_ h1_;have n2_:=A_ h2_;have n3_:=A_ h3_;have n4_:=A_ h4_;have n5_:=A_ h5_;have n6_:=A_ h6_;have n7_:=A_ h7_;have n8_:=A_ h8_;have n9_:=A_ h9_;have n10_:=A_ h10_;(try dsimp only at n0_ n1_ n2_ n3_ n4_ n5_ n6_ n7_ n8_ n9_ n10_);clear HO_3;clear HO_4;clear HI0;clear HK;clear HB;clear h0_ h1_ h2_ h3_ h4_ h5_ h6_ h7_ h8_ h9_ h10_;have HO890:=n0_;have HO_3:=n1_;have HO_4:=n2_;have BK899:=n3_;have GW899:=n4_;have GE899:=n5_;have NB0_899:=n6_;have NB899_0:=n7_;have HI0:=n8_;have HK:=n9_;have HB:=n10_;clear n0_ n1_ n2_ n3_ n4_ n5_ n6_ n7_ n8_ n9_ n10_;have hHeld:w28.cell? (ad887.add (x5_1).toNat)=some (.string (rdOf bE_ t882 x5_1)):=hS_;refine norm_ (a':=?_) ?_ ?_;rotate_left
              ·simp only[putAll,Act.put,lS_,l0_,lC_]
               rfl
              refine twoZ 9 11 (some 29) (some 31) #[yT,yT,yT,yT,yT,yT,yT,yT,yT,yT,yT,yF,yF,yF,yF,yT,yF] #[yT,yT,yT,yT,yT,yT,yT,yT,yT,yF,yT,yT,yF,yF,yF,yT,yF] (fun K hK=>?_) (fun K hK=>?_)
              ·skip
               refine Kd.R_lit_step (Kd.int .i64) _ 3 ?hg (N:=29) ?hd (xs:=([0,0,0,1,2,5]:List Int)) (inner:=[.int .i64 0,.int .i64 0,.int .i64 0,.int .i64 1,.int .i64 2,.int .i64 5]) (ok:=fun _=>True) (okp:=fun _=>True) ?hr ?hp (fun _ hk=>hk) trivial (Below.refl _ _) (lL_ _) (by simp) ?_;(case hd=>rfl);(case hg=>rfl);(case hr=>exact zz5);(case hp=>exact rpI);intro v894 w29 ho30 hb hg_ hnew_;have HS0_:=(hb.cell (wb_ _ _ (hHeld))).trans (hHeld);clear hg_ hnew_;(first|rw[←Ny893.out]at ho30|(simp only[Int.reduceToNat]at ho30;rw[←Ny893.out]at ho30));replace HO_3:=A_ (rB (zz7 HO_3) hb);replace HO_4:=A_ (rB (zz7 HO_4) hb);replace HO890:=A_ (Kd.S_below (zz48 HO890) hb);have HO895:=A_ (Kd.R_lower ho30 (keep_size (w:=w) (g:=g) (row:=none) (zz54 HK GW899)));replace BK899:=A_ (bB (zz18 BK899) hb);replace HK:=A_ (KeepBut.trans (zz54 HK GW899) (KeepBut.of_below hb g none) (.inl rfl));replace HB:=A_ (bS (zz51 HB HI0 GE899) hb);replace HI0:=A_ (IsS105.below (zz50 HI0 NB0_899) hb);clear hb ho30;obtain⟨Ao31,co31,eo31⟩:=Kd.R_slice HO895.out;subst eo31;obtain⟨ado31,fo31,_⟩:=Kd.at_int (Kd.R_reads' HO895.out).2.2 0 (by decide) (by rw[Ny893.out];simp);cases fo31;refine hK.out _ _ (HS0_) (fun hHeld=>?_);clear hK K;refine nZ 29 ?_;exact norm_ zz148 (hJ7_8_9_15 (_,.slice (some ado31) y893.length co31,ado31,gb899) _ ⟨hHeld,(zz48 HO890),(zz7 HO895),(zz7 HO_3),(zz7 HO_4),⟨_,rfl⟩,(zz18 BK899),GW899.out,GE899.out,NB0_899.out,NB899_0.out,(zz50 HI0 NB0_899),(zz54 HK GW899),(zz51 HB HI0 GE899)⟩)
              ·skip
               refine goes_ Tryz.func81 (by kernel_rfl) rfl #[.pointer (some ⟨g,0,none⟩),.int .i64 6] (by rfl) rfl rfl zz45 ?_;with_reducible refine(spec_l6Rd_pick.calls k1 g s0_0 t891 6 t896 t897 w0 _ ?side1 ?side2 A17.out).mono ?_
               (case side1=>exact(zz50 HI0 NB0_899))
               (case side2=>exact(zz51 HB HI0 GE899))
               rintro e w29 ⟨rfl,hi,hb,hk⟩;have HS0_:=keep_cell hk (hHeld) (zz147 HI0 HO_4);refine⟨_,rfl,?_⟩;replace HO_3:=A_ (Kd.R_mono (Kd.R_keep (IsS105.apart (show IsS105 w0 _ g s0_0 t891 from(zz50 HI0 NB0_899)) (zz7 HO_3) (by decide)) hk (fun _ h=>h.2)) (fun _ h=>h.1));replace HO_4:=A_ (Kd.R_mono (Kd.R_keep (IsS105.apart (show IsS105 w0 _ g s0_0 t891 from(zz50 HI0 NB0_899)) (zz7 HO_4) (by decide)) hk (fun _ h=>h.2)) (fun _ h=>h.1));replace HO890:=A_ (Kd.S_mono (Kd.S_keep (IsS105.apartS (show IsS105 w0 _ g s0_0 t891 from(zz50 HI0 NB0_899)) (zz48 HO890) (by decide)) hk (fun _ h=>h.2)) (fun _ h=>h.1));replace BK899:=A_ (KeepBut.blk hk (g':=gb899) (o:=.cells #[.string (⟨#[]⟩:BA),.string (⟨#[]⟩:BA),.string (⟨#[]⟩:BA),.int .i64 0] 57 (0,0)) (zz18 BK899) NB899_0.out (by simp));replace HK:=A_ (KeepBut.trans (zz54 HK GW899) hk (.inl rfl));replace HB:=A_ (hb);replace HI0:=A_ (hi);(try clear hb)
               (try clear hb2)
               (try clear hk)
               (try clear hi)
               refine hK.out _ _ (HS0_) (fun hHeld=>?_);clear hK K;refine nZ 31 ?_;exact norm_ zz148 (hJ7_8_11_15 (_,gb899) _ ⟨hHeld,(zz48 HO890),(zz7 HO_3),(zz7 HO_4),(zz18 BK899),GW899.out,GE899.out,NB0_899.out,NB899_0.out,(zz50 HI0 NB0_899),(zz54 HK GW899),(zz51 HB HI0 GE899)⟩)
            ·skip
             rintro v889 w28 ⟨hS_,h0_,h1_,h2_,h3_,h4_,h5_⟩;have n0_:=A_ h0_;have n1_:=A_ h1_;have n2_:=A_ h2_;have n3_:=A_ h3_;have n4_:=A_ h4_;have n5_:=A_ h5_;(try dsimp only at n0_ n1_ n2_ n3_ n4_ n5_);clear HO_3;clear HO_4;clear HI0;clear HK;clear HB;clear h0_ h1_ h2_ h3_ h4_ h5_;have HO890:=n0_;have HO_3:=n1_;have HO_4:=n2_;have HI0:=n3_;have HK:=n4_;have HB:=n5_;clear n0_ n1_ n2_ n3_ n4_ n5_;have hHeld:w28.cell? (ad887.add (x5_1).toNat)=some (.string (rdOf bE_ t882 x5_1)):=hS_;refine norm_ (a':=?_) ?_ ?_;rotate_left
             ·simp only[putAll,Act.put,lS_,l0_,lC_]
              rfl
             refine twoZ 9 15 (some 29) (some 6) (yA 12 5) #[yT,yT,yT,yT,yT,yT,yT,yT,yT,yF,yT,yT,yF,yF,yF,yT,yF] (fun K hK=>?_) (fun K hK=>?_)
             ·skip
              refine Kd.R_lit_step (Kd.int .i64) _ 3 ?hg (N:=29) ?hd (xs:=([0,0,0,1,2,5]:List Int)) (inner:=[.int .i64 0,.int .i64 0,.int .i64 0,.int .i64 1,.int .i64 2,.int .i64 5]) (ok:=fun _=>True) (okp:=fun _=>True) ?hr ?hp (fun _ hk=>hk) trivial (Below.refl _ _) (lL_ _) (by simp) ?_;(case hd=>rfl);(case hg=>rfl);(case hr=>exact zz5);(case hp=>exact rpI);intro v894 w29 ho30 hb hg_ hnew_;have HS0_:=(hb.cell (wb_ _ _ (hHeld))).trans (hHeld);clear hg_ hnew_;(first|rw[←Ny893.out]at ho30|(simp only[Int.reduceToNat]at ho30;rw[←Ny893.out]at ho30));replace HO_3:=A_ (rB (zz7 HO_3) hb);replace HO_4:=A_ (rB (zz7 HO_4) hb);replace HO890:=A_ (Kd.S_below (zz48 HO890) hb);have HO895:=A_ (Kd.R_lower ho30 (keep_size (w:=w) (g:=g) (row:=none) (zz38 HK)));replace HK:=A_ (KeepBut.trans (zz38 HK) (KeepBut.of_below hb g none) (.inl rfl));replace HB:=A_ (bS (zz39 HB HI0) hb);replace HI0:=A_ (IsS105.below (zz37 HI0) hb);clear hb ho30;obtain⟨Ao31,co31,eo31⟩:=Kd.R_slice HO895.out;subst eo31;obtain⟨ado31,fo31,_⟩:=Kd.at_int (Kd.R_reads' HO895.out).2.2 0 (by decide) (by rw[Ny893.out];simp);cases fo31;refine hK.out _ _ (HS0_) (fun hHeld=>?_);clear hK K;refine nZ 29 ?_;refine pureZ 12 (some 32) (yA 13 4) ?_;exact norm_ zz148 (hJ7_8_9_11 (_,.slice (some ado31) y893.length co31,ado31) _ ⟨hHeld,(zz48 HO890),(zz7 HO895),(zz7 HO_3),(zz7 HO_4),⟨_,rfl⟩,(zz37 HI0),(zz38 HK),(zz39 HB HI0)⟩)
             ·skip
              refine box_step ?hg (N:=6) ?hd (cs:=#[.string (⟨#[]⟩:BA),.string (⟨#[]⟩:BA),.string (⟨#[]⟩:BA),.int .i64 0]) (t:=57) ?hr ?_;(case hd=>rfl);(case hg=>rfl);(case hr=>exact zz5);intro gb899 hg w29 hbox hb;have HS0_:=(hb.cell (wb_ _ _ (hHeld))).trans (hHeld);replace HO_3:=A_ (rB (Kd.R_elderB (zz7 HO_3) gb899 (Nat.le_of_eq hg.symm)) hb);replace HO_4:=A_ (rB (zz7 HO_4) hb);replace HO890:=A_ (Kd.S_below (zz48 HO890) hb);replace HB:=A_ (bS (zz39 HB HI0) hb);have BK899:=A_ (hbox);have GW899:=A_ ((by rw[hg];exact(keep_size (w:=w) (g:=g) (row:=none) (zz38 HK)):w.heap.size≤gb899));have GE899:=A_ ((nT_ HW0.out (by rw[hg];exact(keep_size (w:=w) (g:=g) (row:=none) (zz38 HK)):w.heap.size≤gb899):w0.heap.size≤gb899));replace HK:=A_ (KeepBut.trans (zz38 HK) (KeepBut.of_below hb g none) (.inl rfl));have NB0_899:=A_ ((by rw[hg];exact Nat.ne_of_lt (IsS105.lt (show IsS105 w0 _ g s0_0 t897 from(zz37 HI0))):g≠gb899));have NB899_0:=A_ ((by rw[hg];exact Nat.ne_of_gt (IsS105.lt (show IsS105 w0 _ g s0_0 t897 from(zz37 HI0))):gb899≠g));replace HI0:=A_ (IsS105.below (zz37 HI0) hb);clear hb hbox hg;refine hK.out _ _ (HS0_) (fun hHeld=>?_);clear hK K;refine nZ 6 ?_;exact norm_ zz148 (hJ7_8_11_15 (_,gb899) _ ⟨hHeld,(zz48 HO890),(zz103 HO_3),(zz7 HO_4),(zz18 BK899),GW899.out,GE899.out,NB0_899.out,NB899_0.out,(zz50 HI0 NB0_899),(zz54 HK GW899),(zz51 HB HI0 GE899)⟩)
           ·skip
            rintro⟨v889,v894,adz_v894⟩ w30 ⟨hS_,h0_,h1_,h2_,h3_,h4_,h5_,h6_,h7_⟩;have n0_:=A_ h0_;have n1_:=A_ h1_;have n2_:=A_ h2_;have n3_:=A_ h3_;have n4_:=A_ h4_;have n5_:=A_ h5_;have n6_:=A_ h6_;have n7_:=A_ h7_;(try dsimp only at n0_ n1_ n2_ n3_ n4_ n5_ n6_ n7_);clear HO_3;clear HO_4;clear HI0;clear HK;clear HB;clear h0_ h1_ h2_ h3_ h4_ h5_ h6_ h7_;have HO890:=n0_;have HO895:=n1_;have HO_3:=n2_;have HO_4:=n3_;have HA_HO895:=n4_;have HI0:=n5_;have HK:=n6_;have HB:=n7_;clear n0_ n1_ n2_ n3_ n4_ n5_ n6_ n7_;have hHeld:w30.cell? (ad887.add (x5_1).toNat)=some (.string (rdOf bE_ t882 x5_1)):=hS_;obtain⟨co31,eo31⟩:=HA_HO895.out;clear HA_HO895;subst eo31;refine norm_ (a':=?_) ?_ ?_;rotate_left
            ·simp only[putAll,Act.put,lS_,l0_,lC_]
             rfl
            refine twoZ 11 15 (some 31) (some 6) (yA 12 5) #[yT,yT,yT,yT,yT,yT,yT,yT,yT,yT,yT,yF,yF,yF,yF,yT,yF] (fun K hK=>?_) (fun K hK=>?_)
            ·skip
             refine goes_ Tryz.func81 (by kernel_rfl) rfl #[.pointer (some ⟨g,0,none⟩),.int .i64 6] (by rfl) rfl rfl zz45 ?_;with_reducible refine(spec_l6Rd_pick.calls k1 g s0_0 t891 6 t896 t897 w0 _ ?side1 ?side2 A17.out).mono ?_
             (case side1=>exact(zz37 HI0))
             (case side2=>exact(zz39 HB HI0))
             rintro e w32 ⟨rfl,hi,hb,hk⟩;have HS0_:=keep_cell hk (hHeld) (zz147 HI0 HO_4);refine⟨_,rfl,?_⟩;replace HO_3:=A_ (Kd.R_mono (Kd.R_keep (IsS105.apart (show IsS105 w0 _ g s0_0 t891 from(zz37 HI0)) (zz7 HO_3) (by decide)) hk (fun _ h=>h.2)) (fun _ h=>h.1));replace HO_4:=A_ (Kd.R_mono (Kd.R_keep (IsS105.apart (show IsS105 w0 _ g s0_0 t891 from(zz37 HI0)) (zz7 HO_4) (by decide)) hk (fun _ h=>h.2)) (fun _ h=>h.1));replace HO890:=A_ (Kd.S_mono (Kd.S_keep (IsS105.apartS (show IsS105 w0 _ g s0_0 t891 from(zz37 HI0)) (zz48 HO890) (by decide)) hk (fun _ h=>h.2)) (fun _ h=>h.1));replace HO895:=A_ (Kd.R_mono (Kd.R_keep (IsS105.apart (show IsS105 w0 _ g s0_0 t891 from(zz37 HI0)) (zz7 HO895) (by decide)) hk (fun _ h=>h.2)) (fun _ h=>h.1));replace HK:=A_ (KeepBut.trans (zz38 HK) hk (.inl rfl));replace HB:=A_ (hb);replace HI0:=A_ (hi);(try clear hb)
             (try clear hb2)
             (try clear hk)
             (try clear hi)
             refine hK.out _ _ (HS0_) (fun hHeld=>?_);clear hK K;refine nZ 31 ?_;refine pureZ 12 (some 32) (yA 13 4) ?_;exact norm_ zz148 (hJ7_8_9_11 (_,.slice (some adz_v894) y893.length co31,adz_v894) _ ⟨hHeld,(zz48 HO890),(zz7 HO895),(zz7 HO_3),(zz7 HO_4),⟨_,rfl⟩,(zz37 HI0),(zz38 HK),(zz39 HB HI0)⟩)
            ·skip
             refine box_step ?hg (N:=6) ?hd (cs:=#[.string (⟨#[]⟩:BA),.string (⟨#[]⟩:BA),.string (⟨#[]⟩:BA),.int .i64 0]) (t:=57) ?hr ?_;(case hd=>rfl);(case hg=>rfl);(case hr=>exact zz5);intro gb899 hg w32 hbox hb;have HS0_:=(hb.cell (wb_ _ _ (hHeld))).trans (hHeld);replace HO_3:=A_ (rB (Kd.R_elderB (zz7 HO_3) gb899 (Nat.le_of_eq hg.symm)) hb);replace HO_4:=A_ (rB (zz7 HO_4) hb);replace HO890:=A_ (Kd.S_below (zz48 HO890) hb);replace HO895:=A_ (rB (zz7 HO895) hb);replace HB:=A_ (bS (zz39 HB HI0) hb);have BK899:=A_ (hbox);have GW899:=A_ ((by rw[hg];exact(keep_size (w:=w) (g:=g) (row:=none) (zz38 HK)):w.heap.size≤gb899));have GE899:=A_ ((nT_ HW0.out (by rw[hg];exact(keep_size (w:=w) (g:=g) (row:=none) (zz38 HK)):w.heap.size≤gb899):w0.heap.size≤gb899));replace HK:=A_ (KeepBut.trans (zz38 HK) (KeepBut.of_below hb g none) (.inl rfl));have NB0_899:=A_ ((by rw[hg];exact Nat.ne_of_lt (IsS105.lt (show IsS105 w0 _ g s0_0 t891 from(zz37 HI0))):g≠gb899));have NB899_0:=A_ ((by rw[hg];exact Nat.ne_of_gt (IsS105.lt (show IsS105 w0 _ g s0_0 t891 from(zz37 HI0))):gb899≠g));replace HI0:=A_ (IsS105.below (zz37 HI0) hb);clear hb hbox hg;refine hK.out _ _ (HS0_) (fun hHeld=>?_);clear hK K;refine nZ 6 ?_;exact norm_ zz148 (hJ7_8_9_15 (_,.slice (some adz_v894) y893.length co31,adz_v894,gb899) _ ⟨hHeld,(zz48 HO890),(zz7 HO895),(zz103 HO_3),(zz7 HO_4),⟨_,rfl⟩,(zz18 BK899),GW899.out,GE899.out,NB0_899.out,NB899_0.out,(zz50 HI0 NB0_899),(zz54 HK GW899),(zz51 HB HI0 GE899)⟩)
          ·skip
           rintro⟨v889,gb899⟩ w29 ⟨hS_,h0_,h1_,h2_,h3_,h4_,h5_,h6_,h7_,h8_,h9_,h10_⟩;have n0_:=A_ h0_;have n1_:=A_ h1_;have n2_:=A_ h2_;have n3_:=A_ h3_;have n4_:=A_ h4_;have n5_:=A_ h5_;have n6_:=A_ h6_;have n7_:=A_ h7_;have n8_:=A_ h8_;have n9_:=A_ h9_;have n10_:=A_ h10_;(try dsimp only at n0_ n1_ n2_ n3_ n4_ n5_ n6_ n7_ n8_ n9_ n10_);clear HO_3;clear HO_4;clear HI0;clear HK;clear HB;clear h0_ h1_ h2_ h3_ h4_ h5_ h6_ h7_ h8_ h9_ h10_;have HO890:=n0_;have HO_3:=n1_;have HO_4:=n2_;have BK899:=n3_;have GW899:=n4_;have GE899:=n5_;have NB0_899:=n6_;have NB899_0:=n7_;have HI0:=n8_;have HK:=n9_;have HB:=n10_;clear n0_ n1_ n2_ n3_ n4_ n5_ n6_ n7_ n8_ n9_ n10_;have hHeld:w29.cell? (ad887.add (x5_1).toNat)=some (.string (rdOf bE_ t882 x5_1)):=hS_;refine norm_ (a':=?_) ?_ ?_;rotate_left
           ·simp only[putAll,Act.put,lS_,l0_,lC_]
            rfl
           refine oneZ 9 (some 29) #[yT,yT,yT,yT,yT,yT,yT,yT,yT,yT,yT,yT,yF,yF,yF,yT,yF] (fun K hK=>?_);refine Kd.R_lit_step (Kd.int .i64) _ 3 ?hg (N:=29) ?hd (xs:=([0,0,0,1,2,5]:List Int)) (inner:=[.int .i64 0,.int .i64 0,.int .i64 0,.int .i64 1,.int .i64 2,.int .i64 5]) (ok:=fun _=>True) (okp:=fun _=>True) ?hr ?hp (fun _ hk=>hk) trivial (Below.refl _ _) (lL_ _) (by simp) ?_;(case hd=>rfl);(case hg=>rfl);(case hr=>exact zz5);(case hp=>exact rpI);intro v894 w30 ho31 hb hg_ hnew_;have HS0_:=(hb.cell (wb_ _ _ (hHeld))).trans (hHeld);clear hg_ hnew_;(first|rw[←Ny893.out]at ho31|(simp only[Int.reduceToNat]at ho31;rw[←Ny893.out]at ho31));replace HO_3:=A_ (rB (zz7 HO_3) hb);replace HO_4:=A_ (rB (zz7 HO_4) hb);replace HO890:=A_ (Kd.S_below (zz48 HO890) hb);have HO895:=A_ (Kd.R_lower ho31 (keep_size (w:=w) (g:=g) (row:=none) (zz54 HK GW899)));replace BK899:=A_ (bB (zz18 BK899) hb);replace HK:=A_ (KeepBut.trans (zz54 HK GW899) (KeepBut.of_below hb g none) (.inl rfl));replace HB:=A_ (bS (zz51 HB HI0 GE899) hb);replace HI0:=A_ (IsS105.below (zz50 HI0 NB0_899) hb);clear hb ho31;obtain⟨Ao32,co32,eo32⟩:=Kd.R_slice HO895.out;subst eo32;obtain⟨ado32,fo32,_⟩:=Kd.at_int (Kd.R_reads' HO895.out).2.2 0 (by decide) (by rw[Ny893.out];simp);cases fo32;refine hK.out _ _ (HS0_) (fun hHeld=>?_);clear hK K;refine nZ 29 ?_;refine pureZ 12 (some 32) #[yT,yT,yT,yT,yT,yT,yT,yT,yT,yT,yT,yT,yT,yF,yF,yT,yF] ?_;exact norm_ zz148 (hJ7_8_9_11_15 (_,.slice (some ado32) y893.length co32,ado32,gb899) _ ⟨hHeld,(zz48 HO890),(zz7 HO895),(zz7 HO_3),(zz7 HO_4),⟨_,rfl⟩,(zz18 BK899),GW899.out,GE899.out,NB0_899.out,NB899_0.out,(zz50 HI0 NB0_899),(zz54 HK GW899),(zz51 HB HI0 GE899)⟩)
         ·skip
          rintro⟨v889,v894,adz_v894,gb899⟩ w31 ⟨hS_,h0_,h1_,h2_,h3_,h4_,h5_,h6_,h7_,h8_,h9_,h10_,h11_,h12_⟩;have n0_:=A_ h0_;have n1_:=A_ h1_;have n2_:=A_ h2_;have n3_:=A_ h3_;have n4_:=A_ h4_;have n5_:=A_ h5_;have n6_:=A_ h6_;have n7_:=A_ h7_;have n8_:=A_ h8_;have n9_:=A_ h9_;have n10_:=A_ h10_;have n11_:=A_ h11_;have n12_:=A_ h12_;(try dsimp only at n0_ n1_ n2_ n3_ n4_ n5_ n6_ n7_ n8_ n9_ n10_ n11_ n12_);clear HO_3;clear HO_4;clear HI0;clear HK;clear HB;clear h0_ h1_ h2_ h3_ h4_ h5_ h6_ h7_ h8_ h9_ h10_ h11_ h12_;have HO890:=n0_;have HO895:=n1_;have HO_3:=n2_;have HO_4:=n3_;have HA_HO895:=n4_;have BK899:=n5_;have GW899:=n6_;have GE899:=n7_;have NB0_899:=n8_;have NB899_0:=n9_;have HI0:=n10_;have HK:=n11_;have HB:=n12_;clear n0_ n1_ n2_ n3_ n4_ n5_ n6_ n7_ n8_ n9_ n10_ n11_ n12_;have hHeld:w31.cell? (ad887.add (x5_1).toNat)=some (.string (rdOf bE_ t882 x5_1)):=hS_;obtain⟨co32,eo32⟩:=HA_HO895.out;clear HA_HO895;subst eo32;refine norm_ (a':=?_) ?_ ?_;rotate_left
          ·simp only[putAll,Act.put,lS_,l0_,lC_]
           rfl
          refine oneZ 11 (some 31) #[yT,yT,yT,yT,yT,yT,yT,yT,yT,yT,yT,yT,yF,yF,yF,yT,yF] (fun K hK=>?_);refine goes_ Tryz.func81 (by kernel_rfl) rfl #[.pointer (some ⟨g,0,none⟩),.int .i64 6] (by rfl) rfl rfl zz45 ?_;with_reducible refine(spec_l6Rd_pick.calls k1 g s0_0 t891 6 t896 t897 w0 _ ?side1 ?side2 A17.out).mono ?_
          (case side1=>exact(zz50 HI0 NB0_899))
          (case side2=>exact(zz51 HB HI0 GE899))
          rintro e w33 ⟨rfl,hi,hb,hk⟩;have HS0_:=keep_cell hk (hHeld) (zz147 HI0 HO_4);refine⟨_,rfl,?_⟩;replace HO_3:=A_ (Kd.R_mono (Kd.R_keep (IsS105.apart (show IsS105 w0 _ g s0_0 t891 from(zz50 HI0 NB0_899)) (zz7 HO_3) (by decide)) hk (fun _ h=>h.2)) (fun _ h=>h.1));replace HO_4:=A_ (Kd.R_mono (Kd.R_keep (IsS105.apart (show IsS105 w0 _ g s0_0 t891 from(zz50 HI0 NB0_899)) (zz7 HO_4) (by decide)) hk (fun _ h=>h.2)) (fun _ h=>h.1));replace HO890:=A_ (Kd.S_mono (Kd.S_keep (IsS105.apartS (show IsS105 w0 _ g s0_0 t891 from(zz50 HI0 NB0_899)) (zz48 HO890) (by decide)) hk (fun _ h=>h.2)) (fun _ h=>h.1));replace HO895:=A_ (Kd.R_mono (Kd.R_keep (IsS105.apart (show IsS105 w0 _ g s0_0 t891 from(zz50 HI0 NB0_899)) (zz7 HO895) (by decide)) hk (fun _ h=>h.2)) (fun _ h=>h.1));replace BK899:=A_ (KeepBut.blk hk (g':=gb899) (o:=.cells #[.string (⟨#[]⟩:BA),.string (⟨#[]⟩:BA),.string (⟨#[]⟩:BA),.int .i64 0] 57 (0,0)) (zz18 BK899) NB899_0.out (by simp));replace HK:=A_ (KeepBut.trans (zz54 HK GW899) hk (.inl rfl));replace HB:=A_ (hb);replace HI0:=A_ (hi);(try clear hb)
          (try clear hb2)
          (try clear hk)
          (try clear hi)
          refine hK.out _ _ (HS0_) (fun hHeld=>?_);clear hK K;refine nZ 31 ?_;refine pureZ 12 (some 32) #[yT,yT,yT,yT,yT,yT,yT,yT,yT,yT,yT,yT,yT,yF,yF,yT,yF] ?_;exact norm_ zz148 (hJ7_8_9_11_15 (_,.slice (some adz_v894) y893.length co32,adz_v894,gb899) _ ⟨hHeld,(zz48 HO890),(zz7 HO895),(zz7 HO_3),(zz7 HO_4),⟨_,rfl⟩,(zz18 BK899),GW899.out,GE899.out,NB0_899.out,NB899_0.out,(zz50 HI0 NB0_899),(zz54 HK GW899),(zz51 HB HI0 GE899)⟩)
        ·skip
         rintro⟨v889,v894,adz_v894⟩ w31 ⟨hS_,h0_,h1_,h2_,h3_,h4_,h5_,h6_,h7_⟩;have n0_:=A_ h0_;have n1_:=A_ h1_;have n2_:=A_ h2_;have n3_:=A_ h3_;have n4_:=A_ h4_;have n5_:=A_ h5_;have n6_:=A_ h6_;have n7_:=A_ h7_;(try dsimp only at n0_ n1_ n2_ n3_ n4_ n5_ n6_ n7_);clear HO_3;clear HO_4;clear HI0;clear HK;clear HB;clear h0_ h1_ h2_ h3_ h4_ h5_ h6_ h7_;have HO890:=n0_;have HO895:=n1_;have HO_3:=n2_;have HO_4:=n3_;have HA_HO895:=n4_;have HI0:=n5_;have HK:=n6_;have HB:=n7_;clear n0_ n1_ n2_ n3_ n4_ n5_ n6_ n7_;have hHeld:w31.cell? (ad887.add (x5_1).toNat)=some (.string (rdOf bE_ t882 x5_1)):=hS_;obtain⟨co32,eo32⟩:=HA_HO895.out;clear HA_HO895;subst eo32;refine norm_ (a':=?_) ?_ ?_;rotate_left
         ·simp only[putAll,Act.put,lS_,l0_,lC_]
          rfl
         refine twoZ 13 15 (some 33) (some 6) (yA 14 3) #[yT,yT,yT,yT,yT,yT,yT,yT,yT,yT,yT,yT,yT,yF,yF,yT,yF] (fun K hK=>?_) (fun K hK=>?_)
         ·skip
          (have p898:0≤(t896:Int):=ofD;have q898:t896<(y893.length:Int):=ofD;obtain⟨ad898,e898,hx898_0⟩:=Kd.at_int (Kd.R_reads' HO895.out).2.2 t896 p898 q898;obtain rfl:adz_v894=ad898:=(by injection e898))
          refine value_ (w1:=?_) (v:=?_) (by rfl) rfl ?_ ?_;rotate_left 2
          ·go_simp
           constructor
           ·rfl
           ·rfl
          clear hx898_0;refine hK.out _ _ (hHeld) (fun hHeld=>?_);clear hK K;refine nZ 33 ?_;refine pureZ 14 (some 34) (yA 15 2) ?_;exact norm_ zz148 (hJ7_8_9_11_13 (_,.slice (some adz_v894) y893.length co32,adz_v894) _ ⟨hHeld,(zz48 HO890),(zz7 HO895),(zz7 HO_3),(zz7 HO_4),⟨_,rfl⟩,(zz37 HI0),(zz38 HK),(zz39 HB HI0)⟩)
         ·skip
          refine box_step ?hg (N:=6) ?hd (cs:=#[.string (⟨#[]⟩:BA),.string (⟨#[]⟩:BA),.string (⟨#[]⟩:BA),.int .i64 0]) (t:=57) ?hr ?_;(case hd=>rfl);(case hg=>rfl);(case hr=>exact zz5);intro gb899 hg w33 hbox hb;have HS0_:=(hb.cell (wb_ _ _ (hHeld))).trans (hHeld);replace HO_3:=A_ (rB (Kd.R_elderB (zz7 HO_3) gb899 (Nat.le_of_eq hg.symm)) hb);replace HO_4:=A_ (rB (zz7 HO_4) hb);replace HO890:=A_ (Kd.S_below (zz48 HO890) hb);replace HO895:=A_ (rB (zz7 HO895) hb);replace HB:=A_ (bS (zz39 HB HI0) hb);have BK899:=A_ (hbox);have GW899:=A_ ((by rw[hg];exact(keep_size (w:=w) (g:=g) (row:=none) (zz38 HK)):w.heap.size≤gb899));have GE899:=A_ ((nT_ HW0.out (by rw[hg];exact(keep_size (w:=w) (g:=g) (row:=none) (zz38 HK)):w.heap.size≤gb899):w0.heap.size≤gb899));replace HK:=A_ (KeepBut.trans (zz38 HK) (KeepBut.of_below hb g none) (.inl rfl));have NB0_899:=A_ ((by rw[hg];exact Nat.ne_of_lt (IsS105.lt (show IsS105 w0 _ g s0_0 t897 from(zz37 HI0))):g≠gb899));have NB899_0:=A_ ((by rw[hg];exact Nat.ne_of_gt (IsS105.lt (show IsS105 w0 _ g s0_0 t897 from(zz37 HI0))):gb899≠g));replace HI0:=A_ (IsS105.below (zz37 HI0) hb);clear hb hbox hg;refine hK.out _ _ (HS0_) (fun hHeld=>?_);clear hK K;refine nZ 6 ?_;exact norm_ zz148 (hJ7_8_9_11_15 (_,.slice (some adz_v894) y893.length co32,adz_v894,gb899) _ ⟨hHeld,(zz48 HO890),(zz7 HO895),(zz103 HO_3),(zz7 HO_4),⟨_,rfl⟩,(zz18 BK899),GW899.out,GE899.out,NB0_899.out,NB899_0.out,(zz50 HI0 NB0_899),(zz54 HK GW899),(zz51 HB HI0 GE899)⟩)
       ·skip
        rintro⟨v889,v894,adz_v894,gb899⟩ w32 ⟨hS_,h0_,h1_,h2_,h3_,h4_,h5_,h6_,h7_,h8_,h9_,h10_,h11_,h12_⟩;have n0_:=A_ h0_;have n1_:=A_ h1_;have n2_:=A_ h2_;have n3_:=A_ h3_;have n4_:=A_ h4_;have n5_:=A_ h5_;have n6_:=A_ h6_;have n7_:=A_ h7_;have n8_:=A_ h8_;have n9_:=A_ h9_;have n10_:=A_ h10_;have n11_:=A_ h11_;have n12_:=A_ h12_;(try dsimp only at n0_ n1_ n2_ n3_ n4_ n5_ n6_ n7_ n8_ n9_ n10_ n11_ n12_);clear HO_3;clear HO_4;clear HI0;clear HK;clear HB;clear h0_ h1_ h2_ h3_ h4_ h5_ h6_ h7_ h8_ h9_ h10_ h11_ h12_;have HO890:=n0_;have HO895:=n1_;have HO_3:=n2_;have HO_4:=n3_;have HA_HO895:=n4_;have BK899:=n5_;have GW899:=n6_;have GE899:=n7_;have NB0_899:=n8_;have NB899_0:=n9_;have HI0:=n10_;have HK:=n11_;have HB:=n12_;clear n0_ n1_ n2_ n3_ n4_ n5_ n6_ n7_ n8_ n9_ n10_ n11_ n12_;have hHeld:w32.cell? (ad887.add (x5_1).toNat)=some (.string (rdOf bE_ t882 x5_1)):=hS_;obtain⟨co33,eo33⟩:=HA_HO895.out;clear HA_HO895;subst eo33;refine norm_ (a':=?_) ?_ ?_;rotate_left
        ·simp only[putAll,Act.put,lS_,l0_,lC_]
         rfl
        refine oneZ 13 (some 33) #[yT,yT,yT,yT,yT,yT,yT,yT,yT,yT,yT,yT,yT,yT,yF,yT,yF] (fun K hK=>?_);(have p898:0≤(t896:Int):=ofD;have q898:t896<(y893.length:Int):=ofD;obtain⟨ad898,e898,hx898_0⟩:=Kd.at_int (Kd.R_reads' HO895.out).2.2 t896 p898 q898;obtain rfl:adz_v894=ad898:=(by injection e898));refine value_ (w1:=?_) (v:=?_) (by rfl) rfl ?_ ?_;rotate_left 2
        ·go_simp
         constructor
         ·rfl
         ·rfl
        clear hx898_0;refine hK.out _ _ (hHeld) (fun hHeld=>?_);clear hK K;refine nZ 33 ?_;refine pureZ 14 (some 34) (yA 16 1) ?_;exact norm_ zz148 (hJ7_8_9_11_13_15 (_,.slice (some adz_v894) y893.length co33,adz_v894,gb899) _ ⟨hHeld,(zz48 HO890),(zz7 HO895),(zz7 HO_3),(zz7 HO_4),⟨_,rfl⟩,(zz18 BK899),GW899.out,GE899.out,NB0_899.out,NB899_0.out,(zz50 HI0 NB0_899),(zz54 HK GW899),(zz51 HB HI0 GE899)⟩)
      ·skip
       rintro⟨v889,v894,adz_v894⟩ w31 ⟨hS_,h0_,h1_,h2_,h3_,h4_,h5_,h6_,h7_⟩;have n0_:=A_ h0_;have n1_:=A_ h1_;have n2_:=A_ h2_;have n3_:=A_ h3_;have n4_:=A_ h4_;have n5_:=A_ h5_;have n6_:=A_ h6_;have n7_:=A_ h7_;(try dsimp only at n0_ n1_ n2_ n3_ n4_ n5_ n6_ n7_);clear HO_3;clear HO_4;clear HI0;clear HK;clear HB;clear h0_ h1_ h2_ h3_ h4_ h5_ h6_ h7_;have HO890:=n0_;have HO895:=n1_;have HO_3:=n2_;have HO_4:=n3_;have HA_HO895:=n4_;have HI0:=n5_;have HK:=n6_;have HB:=n7_;clear n0_ n1_ n2_ n3_ n4_ n5_ n6_ n7_;have hHeld:w31.cell? (ad887.add (x5_1).toNat)=some (.string (rdOf bE_ t882 x5_1)):=hS_;obtain⟨co32,eo32⟩:=HA_HO895.out;clear HA_HO895;subst eo32;refine norm_ (a':=?_) ?_ ?_;rotate_left
       ·simp only[putAll,Act.put,lS_,l0_,lC_]
        rfl
       refine oneZ 15 (some 6) (yA 16 1) (fun K hK=>?_);refine box_step ?hg (N:=6) ?hd (cs:=#[.string (⟨#[]⟩:BA),.string (⟨#[]⟩:BA),.string (⟨#[]⟩:BA),.int .i64 0]) (t:=57) ?hr ?_;(case hd=>rfl);(case hg=>rfl);(case hr=>exact zz5);intro gb899 hg w33 hbox hb;have HS0_:=(hb.cell (wb_ _ _ (hHeld))).trans (hHeld);replace HO_3:=A_ (rB (Kd.R_elderB (zz7 HO_3) gb899 (Nat.le_of_eq hg.symm)) hb);replace HO_4:=A_ (rB (zz7 HO_4) hb);replace HO890:=A_ (Kd.S_below (zz48 HO890) hb);replace HO895:=A_ (rB (zz7 HO895) hb);replace HB:=A_ (bS (zz39 HB HI0) hb);have BK899:=A_ (hbox);have GW899:=A_ ((by rw[hg];exact(keep_size (w:=w) (g:=g) (row:=none) (zz38 HK)):w.heap.size≤gb899));have GE899:=A_ ((nT_ HW0.out (by rw[hg];exact(keep_size (w:=w) (g:=g) (row:=none) (zz38 HK)):w.heap.size≤gb899):w0.heap.size≤gb899));replace HK:=A_ (KeepBut.trans (zz38 HK) (KeepBut.of_below hb g none) (.inl rfl));have NB0_899:=A_ ((by rw[hg];exact Nat.ne_of_lt (IsS105.lt (show IsS105 w0 _ g s0_0 t897 from(zz37 HI0))):g≠gb899));have NB899_0:=A_ ((by rw[hg];exact Nat.ne_of_gt (IsS105.lt (show IsS105 w0 _ g s0_0 t897 from(zz37 HI0))):gb899≠g));replace HI0:=A_ (IsS105.below (zz37 HI0) hb);clear hb hbox hg;refine hK.out _ _ (HS0_) (fun hHeld=>?_);clear hK K;refine nZ 6 ?_;exact norm_ zz148 (hJ7_8_9_11_13_15 (_,.slice (some adz_v894) y893.length co32,adz_v894,gb899) _ ⟨hHeld,(zz48 HO890),(zz7 HO895),(zz103 HO_3),(zz7 HO_4),⟨_,rfl⟩,(zz18 BK899),GW899.out,GE899.out,NB0_899.out,NB899_0.out,(zz50 HI0 NB0_899),(zz54 HK GW899),(zz51 HB HI0 GE899)⟩)
     rintro⟨v889,v894,adz_v894,gb899⟩ w32 ⟨hS_,h0_,h1_,h2_,h3_,h4_,h5_,h6_,h7_,h8_,h9_,h10_,h11_,h12_⟩;have n0_:=A_ h0_;have n1_:=A_ h1_;have n2_:=A_ h2_;have n3_:=A_ h3_;have n4_:=A_ h4_;have n5_:=A_ h5_;have n6_:=A_ h6_;have n7_:=A_ h7_;have n8_:=A_ h8_;have n9_:=A_ h9_;have n10_:=A_ h10_;have n11_:=A_ h11_;have n12_:=A_ h12_;(try dsimp only at n0_ n1_ n2_ n3_ n4_ n5_ n6_ n7_ n8_ n9_ n10_ n11_ n12_);clear HO_3;clear HO_4;clear HI0;clear HK;clear HB;clear h0_ h1_ h2_ h3_ h4_ h5_ h6_ h7_ h8_ h9_ h10_ h11_ h12_;have HO890:=n0_;have HO895:=n1_;have HO_3:=n2_;have HO_4:=n3_;have HA_HO895:=n4_;have BK899:=n5_;have GW899:=n6_;have GE899:=n7_;have NB0_899:=n8_;have NB899_0:=n9_;have HI0:=n10_;have HK:=n11_;have HB:=n12_;clear n0_ n1_ n2_ n3_ n4_ n5_ n6_ n7_ n8_ n9_ n10_ n11_ n12_;have hHeld:w32.cell? (ad887.add (x5_1).toNat)=some (.string (rdOf bE_ t882 x5_1)):=hS_;obtain⟨co33,eo33⟩:=HA_HO895.out;clear HA_HO895;subst eo33;refine norm_ (a':=?_) ?_ ?_;rotate_left
     ·simp only[putAll,Act.put,lS_,l0_,lC_]
      rfl
     refine oneZ 16 (none) (yA 17 0) (fun K hK=>?_);have hs34:w32.cell? ⟨gb899,0,none⟩=some (.string (⟨#[]⟩:BA)):=(blk_cell BK899.out 0).trans rfl;have hfs34:=blk_frozen BK899.out 0;have hs35:w32.cell? ⟨gb899,1,none⟩=some (.string (⟨#[]⟩:BA)):=(blk_cell BK899.out 1).trans rfl;have hfs35:=blk_frozen BK899.out 1;have hs36:w32.cell? ⟨gb899,2,none⟩=some (.string (⟨#[]⟩:BA)):=(blk_cell BK899.out 2).trans rfl;have hfs36:=blk_frozen BK899.out 2;have hs37:w32.cell? ⟨gb899,3,none⟩=some (.int .i64 0):=(blk_cell BK899.out 3).trans rfl;have hfs37:=blk_frozen BK899.out 3;refine skip_ (w1:=?_) (by rfl) rfl ?_ ?_;rotate_left
     ·go_simp
      rfl
     refine hK.out _ _ (((cell_far (p:=⟨gb899,_,none⟩) (zz151 HO_4 BK899) _).trans (((cell_far (p:=⟨gb899,_,none⟩) (zz151 HO_4 BK899) _).trans (((cell_far (p:=⟨gb899,_,none⟩) (zz151 HO_4 BK899) _).trans (((cell_far (p:=⟨gb899,_,none⟩) (zz151 HO_4 BK899) _).trans (hHeld))))))))) (fun hHeld=>?_);clear hK K;refine done_ (done_of HT_.out (by kernel_rfl)) ?_;go_upto_if 37 with(first|(refine gR 81 (some 36) Tryz.func81 (spec_l6Rd_pick.calls k1 g s0_0 t897 12 t900 t901 w0 _ ?side1 ?side2 A20.out) ?_;(case side1=>exact(zz50 HI0 NB0_899));(case side2=>exact(zz51 HB HI0 GE899));rintro w38 ⟨hi,hb,hk⟩;replace HO_3:=A_ (Kd.R_mono (Kd.R_keep (IsS105.apart (show IsS105 w0 _ g s0_0 t897 from(zz50 HI0 NB0_899)) (by(with_reducible repeat(first|apply Kd.R_alloc|apply Kd.R_drewN|apply Kd.R_drew));exact(Kd.R_mono (Kd.R_far (p:=⟨gb899,3,none⟩) (Kd.R_far (p:=⟨gb899,2,none⟩) (Kd.R_far (p:=⟨gb899,1,none⟩) (Kd.R_far (p:=⟨gb899,0,none⟩) (Kd.R_mono HO_3.out (fun k_ hk=>(⟨hk,hk⟩:_∧k_≠gb899))) (fun _ hk=>hk.2) (.string (((⟨#[47,47]⟩:BA)++(rdOf bE_ t882 x5_1))++(⟨#[47,110,111,116,105,99,101]⟩:BA)))) (fun _ hk=>hk.2) (.string t892)) (fun _ hk=>hk.2) (.string (⟨#[]⟩:BA))) (fun _ hk=>hk.2) (.int .i64 (rd y893 t896))) (fun _ h_=>h_.1))) (by decide)) hk (fun _ h=>h.2)) (fun _ h=>h.1));replace HO_4:=A_ (Kd.R_mono (Kd.R_keep (IsS105.apart (show IsS105 w0 _ g s0_0 t897 from(zz50 HI0 NB0_899)) (zz153 HO_4 BK899) (by decide)) hk (fun _ h=>h.2)) (fun _ h=>h.1));replace HO890:=A_ (Kd.S_mono (Kd.S_keep (IsS105.apartS (show IsS105 w0 _ g s0_0 t897 from(zz50 HI0 NB0_899)) (by(with_reducible repeat(first|apply Kd.S_alloc|apply Kd.S_drewN|apply Kd.S_drew));exact(Kd.S_mono (Kd.S_far (p:=⟨gb899,3,none⟩) (Kd.S_far (p:=⟨gb899,2,none⟩) (Kd.S_far (p:=⟨gb899,1,none⟩) (Kd.S_far (p:=⟨gb899,0,none⟩) (Kd.S_types HO890.out BK899.out (by decide)) (fun _ hk=>hk.2) (.string (((⟨#[47,47]⟩:BA)++(rdOf bE_ t882 x5_1))++(⟨#[47,110,111,116,105,99,101]⟩:BA)))) (fun _ hk=>hk.2) (.string t892)) (fun _ hk=>hk.2) (.string (⟨#[]⟩:BA))) (fun _ hk=>hk.2) (.int .i64 (rd y893 t896))) (fun _ h_=>h_.1))) (by decide)) hk (fun _ h=>h.2)) (fun _ h=>h.1));replace HO895:=A_ (Kd.R_mono (Kd.R_keep (IsS105.apart (show IsS105 w0 _ g s0_0 t897 from(zz50 HI0 NB0_899)) (zz153 HO895 BK899) (by decide)) hk (fun _ h=>h.2)) (fun _ h=>h.1));replace BK899:=A_ (KeepBut.blk hk (g':=gb899) (o:=.cells #[.string (((⟨#[47,47]⟩:BA)++(rdOf bE_ t882 x5_1))++(⟨#[47,110,111,116,105,99,101]⟩:BA)),.string t892,.string (⟨#[]⟩:BA),.int .i64 (rd y893 t896)] 57 (0,0)) (zz22 BK899) NB899_0.out (by simp));replace HK:=A_ (KeepBut.trans (zz54 HK GW899) hk (.inl rfl));replace HB:=A_ (hb);replace HI0:=A_ (hi);(try clear hb hk hi)))
     obtain⟨H⟩:=HF21;replace H:=iteEq H;rcases H with⟨c39b0,c39b1,H⟩|⟨c39b0,c39b1,c39,H⟩
     ·(first|rw[c39b0]|(simp only[i64_w,i32_w];rw[c39b0])|skip)
      replace H:=bindA H;obtain⟨⟨t902,t903⟩,A40,H⟩:=H;try dsimp only at H;have HF41:=A_ H;clear H;have hnb42:=NB899_0.out;have hnc42:=NB0_899.out;obtain⟨_,_,_,_,_,_,_,_⟩:=cf4 BK899;go_upto_if 45 with(first|(refine gR 110 (some 40) Tryz.func110 (spec_l71Addr.calls k1 g s0_0 t901 t902 t903 w0 _ ?side1 ?side2 A40.out) ?_;(case side1=>exact(zz50 HI0 NB0_899));(case side2=>exact(zz51 HB HI0 GE899));rintro w44 ⟨hi,hb,hk⟩;replace HO_3:=A_ (Kd.R_mono (Kd.R_keep (IsS105.apart (show IsS105 w0 _ g s0_0 t901 from(zz50 HI0 NB0_899)) (by(with_reducible repeat(first|apply Kd.R_alloc|apply Kd.R_drewN|apply Kd.R_drew));exact(Kd.R_mono (Kd.R_far (p:=⟨gb899,1,none⟩) (Kd.R_mono HO_3.out (fun k_ hk=>(⟨hk,hk⟩:_∧k_≠gb899))) (fun _ hk=>hk.2) (.string (⟨#[]⟩:BA))) (fun _ h_=>h_.1))) (by decide)) hk (fun _ h=>h.2)) (fun _ h=>h.1));replace HO_4:=A_ (Kd.R_mono (Kd.R_keep (IsS105.apart (show IsS105 w0 _ g s0_0 t901 from(zz50 HI0 NB0_899)) (zz156 HO_4 BK899) (by decide)) hk (fun _ h=>h.2)) (fun _ h=>h.1));replace HO890:=A_ (Kd.S_mono (Kd.S_keep (IsS105.apartS (show IsS105 w0 _ g s0_0 t901 from(zz50 HI0 NB0_899)) (by(with_reducible repeat(first|apply Kd.S_alloc|apply Kd.S_drewN|apply Kd.S_drew));exact(Kd.S_mono (Kd.S_far (p:=⟨gb899,1,none⟩) (Kd.S_types HO890.out BK899.out (by decide)) (fun _ hk=>hk.2) (.string (⟨#[]⟩:BA))) (fun _ h_=>h_.1))) (by decide)) hk (fun _ h=>h.2)) (fun _ h=>h.1));replace HO895:=A_ (Kd.R_mono (Kd.R_keep (IsS105.apart (show IsS105 w0 _ g s0_0 t901 from(zz50 HI0 NB0_899)) (zz156 HO895 BK899) (by decide)) hk (fun _ h=>h.2)) (fun _ h=>h.1));replace BK899:=A_ (KeepBut.blk hk (g':=gb899) (o:=.cells #[.string (((⟨#[47,47]⟩:BA)++(rdOf bE_ t882 x5_1))++(⟨#[47,110,111,116,105,99,101]⟩:BA)),.string (⟨#[]⟩:BA),.string (⟨#[]⟩:BA),.int .i64 (rd y893 t896)] 57 (0,0)) (zz30 BK899) NB899_0.out (by simp));replace HK:=A_ (KeepBut.trans (zz54 HK GW899) hk (.inl rfl));replace HB:=A_ (hb);replace HI0:=A_ (hi);(try clear hb hk hi);obtain⟨_,_,_,_,_,_,_,_⟩:=cf4 BK899)|((with_reducible refine gate_store (t:=9) (p:=41) rfl ?_);refine store_event (t:=9) (p:=41) (v:=?vo_w46) (w1:=(w44.setCell ⟨gb899,2,none⟩ (.string t902))) ?hg ?ho ?hn ?hr ?_;(case ho=>rfl);(case hg=>rfl);(case hn=>rfl);(case hr=>exact zz5);intro w46 hw;have n0_:Aside0 (Kd.R k57 57 w46 w.heap.size (fun k_=>k_≠gb899) u3 x3_1):=⟨(by rw[hw];exact(by(with_reducible repeat(first|apply Kd.R_alloc|apply Kd.R_drewN|apply Kd.R_drew));exact Kd.R_mono (Kd.R_far (p:=⟨gb899,2,none⟩) (Kd.R_mono HO_3.out (fun k_ hk=>(⟨hk,hk⟩:_∧k_≠gb899))) (fun _ hk=>hk.2) (.string t902)) (fun _ hk=>hk.1)))⟩;have n1_:Aside0 (Kd.R Kd.string 9 w46 w.heap.size (fun _=>True) (.slice (some ad887) t882.length co23) t882):=⟨(by rw[hw];exact(zz23 (rt HO_4 BK899)))⟩;have n2_:Aside0 (Kd.S k32 32 w46 w.heap.size (fun k_=>some k_≠(.slice (some ad887) t882.length co23:Value).ownBlock) v889 t888):=⟨(by rw[hw];exact(by(with_reducible repeat(first|apply Kd.S_alloc|apply Kd.S_drewN|apply Kd.S_drew));exact Kd.S_mono (Kd.S_far (p:=⟨gb899,2,none⟩) (Kd.S_types HO890.out BK899.out (by decide)) (fun _ hk=>hk.2) (.string t902)) (fun _ hk=>hk.1)))⟩;have n3_:Aside0 (Kd.R (Kd.int .i64) 3 w46 w.heap.size (fun _=>True) (.slice (some adz_v894) y893.length co33) y893):=⟨(by rw[hw];exact(zz23 (rt HO895 BK899)))⟩;have n4_:Aside0 (w46.heap[gb899]?=some (.cells #[.string (((⟨#[47,47]⟩:BA)++(rdOf bE_ t882 x5_1))++(⟨#[47,110,111,116,105,99,101]⟩:BA)),.string (⟨#[]⟩:BA),.string t902,.int .i64 (rd y893 t896)] 57 (0,0))):=⟨(by rw[hw];exact(zz31 BK899))⟩;have n5_:Aside0 (IsS105 w0 w46 g s0_0 t903):=⟨(by rw[hw];exact(zz50 HI0 NB0_899))⟩;have n6_:Aside0 (KeepBut w w46 g none):=⟨(by rw[hw];exact(zz54 HK GW899))⟩;have n7_:Aside0 (Below w0.heap.size w0 w46):=⟨(by rw[hw];exact(zz51 HB HI0 GE899))⟩;clear hw;clear HO_3;clear HO_4;clear HO890;clear HO895;clear BK899;clear HI0;clear HK;clear HB;have HO_3:=n0_;have HO_4:=n1_;have HO890:=n2_;have HO895:=n3_;have BK899:=n4_;have HI0:=n5_;have HK:=n6_;have HB:=n7_;clear n0_ n1_ n2_ n3_ n4_ n5_ n6_ n7_;obtain⟨_,_,_,_,_,_,_,_⟩:=cf4 BK899))
      obtain⟨H⟩:=HF41;replace H:=iteE H;rcases H with⟨c48,H⟩|⟨c48,H⟩
      ·have c48b0:=dT c48
       clear c48;(first|rw[c48b0]|(simp only[i64_w,i32_w];rw[c48b0])|skip);replace H:=iteN H;obtain⟨c49,H⟩:=H;have LMc49:=A_ c49;clear c49;obtain⟨y904,Ny904⟩:=toY (x3_1++[(⟨((⟨#[47,47]⟩:BA)++(rdOf bE_ t882 x5_1))++(⟨#[47,110,111,116,105,99,101]⟩:BA),(⟨#[]⟩:BA),t902,rd y893 t896⟩:S57)]);(first|with_reducible replace H:=bindZ Ny904 H|rw[←Ny904.out]at H|skip);have H':=A_ H;clear H;have hnb50:=NB899_0.out;have hnc50:=NB0_899.out;obtain⟨_,_,_,_,_,_,_,_⟩:=cf4 BK899;go_wp2_with (first|((with_reducible refine gate_builtin (b:=.append) (xs:=#[.tmp 46,.tmp 48]) rfl ?_);(try(refine gate_guard (by rfl) ?_;dsimp only));at_builtin;refine Kd.R_append k57 w.heap.size rfl (.tmp 46) (.tmp 48) 25 57 (.agg #[(.string ⟨#[]⟩),(.string ⟨#[]⟩),(.string ⟨#[]⟩),(.int .i64 0)]) 56 rfl Tryz.underlying25 info57 rfl (by decide) (by omega) u3 x3_1 (⟨((⟨#[47,47]⟩:BA)++(rdOf bE_ t882 x5_1))++(⟨#[47,110,111,116,105,99,101]⟩:BA),(⟨#[]⟩:BA),t902,rd y893 t896⟩:S57) [.string (((⟨#[47,47]⟩:BA)++(rdOf bE_ t882 x5_1))++(⟨#[47,110,111,116,105,99,101]⟩:BA)),.string (⟨#[]⟩:BA),.string t902,.int .i64 (rd y893 t896)] (fun k_=>k_≠gb899) (fun _=>False) rfl rfl ?aP (fun _ hk=>hk.elim) ?aF ?aO (Below.refl _ _) ?aS ?aL ?_;(case aP=>exact k57_mkM _ _ _ (⟨((⟨#[47,47]⟩:BA)++(rdOf bE_ t882 x5_1))++(⟨#[47,110,111,116,105,99,101]⟩:BA),(⟨#[]⟩:BA),t902,rd y893 t896⟩:S57));(case aF=>exact(fun k_ hk=>Kd.freshB (zz18 BK899) k_ hk));(case aO=>exact(zz7 HO_3));(case aS=>exact(keep_size (w:=w) (g:=g) (row:=none) (zz54 HK GW899)));(case aL=>exact(zz4 LMc49));intro v905 w52 ho hb hg hat;rw[←Ny904.out]at ho;replace HO_4:=A_ (Kd.R_over' (zz7 HO_4) (Kd.R_typed (zz7 HO_3)) (by decide) hg);replace HO890:=A_ (Kd.S_over' (zz48 HO890) (Kd.R_typed (zz7 HO_3)) (by decide) hg);replace HO895:=A_ (Kd.R_over' (zz7 HO895) (Kd.R_typed (zz7 HO_3)) (by decide) hg);replace BK899:=A_ (blk_grown (zz18 BK899) hg (Kd.R_away HO_3.out (fun _ hk=>hk)));replace HB:=A_ (below_weaken (zz51 HB HI0 GE899) HL.out hb);replace HI0:=A_ (IsS105.grown (zz50 HI0 NB0_899) hg (IsS105.own_ne HI0.out HO_3.out (by decide)));replace HK:=A_ (KeepBut.trans (zz54 HK GW899) (KeepBut.of_grown hg g) (Kd.R_base2 HO_3.out));have HO906:=A_ (ho);clear HO_3;clear ho hb hg hat))
       go_roundg k1
       case measure=>have:=HK1.out;omega
       case rel=>exact⟨(y904),(wrap64 (x5_1+1)),(t903),zz0,H',⟨(zz4 HK1)⟩,⟨(zz168 HO906)⟩,⟨(zz7 HO_4)⟩,⟨(zz50 HI0 NB0_899)⟩,⟨(zz54 HK GW899)⟩,⟨(zz51 HB HI0 GE899)⟩⟩
      ·exact absurd (show 0≤300 from by decide) c48
     ·(first|rw[c39b0]|(simp only[i64_w,i32_w];rw[c39b0])|skip)
      replace H:=iteE H;rcases H with⟨c53,H⟩|⟨c53,H⟩
      ·have c53b0:=dT c53
       have c53b1:decide (t892.size≤300)=true:=dT (by omega);clear c53;replace H:=iteN H;obtain⟨c54,H⟩:=H;have LMc54:=A_ c54;clear c54;obtain⟨y907,Ny907⟩:=toY (x3_1++[(⟨((⟨#[47,47]⟩:BA)++(rdOf bE_ t882 x5_1))++(⟨#[47,110,111,116,105,99,101]⟩:BA),t892,(⟨#[]⟩:BA),rd y893 t896⟩:S57)]);(first|with_reducible replace H:=bindZ Ny907 H|rw[←Ny907.out]at H|skip);have H':=A_ H;clear H;have hnb55:=NB899_0.out;have hnc55:=NB0_899.out;obtain⟨_,_,_,_,_,_,_,_⟩:=cf4 BK899;go_wp2_with (first|((with_reducible refine gate_builtin (b:=.append) (xs:=#[.tmp 46,.tmp 48]) rfl ?_);(try(refine gate_guard (by rfl) ?_;dsimp only));at_builtin;refine Kd.R_append k57 w.heap.size rfl (.tmp 46) (.tmp 48) 25 57 (.agg #[(.string ⟨#[]⟩),(.string ⟨#[]⟩),(.string ⟨#[]⟩),(.int .i64 0)]) 56 rfl Tryz.underlying25 info57 rfl (by decide) (by omega) u3 x3_1 (⟨((⟨#[47,47]⟩:BA)++(rdOf bE_ t882 x5_1))++(⟨#[47,110,111,116,105,99,101]⟩:BA),t892,(⟨#[]⟩:BA),rd y893 t896⟩:S57) [.string (((⟨#[47,47]⟩:BA)++(rdOf bE_ t882 x5_1))++(⟨#[47,110,111,116,105,99,101]⟩:BA)),.string t892,.string (⟨#[]⟩:BA),.int .i64 (rd y893 t896)] (fun k_=>k_≠gb899) (fun _=>False) rfl rfl ?aP (fun _ hk=>hk.elim) ?aF ?aO (Below.refl _ _) ?aS ?aL ?_;(case aP=>exact k57_mkM _ _ _ (⟨((⟨#[47,47]⟩:BA)++(rdOf bE_ t882 x5_1))++(⟨#[47,110,111,116,105,99,101]⟩:BA),t892,(⟨#[]⟩:BA),rd y893 t896⟩:S57));(case aF=>exact(fun k_ hk=>Kd.freshB (zz18 BK899) k_ hk));(case aO=>exact(zz7 HO_3));(case aS=>exact(keep_size (w:=w) (g:=g) (row:=none) (zz54 HK GW899)));(case aL=>exact(zz4 LMc54));intro v908 w57 ho hb hg hat;rw[←Ny907.out]at ho;replace HO_4:=A_ (Kd.R_over' (zz7 HO_4) (Kd.R_typed (zz7 HO_3)) (by decide) hg);replace HO890:=A_ (Kd.S_over' (zz48 HO890) (Kd.R_typed (zz7 HO_3)) (by decide) hg);replace HO895:=A_ (Kd.R_over' (zz7 HO895) (Kd.R_typed (zz7 HO_3)) (by decide) hg);replace BK899:=A_ (blk_grown (zz18 BK899) hg (Kd.R_away HO_3.out (fun _ hk=>hk)));replace HB:=A_ (below_weaken (zz51 HB HI0 GE899) HL.out hb);replace HI0:=A_ (IsS105.grown (zz50 HI0 NB0_899) hg (IsS105.own_ne HI0.out HO_3.out (by decide)));replace HK:=A_ (KeepBut.trans (zz54 HK GW899) (KeepBut.of_grown hg g) (Kd.R_base2 HO_3.out));have HO909:=A_ (ho);clear HO_3;clear ho hb hg hat))
       go_roundg k1
       case measure=>have:=HK1.out;omega
       case rel=>exact⟨(y907),(wrap64 (x5_1+1)),(t901),zz0,H',⟨(zz4 HK1)⟩,⟨(zz168 HO909)⟩,⟨(zz7 HO_4)⟩,⟨(zz50 HI0 NB0_899)⟩,⟨(zz54 HK GW899)⟩,⟨(zz51 HB HI0 GE899)⟩⟩
      ·have c53b0:=dF c53
       have c53b1:decide (t892.size≤300)=false:=dF (by omega);clear c53;have H':=A_ H;clear H;have hnb58:=NB899_0.out;have hnc58:=NB0_899.out;obtain⟨_,_,_,_,_,_,_,_⟩:=cf4 BK899;go_wp2
       go_roundg k1
       case measure=>have:=HK1.out;omega
       case rel=>exact⟨(x3_1),(wrap64 (x5_1+1)),(t901),zz0,H',⟨(zz4 HK1)⟩,⟨(zz168 HO_3)⟩,⟨(zz7 HO_4)⟩,⟨(zz50 HI0 NB0_899)⟩,⟨(zz54 HK GW899)⟩,⟨(zz51 HB HI0 GE899)⟩⟩
    ·(first|rw[c10b0]|(simp only[i64_w,i32_w];rw[c10b0])|skip)
     have H':=A_ H;clear H;go_wp2
     go_roundg k1
     case measure=>have:=HK1.out;omega
     case rel=>exact⟨(x3_1),(wrap64 (x5_1+1)),(t886),zz0,H',⟨(zz4 HK1)⟩,⟨(zz7 HO_3)⟩,⟨(zz7 HO_4)⟩,⟨(zz37 HI0)⟩,⟨(zz38 HK)⟩,⟨(zz39 HB HI0)⟩⟩
   ·replace H:=bindA H
    obtain⟨⟨t910,t911⟩,A60,H⟩:=H;try dsimp only at H;have H':=A_ H;clear H;go_wp2_with (first|(refine gR 81 (some 51) Tryz.func81 (spec_l6Rd_pick.calls k1 g s0_0 x1001_1 7 t910 t911 w0 _ ?side1 ?side2 A60.out) ?_;(case side1=>exact(zz37 HI0));(case side2=>exact(zz39 HB HI0));rintro w61 ⟨hi,hb,hk⟩;replace HO_3:=A_ (Kd.R_mono (Kd.R_keep (IsS105.apart (show IsS105 w0 _ g s0_0 x1001_1 from(zz37 HI0)) (zz7 HO_3) (by decide)) hk (fun _ h=>h.2)) (fun _ h=>h.1));replace HO_4:=A_ (Kd.R_mono (Kd.R_keep (IsS105.apart (show IsS105 w0 _ g s0_0 x1001_1 from(zz37 HI0)) (zz7 HO_4) (by decide)) hk (fun _ h=>h.2)) (fun _ h=>h.1));replace HK:=A_ (KeepBut.trans (zz38 HK) hk (.inl rfl));replace HB:=A_ (hb);replace HI0:=A_ (hi);(try clear hb hk hi)))
    go_loopg [3,7] k1 (fun kq v3 v7 w'=>∃(x3_2:List (S57))(x7_2:Int)(x1001_2:Int),v7=.int .i64 x7_2∧Aside0 (spec_l71World.l1 kq x3_2 x7_2 s0_0 x1001_2=some (r1,r2))∧Aside0 (kq≤k1)∧Aside0 (Kd.R k57 57 w' w.heap.size (fun _=>True) v3 x3_2)∧Aside0 (IsS105 w0 w' g s0_0 x1001_2)∧Aside0 (KeepBut w w' g none)∧Aside0 (Below w0.heap.size w0 w'))
    case atStart=>exact⟨(x3_1),(wrap64 (2+t910)),(t911),zz0,H',⟨lL_ _⟩,⟨(zz7 HO_3)⟩,⟨(zz37 HI0)⟩,⟨(zz38 HK)⟩,⟨(zz39 HB HI0)⟩⟩
    case round=>
     clear H';obtain⟨x3_2,x7_2,x1001_2,rfl,HA,HK2,HO_3,HI0,HK,HB⟩:=hrel;cases gk with
     |zero=>exact absurd HA.out (by simp[spec_l71World.l1])
     |succ k2=>
      obtain⟨H⟩:=HA;simp only[spec_l71World.l1]at H;replace H:=iteEg H;rcases H with⟨c62b0,H⟩|⟨c62b0,H⟩
      ·replace H:=bindA H
       obtain⟨⟨t912,t913⟩,A63,H⟩:=H;try dsimp only at H;replace H:=bindA H;obtain⟨⟨t914,t915⟩,A64,H⟩:=H;try dsimp only at H;obtain⟨y916,Ny916,H⟩:=bindY H;replace H:=bindA H;obtain⟨⟨t919,t920⟩,A65,H⟩:=H;try dsimp only at H;replace H:=iteNd H;obtain⟨c66b0,H⟩:=H;replace H:=iteNd H;obtain⟨c67b0,H⟩:=H;replace H:=bindA H;obtain⟨⟨t923,t924⟩,A68,H⟩:=H;try dsimp only at H;have HF69:=A_ H;clear H;go_upto_if 69 with(first|(refine gR 110 (some 58) Tryz.func110 (spec_l71Addr.calls k2 g s0_0 x1001_2 t912 t913 w0 _ ?side1 ?side2 A63.out) ?_;(case side1=>exact(zz37 HI0));(case side2=>exact(zz39 HB HI0));rintro w70 ⟨hi,hb,hk⟩;replace HO_3:=A_ (Kd.R_mono (Kd.R_keep (IsS105.apart (show IsS105 w0 _ g s0_0 x1001_2 from(zz37 HI0)) (zz7 HO_3) (by decide)) hk (fun _ h=>h.2)) (fun _ h=>h.1));replace HK:=A_ (KeepBut.trans (zz38 HK) hk (.inl rfl));replace HB:=A_ (hb);replace HI0:=A_ (hi);(try clear hb hk hi))|(refine gR 111 (some 60) Tryz.func111 (spec_l71Page.calls k2 g s0_0 t913 t914 t915 w0 _ ?side1 ?side2 A64.out) ?_;(case side1=>exact(zz37 HI0));(case side2=>exact(zz39 HB HI0));rintro w71 ⟨hi,hb,hk⟩;replace HO_3:=A_ (Kd.R_mono (Kd.R_keep (IsS105.apart (show IsS105 w0 _ g s0_0 t913 from(zz37 HI0)) (zz7 HO_3) (by decide)) hk (fun _ h=>h.2)) (fun _ h=>h.1));replace HK:=A_ (KeepBut.trans (zz38 HK) hk (.inl rfl));replace HB:=A_ (hb);replace HI0:=A_ (hi);(try clear hb hk hi))|((with_reducible refine gD (N:=61) rfl ?_);(try(refine gate_guard (by rfl) ?_;dsimp only));refine Kd.R_lit (Kd.int .i64) _ 3 ?hg (N:=61) ?hd (xs:=([0,0,0,0,1,2,4]:List Int)) (inner:=[.int .i64 0,.int .i64 0,.int .i64 0,.int .i64 0,.int .i64 1,.int .i64 2,.int .i64 4]) (ok:=fun _=>True) (okp:=fun _=>True) ?hr ?hp (fun _ hk=>hk) trivial (Below.refl _ _) (lL_ _) (by simp) ?_;(case hd=>rfl);(case hg=>rfl);(case hr=>exact zz5);(case hp=>exact rpI);intro v917 w72 ho73 hb hg_ hnew_;clear hg_ hnew_;(first|rw[←Ny916.out]at ho73|(simp only[Int.reduceToNat]at ho73;rw[←Ny916.out]at ho73));replace HO_3:=A_ (rB (zz7 HO_3) hb);have HO918:=A_ (Kd.R_lower ho73 (keep_size (w:=w) (g:=g) (row:=none) (zz38 HK)));replace HK:=A_ (KeepBut.trans (zz38 HK) (KeepBut.of_below hb g none) (.inl rfl));replace HB:=A_ (bS (zz39 HB HI0) hb);replace HI0:=A_ (IsS105.below (zz37 HI0) hb);clear hb ho73)|(refine gR 81 (some 63) Tryz.func81 (spec_l6Rd_pick.calls k2 g s0_0 t915 7 t919 t920 w0 _ ?side1 ?side2 A65.out) ?_;(case side1=>exact(zz37 HI0));(case side2=>exact(zz39 HB HI0));rintro w74 ⟨hi,hb,hk⟩;replace HO_3:=A_ (Kd.R_mono (Kd.R_keep (IsS105.apart (show IsS105 w0 _ g s0_0 t915 from(zz37 HI0)) (zz7 HO_3) (by decide)) hk (fun _ h=>h.2)) (fun _ h=>h.1));replace HO918:=A_ (Kd.R_mono (Kd.R_keep (IsS105.apart (show IsS105 w0 _ g s0_0 t915 from(zz37 HI0)) (zz7 HO918) (by decide)) hk (fun _ h=>h.2)) (fun _ h=>h.1));replace HK:=A_ (KeepBut.trans (zz38 HK) hk (.inl rfl));replace HB:=A_ (hb);replace HI0:=A_ (hi);(try clear hb hk hi);obtain⟨Ao75,co75,eo75⟩:=Kd.R_slice HO918.out;subst eo75;have p921:0≤(t919:Int):=ofD;have q921:t919<(y916.length:Int):=ofD;obtain⟨ad921,e921,hx921_0⟩:=Kd.at_int (Kd.R_reads' HO918.out).2.2 t919 p921 q921;cases e921;replace p921:=eq_true p921;replace q921:=eq_true q921)|((with_reducible refine gD (N:=8) rfl ?_);(try(refine gate_guard (by rfl) ?_;dsimp only));refine boxE 8 #[.string (⟨#[]⟩:BA),.string (⟨#[]⟩:BA),.string (⟨#[]⟩:BA),.int .i64 0] 57 ?_;intro gb922 hg w76 hbox hb;replace HO_3:=A_ (rB (Kd.R_elderB (zz7 HO_3) gb922 (Nat.le_of_eq hg.symm)) hb);replace HO918:=A_ (rB (zz7 HO918) hb);replace HB:=A_ (bS (zz39 HB HI0) hb);have BK922:=A_ (hbox);have GW922:=A_ ((by rw[hg];exact(keep_size (w:=w) (g:=g) (row:=none) (zz38 HK)):w.heap.size≤gb922));have GE922:=A_ ((nT_ HW0.out (by rw[hg];exact(keep_size (w:=w) (g:=g) (row:=none) (zz38 HK)):w.heap.size≤gb922):w0.heap.size≤gb922));replace HK:=A_ (KeepBut.trans (zz38 HK) (KeepBut.of_below hb g none) (.inl rfl));have NB0_922:=A_ ((by rw[hg];exact Nat.ne_of_lt (IsS105.lt (show IsS105 w0 _ g s0_0 t920 from(zz37 HI0))):g≠gb922));have NB922_0:=A_ ((by rw[hg];exact Nat.ne_of_gt (IsS105.lt (show IsS105 w0 _ g s0_0 t920 from(zz37 HI0))):gb922≠g));replace HI0:=A_ (IsS105.below (zz37 HI0) hb);clear hb hbox hg;have hnb77:=NB922_0.out;have hnc77:=NB0_922.out;obtain⟨_,_,_,_,_,_,_,_⟩:=cf4 BK922)|(refine gR 81 (some 68) Tryz.func81 (spec_l6Rd_pick.calls k2 g s0_0 t920 8 t923 t924 w0 _ ?side1 ?side2 A68.out) ?_;(case side1=>exact(zz50 HI0 NB0_922));(case side2=>exact(zz51 HB HI0 GE922));rintro w79 ⟨hi,hb,hk⟩;replace HO_3:=A_ (Kd.R_mono (Kd.R_keep (IsS105.apart (show IsS105 w0 _ g s0_0 t920 from(zz50 HI0 NB0_922)) (by(with_reducible repeat(first|apply Kd.R_alloc|apply Kd.R_drewN|apply Kd.R_drew));exact(Kd.R_mono (Kd.R_far (p:=⟨gb922,3,none⟩) (Kd.R_far (p:=⟨gb922,2,none⟩) (Kd.R_far (p:=⟨gb922,1,none⟩) (Kd.R_far (p:=⟨gb922,0,none⟩) (Kd.R_mono HO_3.out (fun k_ hk=>(⟨hk,hk.2⟩:_∧k_≠gb922))) (fun _ hk=>hk.2) (.string t912)) (fun _ hk=>hk.2) (.string t914)) (fun _ hk=>hk.2) (.string (⟨#[]⟩:BA))) (fun _ hk=>hk.2) (.int .i64 (rd y916 t919))) (fun _ h_=>h_.1))) (by decide)) hk (fun _ h=>h.2)) (fun _ h=>h.1));replace HO918:=A_ (Kd.R_mono (Kd.R_keep (IsS105.apart (show IsS105 w0 _ g s0_0 t920 from(zz50 HI0 NB0_922)) (by(with_reducible repeat(first|apply Kd.R_alloc|apply Kd.R_drewN|apply Kd.R_drew));exact(Kd.R_mono (Kd.R_far (p:=⟨gb922,3,none⟩) (Kd.R_far (p:=⟨gb922,2,none⟩) (Kd.R_far (p:=⟨gb922,1,none⟩) (Kd.R_far (p:=⟨gb922,0,none⟩) (Kd.R_types HO918.out BK922.out (by decide)) (fun _ hk=>hk.2) (.string t912)) (fun _ hk=>hk.2) (.string t914)) (fun _ hk=>hk.2) (.string (⟨#[]⟩:BA))) (fun _ hk=>hk.2) (.int .i64 (rd y916 t919))) (fun _ h_=>h_.1))) (by decide)) hk (fun _ h=>h.2)) (fun _ h=>h.1));replace BK922:=A_ (KeepBut.blk hk (g':=gb922) (o:=.cells #[.string t912,.string t914,.string (⟨#[]⟩:BA),.int .i64 (rd y916 t919)] 57 (0,0)) (zz22 BK922) NB922_0.out (by simp));replace HK:=A_ (KeepBut.trans (zz54 HK GW922) hk (.inl rfl));replace HB:=A_ (hb);replace HI0:=A_ (hi);(try clear hb hk hi)))
       obtain⟨H⟩:=HF69;replace H:=iteEq H;rcases H with⟨c80b0,c80b1,H⟩|⟨c80b0,c80b1,c80,H⟩
       ·(first|rw[c80b0]|(simp only[i64_w,i32_w];rw[c80b0])|skip)
        replace H:=bindA H;obtain⟨⟨t925,t926⟩,A81,H⟩:=H;try dsimp only at H;replace H:=bindA H;obtain⟨⟨t927,t928,t929,t930,t931⟩,A82,H⟩:=H;try dsimp only at H;have HF83:=A_ H;clear H;have hnb84:=NB922_0.out;have hnc84:=NB0_922.out;obtain⟨_,_,_,_,_,_,_,_⟩:=cf4 BK922;go_wp2_with (first|(refine gR 110 (some 72) Tryz.func110 (spec_l71Addr.calls k2 g s0_0 t924 t925 t926 w0 _ ?side1 ?side2 A81.out) ?_;(case side1=>exact(zz50 HI0 NB0_922));(case side2=>exact(zz51 HB HI0 GE922));rintro w86 ⟨hi,hb,hk⟩;replace HO_3:=A_ (Kd.R_mono (Kd.R_keep (IsS105.apart (show IsS105 w0 _ g s0_0 t924 from(zz50 HI0 NB0_922)) (by(with_reducible repeat(first|apply Kd.R_alloc|apply Kd.R_drewN|apply Kd.R_drew));exact(Kd.R_mono (Kd.R_far (p:=⟨gb922,1,none⟩) (Kd.R_mono HO_3.out (fun k_ hk=>(⟨hk,hk.2⟩:_∧k_≠gb922))) (fun _ hk=>hk.2) (.string (⟨#[]⟩:BA))) (fun _ h_=>h_.1))) (by decide)) hk (fun _ h=>h.2)) (fun _ h=>h.1));replace HO918:=A_ (Kd.R_mono (Kd.R_keep (IsS105.apart (show IsS105 w0 _ g s0_0 t924 from(zz50 HI0 NB0_922)) (by(with_reducible repeat(first|apply Kd.R_alloc|apply Kd.R_drewN|apply Kd.R_drew));exact(Kd.R_mono (Kd.R_far (p:=⟨gb922,1,none⟩) (Kd.R_types HO918.out BK922.out (by decide)) (fun _ hk=>hk.2) (.string (⟨#[]⟩:BA))) (fun _ h_=>h_.1))) (by decide)) hk (fun _ h=>h.2)) (fun _ h=>h.1));replace BK922:=A_ (KeepBut.blk hk (g':=gb922) (o:=.cells #[.string t912,.string (⟨#[]⟩:BA),.string (⟨#[]⟩:BA),.int .i64 (rd y916 t919)] 57 (0,0)) (zz30 BK922) NB922_0.out (by simp));replace HK:=A_ (KeepBut.trans (zz54 HK GW922) hk (.inl rfl));replace HB:=A_ (hb);replace HI0:=A_ (hi);(try clear hb hk hi);obtain⟨_,_,_,_,_,_,_,_⟩:=cf4 BK922;obtain⟨Ao88,co88,eo88⟩:=Kd.R_slice HO_3.out;subst eo88)|((with_reducible refine gC (f:=103) rfl ?_);refine gsL (some 78) Tryz.func103 #[.slice Ao88 x3_2.length co88,.string t912] ?_;(with_reducible refine(spec_l11At.calls k2 _ _ x3_2 t912 t927 t928 t929 t930 t931 _ ?side1 ?side2 A82.out).mono ?_);(case side1=>exact(by refine(Kd.R_reads' (e:=57) (base:=w.heap.size) (ok:=fun k_=>(True∧k_≠gb922)) (n:=x3_2.length) (c:=co88) ?_).2.2;exact(zz174 HO_3)));(case side2=>exact(Kd.R_reads' HO_3.out).2.1);rintro e w89 ⟨rfl,hb⟩;refine⟨_,rfl,?_⟩;replace HO_3:=A_ (rB (zz174 HO_3) hb);replace HO918:=A_ (rB (by(with_reducible repeat(first|apply Kd.R_alloc|apply Kd.R_drewN|apply Kd.R_drew));exact(Kd.R_mono (Kd.R_far (p:=⟨gb922,2,none⟩) (Kd.R_types HO918.out BK922.out (by decide)) (fun _ hk=>hk.2) (.string t925)) (fun _ h_=>h_.1))) hb);replace BK922:=A_ (bB (g:=gb922) (o:=.cells #[.string t912,.string (⟨#[]⟩:BA),.string t925,.int .i64 (rd y916 t919)] 57 (0,0)) (zz31 BK922) hb);replace HK:=A_ (KeepBut.trans (zz54 HK GW922) (KeepBut.of_below hb g none) (.inl rfl));replace HB:=A_ (bS (zz51 HB HI0 GE922) hb);replace HI0:=A_ (IsS105.below (show IsS105 w0 (w86.setCell ⟨gb922,2,none⟩ (.string t925)) g s0_0 t926 from(zz50 HI0 NB0_922)) hb);(try clear hb))|((with_reducible refine gD (N:=9) rfl ?_);(try(refine gate_guard (by rfl) ?_;dsimp only));refine boxE 9 #[.string (⟨#[]⟩:BA),.string (⟨#[]⟩:BA),.string (⟨#[]⟩:BA),.int .i64 0] 57 ?_;intro gb932 hg w90 hbox hb;replace HO_3:=A_ (rB (Kd.R_elderB (zz7 HO_3) gb932 (Nat.le_of_eq hg.symm)) hb);replace HO918:=A_ (rB (zz7 HO918) hb);replace HB:=A_ (bS (zz51 HB HI0 GE922) hb);have BK932:=A_ (hbox);have GW932:=A_ ((by rw[hg];exact(keep_size (w:=w) (g:=g) (row:=none) (zz54 HK GW922)):w.heap.size≤gb932));have GE932:=A_ ((nT_ HW0.out (by rw[hg];exact(keep_size (w:=w) (g:=g) (row:=none) (zz54 HK GW922)):w.heap.size≤gb932):w0.heap.size≤gb932));replace HK:=A_ (KeepBut.trans (zz54 HK GW922) (KeepBut.of_below hb g none) (.inl rfl));have NB922_932:=A_ ((by rw[hg];exact Nat.ne_of_lt (blk_lt (zz18 BK922)):gb922≠gb932));have NB932_922:=A_ ((by rw[hg];exact Nat.ne_of_gt (blk_lt (zz18 BK922)):gb932≠gb922));replace BK922:=A_ (bB (zz18 BK922) hb);have NB0_932:=A_ ((by rw[hg];exact Nat.ne_of_lt (IsS105.lt (show IsS105 w0 _ g s0_0 t926 from(zz50 HI0 NB0_922))):g≠gb932));have NB932_0:=A_ ((by rw[hg];exact Nat.ne_of_gt (IsS105.lt (show IsS105 w0 _ g s0_0 t926 from(zz50 HI0 NB0_922))):gb932≠g));replace HI0:=A_ (IsS105.below (zz50 HI0 NB0_922) hb);clear hb hbox hg;have hnb91:=NB932_922.out;have hnc91:=NB922_932.out;have hnb92:=NB932_0.out;have hnc92:=NB0_932.out;obtain⟨_,_,_,_,_,_,_,_⟩:=cf4 BK932)|((with_reducible refine gate_store (t:=57) (p:=9) rfl ?_);refine store_event (t:=57) (p:=9) (v:=?vo_w94) (w1:=((((w90.setCell ⟨gb932,0,none⟩ (.string t927)).setCell ⟨gb932,1,none⟩ (.string t928)).setCell ⟨gb932,2,none⟩ (.string t929)).setCell ⟨gb932,3,none⟩ (.int .i64 t930))) ?hg ?ho ?hn ?hr ?_;(case ho=>rfl);(case hg=>rfl);(case hn=>rfl);(case hr=>exact zz5);intro w94 hw;have n0_:Aside0 (Kd.R k57 57 w94 w.heap.size (fun k_=>k_≠gb922∧k_≠gb932) (.slice Ao88 x3_2.length co88) x3_2):=⟨(by rw[hw];exact(by(with_reducible repeat(first|apply Kd.R_alloc|apply Kd.R_drewN|apply Kd.R_drew));exact Kd.R_mono (Kd.R_far (p:=⟨gb932,3,none⟩) (Kd.R_far (p:=⟨gb932,2,none⟩) (Kd.R_far (p:=⟨gb932,1,none⟩) (Kd.R_far (p:=⟨gb932,0,none⟩) (Kd.R_mono HO_3.out (fun k_ hk=>(⟨hk,hk.2⟩:_∧k_≠gb932))) (fun _ hk=>hk.2) (.string t927)) (fun _ hk=>hk.2) (.string t928)) (fun _ hk=>hk.2) (.string t929)) (fun _ hk=>hk.2) (.int .i64 t930)) (fun _ hk=>⟨hk.1.1.2,hk.1.2⟩)))⟩;have n1_:Aside0 (Kd.R (Kd.int .i64) 3 w94 w.heap.size (fun _=>True) (.slice (some ad921) y916.length co75) y916):=⟨(by rw[hw];exact(zz23 (rt HO918 BK932)))⟩;have n2_:Aside0 (w94.heap[gb922]?=some (.cells #[.string t912,.string (⟨#[]⟩:BA),.string t925,.int .i64 (rd y916 t919)] 57 (0,0))):=⟨(by rw[hw];exact(zz24 BK922 NB922_932))⟩;have n3_:Aside0 (w94.heap[gb932]?=some (.cells #[.string t927,.string t928,.string t929,.int .i64 t930] 57 (0,0))):=⟨(by rw[hw];exact(zz22 BK932))⟩;have n4_:Aside0 (IsS105 w0 w94 g s0_0 t926):=⟨(by rw[hw];exact(zz182 HI0 NB0_922 NB0_932))⟩;have n5_:Aside0 (KeepBut w w94 g none):=⟨(by rw[hw];exact(zz184 HK GW922 GW932))⟩;have n6_:Aside0 (Below w0.heap.size w0 w94):=⟨(by rw[hw];exact(zz186 HB HI0 GE922 GE932))⟩;clear hw;clear HO_3;clear HO918;clear BK922;clear BK932;clear HI0;clear HK;clear HB;have HO_3:=n0_;have HO918:=n1_;have BK922:=n2_;have BK932:=n3_;have HI0:=n4_;have HK:=n5_;have HB:=n6_;clear n0_ n1_ n2_ n3_ n4_ n5_ n6_)|((with_reducible refine atG ?_ ?_ fun K_ hK_=>?_);rfl;exact undecG)|((with_reducible refine atI ?_ fun K_ hK_=>?_);exact undecI));refine unG hK_ ?_;clear hK_ K_;obtain⟨H⟩:=HF83;replace H:=iteB H;rcases H with⟨rfl,H⟩|⟨rfl,H⟩
        ·(first|refine iteT ?_|refine iteF ?_|skip)
         have H':=A_ H;clear H;(try((with_reducible refine upS ?_);go_simp));go_wp2
         go_roundg k2
         case measure=>have:=HK1.out;have:=HK2.out;omega
         case rel=>exact⟨(x3_2),(wrap64 (x7_2-1)),(t926),zz0,H',⟨(zz16 HK1 HK2)⟩,⟨(zz168 HO_3)⟩,⟨(zz182 HI0 NB0_922 NB0_932)⟩,⟨(zz184 HK GW922 GW932)⟩,⟨(zz186 HB HI0 GE922 GE932)⟩⟩
        ·(first|refine iteT ?_|refine iteF ?_|skip)
         replace H:=iteE H;rcases H with⟨c96,H⟩|⟨c96,H⟩
         ·have c96b0:=dT c96
          clear c96;replace H:=iteN H;obtain⟨c97,H⟩:=H;have LMc97:=A_ c97;clear c97;obtain⟨y933,Ny933⟩:=toY (x3_2++[(⟨t912,(⟨#[]⟩:BA),t925,rd y916 t919⟩:S57)]);(first|with_reducible replace H:=bindZ Ny933 H|rw[←Ny933.out]at H|skip);have H':=A_ H;clear H;have hnb98:=NB922_932.out;have hnc98:=NB932_922.out;have hnb99:=NB922_0.out;have hnc99:=NB0_922.out;obtain⟨_,_,_,_,_,_,_,_⟩:=cf4 BK922;go_wp2_with (first|((with_reducible refine gate_builtin (b:=.append) (xs:=#[.tmp 89,.tmp 91]) rfl ?_);(try(refine gate_guard (by rfl) ?_;dsimp only));at_builtin;refine Kd.R_append k57 w.heap.size rfl (.tmp 89) (.tmp 91) 25 57 (.agg #[(.string ⟨#[]⟩),(.string ⟨#[]⟩),(.string ⟨#[]⟩),(.int .i64 0)]) 56 rfl Tryz.underlying25 info57 rfl (by decide) (by omega) (.slice Ao88 x3_2.length co88) x3_2 (⟨t912,(⟨#[]⟩:BA),t925,rd y916 t919⟩:S57) [.string t912,.string (⟨#[]⟩:BA),.string t925,.int .i64 (rd y916 t919)] (fun k_=>k_≠gb922∧k_≠gb932) (fun _=>False) rfl rfl ?aP (fun _ hk=>hk.elim) ?aF ?aO (Below.refl _ _) ?aS ?aL ?_;(case aP=>exact k57_mkM _ _ _ (⟨t912,(⟨#[]⟩:BA),t925,rd y916 t919⟩:S57));(case aF=>exact(fun k_ hk=>⟨Kd.freshB (zz18 BK922) k_ hk,Kd.freshB (zz18 BK932) k_ hk⟩));(case aO=>exact(zz7 HO_3));(case aS=>exact(keep_size (w:=w) (g:=g) (row:=none) (zz184 HK GW922 GW932)));(case aL=>exact(zz4 LMc97));intro v934 w101 ho hb hg hat;rw[←Ny933.out]at ho;replace HO918:=A_ (Kd.R_over' (zz7 HO918) (Kd.R_typed (zz7 HO_3)) (by decide) hg);replace BK922:=A_ (blk_grown (zz18 BK922) hg (Kd.R_away HO_3.out (fun _ hk=>hk.1)));replace BK932:=A_ (blk_grown (zz18 BK932) hg (Kd.R_away HO_3.out (fun _ hk=>hk.2)));replace HB:=A_ (below_weaken (zz186 HB HI0 GE922 GE932) HL.out hb);replace HI0:=A_ (IsS105.grown (zz182 HI0 NB0_922 NB0_932) hg (IsS105.own_ne HI0.out HO_3.out (by decide)));replace HK:=A_ (KeepBut.trans (zz184 HK GW922 GW932) (KeepBut.of_grown hg g) (Kd.R_base2 HO_3.out));have HO935:=A_ (ho);clear HO_3;clear ho hb hg hat))
          go_roundg k2
          case measure=>have:=HK1.out;have:=HK2.out;omega
          case rel=>exact⟨(y933),(wrap64 (x7_2-1)),(t926),zz0,H',⟨(zz16 HK1 HK2)⟩,⟨(zz168 HO935)⟩,⟨(zz182 HI0 NB0_922 NB0_932)⟩,⟨(zz184 HK GW922 GW932)⟩,⟨(zz186 HB HI0 GE922 GE932)⟩⟩
         ·exact absurd (show 0≤300 from by decide) c96
       ·(first|rw[c80b0]|(simp only[i64_w,i32_w];rw[c80b0])|skip)
        replace H:=bindA H;obtain⟨⟨t936,t937,t938,t939,t940⟩,A105,H⟩:=H;try dsimp only at H;have HF106:=A_ H;clear H;have hnb107:=NB922_0.out;have hnc107:=NB0_922.out;obtain⟨_,_,_,_,_,_,_,_⟩:=cf4 BK922;obtain⟨Ao109,co109,eo109⟩:=Kd.R_slice HO_3.out;subst eo109;go_wp2_with (first|(refine gR 103 (some 78) Tryz.func103 (spec_l11At.calls k2 _ _ x3_2 t912 t936 t937 t938 t939 t940 _ ?side1 ?side2 A105.out) ?_;(case side1=>exact(zz46 HO_3));(case side2=>exact(Kd.R_reads' HO_3.out).2.1);rintro w110 hb;replace HO_3:=A_ (rB (zz7 HO_3) hb);replace HO918:=A_ (rB (zz7 HO918) hb);replace BK922:=A_ (bB (zz18 BK922) hb);replace HK:=A_ (KeepBut.trans (zz54 HK GW922) (KeepBut.of_below hb g none) (.inl rfl));replace HB:=A_ (bS (zz51 HB HI0 GE922) hb);replace HI0:=A_ (IsS105.below (zz50 HI0 NB0_922) hb);(try clear hb))|((with_reducible refine gD (N:=9) rfl ?_);(try(refine gate_guard (by rfl) ?_;dsimp only));refine boxE 9 #[.string (⟨#[]⟩:BA),.string (⟨#[]⟩:BA),.string (⟨#[]⟩:BA),.int .i64 0] 57 ?_;intro gb941 hg w111 hbox hb;replace HO_3:=A_ (rB (Kd.R_elderB (zz7 HO_3) gb941 (Nat.le_of_eq hg.symm)) hb);replace HO918:=A_ (rB (zz7 HO918) hb);replace HB:=A_ (bS (zz51 HB HI0 GE922) hb);have BK941:=A_ (hbox);have GW941:=A_ ((by rw[hg];exact(keep_size (w:=w) (g:=g) (row:=none) (zz54 HK GW922)):w.heap.size≤gb941));have GE941:=A_ ((nT_ HW0.out (by rw[hg];exact(keep_size (w:=w) (g:=g) (row:=none) (zz54 HK GW922)):w.heap.size≤gb941):w0.heap.size≤gb941));replace HK:=A_ (KeepBut.trans (zz54 HK GW922) (KeepBut.of_below hb g none) (.inl rfl));have NB922_941:=A_ ((by rw[hg];exact Nat.ne_of_lt (blk_lt (zz18 BK922)):gb922≠gb941));have NB941_922:=A_ ((by rw[hg];exact Nat.ne_of_gt (blk_lt (zz18 BK922)):gb941≠gb922));replace BK922:=A_ (bB (zz18 BK922) hb);have NB0_941:=A_ ((by rw[hg];exact Nat.ne_of_lt (IsS105.lt (show IsS105 w0 _ g s0_0 t924 from(zz50 HI0 NB0_922))):g≠gb941));have NB941_0:=A_ ((by rw[hg];exact Nat.ne_of_gt (IsS105.lt (show IsS105 w0 _ g s0_0 t924 from(zz50 HI0 NB0_922))):gb941≠g));replace HI0:=A_ (IsS105.below (zz50 HI0 NB0_922) hb);clear hb hbox hg;have hnb112:=NB941_922.out;have hnc112:=NB922_941.out;have hnb113:=NB941_0.out;have hnc113:=NB0_941.out;obtain⟨_,_,_,_,_,_,_,_⟩:=cf4 BK941)|((with_reducible refine gate_store (t:=57) (p:=9) rfl ?_);refine store_event (t:=57) (p:=9) (v:=?vo_w115) (w1:=((((w111.setCell ⟨gb941,0,none⟩ (.string t936)).setCell ⟨gb941,1,none⟩ (.string t937)).setCell ⟨gb941,2,none⟩ (.string t938)).setCell ⟨gb941,3,none⟩ (.int .i64 t939))) ?hg ?ho ?hn ?hr ?_;(case ho=>rfl);(case hg=>rfl);(case hn=>rfl);(case hr=>exact zz5);intro w115 hw;have n0_:Aside0 (Kd.R k57 57 w115 w.heap.size (fun k_=>k_≠gb922∧k_≠gb941) (.slice Ao109 x3_2.length co109) x3_2):=⟨(by rw[hw];exact(by(with_reducible repeat(first|apply Kd.R_alloc|apply Kd.R_drewN|apply Kd.R_drew));exact Kd.R_mono (Kd.R_far (p:=⟨gb941,3,none⟩) (Kd.R_far (p:=⟨gb941,2,none⟩) (Kd.R_far (p:=⟨gb941,1,none⟩) (Kd.R_far (p:=⟨gb941,0,none⟩) (Kd.R_mono HO_3.out (fun k_ hk=>(⟨hk,hk.2⟩:_∧k_≠gb941))) (fun _ hk=>hk.2) (.string t936)) (fun _ hk=>hk.2) (.string t937)) (fun _ hk=>hk.2) (.string t938)) (fun _ hk=>hk.2) (.int .i64 t939)) (fun _ hk=>⟨hk.1.1.2,hk.1.2⟩)))⟩;have n1_:Aside0 (Kd.R (Kd.int .i64) 3 w115 w.heap.size (fun _=>True) (.slice (some ad921) y916.length co75) y916):=⟨(by rw[hw];exact(zz23 (rt HO918 BK941)))⟩;have n2_:Aside0 (w115.heap[gb922]?=some (.cells #[.string t912,.string t914,.string (⟨#[]⟩:BA),.int .i64 (rd y916 t919)] 57 (0,0))):=⟨(by rw[hw];exact(zz24 BK922 NB922_941))⟩;have n3_:Aside0 (w115.heap[gb941]?=some (.cells #[.string t936,.string t937,.string t938,.int .i64 t939] 57 (0,0))):=⟨(by rw[hw];exact(zz22 BK941))⟩;have n4_:Aside0 (IsS105 w0 w115 g s0_0 t924):=⟨(by rw[hw];exact(zz182 HI0 NB0_922 NB0_941))⟩;have n5_:Aside0 (KeepBut w w115 g none):=⟨(by rw[hw];exact(zz184 HK GW922 GW941))⟩;have n6_:Aside0 (Below w0.heap.size w0 w115):=⟨(by rw[hw];exact(zz186 HB HI0 GE922 GE941))⟩;clear hw;clear HO_3;clear HO918;clear BK922;clear BK941;clear HI0;clear HK;clear HB;have HO_3:=n0_;have HO918:=n1_;have BK922:=n2_;have BK941:=n3_;have HI0:=n4_;have HK:=n5_;have HB:=n6_;clear n0_ n1_ n2_ n3_ n4_ n5_ n6_)|((with_reducible refine atG ?_ ?_ fun K_ hK_=>?_);rfl;exact undecG)|((with_reducible refine atI ?_ fun K_ hK_=>?_);exact undecI));refine unG hK_ ?_;clear hK_ K_;obtain⟨H⟩:=HF106;replace H:=iteB H;rcases H with⟨rfl,H⟩|⟨rfl,H⟩
        ·(first|refine iteT ?_|refine iteF ?_|skip)
         have H':=A_ H;clear H;(try((with_reducible refine upS ?_);go_simp));go_wp2
         go_roundg k2
         case measure=>have:=HK1.out;have:=HK2.out;omega
         case rel=>exact⟨(x3_2),(wrap64 (x7_2-1)),(t924),zz0,H',⟨(zz16 HK1 HK2)⟩,⟨(zz168 HO_3)⟩,⟨(zz182 HI0 NB0_922 NB0_941)⟩,⟨(zz184 HK GW922 GW941)⟩,⟨(zz186 HB HI0 GE922 GE941)⟩⟩
        ·(first|refine iteT ?_|refine iteF ?_|skip)
         replace H:=iteE H;rcases H with⟨c117,H⟩|⟨c117,H⟩
         ·have c117b0:=dT c117
          have c117b1:decide (t914.size≤300)=true:=dT (by omega);clear c117;replace H:=iteN H;obtain⟨c118,H⟩:=H;have LMc118:=A_ c118;clear c118;obtain⟨y942,Ny942⟩:=toY (x3_2++[(⟨t912,t914,(⟨#[]⟩:BA),rd y916 t919⟩:S57)]);(first|with_reducible replace H:=bindZ Ny942 H|rw[←Ny942.out]at H|skip);have H':=A_ H;clear H;have hnb119:=NB922_941.out;have hnc119:=NB941_922.out;have hnb120:=NB922_0.out;have hnc120:=NB0_922.out;obtain⟨_,_,_,_,_,_,_,_⟩:=cf4 BK922;go_wp2_with (first|((with_reducible refine gate_builtin (b:=.append) (xs:=#[.tmp 89,.tmp 91]) rfl ?_);(try(refine gate_guard (by rfl) ?_;dsimp only));at_builtin;refine Kd.R_append k57 w.heap.size rfl (.tmp 89) (.tmp 91) 25 57 (.agg #[(.string ⟨#[]⟩),(.string ⟨#[]⟩),(.string ⟨#[]⟩),(.int .i64 0)]) 56 rfl Tryz.underlying25 info57 rfl (by decide) (by omega) (.slice Ao109 x3_2.length co109) x3_2 (⟨t912,t914,(⟨#[]⟩:BA),rd y916 t919⟩:S57) [.string t912,.string t914,.string (⟨#[]⟩:BA),.int .i64 (rd y916 t919)] (fun k_=>k_≠gb922∧k_≠gb941) (fun _=>False) rfl rfl ?aP (fun _ hk=>hk.elim) ?aF ?aO (Below.refl _ _) ?aS ?aL ?_;(case aP=>exact k57_mkM _ _ _ (⟨t912,t914,(⟨#[]⟩:BA),rd y916 t919⟩:S57));(case aF=>exact(fun k_ hk=>⟨Kd.freshB (zz18 BK922) k_ hk,Kd.freshB (zz18 BK941) k_ hk⟩));(case aO=>exact(zz7 HO_3));(case aS=>exact(keep_size (w:=w) (g:=g) (row:=none) (zz184 HK GW922 GW941)));(case aL=>exact(zz4 LMc118));intro v943 w122 ho hb hg hat;rw[←Ny942.out]at ho;replace HO918:=A_ (Kd.R_over' (zz7 HO918) (Kd.R_typed (zz7 HO_3)) (by decide) hg);replace BK922:=A_ (blk_grown (zz18 BK922) hg (Kd.R_away HO_3.out (fun _ hk=>hk.1)));replace BK941:=A_ (blk_grown (zz18 BK941) hg (Kd.R_away HO_3.out (fun _ hk=>hk.2)));replace HB:=A_ (below_weaken (zz186 HB HI0 GE922 GE941) HL.out hb);replace HI0:=A_ (IsS105.grown (zz182 HI0 NB0_922 NB0_941) hg (IsS105.own_ne HI0.out HO_3.out (by decide)));replace HK:=A_ (KeepBut.trans (zz184 HK GW922 GW941) (KeepBut.of_grown hg g) (Kd.R_base2 HO_3.out));have HO944:=A_ (ho);clear HO_3;clear ho hb hg hat))
          go_roundg k2
          case measure=>have:=HK1.out;have:=HK2.out;omega
          case rel=>exact⟨(y942),(wrap64 (x7_2-1)),(t924),zz0,H',⟨(zz16 HK1 HK2)⟩,⟨(zz168 HO944)⟩,⟨(zz182 HI0 NB0_922 NB0_941)⟩,⟨(zz184 HK GW922 GW941)⟩,⟨(zz186 HB HI0 GE922 GE941)⟩⟩
         ·have c117b0:=dF c117
          have c117b1:decide (t914.size≤300)=false:=dF (by omega);clear c117;have H':=A_ H;clear H;have hnb123:=NB922_941.out;have hnc123:=NB941_922.out;have hnb124:=NB922_0.out;have hnc124:=NB0_922.out;obtain⟨_,_,_,_,_,_,_,_⟩:=cf4 BK922;go_wp2
          go_roundg k2
          case measure=>have:=HK1.out;have:=HK2.out;omega
          case rel=>exact⟨(x3_2),(wrap64 (x7_2-1)),(t924),zz0,H',⟨(zz16 HK1 HK2)⟩,⟨(zz168 HO_3)⟩,⟨(zz182 HI0 NB0_922 NB0_941)⟩,⟨(zz184 HK GW922 GW941)⟩,⟨(zz186 HB HI0 GE922 GE941)⟩⟩
      ·simp only[oI_,pI_]at H
       obtain⟨rfl,rfl⟩:=H;go_wp2;go_ret;exact⟨_,zz9,(zz7 HO_3),(zz37 HI0),(zz39 HB HI0),(zz38 HK)⟩
def spec_l71Off.l0:Nat→List (S57)→Int→List Int→Int→Option ((List (S57))×Int)
 |0,_,_,_,_=>none
 |k+1,x3,x4,x1000,x1001=>if x4<12 then((spec_l6Dec.f k x4).bind fun t965=>(if 6+t965.size≤9223372036854775807 then(if x3.length<2513169434916 then(spec_l71Off.l0 k (x3++[(⟨(⟨#[47,47,97,98,47,122]⟩:BA)++t965,(⟨#[]⟩:BA),(⟨#[]⟩:BA),0⟩:S57)]) (wrap64 (x4+1)) x1000 x1001)else(none))else(none)))else(some (x3,x1001))
def spec_l71Off.f (k:Nat)(s0_0:List Int)(s0_1:Int):Option ((List (S57))×Int):=(spec_l71World.f k s0_0 s0_1).bind fun bt945=>((spec_l6Rd_pick.f k s0_0 bt945.2 16).bind fun bt949=>(if bt949.1>0 then(some (bt945.1,bt949.2))else((spec_l6Rd_pick.f k s0_0 bt949.2 5).bind fun bt951=>(if bt951.1=0 then(if 0<(bt945.1.length:Int)then(if bt945.1.length<2513169434916 then(some ((bt945.1++[(⟨(rd_T57 bt945.1 0).f0,(rd_T57 bt945.1 0).f1,(rd_T57 bt945.1 0).f2,(rd_T57 bt945.1 0).f3⟩:S57)]),bt951.2))else(none))else(none))else(if bt951.1=1 then(if 0<(bt945.1.length:Int)then(some ((bt945.1.set (0:Int).toNat (⟨(rd_T57 bt945.1 0).f0,(rd_T57 bt945.1 0).f1,(rd_T57 bt945.1 0).f2,10⟩:S57)),bt951.2))else(none))else(if bt951.1=2 then((spec_l6Rd_of.f k s0_0 bt951.2 (([(⟨#[47,47,65,66,47,97]⟩:BA),(⟨#[]⟩:BA),(⟨#[47,47,97,98]⟩:BA)]:List BA))).bind fun bt961=>(if 0<(bt945.1.length:Int)then(some ((bt945.1.set (0:Int).toNat (⟨bt961.1,(rd_T57 bt945.1 0).f1,(rd_T57 bt945.1 0).f2,(rd_T57 bt945.1 0).f3⟩:S57)),bt961.2))else(none)))else(if bt951.1=3 then(if 0<(bt945.1.length:Int)then(some ((bt945.1.set (0:Int).toNat (⟨(rd_T57 bt945.1 0).f0,(rd_T57 bt945.1 0).f1,(⟨#[120]⟩:BA),(rd_T57 bt945.1 0).f3⟩:S57)),bt951.2))else(none))else(spec_l71Off.l0 k bt945.1 0 s0_0 bt951.2))))))))
theorem spec_l71Off.calls (k:Nat)(g:Nat)(s0_0:List Int)(s0_1:Int)(r1:List (S57))(r2:Int)(w0 w:World)(hI:IsS105 w0 w g s0_0 s0_1)(hB:Below w0.heap.size w0 w)(h:spec_l71Off.f k s0_0 s0_1=some (r1,r2)):
  Calls Tryz.prog 48 #[.pointer (some ⟨g,0,none⟩)] w fun e w'=>∃v0_:Value,e=.returned (v0_)∧Kd.R k57 57 w' w.heap.size (fun _=>True) v0_ r1∧IsS105 w0 w' g s0_0 r2∧Below w0.heap.size w0 w'∧KeepBut w w' g none:=by
 have hu57:=Tryz.underlying57;have HI0:=A_ hI;have HK:=A_ (KeepBut.refl w g none);have HL:=A_ hB.size;clear hI;have HW0:=A_ hB.size;have HB:=A_ hB;clear hB;unfold spec_l71Off.f at h;have H:=h;clear h;replace H:=bindA H;obtain⟨⟨t945,t948⟩,A2,H⟩:=H;try dsimp only at H;replace H:=bindA H;obtain⟨⟨t949,t950⟩,A3,H⟩:=H;try dsimp only at H;have HF4:=A_ H;clear H;go_enter Tryz.func48,Tryz.ntmps48;go_upto_if 9 with(first|(refine gV 80 (some 6) Tryz.func80 (spec_l71World.calls k g s0_0 s0_1 t945 t948 w0 _ ?side1 ?side2 A2.out) ?_;(case side1=>exact(zz37 HI0));(case side2=>exact(zz39 HB HI0));rintro v946 w5 ⟨ho0,hi,hb,hk⟩;have HO947:=A_ (Kd.R_lower ho0 (keep_size (w:=w) (g:=g) (row:=none) (zz38 HK)));replace HK:=A_ (KeepBut.trans (zz38 HK) hk (.inl rfl));replace HB:=A_ (hb);replace HI0:=A_ (hi);(try clear hb hk hi ho0))|(refine gR 81 (some 8) Tryz.func81 (spec_l6Rd_pick.calls k g s0_0 t948 16 t949 t950 w0 _ ?side1 ?side2 A3.out) ?_;(case side1=>exact(zz37 HI0));(case side2=>exact(zz39 HB HI0));rintro w6 ⟨hi,hb,hk⟩;replace HO947:=A_ (Kd.R_mono (Kd.R_keep (IsS105.apart (show IsS105 w0 _ g s0_0 t948 from(zz37 HI0)) (zz7 HO947) (by decide)) hk (fun _ h=>h.2)) (fun _ h=>h.1));replace HK:=A_ (KeepBut.trans (zz38 HK) hk (.inl rfl));replace HB:=A_ (hb);replace HI0:=A_ (hi);(try clear hb hk hi)))
 obtain⟨H⟩:=HF4;replace H:=iteEg H;rcases H with⟨c7b0,H⟩|⟨c7b0,H⟩
 ·(first|rw[c7b0]|(simp only[i64_w,i32_w];rw[c7b0])|skip)
  simp only[oI_,pI_]at H;obtain⟨rfl,rfl⟩:=H;go_wp2;go_ret;exact⟨_,zz9,(zz7 HO947),(zz37 HI0),(zz39 HB HI0),(zz38 HK)⟩
 ·(first|rw[c7b0]|(simp only[i64_w,i32_w];rw[c7b0])|skip)
  replace H:=bindA H;obtain⟨⟨t951,t952⟩,A8,H⟩:=H;try dsimp only at H;have HF9:=A_ H;clear H;go_upto_if 24 with(first|(refine gR 81 (some 12) Tryz.func81 (spec_l6Rd_pick.calls k g s0_0 t950 5 t951 t952 w0 _ ?side1 ?side2 A8.out) ?_;(case side1=>exact(zz37 HI0));(case side2=>exact(zz39 HB HI0));rintro w10 ⟨hi,hb,hk⟩;replace HO947:=A_ (Kd.R_mono (Kd.R_keep (IsS105.apart (show IsS105 w0 _ g s0_0 t950 from(zz37 HI0)) (zz7 HO947) (by decide)) hk (fun _ h=>h.2)) (fun _ h=>h.1));replace HK:=A_ (KeepBut.trans (zz38 HK) hk (.inl rfl));replace HB:=A_ (hb);replace HI0:=A_ (hi);(try clear hb hk hi)))
  obtain⟨H⟩:=HF9;replace H:=iteEq H;rcases H with⟨c11b0,c11b1,H⟩|⟨c11b0,c11b1,c11,H⟩
  ·(first|rw[c11b0]|(simp only[i64_w,i32_w];rw[c11b0])|skip)
   replace H:=iteN H;obtain⟨c12,H⟩:=H;have c12b0:=dT c12;have c12b1:decide (0<t945.length)=true:=dT (by omega);clear c12;replace H:=iteN H;obtain⟨c13,H⟩:=H;have LMc13:=A_ c13;clear c13;obtain⟨y954,Ny954⟩:=toY (t945++[(⟨(rd_T57 t945 0).f0,(rd_T57 t945 0).f1,(rd_T57 t945 0).f2,(rd_T57 t945 0).f3⟩:S57)]);(first|with_reducible replace H:=bindZ Ny954 H|rw[←Ny954.out]at H|skip);simp only[oI_,pI_]at H;obtain⟨rfl,rfl⟩:=H;obtain⟨Ao14,co14,eo14⟩:=Kd.R_slice HO947.out;subst eo14;have p953:0≤(0:Int):=(by omega);have q953:0<(t945.length:Int):=ofD;obtain⟨ad953,e953,hx953_0,hx953_1,hx953_2,hx953_3⟩:=at_T57 (Kd.R_reads' HO947.out).2.2 0 p953 q953;cases e953;have qi953:(0<t945.length)=True:=eq_true (by omega);(try rw[show((0:Int)).toNat=0 from rfl]at hx953_0)
   (try rw[show 0*4=0 from rfl]at hx953_0)
   (try rw[Addr.add_zero']at hx953_0)
   (try rw[show((0:Int)).toNat=0 from rfl]at hx953_1)
   (try rw[show 0*4=0 from rfl]at hx953_1)
   (try rw[Addr.add_zero']at hx953_1)
   (try rw[show((0:Int)).toNat=0 from rfl]at hx953_2)
   (try rw[show 0*4=0 from rfl]at hx953_2)
   (try rw[Addr.add_zero']at hx953_2)
   (try rw[show((0:Int)).toNat=0 from rfl]at hx953_3)
   (try rw[show 0*4=0 from rfl]at hx953_3)
   (try rw[Addr.add_zero']at hx953_3)
   replace p953:=eq_true p953;replace q953:=eq_true q953;go_wp2_with (first|((with_reducible refine gate_builtin (b:=.append) (xs:=#[.tmp 26,.tmp 30]) rfl ?_);at_builtin;refine Kd.R_append k57 w.heap.size rfl (.tmp 26) (.tmp 30) 25 57 (.agg #[(.string ⟨#[]⟩),(.string ⟨#[]⟩),(.string ⟨#[]⟩),(.int .i64 0)]) 56 rfl Tryz.underlying25 info57 rfl (by decide) (by omega) (.slice (some ad953) t945.length co14) t945 (⟨(rd_T57 t945 0).f0,(rd_T57 t945 0).f1,(rd_T57 t945 0).f2,(rd_T57 t945 0).f3⟩:S57) [.string ((rd_T57 t945 0).f0),.string ((rd_T57 t945 0).f1),.string ((rd_T57 t945 0).f2),.int .i64 ((rd_T57 t945 0).f3)] (fun _=>True) (fun _=>False) rfl rfl ?aP (fun _ hk=>hk.elim) ?aF ?aO (Below.refl _ _) ?aS ?aL ?_;(case aP=>exact k57_mkM _ _ _ (⟨(rd_T57 t945 0).f0,(rd_T57 t945 0).f1,(rd_T57 t945 0).f2,(rd_T57 t945 0).f3⟩:S57));(case aF=>exact(fun _ _=>trivial));(case aO=>exact(zz7 HO947));(case aS=>exact(keep_size (w:=w) (g:=g) (row:=none) (zz38 HK)));(case aL=>exact(zz4 LMc13));intro v955 w15 ho hb hg hat;rw[←Ny954.out]at ho;replace HB:=A_ (below_weaken (zz39 HB HI0) HL.out hb);replace HI0:=A_ (IsS105.grown (zz37 HI0) hg (IsS105.own_ne HI0.out HO947.out (by decide)));replace HK:=A_ (KeepBut.trans (zz38 HK) (KeepBut.of_grown hg g) (Kd.R_base2 HO947.out));have HO956:=A_ (ho);clear HO947;clear ho hb hg hat));go_ret;exact⟨_,zz9,(zz7 HO956),(zz37 HI0),(zz39 HB HI0),(zz38 HK)⟩
  ·(first|rw[c11b0]|(simp only[i64_w,i32_w];rw[c11b0])|skip)
   replace H:=iteEq H;rcases H with⟨c16b0,c16b1,H⟩|⟨c16b0,c16b1,c16,H⟩
   ·replace H:=iteN H
    obtain⟨c17,H⟩:=H;have c17b0:=dT c17;have c17b1:decide (0<t945.length)=true:=dT (by omega);clear c17;obtain⟨y957,Ny957⟩:=toY (t945.set (0:Int).toNat (⟨(rd_T57 t945 0).f0,(rd_T57 t945 0).f1,(rd_T57 t945 0).f2,10⟩:S57));(first|with_reducible replace H:=bindZ Ny957 H|rw[←Ny957.out]at H|skip);simp only[oI_,pI_]at H;obtain⟨rfl,rfl⟩:=H;have p18:0≤(0:Int):=(by omega);have q18:(0:Int)<((t945.length:Int):Int):=ofD;have qi18:(0<t945.length)=True:=eq_true (by omega);obtain⟨go18,co18,eo18,gb18,gl18,cl18,HG18⟩:=Kd.R_form HO947.out (by omega);(first|cases eo18|(injection eo18 with ea_ en_ ec_;(first|subst ea_|(injection ea_ with ea_;subst ea_));subst ec_;clear en_));have GB18:=A_ gb18;have GG18:=A_ HG18;clear gb18 gl18 HG18;obtain⟨ce18,hcl18,hM18,hcc18,hfr18⟩:=Kd.R_elem HO947.out z57 (0:Int) p18 q18;obtain rfl:=k57_openM hM18;have hx18_0:w10.cell? ⟨go18,(0:Int).toNat*4,none⟩=some (.string ((rd_T57 t945 0).f0)):=hcc18 0 _ rfl;have hx18_1:w10.cell? ⟨go18,(0:Int).toNat*4+1,none⟩=some (.string ((rd_T57 t945 0).f1)):=hcc18 1 _ rfl;have hx18_2:w10.cell? ⟨go18,(0:Int).toNat*4+2,none⟩=some (.string ((rd_T57 t945 0).f2)):=hcc18 2 _ rfl;have hx18_3:w10.cell? ⟨go18,(0:Int).toNat*4+3,none⟩=some (.int .i64 ((rd_T57 t945 0).f3)):=hcc18 3 _ rfl;have hf18_0:w10.frozen? ⟨go18,(0:Int).toNat*4,none⟩=false:=hfr18 0;have hf18_1:w10.frozen? ⟨go18,(0:Int).toNat*4+1,none⟩=false:=hfr18 1;have hf18_2:w10.frozen? ⟨go18,(0:Int).toNat*4+2,none⟩=false:=hfr18 2;have hf18_3:w10.frozen? ⟨go18,(0:Int).toNat*4+3,none⟩=false:=hfr18 3;clear hcl18 hcc18 hfr18 hM18;(try rw[show((0:Int)).toNat=0 from rfl]at hx18_0)
    (try simp only[Nat.reduceMul,Nat.zero_mul,Nat.zero_add,Nat.reduceAdd]at hx18_0)
    (try rw[show((0:Int)).toNat=0 from rfl]at hf18_0)
    (try simp only[Nat.reduceMul,Nat.zero_mul,Nat.zero_add,Nat.reduceAdd]at hf18_0)
    (try rw[show((0:Int)).toNat=0 from rfl]at hx18_1)
    (try simp only[Nat.reduceMul,Nat.zero_mul,Nat.zero_add,Nat.reduceAdd]at hx18_1)
    (try rw[show((0:Int)).toNat=0 from rfl]at hf18_1)
    (try simp only[Nat.reduceMul,Nat.zero_mul,Nat.zero_add,Nat.reduceAdd]at hf18_1)
    (try rw[show((0:Int)).toNat=0 from rfl]at hx18_2)
    (try simp only[Nat.reduceMul,Nat.zero_mul,Nat.zero_add,Nat.reduceAdd]at hx18_2)
    (try rw[show((0:Int)).toNat=0 from rfl]at hf18_2)
    (try simp only[Nat.reduceMul,Nat.zero_mul,Nat.zero_add,Nat.reduceAdd]at hf18_2)
    (try rw[show((0:Int)).toNat=0 from rfl]at hx18_3)
    (try simp only[Nat.reduceMul,Nat.zero_mul,Nat.zero_add,Nat.reduceAdd]at hx18_3)
    (try rw[show((0:Int)).toNat=0 from rfl]at hf18_3)
    (try simp only[Nat.reduceMul,Nat.zero_mul,Nat.zero_add,Nat.reduceAdd]at hf18_3)
    replace p18:=eq_true p18;replace q18:=eq_true q18;have HX19:=A_ (show Kd.R k57 57 w10 w.heap.size (fun _=>True) (.slice (some ⟨go18,0,none⟩) t945.length co18) t945 from(zz7 HO947));obtain⟨ce19,hcl19,hM19,hcc19,hfr19⟩:=Kd.R_elem HX19.out z57 (0:Int) (by omega) (by have h_:(0:Int)<((t945.length:Int):Int):=ofD;first|exact h_|(have e_:=(Kd.R_reads' HO947.out).1;omega)|simpa using h_);obtain rfl:=k57_openM hM19;have HP19:=Kd.R_seg HX19.out (0:Int) (by omega) (by have h_:(0:Int)<((t945.length:Int):Int):=ofD;first|exact h_|(have e_:=(Kd.R_reads' HO947.out).1;omega)|simpa using h_) (seg:=[.int .i64 10]) (j:=3) hcl19 hcc19 (show 4≤4 from by decide) (x':=(⟨(rd_T57 t945 0).f0,(rd_T57 t945 0).f1,(rd_T57 t945 0).f2,10⟩:S57)) (k57_mkM _ _ _ (⟨(rd_T57 t945 0).f0,(rd_T57 t945 0).f1,(rd_T57 t945 0).f2,10⟩:S57) ) (fun _ hk=>hk);have hx19_3:=hcc19 3 _ rfl;(try simp only[show(k57).sz=4 from rfl,Nat.mul_one,Nat.add_zero]at hx19_3)
    (try rw[show((0:Int)).toNat=0 from rfl]at hx19_3)
    (try simp only[Nat.reduceMul,Nat.zero_mul,Nat.zero_add,Nat.reduceAdd]at hx19_3)
    have hf19_3:=hfr19 3;(try simp only[show(k57).sz=4 from rfl,Nat.mul_one,Nat.add_zero]at hf19_3)
    (try rw[show((0:Int)).toNat=0 from rfl]at hf19_3)
    (try simp only[Nat.reduceMul,Nat.zero_mul,Nat.zero_add,Nat.reduceAdd]at hf19_3)
    clear hcl19 hcc19 hfr19 hM19;go_wp2_with (first|((with_reducible refine gate_store (t:=3) (p:=36) rfl ?_);refine store_event (t:=3) (p:=36) (v:=?vo_w20) (w1:=(w10.setCell ⟨go18,3,none⟩ (.int .i64 10))) ?hg ?ho ?hn ?hr ?_;(case ho=>rfl);(case hg=>rfl);(case hn=>rfl);(case hr=>exact zz5);intro w20 hw;have hg:w10.grownBy w20 (some go18):=(by rw[hw];exact HP19.2);have hp_:Kd.R k57 57 w20 w.heap.size (fun _=>True) (.slice (some ⟨go18,0,none⟩) t945.length co18) y957:=(by rw[hw,Ny957.out];exact HP19.1);clear HP19;replace HI0:=A_ (IsS105.grown (zz37 HI0) hg (IsS105.own_ne HI0.out HO947.out (by decide)));replace HB:=A_ ((by rw[hw];exact below_set (HB.out) (nT_ HL.out GB18.out):Below w0.heap.size w0 w20));replace HK:=A_ (KeepBut.trans (zz38 HK) (KeepBut.of_grown hg g) (Kd.R_base2 HO947.out));replace HO947:=A_ (hp_);clear hg hw hp_));go_ret;exact⟨_,zz9,(zz7 HO947),(zz37 HI0),(zz39 HB HI0),(zz38 HK)⟩
   ·replace H:=iteEq H
    rcases H with⟨c21b0,c21b1,H⟩|⟨c21b0,c21b1,c21,H⟩
    ·obtain⟨y958,Ny958⟩:=toY (([(⟨#[47,47,65,66,47,97]⟩:BA),(⟨#[]⟩:BA),(⟨#[47,47,97,98]⟩:BA)]:List BA))
     (first|with_reducible replace H:=bindZ Ny958 H|rw[←Ny958.out]at H|skip)
     replace H:=bindA H;obtain⟨⟨t961,t962⟩,A22,H⟩:=H;try dsimp only at H;replace H:=iteN H;obtain⟨c23,H⟩:=H;have c23b0:=dT c23;have c23b1:decide (0<t945.length)=true:=dT (by omega);clear c23;obtain⟨y963,Ny963⟩:=toY (t945.set (0:Int).toNat (⟨t961,(rd_T57 t945 0).f1,(rd_T57 t945 0).f2,(rd_T57 t945 0).f3⟩:S57));(first|with_reducible replace H:=bindZ Ny963 H|rw[←Ny963.out]at H|skip);simp only[oI_,pI_]at H;obtain⟨rfl,rfl⟩:=H;go_wp2_with (first|((with_reducible refine gD (N:=41) rfl ?_);refine Kd.R_lit Kd.string _ 9 ?hg (N:=41) ?hd (xs:=([(⟨#[47,47,65,66,47,97]⟩:BA),(⟨#[]⟩:BA),(⟨#[47,47,97,98]⟩:BA)]:List BA)) (inner:=[.string (⟨#[47,47,65,66,47,97]⟩:BA),.string (⟨#[]⟩:BA),.string (⟨#[47,47,97,98]⟩:BA)]) (ok:=fun _=>True) (okp:=fun _=>True) ?hr ?hp (fun _ hk=>hk) trivial (Below.refl _ _) (lL_ _) (by simp) ?_;(case hd=>rfl);(case hg=>rfl);(case hr=>exact zz5);(case hp=>exact(Reps.one (show Kd.M Kd.string _ _ _ (⟨#[47,47,65,66,47,97]⟩:BA) [.string (⟨#[47,47,65,66,47,97]⟩:BA)]from rfl) (Reps.one (show Kd.M Kd.string _ _ _ (⟨#[]⟩:BA) [.string (⟨#[]⟩:BA)]from rfl) (Reps.one (show Kd.M Kd.string _ _ _ (⟨#[47,47,97,98]⟩:BA) [.string (⟨#[47,47,97,98]⟩:BA)]from rfl) (Reps.none _ _)))));intro v959 w25 ho26 hb hg_ hnew_;clear hg_ hnew_;(first|rw[←Ny958.out]at ho26|(simp only[Int.reduceToNat]at ho26;rw[←Ny958.out]at ho26));replace HO947:=A_ (rB (zz7 HO947) hb);have HO960:=A_ (Kd.R_lower ho26 (keep_size (w:=w) (g:=g) (row:=none) (zz38 HK)));replace HK:=A_ (KeepBut.trans (zz38 HK) (KeepBut.of_below hb g none) (.inl rfl));replace HB:=A_ (bS (zz39 HB HI0) hb);replace HI0:=A_ (IsS105.below (zz37 HI0) hb);clear hb ho26;obtain⟨Ao27,co27,eo27⟩:=Kd.R_slice HO960.out;subst eo27)|(refine gR 49 (some 42) Tryz.func49 (spec_l6Rd_of.calls k g s0_0 t952 _ _ y958 t961 t962 w0 _ ?side1 ?side2 ?side3 ?side4 ?side5 A22.out) ?_;(case side1=>exact(zz37 HI0));(case side2=>exact(zz39 HB HI0));(case side3=>exact(zz46 HO960));(case side4=>exact(Kd.R_reads' HO960.out).2.1);(case side5=>exact far_slice (IsS105.own_ne HI0.out HO960.out (by decide)));rintro w28 ⟨hi,hb,hk⟩;replace HO947:=A_ (Kd.R_mono (Kd.R_keep (IsS105.apart (show IsS105 w0 _ g s0_0 t952 from(zz37 HI0)) (zz7 HO947) (by decide)) hk (fun _ h=>h.2)) (fun _ h=>h.1));replace HO960:=A_ (Kd.R_mono (Kd.R_keep (IsS105.apart (show IsS105 w0 _ g s0_0 t952 from(zz37 HI0)) (zz7 HO960) (by decide)) hk (fun _ h=>h.2)) (fun _ h=>h.1));replace HK:=A_ (KeepBut.trans (zz38 HK) hk (.inl rfl));replace HB:=A_ (hb);replace HI0:=A_ (hi);(try clear hb hk hi);have p24:0≤(0:Int):=(by omega);have q24:(0:Int)<((t945.length:Int):Int):=ofD;have qi24:(0<t945.length)=True:=eq_true (by omega);obtain⟨go24,co24,eo24,gb24,gl24,cl24,HG24⟩:=Kd.R_form HO947.out (by omega);(first|cases eo24|(injection eo24 with ea_ en_ ec_;(first|subst ea_|(injection ea_ with ea_;subst ea_));subst ec_;clear en_));have GB24:=A_ gb24;have GG24:=A_ HG24;clear gb24 gl24 HG24;obtain⟨ce24,hcl24,hM24,hcc24,hfr24⟩:=Kd.R_elem HO947.out z57 (0:Int) p24 q24;obtain rfl:=k57_openM hM24;have hx24_0:w28.cell? ⟨go24,(0:Int).toNat*4,none⟩=some (.string ((rd_T57 t945 0).f0)):=hcc24 0 _ rfl;have hx24_1:w28.cell? ⟨go24,(0:Int).toNat*4+1,none⟩=some (.string ((rd_T57 t945 0).f1)):=hcc24 1 _ rfl;have hx24_2:w28.cell? ⟨go24,(0:Int).toNat*4+2,none⟩=some (.string ((rd_T57 t945 0).f2)):=hcc24 2 _ rfl;have hx24_3:w28.cell? ⟨go24,(0:Int).toNat*4+3,none⟩=some (.int .i64 ((rd_T57 t945 0).f3)):=hcc24 3 _ rfl;have hf24_0:w28.frozen? ⟨go24,(0:Int).toNat*4,none⟩=false:=hfr24 0;have hf24_1:w28.frozen? ⟨go24,(0:Int).toNat*4+1,none⟩=false:=hfr24 1;have hf24_2:w28.frozen? ⟨go24,(0:Int).toNat*4+2,none⟩=false:=hfr24 2;have hf24_3:w28.frozen? ⟨go24,(0:Int).toNat*4+3,none⟩=false:=hfr24 3;clear hcl24 hcc24 hfr24 hM24;(try rw[show((0:Int)).toNat=0 from rfl]at hx24_0);(try simp only[Nat.reduceMul,Nat.zero_mul,Nat.zero_add,Nat.reduceAdd]at hx24_0);(try rw[show((0:Int)).toNat=0 from rfl]at hf24_0);(try simp only[Nat.reduceMul,Nat.zero_mul,Nat.zero_add,Nat.reduceAdd]at hf24_0);(try rw[show((0:Int)).toNat=0 from rfl]at hx24_1);(try simp only[Nat.reduceMul,Nat.zero_mul,Nat.zero_add,Nat.reduceAdd]at hx24_1);(try rw[show((0:Int)).toNat=0 from rfl]at hf24_1);(try simp only[Nat.reduceMul,Nat.zero_mul,Nat.zero_add,Nat.reduceAdd]at hf24_1);(try rw[show((0:Int)).toNat=0 from rfl]at hx24_2);(try simp only[Nat.reduceMul,Nat.zero_mul,Nat.zero_add,Nat.reduceAdd]at hx24_2);(try rw[show((0:Int)).toNat=0 from rfl]at hf24_2);(try simp only[Nat.reduceMul,Nat.zero_mul,Nat.zero_add,Nat.reduceAdd]at hf24_2);(try rw[show((0:Int)).toNat=0 from rfl]at hx24_3);(try simp only[Nat.reduceMul,Nat.zero_mul,Nat.zero_add,Nat.reduceAdd]at hx24_3);(try rw[show((0:Int)).toNat=0 from rfl]at hf24_3);(try simp only[Nat.reduceMul,Nat.zero_mul,Nat.zero_add,Nat.reduceAdd]at hf24_3);replace p24:=eq_true p24;replace q24:=eq_true q24;have HX29:=A_ (show Kd.R k57 57 w28 w.heap.size (fun _=>True) (.slice (some ⟨go24,0,none⟩) t945.length co24) t945 from(zz7 HO947));obtain⟨ce29,hcl29,hM29,hcc29,hfr29⟩:=Kd.R_elem HX29.out z57 (0:Int) (by omega) (by have h_:(0:Int)<((t945.length:Int):Int):=ofD;first|exact h_|(have e_:=(Kd.R_reads' HO947.out).1;omega)|simpa using h_);obtain rfl:=k57_openM hM29;have HP29:=Kd.R_seg HX29.out (0:Int) (by omega) (by have h_:(0:Int)<((t945.length:Int):Int):=ofD;first|exact h_|(have e_:=(Kd.R_reads' HO947.out).1;omega)|simpa using h_) (seg:=[.string t961]) (j:=0) hcl29 hcc29 (show 1≤4 from by decide) (x':=(⟨t961,(rd_T57 t945 0).f1,(rd_T57 t945 0).f2,(rd_T57 t945 0).f3⟩:S57)) (k57_mkM _ _ _ (⟨t961,(rd_T57 t945 0).f1,(rd_T57 t945 0).f2,(rd_T57 t945 0).f3⟩:S57) ) (fun _ hk=>hk);have hx29_0:=hcc29 0 _ rfl;(try simp only[show(k57).sz=4 from rfl,Nat.mul_one,Nat.add_zero]at hx29_0);(try rw[show((0:Int)).toNat=0 from rfl]at hx29_0);(try simp only[Nat.reduceMul,Nat.zero_mul,Nat.zero_add,Nat.reduceAdd]at hx29_0);have hf29_0:=hfr29 0;(try simp only[show(k57).sz=4 from rfl,Nat.mul_one,Nat.add_zero]at hf29_0);(try rw[show((0:Int)).toNat=0 from rfl]at hf29_0);(try simp only[Nat.reduceMul,Nat.zero_mul,Nat.zero_add,Nat.reduceAdd]at hf29_0);clear hcl29 hcc29 hfr29 hM29)|((with_reducible refine gate_store (t:=9) (p:=44) rfl ?_);refine store_event (t:=9) (p:=44) (v:=?vo_w30) (w1:=(w28.setCell ⟨go24,0,none⟩ (.string t961))) ?hg ?ho ?hn ?hr ?_;(case ho=>rfl);(case hg=>rfl);(case hn=>rfl);(case hr=>exact zz5);intro w30 hw;have hg:w28.grownBy w30 (some go24):=(by rw[hw];exact HP29.2);have hp_:Kd.R k57 57 w30 w.heap.size (fun _=>True) (.slice (some ⟨go24,0,none⟩) t945.length co24) y963:=(by rw[hw,Ny963.out];exact HP29.1);clear HP29;replace HI0:=A_ (IsS105.grown (zz37 HI0) hg (IsS105.own_ne HI0.out HO947.out (by decide)));replace HO960:=A_ (Kd.R_over' (v:=(.slice (some ⟨go24,0,none⟩) t945.length co24)) (zz7 HO960) (Kd.R_typed HO947.out) (by decide) hg);replace HB:=A_ ((by rw[hw];exact below_set (HB.out) (nT_ HL.out GB24.out):Below w0.heap.size w0 w30));replace HK:=A_ (KeepBut.trans (zz38 HK) (KeepBut.of_grown hg g) (Kd.R_base2 HO947.out));replace HO947:=A_ (hp_);clear hg hw hp_));go_ret;exact⟨_,zz9,(zz7 HO947),(zz37 HI0),(zz39 HB HI0),(zz38 HK)⟩
    ·replace H:=iteEq H
     rcases H with⟨c31b0,c31b1,H⟩|⟨c31b0,c31b1,c31,H⟩
     ·replace H:=iteN H
      obtain⟨c32,H⟩:=H;have c32b0:=dT c32;have c32b1:decide (0<t945.length)=true:=dT (by omega);clear c32;obtain⟨y964,Ny964⟩:=toY (t945.set (0:Int).toNat (⟨(rd_T57 t945 0).f0,(rd_T57 t945 0).f1,(⟨#[120]⟩:BA),(rd_T57 t945 0).f3⟩:S57));(first|with_reducible replace H:=bindZ Ny964 H|rw[←Ny964.out]at H|skip);simp only[oI_,pI_]at H;obtain⟨rfl,rfl⟩:=H;have p33:0≤(0:Int):=(by omega);have q33:(0:Int)<((t945.length:Int):Int):=ofD;have qi33:(0<t945.length)=True:=eq_true (by omega);obtain⟨go33,co33,eo33,gb33,gl33,cl33,HG33⟩:=Kd.R_form HO947.out (by omega);(first|cases eo33|(injection eo33 with ea_ en_ ec_;(first|subst ea_|(injection ea_ with ea_;subst ea_));subst ec_;clear en_));have GB33:=A_ gb33;have GG33:=A_ HG33;clear gb33 gl33 HG33;obtain⟨ce33,hcl33,hM33,hcc33,hfr33⟩:=Kd.R_elem HO947.out z57 (0:Int) p33 q33;obtain rfl:=k57_openM hM33;have hx33_0:w10.cell? ⟨go33,(0:Int).toNat*4,none⟩=some (.string ((rd_T57 t945 0).f0)):=hcc33 0 _ rfl;have hx33_1:w10.cell? ⟨go33,(0:Int).toNat*4+1,none⟩=some (.string ((rd_T57 t945 0).f1)):=hcc33 1 _ rfl;have hx33_2:w10.cell? ⟨go33,(0:Int).toNat*4+2,none⟩=some (.string ((rd_T57 t945 0).f2)):=hcc33 2 _ rfl;have hx33_3:w10.cell? ⟨go33,(0:Int).toNat*4+3,none⟩=some (.int .i64 ((rd_T57 t945 0).f3)):=hcc33 3 _ rfl;have hf33_0:w10.frozen? ⟨go33,(0:Int).toNat*4,none⟩=false:=hfr33 0;have hf33_1:w10.frozen? ⟨go33,(0:Int).toNat*4+1,none⟩=false:=hfr33 1;have hf33_2:w10.frozen? ⟨go33,(0:Int).toNat*4+2,none⟩=false:=hfr33 2;have hf33_3:w10.frozen? ⟨go33,(0:Int).toNat*4+3,none⟩=false:=hfr33 3;clear hcl33 hcc33 hfr33 hM33;(try rw[show((0:Int)).toNat=0 from rfl]at hx33_0)
      (try simp only[Nat.reduceMul,Nat.zero_mul,Nat.zero_add,Nat.reduceAdd]at hx33_0)
      (try rw[show((0:Int)).toNat=0 from rfl]at hf33_0)
      (try simp only[Nat.reduceMul,Nat.zero_mul,Nat.zero_add,Nat.reduceAdd]at hf33_0)
      (try rw[show((0:Int)).toNat=0 from rfl]at hx33_1)
      (try simp only[Nat.reduceMul,Nat.zero_mul,Nat.zero_add,Nat.reduceAdd]at hx33_1)
      (try rw[show((0:Int)).toNat=0 from rfl]at hf33_1)
      (try simp only[Nat.reduceMul,Nat.zero_mul,Nat.zero_add,Nat.reduceAdd]at hf33_1)
      (try rw[show((0:Int)).toNat=0 from rfl]at hx33_2)
      (try simp only[Nat.reduceMul,Nat.zero_mul,Nat.zero_add,Nat.reduceAdd]at hx33_2)
      (try rw[show((0:Int)).toNat=0 from rfl]at hf33_2)
      (try simp only[Nat.reduceMul,Nat.zero_mul,Nat.zero_add,Nat.reduceAdd]at hf33_2)
      (try rw[show((0:Int)).toNat=0 from rfl]at hx33_3)
      (try simp only[Nat.reduceMul,Nat.zero_mul,Nat.zero_add,Nat.reduceAdd]at hx33_3)
      (try rw[show((0:Int)).toNat=0 from rfl]at hf33_3)
      (try simp only[Nat.reduceMul,Nat.zero_mul,Nat.zero_add,Nat.reduceAdd]at hf33_3)
      replace p33:=eq_true p33;replace q33:=eq_true q33;have HX34:=A_ (show Kd.R k57 57 w10 w.heap.size (fun _=>True) (.slice (some ⟨go33,0,none⟩) t945.length co33) t945 from(zz7 HO947));obtain⟨ce34,hcl34,hM34,hcc34,hfr34⟩:=Kd.R_elem HX34.out z57 (0:Int) (by omega) (by have h_:(0:Int)<((t945.length:Int):Int):=ofD;first|exact h_|(have e_:=(Kd.R_reads' HO947.out).1;omega)|simpa using h_);obtain rfl:=k57_openM hM34;have HP34:=Kd.R_seg HX34.out (0:Int) (by omega) (by have h_:(0:Int)<((t945.length:Int):Int):=ofD;first|exact h_|(have e_:=(Kd.R_reads' HO947.out).1;omega)|simpa using h_) (seg:=[.string (⟨#[120]⟩:BA)]) (j:=2) hcl34 hcc34 (show 3≤4 from by decide) (x':=(⟨(rd_T57 t945 0).f0,(rd_T57 t945 0).f1,(⟨#[120]⟩:BA),(rd_T57 t945 0).f3⟩:S57)) (k57_mkM _ _ _ (⟨(rd_T57 t945 0).f0,(rd_T57 t945 0).f1,(⟨#[120]⟩:BA),(rd_T57 t945 0).f3⟩:S57) ) (fun _ hk=>hk);have hx34_2:=hcc34 2 _ rfl;(try simp only[show(k57).sz=4 from rfl,Nat.mul_one,Nat.add_zero]at hx34_2)
      (try rw[show((0:Int)).toNat=0 from rfl]at hx34_2)
      (try simp only[Nat.reduceMul,Nat.zero_mul,Nat.zero_add,Nat.reduceAdd]at hx34_2)
      have hf34_2:=hfr34 2;(try simp only[show(k57).sz=4 from rfl,Nat.mul_one,Nat.add_zero]at hf34_2)
      (try rw[show((0:Int)).toNat=0 from rfl]at hf34_2)
      (try simp only[Nat.reduceMul,Nat.zero_mul,Nat.zero_add,Nat.reduceAdd]at hf34_2)
      clear hcl34 hcc34 hfr34 hM34;go_wp2_with (first|((with_reducible refine gate_store (t:=9) (p:=49) rfl ?_);refine store_event (t:=9) (p:=49) (v:=?vo_w35) (w1:=(w10.setCell ⟨go33,2,none⟩ (.string (⟨#[120]⟩:BA)))) ?hg ?ho ?hn ?hr ?_;(case ho=>rfl);(case hg=>rfl);(case hn=>rfl);(case hr=>exact zz5);intro w35 hw;have hg:w10.grownBy w35 (some go33):=(by rw[hw];exact HP34.2);have hp_:Kd.R k57 57 w35 w.heap.size (fun _=>True) (.slice (some ⟨go33,0,none⟩) t945.length co33) y964:=(by rw[hw,Ny964.out];exact HP34.1);clear HP34;replace HI0:=A_ (IsS105.grown (zz37 HI0) hg (IsS105.own_ne HI0.out HO947.out (by decide)));replace HB:=A_ ((by rw[hw];exact below_set (HB.out) (nT_ HL.out GB33.out):Below w0.heap.size w0 w35));replace HK:=A_ (KeepBut.trans (zz38 HK) (KeepBut.of_grown hg g) (Kd.R_base2 HO947.out));replace HO947:=A_ (hp_);clear hg hw hp_));go_ret;exact⟨_,zz9,(zz7 HO947),(zz37 HI0),(zz39 HB HI0),(zz38 HK)⟩
     ·have H':=A_ H
      clear H;go_wp2
      go_loopg [3,4] k (fun kq v3 v4 w'=>∃(x3_1:List (S57))(x4_1:Int),v4=.int .i64 x4_1∧Aside0 (spec_l71Off.l0 kq x3_1 x4_1 s0_0 t952=some (r1,r2))∧Aside0 (kq≤k)∧Aside0 (Kd.R k57 57 w' w.heap.size (fun _=>True) v3 x3_1)∧Aside0 (IsS105 w0 w' g s0_0 t952)∧Aside0 (KeepBut w w' g none)∧Aside0 (Below w0.heap.size w0 w'))
      case atStart=>exact⟨(t945),(0),zz0,H',⟨lL_ _⟩,⟨(zz7 HO947)⟩,⟨(zz37 HI0)⟩,⟨(zz38 HK)⟩,⟨(zz39 HB HI0)⟩⟩
      case round=>
       clear H';obtain⟨x3_1,x4_1,rfl,HA,HK1,HO_3,HI0,HK,HB⟩:=hrel;cases gk with
       |zero=>exact absurd HA.out (by simp[spec_l71Off.l0])
       |succ k1=>
        obtain⟨H⟩:=HA;simp only[spec_l71Off.l0]at H;replace H:=iteEd H;rcases H with⟨c36b0,H⟩|⟨c36b0,H⟩
        ·replace H:=bindA H
         obtain⟨t965,A37,H⟩:=H;replace H:=iteN H;obtain⟨c38,H⟩:=H;have c38b0:=eq_true c38;have c38b1:=dT c38;try have c38b2:(9223372036854775807<6+t965.size)=False:=eq_false (nL_.2 c38);replace H:=iteN H;obtain⟨c39,H⟩:=H;have LMc39:=A_ c39;clear c39;obtain⟨y966,Ny966⟩:=toY (x3_1++[(⟨(⟨#[47,47,97,98,47,122]⟩:BA)++t965,(⟨#[]⟩:BA),(⟨#[]⟩:BA),0⟩:S57)]);(first|with_reducible replace H:=bindZ Ny966 H|rw[←Ny966.out]at H|skip);have H':=A_ H;clear H;go_wp2_with (first|(refine gR 82 (some 19) Tryz.func82 (spec_l6Dec.calls k1 x4_1 t965 _ A37.out) ?_;rintro w40 hb;replace HO_3:=A_ (rB (zz7 HO_3) hb);replace HK:=A_ (KeepBut.trans (zz38 HK) (KeepBut.of_below hb g none) (.inl rfl));replace HB:=A_ (bS (zz39 HB HI0) hb);replace HI0:=A_ (IsS105.below (zz37 HI0) hb);(try clear hb))|((with_reducible refine gate_builtin (b:=.append) (xs:=#[.tmp 17,.tmp 22]) rfl ?_);at_builtin;refine Kd.R_append k57 w.heap.size rfl (.tmp 17) (.tmp 22) 25 57 (.agg #[(.string ⟨#[]⟩),(.string ⟨#[]⟩),(.string ⟨#[]⟩),(.int .i64 0)]) 56 rfl Tryz.underlying25 info57 rfl (by decide) (by omega) u3 x3_1 (⟨(⟨#[47,47,97,98,47,122]⟩:BA)++t965,(⟨#[]⟩:BA),(⟨#[]⟩:BA),0⟩:S57) [.string ((⟨#[47,47,97,98,47,122]⟩:BA)++t965),.string (⟨#[]⟩:BA),.string (⟨#[]⟩:BA),.int .i64 0] (fun _=>True) (fun _=>False) rfl rfl ?aP (fun _ hk=>hk.elim) ?aF ?aO (Below.refl _ _) ?aS ?aL ?_;(case aP=>exact k57_mkM _ _ _ (⟨(⟨#[47,47,97,98,47,122]⟩:BA)++t965,(⟨#[]⟩:BA),(⟨#[]⟩:BA),0⟩:S57));(case aF=>exact(fun _ _=>trivial));(case aO=>exact(zz7 HO_3));(case aS=>exact(keep_size (w:=w) (g:=g) (row:=none) (zz38 HK)));(case aL=>exact(zz4 LMc39));intro v967 w41 ho hb hg hat;rw[←Ny966.out]at ho;replace HB:=A_ (below_weaken (zz39 HB HI0) HL.out hb);replace HI0:=A_ (IsS105.grown (zz37 HI0) hg (IsS105.own_ne HI0.out HO_3.out (by decide)));replace HK:=A_ (KeepBut.trans (zz38 HK) (KeepBut.of_grown hg g) (Kd.R_base2 HO_3.out));have HO968:=A_ (ho);clear HO_3;clear ho hb hg hat))
         go_roundg k1
         case measure=>have:=HK1.out;omega
         case rel=>exact⟨(y966),(wrap64 (x4_1+1)),zz0,H',⟨(zz4 HK1)⟩,⟨(zz7 HO968)⟩,⟨(zz37 HI0)⟩,⟨(zz38 HK)⟩,⟨(zz39 HB HI0)⟩⟩
        ·simp only[oI_,pI_]at H
         obtain⟨rfl,rfl⟩:=H;go_wp2;go_ret;exact⟨_,zz9,(zz7 HO_3),(zz37 HI0),(zz39 HB HI0),(zz38 HK)⟩
def spec_DrawWorldNotice.f (k:Nat)(l0:List Int):Option ((List (S57))×BA×BA):=(spec_l6Open.f l0).bind fun bt974=>((spec_l71Off.f k bt974.1 bt974.2).bind fun bt977=>((spec_l6Rd_of.f k bt974.1 bt977.2 (([(⟨#[97,98]⟩:BA),(⟨#[99,100]⟩:BA),(⟨#[101]⟩:BA),(⟨#[102,111,120]⟩:BA),(⟨#[65,66]⟩:BA),(⟨#[122,122]⟩:BA)]:List BA))).bind fun bt984=>((spec_l71Name.f k bt974.1 bt984.2).bind fun bt986=>(some (bt977.1,bt984.1,bt986.1)))))
theorem spec_DrawWorldNotice.calls (k:Nat)(A0:Option Addr)(c0:Nat)(l0:List Int)(r1:List (S57))(r2:BA)(r3:BA)(w:World)(hr0:Kd.C (Kd.int .u8) w A0 l0.length l0)(hc0:l0.length≤c0)(h:spec_DrawWorldNotice.f k l0=some (r1,r2,r3)):
  Calls Tryz.prog 17 #[.slice A0 l0.length c0] w fun e w'=>∃v0_:Value,e=.returned (.tuple #[v0_,.string r2,.string r3])∧Kd.R k57 57 w' w.heap.size (fun _=>True) v0_ r1∧Below w.heap.size w w':=by
 have HR0:=A_ hr0;have HC0:=A_ hc0;clear hr0 hc0;have HB:=A_ (Below.refl w.heap.size w);unfold spec_DrawWorldNotice.f at h;have H:=h;clear h;replace H:=bindA H;obtain⟨⟨t974,t975⟩,A2,H⟩:=H;try dsimp only at H;replace H:=bindA H;obtain⟨⟨t977,t980⟩,A3,H⟩:=H;try dsimp only at H;obtain⟨y981,Ny981⟩:=toY (([(⟨#[97,98]⟩:BA),(⟨#[99,100]⟩:BA),(⟨#[101]⟩:BA),(⟨#[102,111,120]⟩:BA),(⟨#[65,66]⟩:BA),(⟨#[122,122]⟩:BA)]:List BA));(first|with_reducible replace H:=bindZ Ny981 H|rw[←Ny981.out]at H|skip);replace H:=bindA H;obtain⟨⟨t984,t985⟩,A4,H⟩:=H;try dsimp only at H;replace H:=bindA H;obtain⟨⟨t986,t987⟩,A5,H⟩:=H;try dsimp only at H;simp only[oI_,pI_]at H;obtain⟨rfl,rfl,rfl⟩:=H;go_enter Tryz.func17,Tryz.ntmps17;go_wp2_with (first|(refine gV 47 (some 8) Tryz.func47 (spec_l6Open.calls _ _ l0 t974 t975 w _ ?side1 ?side2 ?side3 A2.out) ?_;(case side1=>exact(zz6 HB));(case side2=>exact HR0.out);(case side3=>exact HC0.out);rintro g976 w6 ⟨hi,hb,hb2⟩;replace HB:=A_ (hb);have HI976:=A_ (hi);(try clear hb hb2 hi))|(refine gV 48 (some 10) Tryz.func48 (spec_l71Off.calls k g976 t974 t975 t977 t980 w _ ?side1 ?side2 A3.out) ?_;(case side1=>exact(zz37 HI976));(case side2=>exact(zz39 HB HI976));rintro v978 w7 ⟨ho0,hi,hb,hk⟩;have HO979:=A_ (Kd.R_lower ho0 (below_size (zz39 HB HI976)));replace HB:=A_ (hb);replace HI976:=A_ (hi);(try clear hb hk hi ho0))|((with_reducible refine gD (N:=13) rfl ?_);refine Kd.R_lit Kd.string _ 9 ?hg (N:=13) ?hd (xs:=([(⟨#[97,98]⟩:BA),(⟨#[99,100]⟩:BA),(⟨#[101]⟩:BA),(⟨#[102,111,120]⟩:BA),(⟨#[65,66]⟩:BA),(⟨#[122,122]⟩:BA)]:List BA)) (inner:=[.string (⟨#[97,98]⟩:BA),.string (⟨#[99,100]⟩:BA),.string (⟨#[101]⟩:BA),.string (⟨#[102,111,120]⟩:BA),.string (⟨#[65,66]⟩:BA),.string (⟨#[122,122]⟩:BA)]) (ok:=fun _=>True) (okp:=fun _=>True) ?hr ?hp (fun _ hk=>hk) trivial (Below.refl _ _) (lL_ _) (by simp) ?_;(case hd=>rfl);(case hg=>rfl);(case hr=>exact zz5);(case hp=>exact(Reps.one (show Kd.M Kd.string _ _ _ (⟨#[97,98]⟩:BA) [.string (⟨#[97,98]⟩:BA)]from rfl) (Reps.one (show Kd.M Kd.string _ _ _ (⟨#[99,100]⟩:BA) [.string (⟨#[99,100]⟩:BA)]from rfl) (Reps.one (show Kd.M Kd.string _ _ _ (⟨#[101]⟩:BA) [.string (⟨#[101]⟩:BA)]from rfl) (Reps.one (show Kd.M Kd.string _ _ _ (⟨#[102,111,120]⟩:BA) [.string (⟨#[102,111,120]⟩:BA)]from rfl) (Reps.one (show Kd.M Kd.string _ _ _ (⟨#[65,66]⟩:BA) [.string (⟨#[65,66]⟩:BA)]from rfl) (Reps.one (show Kd.M Kd.string _ _ _ (⟨#[122,122]⟩:BA) [.string (⟨#[122,122]⟩:BA)]from rfl) (Reps.none _ _))))))));intro v982 w8 ho9 hb hg_ hnew_;clear hg_ hnew_;(first|rw[←Ny981.out]at ho9|(simp only[Int.reduceToNat]at ho9;rw[←Ny981.out]at ho9));replace HO979:=A_ (rB (zz7 HO979) hb);have HO983:=A_ (Kd.R_lower ho9 (below_size (zz39 HB HI976)));replace HB:=A_ (bS (zz39 HB HI976) hb);replace HI976:=A_ (IsS105.below (zz37 HI976) hb);clear hb ho9;obtain⟨Ao10,co10,eo10⟩:=Kd.R_slice HO983.out;subst eo10)|(refine gR 49 (some 14) Tryz.func49 (spec_l6Rd_of.calls k g976 t974 t980 _ _ y981 t984 t985 w _ ?side1 ?side2 ?side3 ?side4 ?side5 A4.out) ?_;(case side1=>exact(zz37 HI976));(case side2=>exact(zz39 HB HI976));(case side3=>exact(zz46 HO983));(case side4=>exact(Kd.R_reads' HO983.out).2.1);(case side5=>exact far_slice (IsS105.own_ne HI976.out HO983.out (by decide)));rintro w11 ⟨hi,hb,hk⟩;replace HO979:=A_ (Kd.R_mono (Kd.R_keep (IsS105.apart (show IsS105 w _ g976 t974 t980 from(zz37 HI976)) (zz7 HO979) (by decide)) hk (fun _ h=>h.2)) (fun _ h=>h.1));replace HO983:=A_ (Kd.R_mono (Kd.R_keep (IsS105.apart (show IsS105 w _ g976 t974 t980 from(zz37 HI976)) (zz7 HO983) (by decide)) hk (fun _ h=>h.2)) (fun _ h=>h.1));replace HB:=A_ (hb);replace HI976:=A_ (hi);(try clear hb hk hi))|(refine gR 50 (some 16) Tryz.func50 (spec_l71Name.calls k g976 t974 t985 t986 t987 w _ ?side1 ?side2 A5.out) ?_;(case side1=>exact(zz37 HI976));(case side2=>exact(zz39 HB HI976));rintro w12 ⟨hi,hb,hk⟩;replace HO979:=A_ (Kd.R_mono (Kd.R_keep (IsS105.apart (show IsS105 w _ g976 t974 t985 from(zz37 HI976)) (zz7 HO979) (by decide)) hk (fun _ h=>h.2)) (fun _ h=>h.1));replace HO983:=A_ (Kd.R_mono (Kd.R_keep (IsS105.apart (show IsS105 w _ g976 t974 t985 from(zz37 HI976)) (zz7 HO983) (by decide)) hk (fun _ h=>h.2)) (fun _ h=>h.1));replace HB:=A_ (hb);replace HI976:=A_ (hi);(try clear hb hk hi)))
 go_ret3
 exact⟨_,zz9,(zz7 HO979),(zz39 HB HI976)⟩
end Go.Proofs.YtloijngehifbmaaGreatDoor.P
end
section
namespace Go.Proofs.YtloijngehifbmaaGreatDoor.B
open Go.RowKit Go.Proofs.YtloijngehifbmaaGreatDoorW PrintWords PrintLast PrintMore
theorem w64 {n:Int}(h0:-9223372036854775808≤n)(h1:n<9223372036854775808):wrap64 n=n:=by
 unfold wrap64;omega
theorem tmod_nn {a b:Int}(h0:0≤a)(h1:0<b):0≤Int.tmod a b∧Int.tmod a b<b:=
 ⟨Int.tmod_nonneg _ h0,Int.tmod_lt_of_pos _ h1⟩
theorem tdiv_nn {a b:Int}(h0:0≤a)(h1:0<b):0≤Int.tdiv a b∧Int.tdiv a b≤a:=by
 rw[Int.tdiv_eq_ediv_of_nonneg h0];exact⟨Int.ediv_nonneg h0 (by omega),Int.ediv_le_self _ h0⟩
theorem xor_nn {a b:Int}(h0:0≤a)(h1:a<2^62)(h2:0≤b)(h3:b<2^62):
  0≤Go.bits .xor .i64 a b∧Go.bits .xor .i64 a b<2^62:=by
 obtain⟨x,rfl⟩:=Int.eq_ofNat_of_zero_le h0;obtain⟨y,rfl⟩:=Int.eq_ofNat_of_zero_le h2;have hx:x<2^62:=by exact_mod_cast h1
 have hy:y<2^62:=by exact_mod_cast h3
 have hx':x%2^IntKind.i64.bits=x:=Nat.mod_eq_of_lt (Nat.lt_of_lt_of_le hx (by decide));have hy':y%2^IntKind.i64.bits=y:=Nat.mod_eq_of_lt (Nat.lt_of_lt_of_le hy (by decide));have hz:x ^^^ y<2^62:=Nat.xor_lt_two_pow hx hy;have e:Go.bits .xor .i64 (x:Int) (y:Int)=((x ^^^ y:Nat):Int):=by
  simp only[Go.bits,BitVec.ofInt_natCast,BitVec.toNat_xor,BitVec.toNat_ofNat,hx',hy'];rw[IntKind.wrap_i64];have:((x ^^^ y:Nat):Int)<2^62:=by exact_mod_cast hz
  omega
 rw[e];exact⟨Int.natCast_nonneg _,by exact_mod_cast hz⟩
theorem rd_byte {b:List Int}(hb:∀x∈b,0≤x∧x≤255)(i:Int):0≤rd b i∧rd b i≤255:=by
 unfold rd;rw[gD_];cases h:b[i.toNat]? with
 |none=>simp
 |some v=>simpa using hb v (List.mem_of_getElem? h)
theorem wf_u8 {x:Int}(h:(Lit.int .u8 x).wf=true):0≤x∧x≤255:=by
 simp[Lit.wf,IntKind.min,IntKind.max,IntKind.signed,IntKind.bits]at h;omega
abbrev L (s:BA):List UInt8:=s.data.toList
theorem L_size (s:BA):(L s).length=s.size:=(Lib.size_eq s).symm
theorem L_app (a b:BA):L (a++b)=L a++L b:=by simp[L]
theorem L_ext (s:BA)(a b:Nat):L (s.extract a b)=((L s).drop a).take (b-a):=Lib.extract_data s a b
theorem L_inj {a b:BA}(h:L a=L b):a=b:=by
 cases a;cases b;congr 1;exact Array.toList_inj.1 h
theorem toList_inj {a b:BA}:a.toList=b.toList↔a=b:=by
 rw[Lib.toList_data,Lib.toList_data];exact⟨fun h=>L_inj h,fun h=>by rw[h]⟩
theorem toList_nil {a:BA}:a.toList=([]:List UInt8)↔a.size=0:=by
 rw[Lib.toList_data,Lib.size_eq];exact List.length_eq_zero_iff.symm
theorem bt_L (s:BA)(i:Nat):bt s i=(((L s).getD i 0).toNat:Int):=by
 unfold bt;simp only[tN_]
 split
 ·rename_i h
  rw[gD_,gE_ (by rw[L_size];exact h)];simp[L];rfl
 ·rename_i h
  rw[gD_,List.getElem?_eq_none (by rw[L_size];omega)];rfl
theorem Ev_succ {α:Type}{g:Nat→Option α}{r:α}(h:Ev (fun k=>g (k+1)) r):Ev g r:=Ev.step (f:=fun k=>g (k+1)) (fun _=>rfl) h
end Go.Proofs.YtloijngehifbmaaGreatDoor.B
end
section
namespace Go.Proofs.YtloijngehifbmaaGreatDoor.Ad
open Go.RowKit Go.Proofs.YtloijngehifbmaaGreatDoorW PrintWords Go.Proofs.YtloijngehifbmaaGreatDoor.B
abbrev ofL (l:List UInt8):BA:=⟨l.toArray⟩
theorem L_of (l:List UInt8):L (ofL l)=l:=by simp[L]
theorem of_L (s:BA):ofL (L s)=s:=by apply L_inj;simp[L]
theorem ofL_app (a b:List UInt8):ofL (a++b)=ofL a++ofL b:=by apply L_inj;rw[L_of,L_app,L_of,L_of]
theorem ofL_size (l:List UInt8):(ofL l).size=l.length:=by rw[←L_size,L_of]
def plainB (c:UInt8):Bool:=(decide (97≤c.toNat)&&decide (c.toNat≤122))||(decide (48≤c.toNat)&&decide (c.toNat≤57))||c.toNat==46||c.toNat==45
def hexN (c:UInt8):Option Nat:=
 if 48≤c.toNat∧c.toNat≤57 then some (c.toNat-48)else if 97≤c.toNat∧c.toNat≤102 then some (c.toNat-87)else if 65≤c.toNat∧c.toNat≤70 then some (c.toNat-55)else none
theorem hexN_lt {c:UInt8}{x:Nat}(h:hexN c=some x):x<16:=by
 unfold hexN at h
 split at h
 ·injection h;omega
 ·split at h
  ·injection h;omega
  ·split at h
   ·injection h;omega
   ·cases h
def fig (n:Nat):UInt8:=if n<10 then UInt8.ofNat (48+n)else UInt8.ofNat (55+n)
def encN (n:Nat):List UInt8:=if plainB (UInt8.ofNat n)then[UInt8.ofNat n]else[37,fig (n / 16),fig (n%16)]
theorem encN_len (n:Nat):(encN n).length≤3:=by unfold encN;split <;> simp
def esc:List UInt8→Option (List UInt8)
 | []=>some []
 |c::r=>if c=37 then(match r with
   |a::b::q=>(match hexN a,hexN b with
    |some x,some y=>(esc q).map (encN (x*16+y)++·)
    |_,_=>none)
   |_=>none)else(esc r).map (encN c.toNat++·)
theorem esc_short {r:List UInt8}(h:r.length≤1):esc (37::r)=none:=by
 match r,h with
 | [],_=>simp[esc]
 | [_],_=>simp[esc]
 |_::_::_,h=>simp at h
theorem esc_bad1 {a:UInt8}(b:UInt8)(q:List UInt8)(h:hexN a=none):esc (37::a::b::q)=none:=by simp[esc,h]
theorem esc_bad2 (a:UInt8){b:UInt8}(q:List UInt8)(h:hexN b=none):esc (37::a::b::q)=none:=by
 cases ha:hexN a <;> simp[esc,h,ha]
theorem esc_sign {a b:UInt8}{x y:Nat}(q:List UInt8)(ha:hexN a=some x)(hb:hexN b=some y):esc (37::a::b::q)=(esc q).map (encN (x*16+y)++·):=by simp[esc,ha,hb]
theorem esc_plain {c:UInt8}(r:List UInt8)(h:c≠37):esc (c::r)=(esc r).map (encN c.toNat++·):=by rw[esc.eq_def];exact if_neg h
def escO (o:Option (List UInt8)):BA×Bool:=match o with
 |some r=>(ofL r,true)
 |none=>(⟨#[]⟩,false)
def escNorm (s:BA):BA×Bool:=if s.size>60 then(⟨#[]⟩,false)else escO (esc (L s))
def isNorm (s:BA):Bool:=(escNorm s).2&&((escNorm s).1.toList==s.toList)
theorem esc_len (n:Nat):∀(l r:List UInt8),l.length≤n→esc l=some r→r.length≤3*l.length:=by
 induction n with
 |zero=>
  intro l r hl h;obtain rfl:l=[]:=List.length_eq_zero_iff.1 (by omega);simp[esc]at h;subst h;simp
 |succ n ih=>
  intro l r hl h
  match l,hl,h with
  | [],_,h=>simp[esc]at h;subst h;simp
  |c::q,hl,h=>
   unfold esc at h
   split at h
   ·match q,hl,h with
    |a::b::q',hl,h=>
     simp only at h
     split at h
     ·obtain⟨t,ht,rfl⟩:=Option.map_eq_some_iff.1 h
      have:=ih q' t (by simp at hl;omega) ht;exact nT_ (by rw[lA_];exact Nat.add_le_add (encN_len _) this) (by simp only[List.length_cons];omega)
     ·cases h
    | [],_,h=>simp at h
    | [_],_,h=>simp at h
   ·obtain⟨t,ht,rfl⟩:=Option.map_eq_some_iff.1 h
    have:=ih q t (by simp at hl;omega) ht;exact nT_ (by rw[lA_];exact Nat.add_le_add (encN_len _) this) (by simp only[List.length_cons];omega)
theorem escNorm_size (s:BA):(escNorm s).1.size≤180:=by
 unfold escNorm
 split
 ·exact Nat.zero_le _
 ·unfold escO
  split
  ·rename_i h1 _ r h
   have:=esc_len _ _ _ (lL_ _) h;rw[ofL_size];rw[L_size]at this;omega
  ·exact Nat.zero_le _
def body:List BA→BA
 | []=>⟨#[47]⟩
 |p::r=>r.foldl (fun a q=>(a++⟨#[47]⟩)++q) ((⟨#[47]⟩:BA)++p)
def pathB (parts:List BA)(asks:Bool)(ask:BA):BA:=if asks=true then(body parts++⟨#[63]⟩)++ask else body parts
def textB (house:BA)(parts:List BA)(asks:Bool)(ask:BA):BA:=((⟨#[47,47]⟩:BA)++house)++pathB parts asks ask
def partOk (p:BA):Bool:=isNorm p && !(p.toList==[]) && !(p.toList==[46]) && !(p.toList==[46,46])
def smallFrom (s:BA):Nat→Nat→Bool
 |0,_=>true
 |d+1,i=>if bt s i<97 then false else if bt s i>122 then false else smallFrom s d (i+1)
def isSmall (s:BA):Bool:=smallFrom s s.size 0
def isHouse (s:BA):Bool:=decide (1≤s.size)&&decide (s.size≤5)&&isSmall s
def addrOk (house:BA)(parts:List BA)(asks:Bool)(ask:BA):Bool:=
 isHouse house&&decide (parts.length≤5)&&isNorm ask&&(asks||ask.toList==[])&&parts.all partOk&&decide ((textB house parts asks ask).size≤60)
def addrText (house:BA)(parts:List BA)(asks:Bool)(ask:BA):BA:=if addrOk house parts asks ask=true then textB house parts asks ask else⟨#[]⟩
theorem isNorm_size {s:BA}(h:isNorm s=true):s.size≤60:=by
 unfold isNorm escNorm at h
 split at h
 ·simp at h
 ·omega
def sm (b:UInt8):UInt8:=if 65≤b.toNat∧b.toNat≤90 then b+32 else b
def smallB (s:BA):BA:=ofL ((L s).map sm)
end Go.Proofs.YtloijngehifbmaaGreatDoor.Ad
end
section
namespace Go.Proofs.YtloijngehifbmaaGreatDoor.P
open Go.RowKit Go.Proofs.YtloijngehifbmaaGreatDoorW PrintWords PrintLast PrintMore Go.Proofs.YtloijngehifbmaaGreatDoor.B Go.Proofs.YtloijngehifbmaaGreatDoor.Ad
def SmRow (b:Nat)(s:BA)(i:Nat)(w:World):Prop:=
 b<w.heap.size∧∀j,j<s.size→w.cell? ⟨b,j,none⟩=some (.int .u8 ((if j<i then sm ((L s).getD j 0)else(L s).getD j 0).toNat:Nat))∧w.frozen? ⟨b,j,none⟩=false
theorem sm_start (w:World)(e:TypeId)(s:BA):SmRow w.heap.size s 0 (Lib.bytesWorld w e s):=by
 refine⟨by rw[Lib.bytesWorld_size];omega,fun j hj=>⟨?_,?_⟩⟩
 ·rw[Lib.bytesWorld_cell w e s j hj];simp[L]
 ·have hk:s.size≤(Lib.bytesCells w e s).size:=by rw[Lib.bytesCells];simp
  simp only[World.frozen?,Lib.bytesWorld_at_new];simp;omega
theorem sm_below (w:World)(e:TypeId)(s:BA):Below w.heap.size w (Lib.bytesWorld w e s):=by
 refine⟨rfl,rfl,rfl,by rw[Lib.bytesWorld_size];omega,fun j hj=>Lib.bytesWorld_at_old w e s j hj⟩
theorem sm_set {b:Nat}{s:BA}{i:Nat}{w:World}(h:SmRow b s i w)(hi:i<s.size):SmRow b s (i+1) (w.setCell ⟨b,i,none⟩ (.int .u8 ((sm ((L s).getD i 0)).toNat:Nat))):=by
 refine⟨by rw[size_set];exact h.1,fun j hj=>⟨?_,by rw[World.frozen?_setCell];exact(h.2 j hj).2⟩⟩;rcases Nat.lt_trichotomy j i with h1|h1|h1
 ·rw[World.cell?_setCell_other _ _ _ _ (by intro e;injection e with _ e;omega),(h.2 j hj).1,if_pos h1,if_pos (by omega)]
 ·subst h1;rw[World.cell?_setCell_same _ _ _ (h.2 j hj).1,if_pos (by omega)]
 ·rw[World.cell?_setCell_other _ _ _ _ (by intro e;injection e with _ e;omega),(h.2 j hj).1,if_neg (by omega),if_neg (by omega)]
theorem sm_skip {b:Nat}{s:BA}{i:Nat}{w:World}(h:SmRow b s i w)(hi:i<s.size)(he:sm ((L s).getD i 0)=(L s).getD i 0):SmRow b s (i+1) w:=by
 refine⟨h.1,fun j hj=>⟨?_,(h.2 j hj).2⟩⟩;rw[(h.2 j hj).1];rcases Nat.lt_trichotomy j i with h1|h1|h1
 ·rw[if_pos h1,if_pos (by omega)]
 ·subst h1;rw[if_neg (by omega),if_pos (by omega),he]
 ·rw[if_neg (by omega),if_neg (by omega)]
end Go.Proofs.YtloijngehifbmaaGreatDoor.P
end
section
namespace Go.Proofs.YtloijngehifbmaaGreatDoor.P
open Go.RowKit Go.Proofs.YtloijngehifbmaaGreatDoorW PrintWords PrintLast PrintMore Go.Proofs.YtloijngehifbmaaGreatDoor.B Go.Proofs.YtloijngehifbmaaGreatDoor.Ad
set_option maxHeartbeats 8000000
set_option maxRecDepth 100000
def stringslite_Index.f (a0:BA)(a1:BA):Option (Int):=match L a1 with
 | [c]=>some (Lib.indexByte (L a0) c)
 |_=>none
theorem one_of_L {a:BA}{c:UInt8}(h:L a=[c]):a=⟨#[c]⟩:=L_inj (by rw[h])
theorem stringslite_Index.calls (a0:BA)(a1:BA)(r:Int)(w:World)(h:stringslite_Index.f a0 a1=some r):
  Calls Tryz.prog 126 #[.string a0,.string a1] w fun e w'=>e=.returned (.int .i64 r)∧Below w.heap.size w w':=by
 unfold stringslite_Index.f at h
 split at h
 ·rename_i c hc
  obtain rfl:=sI h;obtain rfl:=one_of_L hc;exact(Tryz.stringslite_Index_one a0 c w).mono fun e w' ⟨he,hw⟩=>⟨he,hw ▸ Below.refl _ _⟩
 ·cases h
def strings_Count.f (a0:BA)(a1:BA):Option (Int):=match L a1 with
 | [c]=>some (Lib.countByte (L a0) c)
 |_=>none
theorem strings_Count.calls (a0:BA)(a1:BA)(r:Int)(w:World)(h:strings_Count.f a0 a1=some r):
  Calls Tryz.prog 113 #[.string a0,.string a1] w fun e w'=>e=.returned (.int .i64 r)∧Below w.heap.size w w':=by
 unfold strings_Count.f at h
 split at h
 ·rename_i c hc
  obtain rfl:=sI h;obtain rfl:=one_of_L hc;exact(Tryz.strings_Count_one a0 c w).mono fun e w' ⟨he,hw⟩=>⟨he,hw ▸ Below.refl _ _⟩
 ·cases h
def strings_Join.f (l0:List BA)(a1:BA):Option (BA):=
 if l0.length≤140737488355328∧(Lib.join (l0.map L) (L a1)).length≤140737488355328 then some (ofL (Lib.join (l0.map L) (L a1)))else none
theorem strings_Join.calls (A0:Option Addr)(c0:Nat)(l0:List BA)(a1:BA)(r:BA)(w:World)(hr0:Kd.C Kd.string w A0 l0.length l0)(hc0:l0.length≤c0)(h:strings_Join.f l0 a1=some r):
  Calls Tryz.prog 137 #[.slice A0 l0.length c0,.string a1] w fun e w'=>e=.returned (.string r)∧Below w.heap.size w w':=by
 unfold strings_Join.f at h
 split at h
 ·rename_i hh
  obtain rfl:=sI h;rcases Nat.eq_zero_or_pos l0.length with h0|h0
  ·obtain rfl:l0=[]:=List.length_eq_zero_iff.1 h0
   exact(Tryz.strings_Join_none A0 c0 a1 w).mono fun e w' ⟨he,hw⟩=>⟨he,hw ▸ Below.refl _ _⟩
  ·obtain⟨bk,o,rfl,hb,hcells⟩:=row_at hr0 h0
   exact Tryz.strings_Join bk o c0 l0 a1 w hcells hb hh.1 hc0 hh.2
 ·cases h
def slices_Clone_string_string.f (l0:List BA):Option (List BA):=if l0.length*16≤140737488355328 then some l0 else none
theorem slices_Clone_string_string.calls (A0:Option Addr)(c0:Nat)(l0:List BA)(r:List BA)(w:World)(hr0:Kd.C Kd.string w A0 l0.length l0)(hc0:l0.length≤c0)(h:slices_Clone_string_string.f l0=some r):
  Calls Tryz.prog 133 #[.slice A0 l0.length c0] w fun e w'=>∃v0_:Value,e=.returned (v0_)∧Kd.R Kd.string 9 w' w.heap.size (fun _=>True) v0_ r∧Below w.heap.size w w':=by
 unfold slices_Clone_string_string.f at h
 split at h
 ·rename_i hh
  obtain rfl:=sI h;rcases Nat.eq_zero_or_pos l0.length with h0|h0
  ·obtain rfl:l0=[]:=List.length_eq_zero_iff.1 h0
   cases A0 with
   |none=>exact(Tryz.slices_Clone_string_nil 0 c0 w).mono fun e w' ⟨he,hw⟩=>⟨_,he,Kd.R_nil _ _ _ _ _,hw ▸ Below.refl _ _⟩
   |some a=>exact(Tryz.slices_Clone_string_zero a c0 w).mono fun e w' ⟨v,he,ho,_,hb⟩=>⟨v,he,Kd.R_of_own ho (fun _ _=>trivial),hb⟩
  ·obtain⟨bk,o,rfl,hb,hcells⟩:=row_at hr0 h0
   refine(Tryz.slices_Clone_string bk o l0.length c0 l0 w (lL_ _) hh (fun j hj=>?_)).mono fun e w' ⟨v,he,ho,_,hb'⟩=>⟨v,he,Kd.R_of_own ?_ (fun _ _=>trivial),hb'⟩
   ·rw[gD_,gE_ hj]
    exact hcells j _ (gE_ hj)
   ·rw[List.take_length]at ho
    exact ho
 ·cases h
def sq:BA:=⟨#[47,63]⟩
theorem sq_at:sq.size=2∧(∀h:0<sq.size,(sq[0]'h).toNat=47)∧(∀h:1<sq.size,(sq[1]'h).toNat=63):=by decide +kernel
theorem valid_same (r:Int):Utf8.valid r=Lib.validRune r:=by
 unfold Utf8.valid Lib.validRune;rw[Bool.eq_iff_iff];simp only[Bool.or_eq_true,aE_,decide_eq_true_eq];omega
theorem decode_skip (s:BA)(pos:Nat)(h:pos<s.size)(ha:128≤(s[pos]'h).toNat):
  pos+(Utf8.decode s pos).2≤s.size∧∀j,pos≤j→j<pos+(Utf8.decode s pos).2→∀hj:j<s.size,128≤(s[j]'hj).toNat:=by
 have hn:¬(s[pos]'h).toNat<128:=by omega
 have one:pos+1≤s.size∧∀j,pos≤j→j<pos+1→∀hj:j<s.size,128≤(s[j]'hj).toNat:=by
  refine⟨h,fun j h1 h2 hj=>?_⟩;obtain rfl:j=pos:=by omega
  exact ha
 have cont:∀k,(decide (pos+k<s.size)&&((s.get! (pos+k)).toNat / 64==2))=true→pos+k<s.size∧∀hj:pos+k<s.size,128≤(s[pos+k]'hj).toNat:=by
  intro k hk;simp only[aE_,decide_eq_true_eq,beq_iff_eq]at hk;refine⟨hk.1,fun hj=>?_⟩;have e:=get_at s (pos+k) hj;rw[Nat.add_zero]at e;rw[e]at hk;omega
 simp only[Utf8.decode,get_at s pos h,hn,if_false]
 split
 ·rename_i h1
  simp only[aE_]at h1;obtain⟨l1,b1⟩:=cont 1 (by simpa using h1.2);split
  ·refine⟨(by show pos+2≤_;omega),fun j h2 h3 hj=>?_⟩
   have h3':j<pos+2:=h3;rcases(by omega:j=pos∨j=pos+1)with e|e
   ·subst e;exact ha
   ·subst e;exact b1 hj
  ·exact one
 ·split
  ·rename_i _ h1
   simp only[aE_]at h1;obtain⟨l1,b1⟩:=cont 1 (by simpa using h1.1.2);obtain⟨l2,b2⟩:=cont 2 (by simpa using h1.2);split
   ·refine⟨(by show pos+3≤_;omega),fun j h2 h3 hj=>?_⟩
    have h3':j<pos+3:=h3;rcases(by omega:j=pos∨j=pos+1∨j=pos+2)with e|e|e
    ·subst e;exact ha
    ·subst e;exact b1 hj
    ·subst e;exact b2 hj
   ·exact one
  ·split
   ·rename_i _ _ h1
    simp only[aE_]at h1;obtain⟨l1,b1⟩:=cont 1 (by simpa using h1.1.1.2);obtain⟨l2,b2⟩:=cont 2 (by simpa using h1.1.2);obtain⟨l3,b3⟩:=cont 3 (by simpa using h1.2);split
    ·refine⟨(by show pos+4≤_;omega),fun j h2 h3 hj=>?_⟩
     have h3':j<pos+4:=h3;rcases(by omega:j=pos∨j=pos+1∨j=pos+2∨j=pos+3)with e|e|e|e
     ·subst e;exact ha
     ·subst e;exact b1 hj
     ·subst e;exact b2 hj
     ·subst e;exact b3 hj
    ·exact one
   ·exact one
theorem noAny_skip {s:BA}{pos n:Nat}(h:Lib.NoAny (L s) (L sq) pos)(hb:∀j,pos≤j→j<pos+n→∀hj:j<s.size,128≤(s[j]'hj).toNat):Lib.NoAny (L s) (L sq) (pos+n):=by
 intro j b hj hx;rcases Nat.lt_or_ge j pos with hlt|hge
 ·exact h j b hlt hx
 ·obtain⟨hl,he⟩:=List.getElem?_eq_some_iff.1 hx
  have hjs:j<s.size:=by rw[←L_size];exact hl
  have h1:=hb j hge hj hjs;have h2:(s[j]'hjs)=b:=by rw[←he];rfl
  rw[h2]at h1;have:L sq=[47,63]:=rfl;rw[this];simp only[List.contains_cons,List.contains_nil,Bool.or_false,Bool.or_eq_false_iff,bN_];constructor
  ·rintro rfl;exact absurd h1 (by decide)
  ·rintro rfl;exact absurd h1 (by decide)
theorem indexRune_far (r:Int)(w:World)(h0:128≤r)(h1:r≤2147483647):
  Calls Tryz.prog 128 #[.string sq,.int .i32 r] w fun e w'=>e=.returned (.int .i64 (-1))∧Below w.heap.size w w':=by
 have g0:decide (0≤r)=true:=dT (by omega);have g1:decide (r<128)=false:=dF (by omega);obtain⟨hsz,hs0,hs1⟩:=sq_at;by_cases hr:r=65533
 ·subst hr
  have n0:=fun ty=>run_next_ascii (P:=Tryz.prog) w sq 0 ty (by rw[hsz];decide) (by rw[hs0];decide)
  have n1:=fun ty=>run_next_ascii (P:=Tryz.prog) w sq 1 ty (by rw[hsz];decide) (by rw[hs1];decide)
  rw[hs0]at n0;rw[hs1]at n1;have n2:=fun ty=>run_next_end (P:=Tryz.prog) w sq 2 ty (by rw[hsz];decide)
  clear hsz hs0 hs1 h0 h1 g0 g1;go_enter Tryz.func128,Tryz.ntmps128;go_wp2
  go_loopg [5,6] 2 (fun g _ _ wx=>∃i:Nat,i+g=2∧wx=w.iter sq i)
  case atStart=>exact⟨0,by omega,rfl⟩
  case round=>
   obtain⟨i,hig,rfl⟩:=hrel;cases gk with
   |zero=>
    obtain rfl:i=2:=by omega
    go_wp2;go_ret;exact⟨rfl,(Below.refl _ _).alloc (lL_ _) _⟩
   |succ g=>
    rcases(by omega:i=0∨i=1)with e|e
    ·subst e
     go_wp2
     go_roundg g
     case measure=>omega
     case rel=>exact⟨1,by omega,rfl⟩
    ·subst e
     go_wp2
     go_roundg g
     case measure=>omega
     case rel=>exact⟨2,by omega,rfl⟩
 ·have g2:(r==65533)=false:=by simp[hr]
  cases hv:Lib.validRune r with
  |false=>
   go_enter Tryz.func128,Tryz.ntmps128;go_wp2_with (go_at_call 159;refine(Tryz.utf8_ValidRune _ _).mono ?_;rintro e w' ⟨rfl,hw⟩;rw[hw,hv])
   go_ret;exact⟨rfl,Below.refl _ _⟩
  |true=>
   obtain⟨e1,e2,e3⟩:=encode_facts r (by rw[valid_same];exact hv) h0;go_enter Tryz.func128,Tryz.ntmps128;go_wp2_with (go_at_call 159;refine(Tryz.utf8_ValidRune _ _).mono ?_;rintro e w' ⟨rfl,hw⟩;rw[hw,hv])
   go_step3
   go_wp2;generalize Utf8.encode r=nd at e1 e2 e3 ⊢;refine wp_loop_rounds 1 ?_;rw[rounds_succ];by_cases hn:nd.size=2
   ·obtain⟨x,hx⟩:∃x:UInt8,∀h:1<nd.size,nd[1]'h=x:=⟨nd[1]'(by omega),fun _=>rfl⟩
    have hx1:128≤x.toNat:=by
     have:=e3 (by omega);simp only[hn]at this;rw[←hx (by omega)];exact this
    clear e3;have hne:((63:Int) != (x.toNat:Int))=true:=by simp;omega
    have hnz:((nd.size:Nat):Int)-1=1:=by omega
    rw[hnz];have HN:=A_ hn;have hlt:(1:Int)<(nd.size:Int):=by omega
    clear hn hnz e1 e2;have hs1':=hs1 (by rw[hsz];decide);have hi1:(1:Int)<(sq.size:Int):=by rw[hsz];decide
    have hs2:(2:Int)≤(sq.size:Int):=by rw[hsz];decide
    go_wp2
    go_step3
    go_wp2
    go_quiet (fail)
    have HB:Aside0 (Below w.heap.size w (w.drewN nq)):=⟨pw_below_drewN (Below.refl _ _) nq⟩;generalize w.drewN nq=w1 at HB ⊢;have hib:Lib.indexByte (sq.extract 2 2).data.toList ((x.toNat:Int)).toNat.toUInt8=-1:=rfl;go_wp2
    go_quiet ((go_at_call 158;exact Calls.quiet_of_same (Tryz.strings_IndexByte _ _ _)))
    go_wp2;rw[Exit.noGoto_ret];go_wp2;rw[Exit.noGoto_ret];go_ret;exact⟨rfl,pw_below_drewN HB.out _⟩
   ·have hge:decide ((nd.size:Int)-1<2)=false:=dF (by omega)
    go_wp2;rw[Exit.noGoto_ret];go_ret;exact⟨rfl,Below.refl _ _⟩
def strings_IndexAny.f (a0 a1:BA):Option Int:=if L a1=[47,63]∧a0.size<4294967281 then some (Lib.indexAny (L a0) (L a1))else none
def iterTo (w:World)(b:Nat)(s:BA)(p:Nat):World:={ w with heap:=w.heap.setIfInBounds b (.stringIter s p) }
theorem iterTo_at {w:World}{b:Nat}{s:BA}{p q:Nat}(h:w.heap[b]?=some (.stringIter s q)):(iterTo w b s p).heap[b]?=some (.stringIter s p):=by
 obtain⟨hl,_⟩:=Array.getElem?_eq_some_iff.1 h;simp[iterTo,hl]
theorem iterTo_below {w0 w:World}{b:Nat}{s:BA}{p:Nat}(h:Below w0.heap.size w0 w)(hb:w0.heap.size≤b):Below w0.heap.size w0 (iterTo w b s p):=
 ⟨h.os,h.tape,h.output,(by simp[iterTo];exact h.size),fun i hi=>by
  rw[←h.block i hi];simp only[iterTo];exact Array.getElem?_setIfInBounds_ne (by omega)⟩
theorem run_next_in {P:Program}(w:World)(b:Nat)(s:BA)(pos:Nat)(hb:w.heap[b]?=some (.stringIter s pos))(h:pos<s.size)(ty:TypeId):
  (Instr.next (.pointer (some ⟨b,0,none⟩)) true ty).run P w=.ok (.tuple #[.bool true,.int .i64 pos,.int .i32 (Utf8.decode s pos).1]) (iterTo w b s (pos+(Utf8.decode s pos).2)):=by
 simp only[Instr.next,getObj,setObj,Sem.run_bind,Sem.run,hb,Result.andThen,h,if_true,iterTo];simp[goInt]
theorem run_next_out {P:Program}(w:World)(b:Nat)(s:BA)(pos:Nat)(hb:w.heap[b]?=some (.stringIter s pos))(h:¬pos<s.size)(ty:TypeId):
  (Instr.next (.pointer (some ⟨b,0,none⟩)) true ty).run P w=.ok (.tuple #[.bool false]) w:=by
 simp[Instr.next,getObj,Sem.run,hb,h]
theorem indexAny_few (s:BA)(w:World)(h8:s.size≤8):
  Calls Tryz.prog 98 #[.string s,.string sq] w fun e w'=>e=.returned (.int .i64 (Lib.indexAny (L s) (L sq)))∧Below w.heap.size w w':=by
 have hemp:sq.toList.isEmpty=false:=by decide +kernel
 have hn1:((sq.size:Int)==1)=false:=by decide +kernel
 have h8z:decide ((8:Int)<(s.size:Int))=false:=dF (by omega);go_enter Tryz.func98,Tryz.ntmps98;go_wp2_with (go_at_call 129;refine(Tryz.strings_shouldUseASCIISet _ _).mono ?_;rintro e w' ⟨rfl,hw⟩;rw[hw,h8z])
 go_loopg [9,10] s.size (fun g _ _ wx=>∃i:Nat,i+g=s.size∧Aside0 (wx.heap[w.heap.size]?=some (.stringIter s i))∧Aside0 (Lib.NoAny (L s) (L sq) i)∧Aside0 (Below w.heap.size w wx))
 case atStart=>exact⟨0,by omega,⟨World.iter_heap w s 0⟩,⟨Lib.NoAny.zero _ _⟩,⟨(Below.refl _ _).alloc (lL_ _) _⟩⟩
 case round=>
  obtain⟨i,hig,hI,HN,HB⟩:=hrel;cases gk with
  |zero=>
   obtain rfl:i=s.size:=by omega
   have hnx:=run_next_out (P:=Tryz.prog) wr w.heap.size s s.size hI.out (by omega);go_wp2;go_ret;exact⟨(by rw[Lib.indexAny_none (by rw[L_size];exact HN.out)];rfl),HB.out⟩
  |succ g=>
   have hi:i<s.size:=by omega
   have hnx:=run_next_in (P:=Tryz.prog) wr w.heap.size s i hI.out hi;obtain⟨x,hx⟩:∃x:UInt8,s[i]'hi=x:=⟨_,rfl⟩;have Hx:Aside0 ((L s)[i]?=some x):=⟨(by rw[←hx];exact Lib.data_getElem? s i hi)⟩;by_cases hlt:x.toNat<128
   ·have hd:=decode_ascii s i hi (by rw[hx];exact hlt)
    rw[hx]at hd;rw[hd]at hnx;clear hd;have HI2:Aside0 ((iterTo wr w.heap.size s (i+1)).heap[w.heap.size]?=some (.stringIter s (i+1))):=⟨iterTo_at hI.out⟩;have HB2:Aside0 (Below w.heap.size w (iterTo wr w.heap.size s (i+1))):=⟨iterTo_below HB.out (lL_ _)⟩;simp only at hnx;have hcon:=Lib.contains_iff_indexByte (L sq) x;have hback:((x.toNat:Int)).toNat.toUInt8=x:=by simp
    obtain⟨q,hq⟩:∃q,Lib.indexByte sq.data.toList x=q:=⟨_,rfl⟩;have hcon:(L sq).contains x=decide (0≤q):=by rw[←hq];exact hcon
    clear hx HB hI;generalize iterTo wr w.heap.size s (i+1)=w2 at hnx HI2 HB2;cases hin:(L sq).contains x
    ·rw[hin]at hcon
     have hlt0:¬((0:Int)≤q):=of_decide_eq_false hcon.symm;clear hcon;have HS:Aside0 (Lib.NoAny (L s) (L sq) (i+1)):=⟨HN.out.succ Hx.out hin⟩;clear hin;go_wp2_with (go_at_call 128;refine(Tryz.strings_IndexRune_ascii _ _ _ (by omega) (by omega)).mono ?_;rintro e w' ⟨rfl,hw⟩;rw[hw,hback,hq])
     go_roundg g
     case measure=>omega
     case rel=>exact⟨i+1,by omega,HI2,HS,HB2⟩
    ·rw[hin]at hcon
     have hge:(0:Int)≤q:=of_decide_eq_true hcon.symm;clear hcon;have HE:Aside0 (Lib.indexAny (L s) (L sq)=i):=⟨Lib.indexAny_hit HN.out Hx.out hin⟩;clear hin;go_wp2_with (go_at_call 128;refine(Tryz.strings_IndexRune_ascii _ _ _ (by omega) (by omega)).mono ?_;rintro e w' ⟨rfl,hw⟩;rw[hw,hback,hq]);go_ret;exact⟨(by rw[HE.out];rfl),HB2.out⟩
   ·obtain⟨hd1,hd2⟩:=decode_high s i hi (by rw[hx];omega)
    have hd3:=decode_le s i;obtain⟨hk1,hk2⟩:=decode_skip s i hi (by rw[hx];omega);generalize (Utf8.decode s i).2=n at hnx hd2 hk1 hk2;generalize (Utf8.decode s i).1=c at hnx hd1 hd3;have HI2:Aside0 ((iterTo wr w.heap.size s (i+n)).heap[w.heap.size]?=some (.stringIter s (i+n))):=⟨iterTo_at hI.out⟩;have HB2:Aside0 (Below w.heap.size w (iterTo wr w.heap.size s (i+n))):=⟨iterTo_below HB.out (lL_ _)⟩;have HS:Aside0 (Lib.NoAny (L s) (L sq) (i+n)):=⟨noAny_skip HN.out hk2⟩;have hlo:(128:Int)≤(c:Int):=by omega
    have hhi:(c:Int)≤2147483647:=by omega
    have HK:=A_ hk1;have HD:=A_ hd2;clear hx HB hI HN Hx hk1 hk2 hd1 hd2 hd3 hlt;generalize iterTo wr w.heap.size s (i+n)=w2 at hnx HI2 HB2;go_wp2_with (go_at_call 128;refine(indexRune_far _ _ hlo hhi).mono ?_;rintro e w' ⟨rfl,hb⟩);have HC:=A_ hb;clear hb;go_roundg (g+1-n)
    case measure=>have:=HK.out;have:=HD.out;omega
    case rel=>exact⟨i+n,(zz4 HK),⟨(HC.out.block _ (by obtain⟨hl,_⟩:=Array.getElem?_eq_some_iff.1 HI2.out;exact hl)).trans HI2.out⟩,HS,⟨HB2.out.trans (HC.out.mono HB2.out.size)⟩⟩
theorem strings_IndexAny.calls (a0 a1:BA)(r:Int)(w:World)(h:strings_IndexAny.f a0 a1=some r):
  Calls Tryz.prog 98 #[.string a0,.string a1] w fun e w'=>e=.returned (.int .i64 r)∧Below w.heap.size w w':=by
 unfold strings_IndexAny.f at h
 split at h
 ·rename_i hh
  obtain rfl:=sI h;obtain rfl:a1=sq:=L_inj (by rw[hh.1];rfl);rcases Nat.lt_or_ge 8 a0.size with h8|h8
  ·refine(Tryz.strings_IndexAny_long (fun w=>by kernel_rfl) a0 sq w (by decide +kernel) h8 hh.2 (by decide +kernel) (fun j b hb=>?_)).mono fun e w' ⟨he,hw⟩=>⟨he,hw ▸ ((Below.refl _ _).alloc (lL_ _) _).alloc (by simp) _⟩
   have hb':([47,63]:List UInt8)[j]?=some b:=hb;match j,hb' with
   |0,hb'=>injection hb' with hb';subst hb';decide
   |1,hb'=>injection hb' with hb';subst hb';decide
  ·exact indexAny_few a0 w h8
 ·cases h
end Go.Proofs.YtloijngehifbmaaGreatDoor.P
end
section
namespace Go.Proofs.YtloijngehifbmaaGreatDoor.P
open Go.RowKit Go.Proofs.YtloijngehifbmaaGreatDoorW PrintWords PrintLast PrintMore
attribute [local go_sem] max2_int min2_int max_two min_two max_three min_three max_four min_four
set_option maxHeartbeats 8000000
set_option maxRecDepth 100000
def stringslite_Cut.f (a0:BA)(a1:BA):Option (BA×BA×Bool):=(stringslite_Index.f a0 a1).bind fun t425=>(if t425≥0 then(if 0≤t425 then(if t425≤(a0.size:Int)then(if 0≤(wrap64 (t425+(a1.size:Int)))then(if(wrap64 (t425+(a1.size:Int)))≤(a0.size:Int)then(some (a0.extract 0 (t425:Int).toNat,a0.extract ((wrap64 (t425+(a1.size:Int))):Int).toNat a0.size,true))else(none))else(none))else(none))else(none))else(some (a0,(⟨#[]⟩:BA),false)))
theorem stringslite_Cut.calls (a0:BA)(a1:BA)(r1:BA)(r2:BA)(r3:Bool)(w:World)(h:stringslite_Cut.f a0 a1=some (r1,r2,r3)):
  Calls Tryz.prog 96 #[.string a0,.string a1] w fun e w'=>e=.returned (.tuple #[.string r1,.string r2,.bool r3])∧Below w.heap.size w w':=by
 have HB:=A_ (Below.refl w.heap.size w);unfold stringslite_Cut.f at h;have H:=h;clear h;replace H:=bindA H;obtain⟨t425,A3,H⟩:=H;have HF4:=A_ H;clear H;go_enter Tryz.func96,Tryz.ntmps96;go_upto_if 12 with(first|(go_at_call 126;(with_reducible refine(stringslite_Index.calls a0 a1 t425 _ A3.out).mono ?_);rintro e w5 ⟨rfl,hb⟩;replace HB:=A_ (bS (zz6 HB) hb);(try clear hb)))
 repeat(go_quiet (first|(go_at_call 126;(with_reducible refine(stringslite_Index.calls a0 a1 t425 _ A3.out).mono ?_);rintro e w5 ⟨rfl,hb⟩;replace HB:=A_ (bS (zz6 HB) hb);(try clear hb)));go_upto_if 12 with(first|(go_at_call 126;(with_reducible refine(stringslite_Index.calls a0 a1 t425 _ A3.out).mono ?_);rintro e w5 ⟨rfl,hb⟩;replace HB:=A_ (bS (zz6 HB) hb);(try clear hb))))
 obtain⟨H⟩:=HF4;replace H:=iteEe H;rcases H with⟨c6b0,H⟩|⟨c6b0,H⟩
 ·(first|rw[c6b0]|(simp only[i64_w,i32_w];rw[c6b0])|skip)
  replace H:=iteN H;obtain⟨c7,H⟩:=H;have c7b0:=eq_true c7;have c7b1:=dT c7;clear c7;replace H:=iteN H;obtain⟨c8,H⟩:=H;have c8b0:=eq_true c8;have c8b1:=dT c8;clear c8;obtain⟨ji9,hji9⟩:∃j_:Int,(wrap64 (t425+(a1.size:Int)))=j_:=⟨_,rfl⟩;(first|rw[hji9]at H|simp only[hji9]at H);have hji9w:(IntKind.i64.wrap (t425+(a1.size:Int)))=ji9:=(i64_w _).trans hji9;replace H:=iteN H;obtain⟨c10,H⟩:=H;have c10b0:=eq_true c10;have c10b1:=dT c10;clear c10;replace H:=iteN H;obtain⟨c11,H⟩:=H;have c11b0:=eq_true c11;have c11b1:=dT c11;clear c11;simp only[oI_,pI_]at H;obtain⟨rfl,rfl,rfl⟩:=H;go_wp2
  repeat(go_quiet (fail);try go_wp2)
  go_ret3
  exact⟨zz41,(zz6 HB)⟩
 ·(first|rw[c6b0]|(simp only[i64_w,i32_w];rw[c6b0])|skip)
  simp only[oI_,pI_]at H;obtain⟨rfl,rfl,rfl⟩:=H;go_wp2
  repeat(go_quiet (fail);try go_wp2)
  go_ret3
  exact⟨zz9,(zz6 HB)⟩
def strings_Cut.f (a0:BA)(a1:BA):Option (BA×BA×Bool):=(stringslite_Cut.f a0 a1).bind fun bt426=>(some (bt426.1,bt426.2.1,bt426.2.2))
theorem strings_Cut.calls (a0:BA)(a1:BA)(r1:BA)(r2:BA)(r3:Bool)(w:World)(h:strings_Cut.f a0 a1=some (r1,r2,r3)):
  Calls Tryz.prog 70 #[.string a0,.string a1] w fun e w'=>e=.returned (.tuple #[.string r1,.string r2,.bool r3])∧Below w.heap.size w w':=by
 have HB:=A_ (Below.refl w.heap.size w);unfold strings_Cut.f at h;have H:=h;clear h;replace H:=bindA H;obtain⟨⟨t426,t427,t428⟩,A3,H⟩:=H;try dsimp only at H;simp only[oI_,pI_]at H;obtain⟨rfl,rfl,rfl⟩:=H;go_enter Tryz.func70,Tryz.ntmps70;go_wp2_with (first|(refine gR 96 (some 9) Tryz.func96 (stringslite_Cut.calls a0 a1 t426 t427 t428 _ A3.out) ?_;rintro w4 hb;replace HB:=A_ (bS (zz6 HB) hb);(try clear hb)))
 go_ret3
 exact⟨zz9,(zz6 HB)⟩
def strings_Index.f (a0:BA)(a1:BA):Option (Int):=(stringslite_Index.f a0 a1).bind fun t432=>(some t432)
theorem strings_Index.calls (a0:BA)(a1:BA)(r:Int)(w:World)(h:strings_Index.f a0 a1=some r):
  Calls Tryz.prog 114 #[.string a0,.string a1] w fun e w'=>e=.returned (.int .i64 r)∧Below w.heap.size w w':=by
 have HB:=A_ (Below.refl w.heap.size w);unfold strings_Index.f at h;have H:=h;clear h;replace H:=bindA H;obtain⟨t432,A3,H⟩:=H;obtain rfl:=sI H;go_enter Tryz.func114,Tryz.ntmps114;go_wp2_with (first|(refine gR 126 (some 7) Tryz.func126 (stringslite_Index.calls a0 a1 t432 _ A3.out) ?_;rintro w4 hb;replace HB:=A_ (bS (zz6 HB) hb);(try clear hb)));go_ret;exact⟨zz9,(zz6 HB)⟩
def impl_writePath.f (a0_0:BA)(l0_1:List BA)(a0_2:Bool)(a0_3:BA):Option (BA):=(strings_Join.f l0_1 (⟨#[47]⟩:BA)).bind fun t483=>(if 1+t483.size≤9223372036854775807 then(if a0_2=true then(if 1+a0_3.size≤9223372036854775807 then(if 1+t483.size+1+a0_3.size≤9223372036854775807 then(some (((⟨#[47]⟩:BA)++t483)++((⟨#[63]⟩:BA)++a0_3)))else(none))else(none))else(some ((⟨#[47]⟩:BA)++t483)))else(none))
theorem impl_writePath.calls (a0_0:BA)(A0_1:Option Addr)(c0_1:Nat)(l0_1:List BA)(a0_2:Bool)(a0_3:BA)(r:BA)(w:World)(hr0_1:Kd.C Kd.string w A0_1 l0_1.length l0_1)(hc0_1:l0_1.length≤c0_1)(h:impl_writePath.f a0_0 l0_1 a0_2 a0_3=some r):
  Calls Tryz.prog 102 #[.agg #[.string a0_0,.slice A0_1 l0_1.length c0_1,.bool a0_2,.string a0_3]] w fun e w'=>e=.returned (.string r)∧Below w.heap.size w w':=by
 have hu51:=Tryz.underlying51;have HR0_1:=A_ hr0_1;have HC0_1:=A_ hc0_1;clear hr0_1 hc0_1;have HB:=A_ (Below.refl w.heap.size w);unfold impl_writePath.f at h;have H:=h;clear h;replace H:=bindA H;obtain⟨t483,A2,H⟩:=H;replace H:=iteE H;rcases H with⟨c3,H⟩|⟨c3,H⟩
 ·have c3b0:=eq_true c3
  have c3b1:=dT c3;try have c3b2:(9223372036854775807<1+t483.size)=False:=eq_false (nL_.2 c3);have HF4:=A_ H;clear H;go_enter Tryz.func102,Tryz.ntmps102;go_upto_if 9 with(first|(refine boxF 1 #[.string a0_0,.slice A0_1 l0_1.length c0_1,.bool a0_2,.string a0_3] 51 ?_;intro gb482 hg w5 BK482 hb;have GE482:=geB hg (zz6 HB);replace HB:=A_ (bS (zz6 HB) hb);clear hb hg;obtain⟨_,_,_,_,_,_,_,_⟩:=cf4 BK482)|(refine gR 137 (some 6) Tryz.func137 (strings_Join.calls _ _ l0_1 (⟨#[47]⟩:BA) t483 _ ?side1 ?side2 A2.out) ?_;(case side1=>exact(zz29 HR0_1 HB));(case side2=>exact HC0_1.out);rintro w7 hb;replace BK482:=A_ (bB (zz18 BK482) hb);replace HB:=A_ (bS (zz19 HB GE482) hb);(try clear hb);obtain⟨_,_,_,_,_,_,_,_⟩:=cf4 BK482))
  obtain⟨H⟩:=HF4;replace H:=iteB H;rcases H with⟨rfl,H⟩|⟨rfl,H⟩
  ·replace H:=iteN H
   obtain⟨c10,H⟩:=H;have c10b0:=eq_true c10;have c10b1:=dT c10;try have c10b2:(9223372036854775807<1+a0_3.size)=False:=eq_false (nL_.2 c10);replace H:=iteN H;obtain⟨c11,H⟩:=H;have c11b0:=eq_true c11;have c11b1:=dT c11;try have c11b2:(9223372036854775807<1+t483.size+1+a0_3.size)=False:=eq_false (nL_.2 c11);obtain rfl:=sI H;obtain⟨_,_,_,_,_,_,_,_⟩:=cf4 BK482;go_wp2;go_ret;exact⟨zz9,(zz19 HB GE482)⟩
  ·obtain rfl:=sI H
   go_wp2;go_ret;exact⟨zz9,(zz19 HB GE482)⟩
 ·exact absurd H (by simp)
def impl_writeAddr.f (a0_0:BA)(l0_1:List BA)(a0_2:Bool)(a0_3:BA):Option (BA):=if 2+a0_0.size≤9223372036854775807 then((impl_writePath.f a0_0 l0_1 a0_2 a0_3).bind fun t485=>(if 2+a0_0.size+t485.size≤9223372036854775807 then(some (((⟨#[47,47]⟩:BA)++a0_0)++t485))else(none)))else(none)
theorem impl_writeAddr.calls (a0_0:BA)(A0_1:Option Addr)(c0_1:Nat)(l0_1:List BA)(a0_2:Bool)(a0_3:BA)(r:BA)(w:World)(hr0_1:Kd.C Kd.string w A0_1 l0_1.length l0_1)(hc0_1:l0_1.length≤c0_1)(h:impl_writeAddr.f a0_0 l0_1 a0_2 a0_3=some r):
  Calls Tryz.prog 136 #[.agg #[.string a0_0,.slice A0_1 l0_1.length c0_1,.bool a0_2,.string a0_3]] w fun e w'=>e=.returned (.string r)∧Below w.heap.size w w':=by
 have hu51:=Tryz.underlying51;have HR0_1:=A_ hr0_1;have HC0_1:=A_ hc0_1;clear hr0_1 hc0_1;have HB:=A_ (Below.refl w.heap.size w);unfold impl_writeAddr.f at h;have H:=h;clear h;replace H:=iteE H;rcases H with⟨c2,H⟩|⟨c2,H⟩
 ·have c2b0:=eq_true c2
  have c2b1:=dT c2;try have c2b2:(9223372036854775807<2+a0_0.size)=False:=eq_false (nL_.2 c2);replace H:=bindA H;obtain⟨t485,A3,H⟩:=H;replace H:=iteN H;obtain⟨c4,H⟩:=H;have c4b0:=eq_true c4;have c4b1:=dT c4;try have c4b2:(9223372036854775807<2+a0_0.size+t485.size)=False:=eq_false (nL_.2 c4);obtain rfl:=sI H;go_enter Tryz.func136,Tryz.ntmps136;try go_wp2_with (first|(refine boxF 1 #[.string a0_0,.slice A0_1 l0_1.length c0_1,.bool a0_2,.string a0_3] 51 ?_;intro gb484 hg w5 BK484 hb;have GE484:=geB hg (zz6 HB);replace HB:=A_ (bS (zz6 HB) hb);clear hb hg));replace BK484:=A_ (blk_drew BK484.out);replace HB:=A_ (below_drew1 HB.out);refine start_ (n:=7) (S:=fun w'=>w'.cell? ⟨gb484,0,none⟩=some (.string a0_0)∧w'.cell? ⟨gb484,1,none⟩=some (.slice A0_1 l0_1.length c0_1)∧w'.cell? ⟨gb484,2,none⟩=some (.bool a0_2)∧w'.cell? ⟨gb484,3,none⟩=some (.string a0_3)) (ds:=[]) #[yF,yF,yF,yF,yF,yF,yF] (by kernel_rfl) rfl rfl ⟨(blk_cell BK484.out 0).trans rfl,(blk_cell BK484.out 1).trans rfl,(blk_cell BK484.out 2).trans rfl,(blk_cell BK484.out 3).trans rfl⟩ (fun hHeld=>?_);generalize w5.drew=w6 at BK484 HB hHeld ⊢;refine pureY 0 (some 3) (yA 1 6) ?_;refine takeY4 1 (some 4) (yA 2 5) hHeld ?_;refine pureY 2 (some 5) (yA 3 4) ?_;refine takeY4 3 (some 6) (yA 4 3) hHeld ?_;refine one_ (i:=4) (N:=some 7) (yA 5 2) rfl rfl (by kernel_rfl) (by decide) (fun K hK=>?_);refine goes_ Tryz.func102 (by kernel_rfl) rfl #[.agg #[.string a0_0,.slice A0_1 l0_1.length c0_1,.bool a0_2,.string a0_3]] (by rfl) rfl rfl zz45 ?_;with_reducible refine(impl_writePath.calls a0_0 _ _ l0_1 a0_2 a0_3 t485 _ ?side1 ?side2 A3.out).mono ?_
  (case side1=>exact(zz29 HR0_1 HB))
  (case side2=>exact HC0_1.out)
  rintro e w7 ⟨rfl,hb⟩;refine⟨_,rfl,?_⟩;replace BK484:=A_ (bB (zz18 BK484) hb);replace HB:=A_ (bS (zz19 HB GE484) hb);(try clear hb)
  (try clear hb2)
  (try clear hk)
  (try clear hi)
  refine hK.out _ _ ⟨(blk_cell BK484.out 0).trans rfl,(blk_cell BK484.out 1).trans rfl,(blk_cell BK484.out 2).trans rfl,(blk_cell BK484.out 3).trans rfl⟩ (fun hHeld=>?_);clear hK K;refine nZ 7 ?_;refine pureY 5 (some 8) (yA 6 1) ?_;refine pureY 6 (some 2) (yA 7 0) ?_;refine done_ (by kernel_rfl) ?_;try go_wp2;go_ret;exact⟨zz9,(zz19 HB GE484)⟩
 ·exact absurd H (by simp)
def impl_signByte.f (a0:BA)(a1:Int):Option (Int×Bool):=if(wrap64 ((a0.size:Int)-a1))<3 then(some (0,false))else(if 0≤(wrap64 (a1+1))then(if(wrap64 (a1+1))<(a0.size:Int)then((impl_figureValue.f (bt a0 (wrap64 (a1+1)))).bind fun bt454=>(if 0≤(wrap64 (a1+2))then(if(wrap64 (a1+2))<(a0.size:Int)then((impl_figureValue.f (bt a0 (wrap64 (a1+2)))).bind fun bt456=>(if bt454.2=true then(if bt456.2=true then(some ((wrap64 ((wrap64 (bt454.1*16))+bt456.1))%256,true))else(some (0,false)))else(some (0,false))))else(none))else(none)))else(none))else(none))
theorem impl_signByte.calls (a0:BA)(a1:Int)(r1:Int)(r2:Bool)(w:World)(h:impl_signByte.f a0 a1=some (r1,r2)):
  Calls Tryz.prog 160 #[.string a0,.int .i64 a1] w fun e w'=>e=.returned (.tuple #[.int .u8 r1,.bool r2])∧Below w.heap.size w w':=by
 have HB:=A_ (Below.refl w.heap.size w);unfold impl_signByte.f at h;have H:=h;clear h;replace H:=iteEd H;rcases H with⟨c3b0,H⟩|⟨c3b0,H⟩
 ·simp only[oI_,pI_]at H
  obtain⟨rfl,rfl⟩:=H;go_enter Tryz.func160,Tryz.ntmps160;go_wp2
  go_ret2
  exact⟨zz9,(zz6 HB)⟩
 ·obtain⟨ji4,hji4⟩:∃j_:Int,(wrap64 (a1+1))=j_:=⟨_,rfl⟩
  (first|rw[hji4]at H|simp only[hji4]at H)
  have hji4w:(IntKind.i64.wrap (a1+1))=ji4:=(i64_w _).trans hji4;replace H:=iteE H;rcases H with⟨c5,H⟩|⟨c5,H⟩
  ·have c5b0:=dT c5
   clear c5;replace H:=iteNd H;obtain⟨c6b0,H⟩:=H;replace H:=bindA H;obtain⟨⟨t454,t455⟩,A8,H⟩:=H;try dsimp only at H;obtain⟨ji9,hji9⟩:∃j_:Int,(wrap64 (a1+2))=j_:=⟨_,rfl⟩;(first|rw[hji9]at H|simp only[hji9]at H)
   (try rw[hji9]at A8)
   have hji9w:(IntKind.i64.wrap (a1+2))=ji9:=(i64_w _).trans hji9;replace H:=iteNd H;obtain⟨c10b0,H⟩:=H;replace H:=iteNd H;obtain⟨c11b0,H⟩:=H;replace H:=bindA H;obtain⟨⟨t456,t457⟩,A13,H⟩:=H;try dsimp only at H;have HF14:=A_ H;clear H;have p7:0≤((ji4):Int):=ofD;have q7:(ji4)<(a0.size:Int):=ofD;have hx7:=bt_at a0 (ji4);replace p7:=eq_true p7;replace q7:=eq_true q7;go_enter Tryz.func160,Tryz.ntmps160;go_wp2_with (first|((with_reducible refine gC (f:=168) rfl ?_);refine goesL_ (some 20) rfl rfl Tryz.func168 (by kernel_rfl) rfl #[.int .u8 (bt a0 (ji4))] rfl (by(try simp only[List.map_toArray,List.map_cons,List.map_nil]);first|done|(simp only[hji4];rfl)|rfl|(simp only[List.length_drop,lT_];rfl)) ?_;(with_reducible refine mR (impl_figureValue.calls (bt a0 (ji4)) t454 t455 _ A8.out) ?_);rintro w15 hb;replace HB:=A_ (bS (zz6 HB) hb);(try clear hb);have p12:0≤((ji9):Int):=ofD;have q12:(ji9)<(a0.size:Int):=ofD;have hx12:=bt_at a0 (ji9);replace p12:=eq_true p12;replace q12:=eq_true q12)|((with_reducible refine gC (f:=168) rfl ?_);refine goesL_ (some 28) rfl rfl Tryz.func168 (by kernel_rfl) rfl #[.int .u8 (bt a0 (ji9))] rfl (by(try simp only[List.map_toArray,List.map_cons,List.map_nil]);first|done|(simp only[hji9];rfl)|rfl|(simp only[List.length_drop,lT_];rfl)) ?_;(with_reducible refine mR (impl_figureValue.calls (bt a0 (ji9)) t456 t457 _ A13.out) ?_);rintro w16 hb;replace HB:=A_ (bS (zz6 HB) hb);(try clear hb))|((with_reducible refine atG ?_ ?_ fun K_ hK_=>?_);rfl;exact undecG)|((with_reducible refine atI ?_ fun K_ hK_=>?_);exact undecI));refine unG hK_ ?_;clear hK_ K_;obtain⟨H⟩:=HF14;replace H:=iteB H;rcases H with⟨rfl,H⟩|⟨rfl,H⟩
   ·(first|refine iteT ?_|refine iteF ?_|skip)
    replace H:=iteB H;rcases H with⟨rfl,H⟩|⟨rfl,H⟩
    ·simp only[oI_,pI_]at H
     obtain⟨rfl,rfl⟩:=H;go_wp2
     go_ret2
     exact⟨zz222,(zz6 HB)⟩
    ·simp only[oI_,pI_]at H
     obtain⟨rfl,rfl⟩:=H;go_wp2
     go_ret2
     exact⟨zz222,(zz6 HB)⟩
   ·(first|refine iteT ?_|refine iteF ?_|skip)
    simp only[oI_,pI_]at H;obtain⟨rfl,rfl⟩:=H;(try((with_reducible refine upS ?_);go_simp));go_wp2
    go_ret2
    exact⟨zz222,(zz6 HB)⟩
  ·exact absurd H (by simp)
end Go.Proofs.YtloijngehifbmaaGreatDoor.P
end
section
namespace Go.Proofs.YtloijngehifbmaaGreatDoor.P
open Go.RowKit Go.Proofs.YtloijngehifbmaaGreatDoorW PrintWords PrintLast PrintMore Go.Proofs.YtloijngehifbmaaGreatDoor.B Go.Proofs.YtloijngehifbmaaGreatDoor.Ad
set_option maxHeartbeats 8000000
set_option maxRecDepth 100000
def spec_l1Small.f (a0:BA):Option (BA):=if a0.size≤140737488351232 then some (smallB a0)else none
theorem spec_l1Small.calls (a0 r:BA)(w:World)(h:spec_l1Small.f a0=some r):
  Calls Tryz.prog 92 #[.string a0] w fun e w'=>e=.returned (.string r)∧Below w.heap.size w w':=by
 unfold spec_l1Small.f at h
 by_cases hs:a0.size≤140737488351232
 ·rw[if_pos hs]at h
  obtain rfl:=sI h;clear h;have hcv:=Lib.run_convert_string_bytes (P:=Tryz.prog) w 9 37 5 a0 Tryz.underlying9 Tryz.underlying37 Tryz.underlying5;go_enter Tryz.func92,Tryz.ntmps92;go_wp2_with fail;clear hcv;go_loopw [4] (fun i wr=>∃k:Nat,k≤a0.size∧i=.int .i64 k∧Aside0 (SmRow w.heap.size a0 k wr)∧Aside0 (Below w.heap.size w wr))
   (fun i _=>a0.size-(intOf i).toNat)
  case atStart=>
   refine⟨0,Nat.zero_le _,rfl,⟨sm_start w 5 a0⟩,⟨?_⟩⟩;exact sm_below w 5 a0
  case round=>
   obtain⟨k,hk,rfl,hI,hB⟩:=hrel;by_cases hlt:k<a0.size
   ·have hc:=(hI.out.2 k hlt).1
    have hf:=(hI.out.2 k hlt).2;rw[if_neg (by omega)]at hc;have hset:=A_ (sm_set hI.out hlt);have hskip:=A_ (sm_skip hI.out hlt);clear hI;generalize (L a0).getD k 0=b at hc hset hskip;have hb:=b.toNat_lt;by_cases h1:65≤b.toNat
    ·by_cases h2:b.toNat≤90
     ·have e1:(sm b).toNat=b.toNat+32:=by
       unfold sm;rw[if_pos ⟨h1,h2⟩,UInt8.toNat_add];have:(32:UInt8).toNat=32:=rfl;omega
      rw[e1,show((b.toNat+32:Nat):Int)=(b.toNat:Int)+32 from by omega]at hset;clear hskip e1;go_wp2;exact⟨⟨k+1,by omega,by go_num,hset,⟨hB.out.setCell (lL_ _) _⟩⟩,zz223⟩
     ·have e1:sm b=b:=by unfold sm;rw[if_neg (by omega)]
      have hS:Aside0 (SmRow w.heap.size a0 (k+1) wr):=⟨hskip.out e1⟩;clear e1 hset hskip;go_wp2;exact⟨⟨k+1,by omega,by go_num,hS,hB⟩,zz223⟩
    ·have e1:sm b=b:=by unfold sm;rw[if_neg (by omega)]
     have hS:Aside0 (SmRow w.heap.size a0 (k+1) wr):=⟨hskip.out e1⟩;clear e1 hset hskip;go_wp2;exact⟨⟨k+1,by omega,by go_num,hS,hB⟩,zz223⟩
   ·have ek:k=a0.size:=by omega
    have hcells:∀j (hj:j<(L (smallB a0)).length),wr.cell? ((⟨w.heap.size,0,none⟩:Addr).add j)=some (.int .u8 ((L (smallB a0))[j].toNat:Int)):=by
     intro j hj;have hj':j<a0.size:=by rw[L_size,smallB,ofL_size,List.length_map,L_size]at hj;exact hj
     rw[add_plain,(hI.out.2 j hj').1,if_pos (by omega)];simp[smallB,L_of,gD_,gE_ (show j<(L a0).length by rw[L_size];exact hj')]
    have hcv:=run_convert_bytes_back (P:=Tryz.prog) wr 37 9 5 ⟨w.heap.size,0,none⟩ (grownCap w a0.size 0 5) (L (smallB a0)) Tryz.underlying37 Tryz.underlying5 Tryz.underlying9 hcells;have hl:(L (smallB a0)).length=a0.size:=by rw[L_size,smallB,ofL_size,List.length_map,L_size]
    rw[hl,show(⟨(L (smallB a0)).toArray⟩:BA)=smallB a0 from of_L _]at hcv;have Hk:=A_ ek;clear ek hcells hl;go_wp2;go_ret;exact⟨rfl,hB.out⟩
 ·rw[if_neg hs]at h;cases h
def impl_smallLetters.f (a0:BA):Option (BA):=if a0.size≤140737488351232 then some (smallB a0)else none
theorem impl_smallLetters.calls (a0 r:BA)(w:World)(h:impl_smallLetters.f a0=some r):
  Calls Tryz.prog 100 #[.string a0] w fun e w'=>e=.returned (.string r)∧Below w.heap.size w w':=by
 unfold impl_smallLetters.f at h
 by_cases hs:a0.size≤140737488351232
 ·rw[if_pos hs]at h
  obtain rfl:=sI h;clear h;have hcv:=Lib.run_convert_string_bytes (P:=Tryz.prog) w 9 37 5 a0 Tryz.underlying9 Tryz.underlying37 Tryz.underlying5;go_enter Tryz.func100,Tryz.ntmps100;go_wp2_with fail;clear hcv;go_loopw [10] (fun i wr=>∃k:Nat,k≤a0.size∧i=.int .i64 k∧Aside0 (SmRow w.heap.size a0 k wr)∧Aside0 (Below w.heap.size w wr))
   (fun i _=>a0.size-(intOf i).toNat)
  case atStart=>
   refine⟨0,Nat.zero_le _,rfl,⟨sm_start w 5 a0⟩,⟨?_⟩⟩;exact sm_below w 5 a0
  case round=>
   obtain⟨k,hk,rfl,hI,hB⟩:=hrel;by_cases hlt:k<a0.size
   ·have hc:=(hI.out.2 k hlt).1
    have hf:=(hI.out.2 k hlt).2;rw[if_neg (by omega)]at hc;have hset:=A_ (sm_set hI.out hlt);have hskip:=A_ (sm_skip hI.out hlt);clear hI;generalize (L a0).getD k 0=b at hc hset hskip;have hb:=b.toNat_lt;by_cases h1:65≤b.toNat
    ·by_cases h2:b.toNat≤90
     ·have e1:(sm b).toNat=b.toNat+32:=by
       unfold sm;rw[if_pos ⟨h1,h2⟩,UInt8.toNat_add];have:(32:UInt8).toNat=32:=rfl;omega
      rw[e1,show((b.toNat+32:Nat):Int)=(b.toNat:Int)+32 from by omega]at hset;clear hskip e1;go_wp2;exact⟨⟨k+1,by omega,by go_num,hset,⟨hB.out.setCell (lL_ _) _⟩⟩,zz223⟩
     ·have e1:sm b=b:=by unfold sm;rw[if_neg (by omega)]
      have hS:Aside0 (SmRow w.heap.size a0 (k+1) wr):=⟨hskip.out e1⟩;clear e1 hset hskip;go_wp2;exact⟨⟨k+1,by omega,by go_num,hS,hB⟩,zz223⟩
    ·have e1:sm b=b:=by unfold sm;rw[if_neg (by omega)]
     have hS:Aside0 (SmRow w.heap.size a0 (k+1) wr):=⟨hskip.out e1⟩;clear e1 hset hskip;go_wp2;exact⟨⟨k+1,by omega,by go_num,hS,hB⟩,zz223⟩
   ·have ek:k=a0.size:=by omega
    have hcells:∀j (hj:j<(L (smallB a0)).length),wr.cell? ((⟨w.heap.size,0,none⟩:Addr).add j)=some (.int .u8 ((L (smallB a0))[j].toNat:Int)):=by
     intro j hj;have hj':j<a0.size:=by rw[L_size,smallB,ofL_size,List.length_map,L_size]at hj;exact hj
     rw[add_plain,(hI.out.2 j hj').1,if_pos (by omega)];simp[smallB,L_of,gD_,gE_ (show j<(L a0).length by rw[L_size];exact hj')]
    have hcv:=run_convert_bytes_back (P:=Tryz.prog) wr 37 9 5 ⟨w.heap.size,0,none⟩ (grownCap w a0.size 0 5) (L (smallB a0)) Tryz.underlying37 Tryz.underlying5 Tryz.underlying9 hcells;have hl:(L (smallB a0)).length=a0.size:=by rw[L_size,smallB,ofL_size,List.length_map,L_size]
    rw[hl,show(⟨(L (smallB a0)).toArray⟩:BA)=smallB a0 from of_L _]at hcv;have Hk:=A_ ek;clear ek hcells hl;go_wp2;go_ret;exact⟨rfl,hB.out⟩
 ·rw[if_neg hs]at h;cases h
end Go.Proofs.YtloijngehifbmaaGreatDoor.P
end
section
namespace Go.Proofs.YtloijngehifbmaaGreatDoor.P
open Go.RowKit Go.Proofs.YtloijngehifbmaaGreatDoorW PrintWords PrintLast PrintMore
attribute [local go_sem] max2_int min2_int max_two min_two max_three min_three max_four min_four
set_option maxHeartbeats 8000000
set_option maxRecDepth 100000
def spec_l1Whole.l0:Nat→BA→BA→BA→Int→Option (BA×List BA×Bool×BA×Bool)
 |0,_,_,_,_=>none
 |k+1,x0,x4,x5,x6=>if x6<(x0.size:Int)then(if 0≤x6 then(if(bt x0 x6)=47 then(if x6≤(x0.size:Int)then((spec_l1Small.f (x0.extract 0 (x6:Int).toNat)).bind fun t180=>((spec_l1Way.f k t180 ([]:List BA) false (⟨#[]⟩:BA) (x0.extract (x6:Int).toNat x0.size)).bind fun bt181=>(some (bt181.1,bt181.2.1,bt181.2.2.1,bt181.2.2.2.1,bt181.2.2.2.2))))else(none))else(if(bt x0 x6)=63 then(if x6≤(x0.size:Int)then((spec_l1Small.f (x0.extract 0 (x6:Int).toNat)).bind fun t188=>((spec_l1Way.f k t188 ([]:List BA) false (⟨#[]⟩:BA) (x0.extract (x6:Int).toNat x0.size)).bind fun bt189=>(some (bt189.1,bt189.2.1,bt189.2.2.1,bt189.2.2.2.1,bt189.2.2.2.2))))else(none))else(spec_l1Whole.l0 k x0 x4 x5 (wrap64 (x6+1)))))else(none))else((spec_l1Small.f x4).bind fun t196=>((spec_l1Way.f k t196 ([]:List BA) false (⟨#[]⟩:BA) x5).bind fun bt197=>(some (bt197.1,bt197.2.1,bt197.2.2.1,bt197.2.2.2.1,bt197.2.2.2.2))))
def spec_l1Whole.f (k:Nat)(a0:BA):Option (BA×List BA×Bool×BA×Bool):=spec_l1Whole.l0 k a0 a0 (⟨#[]⟩:BA) 0
theorem spec_l1Whole.calls (k:Nat)(a0:BA)(r1:BA)(r2:List BA)(r3:Bool)(r4:BA)(r5:Bool)(w:World)(h:spec_l1Whole.f k a0=some (r1,r2,r3,r4,r5)):
  Calls Tryz.prog 63 #[.string a0] w fun e w'=>∃v1_:Value,e=.returned (.tuple #[.agg #[.string r1,v1_,.bool r3,.string r4],.bool r5])∧Kd.R Kd.string 9 w' w.heap.size (fun _=>True) v1_ r2∧Below w.heap.size w w':=by
 have hu51:=Tryz.underlying51;have HB:=A_ (Below.refl w.heap.size w);unfold spec_l1Whole.f at h;have H:=h;clear h;have H':=A_ H;clear H;go_enter Tryz.func63,Tryz.ntmps63;go_wp2_with (first|(refine boxF 2 #[.string (⟨#[]⟩:BA),.slice none 0 0,.bool false,.string (⟨#[]⟩:BA)] 51 ?_;intro gb179 hg w2 BK179 hb;have GE179:=geB hg (zz6 HB);replace HB:=A_ (bS (zz6 HB) hb);clear hb hg))
 go_loopg [4,5,6] k (fun kq v4 v5 v6 w'=>∃(x4_1:BA)(x5_1:BA)(x6_1:Int),v4=.string x4_1∧v5=.string x5_1∧v6=.int .i64 x6_1∧Aside0 (spec_l1Whole.l0 kq a0 x4_1 x5_1 x6_1=some (r1,r2,r3,r4,r5))∧Aside0 (kq≤k)∧Aside0 (w'.heap[gb179]?=some (.cells #[.string (⟨#[]⟩:BA),(.slice none 0 0),.bool false,.string (⟨#[]⟩:BA)] 51 (0,0)))∧Aside0 (Below w.heap.size w w'))
 case atStart=>exact⟨(a0),((⟨#[]⟩:BA)),(0),zz0,zz0,zz0,H',⟨lL_ _⟩,⟨(zz18 BK179)⟩,⟨(zz19 HB GE179)⟩⟩
 case round=>
  clear H';obtain⟨x4_1,x5_1,x6_1,rfl,rfl,rfl,HA,HK1,BK179,HB⟩:=hrel;cases gk with
  |zero=>exact absurd HA.out (by simp[spec_l1Whole.l0])
  |succ k1=>
   obtain⟨H⟩:=HA;simp only[spec_l1Whole.l0]at H;replace H:=iteEd H;rcases H with⟨c3b0,H⟩|⟨c3b0,H⟩
   ·replace H:=iteNd H
    obtain⟨c4b0,H⟩:=H;replace H:=iteEq H;rcases H with⟨c6b0,c6b1,H⟩|⟨c6b0,c6b1,c6,H⟩
    ·have c7b0:=eq_true (ofD:0≤x6_1)
     replace H:=iteN H;obtain⟨c8,H⟩:=H;have c8b0:=eq_true c8;have c8b1:=dT c8;clear c8;have c9b0:=eq_true (ofD:0≤x6_1);have c10b0:=eq_true (ofD:x6_1≤(a0.size:Int));replace H:=bindA H;obtain⟨t180,A11,H⟩:=H;replace H:=bindA H;obtain⟨⟨t181,t182,t185,t186,t187⟩,A12,H⟩:=H;try dsimp only at H;simp only[oI_,pI_]at H;obtain⟨rfl,rfl,rfl,rfl,rfl⟩:=H;have p5:0≤(x6_1:Int):=ofD;have q5:x6_1<(a0.size:Int):=ofD;have hx5:=bt_at a0 x6_1;replace p5:=eq_true p5;replace q5:=eq_true q5;go_wp2_with (first|(refine gR 92 (some 31) Tryz.func92 (spec_l1Small.calls (a0.extract 0 (x6_1:Int).toNat) t180 _ A11.out) ?_;rintro w13 hb;replace BK179:=A_ (bB (zz18 BK179) hb);replace HB:=A_ (bS (zz19 HB GE179) hb);(try clear hb))|((with_reducible refine gC (f:=91) rfl ?_);refine gsL (some 34) Tryz.func91 #[.agg #[.string t180,.slice none 0 0,.bool false,.string (⟨#[]⟩:BA)],.string (a0.extract (x6_1:Int).toNat a0.size)] ?_;(refine(spec_l1Way.calls k1 t180 _ _ ([]:List BA) false (⟨#[]⟩:BA) (a0.extract (x6_1:Int).toNat a0.size) t181 t182 t185 t186 t187 _ ?side1 ?side2 A12.out).mono ?_);(case side1=>exact Kd.C_nil _ _);(case side2=>exact lL_ _);rintro e w14 ⟨v183,rfl,ho0,hb⟩;refine⟨_,rfl,?_⟩;have HO184:=A_ (Kd.R_lower ho0 (below_size (zz19 HB GE179)));replace BK179:=A_ (bB (zz18 BK179) hb);replace HB:=A_ (bS (zz19 HB GE179) hb);(try clear hb ho0);obtain⟨_,_,_,_,_,_,_,_⟩:=cf4 BK179;obtain⟨Ao16,co16,eo16⟩:=Kd.R_slice HO184.out;subst eo16));refine pR (results_ct rfl _ _ gb179 51 #[.string t181,.slice Ao16 t182.length co16,.bool t185,.string t186] (0,0) _ rfl (zz22 BK179) Tryz.underlying51 rfl (by kernel_rfl)) rfl ?_;exact⟨_,zz9,(zz23 (rt HO184 BK179)),(zz19 HB GE179)⟩
    ·replace H:=iteEq H
     rcases H with⟨c18b0,c18b1,H⟩|⟨c18b0,c18b1,c18,H⟩
     ·have c19b0:=eq_true (ofD:0≤x6_1)
      replace H:=iteN H;obtain⟨c20,H⟩:=H;have c20b0:=eq_true c20;have c20b1:=dT c20;clear c20;have c21b0:=eq_true (ofD:0≤x6_1);have c22b0:=eq_true (ofD:x6_1≤(a0.size:Int));replace H:=bindA H;obtain⟨t188,A23,H⟩:=H;replace H:=bindA H;obtain⟨⟨t189,t190,t193,t194,t195⟩,A24,H⟩:=H;try dsimp only at H;simp only[oI_,pI_]at H;obtain⟨rfl,rfl,rfl,rfl,rfl⟩:=H;have p5:0≤(x6_1:Int):=ofD;have q5:x6_1<(a0.size:Int):=ofD;have hx5:=bt_at a0 x6_1;replace p5:=eq_true p5;replace q5:=eq_true q5;have p17:0≤(x6_1:Int):=ofD;have q17:x6_1<(a0.size:Int):=ofD;have hx17:=bt_at a0 x6_1;replace p17:=eq_true p17;replace q17:=eq_true q17;go_wp2_with (first|(refine gR 92 (some 31) Tryz.func92 (spec_l1Small.calls (a0.extract 0 (x6_1:Int).toNat) t188 _ A23.out) ?_;rintro w25 hb;replace BK179:=A_ (bB (zz18 BK179) hb);replace HB:=A_ (bS (zz19 HB GE179) hb);(try clear hb))|((with_reducible refine gC (f:=91) rfl ?_);refine gsL (some 34) Tryz.func91 #[.agg #[.string t188,.slice none 0 0,.bool false,.string (⟨#[]⟩:BA)],.string (a0.extract (x6_1:Int).toNat a0.size)] ?_;(refine(spec_l1Way.calls k1 t188 _ _ ([]:List BA) false (⟨#[]⟩:BA) (a0.extract (x6_1:Int).toNat a0.size) t189 t190 t193 t194 t195 _ ?side1 ?side2 A24.out).mono ?_);(case side1=>exact Kd.C_nil _ _);(case side2=>exact lL_ _);rintro e w26 ⟨v191,rfl,ho0,hb⟩;refine⟨_,rfl,?_⟩;have HO192:=A_ (Kd.R_lower ho0 (below_size (zz19 HB GE179)));replace BK179:=A_ (bB (zz18 BK179) hb);replace HB:=A_ (bS (zz19 HB GE179) hb);(try clear hb ho0);obtain⟨_,_,_,_,_,_,_,_⟩:=cf4 BK179;obtain⟨Ao28,co28,eo28⟩:=Kd.R_slice HO192.out;subst eo28));refine pR (results_ct rfl _ _ gb179 51 #[.string t189,.slice Ao28 t190.length co28,.bool t193,.string t194] (0,0) _ rfl (zz22 BK179) Tryz.underlying51 rfl (by kernel_rfl)) rfl ?_;exact⟨_,zz9,(zz23 (rt HO192 BK179)),(zz19 HB GE179)⟩
     ·have H':=A_ H
      clear H;have p5:0≤(x6_1:Int):=ofD;have q5:x6_1<(a0.size:Int):=ofD;have hx5:=bt_at a0 x6_1;replace p5:=eq_true p5;replace q5:=eq_true q5;have p17:0≤(x6_1:Int):=ofD;have q17:x6_1<(a0.size:Int):=ofD;have hx17:=bt_at a0 x6_1;replace p17:=eq_true p17;replace q17:=eq_true q17;go_wp2
      go_roundg k1
      case measure=>have:=HK1.out;omega
      case rel=>exact⟨(x4_1),(x5_1),(wrap64 (x6_1+1)),zz0,zz0,zz0,H',⟨(zz4 HK1)⟩,⟨(zz18 BK179)⟩,⟨(zz19 HB GE179)⟩⟩
   ·replace H:=bindA H
    obtain⟨t196,A29,H⟩:=H;replace H:=bindA H;obtain⟨⟨t197,t198,t201,t202,t203⟩,A30,H⟩:=H;try dsimp only at H;simp only[oI_,pI_]at H;obtain⟨rfl,rfl,rfl,rfl,rfl⟩:=H;go_wp2_with (first|(refine gR 92 (some 31) Tryz.func92 (spec_l1Small.calls x4_1 t196 _ A29.out) ?_;rintro w31 hb;replace BK179:=A_ (bB (zz18 BK179) hb);replace HB:=A_ (bS (zz19 HB GE179) hb);(try clear hb))|((with_reducible refine gC (f:=91) rfl ?_);refine gsL (some 34) Tryz.func91 #[.agg #[.string t196,.slice none 0 0,.bool false,.string (⟨#[]⟩:BA)],.string x5_1] ?_;(refine(spec_l1Way.calls k1 t196 _ _ ([]:List BA) false (⟨#[]⟩:BA) x5_1 t197 t198 t201 t202 t203 _ ?side1 ?side2 A30.out).mono ?_);(case side1=>exact Kd.C_nil _ _);(case side2=>exact lL_ _);rintro e w32 ⟨v199,rfl,ho0,hb⟩;refine⟨_,rfl,?_⟩;have HO200:=A_ (Kd.R_lower ho0 (below_size (zz19 HB GE179)));replace BK179:=A_ (bB (zz18 BK179) hb);replace HB:=A_ (bS (zz19 HB GE179) hb);(try clear hb ho0);obtain⟨_,_,_,_,_,_,_,_⟩:=cf4 BK179;obtain⟨Ao34,co34,eo34⟩:=Kd.R_slice HO200.out;subst eo34));refine pR (results_ct rfl _ _ gb179 51 #[.string t197,.slice Ao34 t198.length co34,.bool t201,.string t202] (0,0) _ rfl (zz22 BK179) Tryz.underlying51 rfl (by kernel_rfl)) rfl ?_;exact⟨_,zz9,(zz23 (rt HO200 BK179)),(zz19 HB GE179)⟩
def spec_AddrRead.f (k:Nat)(a0:BA):Option (BA×List BA×Bool×BA×Bool):=(spec_l1Cut.f k a0 35).bind fun bt205=>(if(a0.size:Int)>60 then(some ((⟨#[]⟩:BA),([]:List BA),false,(⟨#[]⟩:BA),false))else(if(bt205.1.size:Int)<2 then(some ((⟨#[]⟩:BA),([]:List BA),false,(⟨#[]⟩:BA),false))else(if 0≤2 then(if 2≤(bt205.1.size:Int)then(if(bt205.1.extract 0 2).toList=([47,47]:List UInt8)then((spec_l1Whole.f k (bt205.1.extract 2 bt205.1.size)).bind fun bt208=>(some (bt208.1,bt208.2.1,bt208.2.2.1,bt208.2.2.2.1,bt208.2.2.2.2)))else(some ((⟨#[]⟩:BA),([]:List BA),false,(⟨#[]⟩:BA),false)))else(none))else(none))))
theorem spec_AddrRead.calls (k:Nat)(a0:BA)(r1:BA)(r2:List BA)(r3:Bool)(r4:BA)(r5:Bool)(w:World)(h:spec_AddrRead.f k a0=some (r1,r2,r3,r4,r5)):
  Calls Tryz.prog 24 #[.string a0] w fun e w'=>∃v1_:Value,e=.returned (.tuple #[.agg #[.string r1,v1_,.bool r3,.string r4],.bool r5])∧Kd.R Kd.string 9 w' w.heap.size (fun _=>True) v1_ r2∧Below w.heap.size w w':=by
 have hu51:=Tryz.underlying51;have HB:=A_ (Below.refl w.heap.size w);unfold spec_AddrRead.f at h;have H:=h;clear h;replace H:=bindA H;obtain⟨⟨t205,t206,t207⟩,A2,H⟩:=H;try dsimp only at H;have HF3:=A_ H;clear H;go_enter Tryz.func24,Tryz.ntmps24;go_wp2_with (first|((with_reducible refine gD (N:=2) rfl ?_);(try(refine gate_guard (by rfl) ?_;dsimp only));refine boxE 2 #[.string (⟨#[]⟩:BA),.slice none 0 0,.bool false,.string (⟨#[]⟩:BA)] 51 ?_;intro gb204 hg w4 hbox hb;have BK204:=A_ (hbox);have GE204:=geB hg (zz6 HB);replace HB:=A_ (bS (zz6 HB) hb);clear hb hbox hg)|(refine gR 62 (some 9) Tryz.func62 (spec_l1Cut.calls k a0 35 t205 t206 t207 _ A2.out) ?_;rintro w' ⟨nd,rfl⟩)|((with_reducible refine atG ?_ ?_ fun K_ hK_=>?_);rfl;exact undecG)|((with_reducible refine atI ?_ fun K_ hK_=>?_);exact undecI));refine unG hK_ ?_;clear hK_ K_;obtain⟨H⟩:=HF3;replace H:=iteE H;rcases H with⟨c5,H⟩|⟨c5,H⟩
 ·have c5b0:=gtT c5
  have c5b1:decide (60<a0.size)=true:=dT (by omega);(first|refine iteT ?_|refine iteF ?_|skip);clear c5;(first|rw[c5b0]|(simp only[i64_w,i32_w];rw[c5b0])|skip);simp only[oI_,pI_]at H;obtain⟨rfl,rfl,rfl,rfl,rfl⟩:=H;obtain⟨_,_,_,_,_,_,_,_⟩:=cf4 BK204;(try((with_reducible refine upS ?_);go_simp));go_wp2;refine pR (results_ct rfl _ _ gb204 51 #[.string (⟨#[]⟩:BA),.slice none 0 0,.bool false,.string (⟨#[]⟩:BA)] (0,0) _ rfl (zz22 BK204) Tryz.underlying51 rfl (by kernel_rfl)) rfl ?_;exact⟨_,zz9,zz68,(zz19 HB GE204)⟩
 ·have c5b0:=gtF c5
  have c5b1:decide (60<a0.size)=false:=dF (by omega);(first|refine iteT ?_|refine iteF ?_|skip);clear c5;(first|rw[c5b0]|(simp only[i64_w,i32_w];rw[c5b0])|skip);replace H:=iteE H;rcases H with⟨c7,H⟩|⟨c7,H⟩
  ·have c7b0:=dT c7
   have c7b1:decide (t205.size<2)=true:=dT (by omega);clear c7;simp only[oI_,pI_]at H;obtain⟨rfl,rfl,rfl,rfl,rfl⟩:=H;obtain⟨_,_,_,_,_,_,_,_⟩:=cf4 BK204;go_wp2;refine pR (results_ct rfl _ _ gb204 51 #[.string (⟨#[]⟩:BA),.slice none 0 0,.bool false,.string (⟨#[]⟩:BA)] (0,0) _ rfl (zz22 BK204) Tryz.underlying51 rfl (by kernel_rfl)) rfl ?_;exact⟨_,zz9,zz68,(zz19 HB GE204)⟩
  ·have c7b0:=dF c7
   have c7b1:decide (t205.size<2)=false:=dF (by omega);clear c7;replace H:=iteE H;rcases H with⟨c9,H⟩|⟨c9,H⟩
   ·have c9b0:=eq_true c9
    have c9b1:=dT c9;clear c9;replace H:=iteN H;obtain⟨c10,H⟩:=H;have c10b0:=eq_true c10;have c10b1:=dT c10;clear c10;replace H:=iteEq H;rcases H with⟨c11b0,c11b1,H⟩|⟨c11b0,c11b1,c11,H⟩
    ·have c12b0:=eq_true (ofD:2≤(t205.size:Int))
     replace H:=bindA H;obtain⟨⟨t208,t209,t212,t213,t214⟩,A13,H⟩:=H;try dsimp only at H;simp only[oI_,pI_]at H;obtain⟨rfl,rfl,rfl,rfl,rfl⟩:=H;go_wp2_with (first|(refine gV 63 (some 29) Tryz.func63 (spec_l1Whole.calls k (t205.extract 2 t205.size) t208 t209 t212 t213 t214 _ A13.out) ?_;rintro v210 w14 ⟨ho0,hb⟩;have HO211:=A_ (Kd.R_lower ho0 (below_size (zz19 HB GE204)));replace BK204:=A_ (bB (zz18 BK204) hb);replace HB:=A_ (bS (zz19 HB GE204) hb);(try clear hb ho0);obtain⟨_,_,_,_,_,_,_,_⟩:=cf4 BK204;obtain⟨Ao16,co16,eo16⟩:=Kd.R_slice HO211.out;subst eo16));refine pR (results_ct rfl _ _ gb204 51 #[.string t208,.slice Ao16 t209.length co16,.bool t212,.string t213] (0,0) _ rfl (zz22 BK204) Tryz.underlying51 rfl (by kernel_rfl)) rfl ?_;exact⟨_,zz9,(zz23 (rt HO211 BK204)),(zz19 HB GE204)⟩
    ·simp only[oI_,pI_]at H
     obtain⟨rfl,rfl,rfl,rfl,rfl⟩:=H;obtain⟨_,_,_,_,_,_,_,_⟩:=cf4 BK204;go_wp2;refine pR (results_ct rfl _ _ gb204 51 #[.string (⟨#[]⟩:BA),.slice none 0 0,.bool false,.string (⟨#[]⟩:BA)] (0,0) _ rfl (zz22 BK204) Tryz.underlying51 rfl (by kernel_rfl)) rfl ?_;exact⟨_,zz9,zz68,(zz19 HB GE204)⟩
   ·exact absurd H (by simp)
def spec_l11Norm.f (k:Nat)(a0:BA):Option (Bool):=(spec_AddrRead.f k a0).bind fun bt218=>(if bt218.2.2.2.2=true then((spec_AddrText.f k bt218.1 bt218.2.1 bt218.2.2.1 bt218.2.2.2.1).bind fun t226=>(some (t226.toList==a0.toList)))else(some false))
theorem spec_l11Norm.calls (k:Nat)(a0:BA)(r:Bool)(w:World)(h:spec_l11Norm.f k a0=some r):
  Calls Tryz.prog 64 #[.string a0] w fun e w'=>e=.returned (.bool r)∧Below w.heap.size w w':=by
 have hu51:=Tryz.underlying51;have HB:=A_ (Below.refl w.heap.size w);unfold spec_l11Norm.f at h;have H:=h;clear h;replace H:=bindA H;obtain⟨⟨t218,t219,t222,t223,t224⟩,A2,H⟩:=H;try dsimp only at H;have HF3:=A_ H;clear H;go_enter Tryz.func64,Tryz.ntmps64;go_wp2_with (first|(refine gV 24 (some 7) Tryz.func24 (spec_AddrRead.calls k a0 t218 t219 t222 t223 t224 _ A2.out) ?_;rintro v220 w4 ⟨ho0,hb⟩;have HO221:=A_ (Kd.R_lower ho0 (below_size (zz6 HB)));replace HB:=A_ (bS (zz6 HB) hb);(try clear hb ho0))|(refine boxF 3 #[.string (⟨#[]⟩:BA),.slice none 0 0,.bool false,.string (⟨#[]⟩:BA)] 51 ?_;intro gb225 hg w5 BK225 hb;replace HO221:=A_ (rB (zz7 HO221) hb);have GE225:=geB hg (zz6 HB);replace HB:=A_ (bS (zz6 HB) hb);clear hb hg;obtain⟨_,_,_,_,_,_,_,_⟩:=cf4 BK225;obtain⟨Ao7,co7,eo7⟩:=Kd.R_slice HO221.out;subst eo7)|((with_reducible refine gate_store (t:=51) (p:=3) rfl ?_);refine store_event (t:=51) (p:=3) (v:=?vo_w8) (w1:=((((w5.setCell ⟨gb225,0,none⟩ (.string t218)).setCell ⟨gb225,1,none⟩ (.slice Ao7 t219.length co7)).setCell ⟨gb225,2,none⟩ (.bool t222)).setCell ⟨gb225,3,none⟩ (.string t223))) ?hg ?ho ?hn ?hr ?_;(case ho=>rfl);(case hg=>rfl);(case hn=>rfl);(case hr=>exact zz5);intro w8 hw;have n0_:Aside0 (Kd.R Kd.string 9 w8 w.heap.size (fun _=>True) (.slice Ao7 t219.length co7) t219):=⟨(by rw[hw];exact(zz23 (rt HO221 BK225)))⟩;have n1_:Aside0 (w8.heap[gb225]?=some (.cells #[.string t218,.slice Ao7 t219.length co7,.bool t222,.string t223] 51 (0,0))):=⟨(by rw[hw];exact(zz22 BK225))⟩;have n2_:Aside0 (Below w.heap.size w w8):=⟨(by rw[hw];exact(zz19 HB GE225))⟩;clear hw;clear HO221;clear BK225;clear HB;have HO221:=n0_;have BK225:=n1_;have HB:=n2_;clear n0_ n1_ n2_)|((with_reducible refine atG ?_ ?_ fun K_ hK_=>?_);rfl;exact undecG)|((with_reducible refine atI ?_ fun K_ hK_=>?_);exact undecI));refine unG hK_ ?_;clear hK_ K_;obtain⟨H⟩:=HF3;replace H:=iteB H;rcases H with⟨rfl,H⟩|⟨rfl,H⟩
 ·(first|refine iteT ?_|refine iteF ?_|skip)
  replace H:=bindA H;obtain⟨t226,A10,H⟩:=H;obtain rfl:=sI H;obtain⟨_,_,_,_,_,_,_,_⟩:=cf4 BK225;(try((with_reducible refine upS ?_);go_simp))
  go_wp2_with (first|(go_at_call 93;(with_reducible refine(spec_AddrText.calls k t218 _ _ t219 t222 t223 t226 _ ?side1 ?side2 A10.out).mono ?_);(case side1=>exact(zz46 HO221));(case side2=>exact(Kd.R_reads' HO221.out).2.1);rintro e w12 ⟨rfl,hb⟩;replace HO221:=A_ (rB (zz7 HO221) hb);replace BK225:=A_ (bB (zz18 BK225) hb);replace HB:=A_ (bS (zz19 HB GE225) hb);(try clear hb)))
  go_ret;exact⟨zz9,(zz19 HB GE225)⟩
 ·(first|refine iteT ?_|refine iteF ?_|skip)
  obtain rfl:=sI H;(try((with_reducible refine upS ?_);go_simp));go_wp2;go_ret;exact⟨zz9,(zz19 HB GE225)⟩
mutual
def spec_WorldOk.l0:Nat→List (S57)→Int→Option (Bool)
 |0,_,_=>none
 |k+1,x0,x3=>if x3<(x0.length:Int)then(if 0≤x3 then((spec_l11Norm.f k ((rd_T57 x0 x3).f0)).bind fun t228=>(if t228=true then(if(((rd_T57 x0 x3).f1).size:Int)>300 then(spec_WorldOk.j1 k x0 x3 true)else((spec_l6In.f ((rd_T57 x0 x3).f3) 0 9).bind fun t231=>(if t231=true then(if((rd_T57 x0 x3).f2).toList=([]:List UInt8)then(spec_WorldOk.j1 k x0 x3 false)else(if((rd_T57 x0 x3).f1).toList=([]:List UInt8)then((spec_l11Norm.f k ((rd_T57 x0 x3).f2)).bind fun t235=>(spec_WorldOk.j1 k x0 x3 (!t235)))else(spec_WorldOk.j1 k x0 x3 true)))else(spec_WorldOk.j1 k x0 x3 true))))else(spec_WorldOk.j1 k x0 x3 true)))else(none))else(some (decide ((x0.length:Int)≤12)))
def spec_WorldOk.j1:Nat→List (S57)→Int→Bool→Option (Bool)
 |0,_,_,_=>none
 |k+1,x0,x3,x60=>if x60=true then(some false)else(spec_WorldOk.l1 k x0 x3 0)
def spec_WorldOk.l1:Nat→List (S57)→Int→Int→Option (Bool)
 |0,_,_,_=>none
 |k+1,x0,x3,x4=>if x4<x3 then(if 0≤x4 then(if x4<(x0.length:Int)then(if 0≤x3 then(if x3<(x0.length:Int)then(if((rd_T57 x0 x4).f0).toList=((rd_T57 x0 x3).f0).toList then(some false)else(spec_WorldOk.l1 k x0 x3 (wrap64 (x4+1))))else(none))else(none))else(none))else(none))else(spec_WorldOk.l0 k x0 (wrap64 (x3+1)))
end
def spec_WorldOk.f (k:Nat)(l0:List (S57)):Option (Bool):=spec_WorldOk.l0 k l0 0
theorem spec_WorldOk.calls (k:Nat)(A0:Option Addr)(c0:Nat)(l0:List (S57))(r:Bool)(w:World)(hr0:Kd.C k57 w A0 l0.length l0)(hc0:l0.length≤c0)(h:spec_WorldOk.f k l0=some r):
  Calls Tryz.prog 25 #[.slice A0 l0.length c0] w fun e w'=>e=.returned (.bool r)∧Below w.heap.size w w':=by
 have HR0:=A_ hr0;have HC0:=A_ hc0;clear hr0 hc0;have HB:=A_ (Below.refl w.heap.size w);unfold spec_WorldOk.f at h;have H:=h;clear h;have H':=A_ H;clear H;go_enter Tryz.func25,Tryz.ntmps25;go_wp2
 repeat(go_quiet (fail);try go_wp2)
 go_loopg [3] k (fun kq v3 w'=>∃(x3_1:Int),v3=.int .i64 x3_1∧Aside0 (spec_WorldOk.l0 kq l0 x3_1=some r)∧Aside0 (kq≤k)∧Aside0 (Below w.heap.size w w'))
 case atStart=>exact⟨(0),zz0,H',⟨lL_ _⟩,⟨(zz6 HB)⟩⟩
 case round=>
  clear H';obtain⟨x3_1,rfl,HA,HK1,HB⟩:=hrel;cases gk with
  |zero=>exact absurd HA.out (by simp[spec_WorldOk.l0])
  |succ k1=>
   obtain⟨H⟩:=HA;simp only[spec_WorldOk.l0]at H;replace H:=iteEd H;rcases H with⟨c2b0,H⟩|⟨c2b0,H⟩
   ·have HC3:=A_ H
    clear H;go_upto_region 4 with(fail)
    repeat(go_quiet (fail);go_upto_region 4 with(fail))
    go_cut [60] (fun v60 wc=>∃(kq:Nat)(x60_2:Bool),v60=.bool x60_2∧Aside0 (spec_WorldOk.j1 kq l0 x3_1 x60_2=some r)∧Aside0 (kq≤k1)∧Aside0 (Below w.heap.size w wc))
    case first=>
     obtain⟨H⟩:=HC3;replace H:=iteNd H;obtain⟨c4b0,H⟩:=H;(first|rw[c4b0]|(simp only[i64_w,i32_w];rw[c4b0])|skip);replace H:=bindA H;obtain⟨t228,A5,H⟩:=H;have HF6:=A_ H;clear H;obtain⟨⟨ad227,e227,hx227_0,hx227_1,hx227_2,hx227_3⟩,p227,q227⟩:=atB (at_T57 HR0.out x3_1);cases e227;obtain⟨hx227_0,hx227_1,hx227_2,hx227_3⟩:=cb4 HB hx227_0 hx227_1 hx227_2 hx227_3;go_wp2_with (first|(go_at_call 64;(with_reducible refine(spec_l11Norm.calls k1 ((rd_T57 l0 x3_1).f0) t228 _ A5.out).mono ?_);rintro e w7 ⟨rfl,hb⟩;replace HB:=A_ (bS (zz6 HB) hb);(try clear hb))|((with_reducible refine atG ?_ ?_ fun K_ hK_=>?_);rfl;exact undecG)|((with_reducible refine atI ?_ fun K_ hK_=>?_);exact undecI))
     repeat(go_quiet (first|(go_at_call 64;(with_reducible refine(spec_l11Norm.calls k1 ((rd_T57 l0 x3_1).f0) t228 _ A5.out).mono ?_);rintro e w7 ⟨rfl,hb⟩;replace HB:=A_ (bS (zz6 HB) hb);(try clear hb))|((with_reducible refine atG ?_ ?_ fun K_ hK_=>?_);rfl;exact undecG)|((with_reducible refine atI ?_ fun K_ hK_=>?_);exact undecI));go_wp2_with (first|(go_at_call 64;(with_reducible refine(spec_l11Norm.calls k1 ((rd_T57 l0 x3_1).f0) t228 _ A5.out).mono ?_);rintro e w7 ⟨rfl,hb⟩;replace HB:=A_ (bS (zz6 HB) hb);(try clear hb))|((with_reducible refine atG ?_ ?_ fun K_ hK_=>?_);rfl;exact undecG)|((with_reducible refine atI ?_ fun K_ hK_=>?_);exact undecI)))
     refine unG hK_ ?_;clear hK_ K_;obtain⟨H⟩:=HF6;replace H:=iteB H;rcases H with⟨rfl,H⟩|⟨rfl,H⟩
     ·(first|refine iteT ?_|refine iteF ?_|skip)
      replace H:=iteE H;rcases H with⟨c9,H⟩|⟨c9,H⟩
      ·have c9b0:=gtT c9
       have c9b1:decide (300<((rd_T57 l0 x3_1).f1).size)=true:=dT (by omega);clear c9;have H':=A_ H;clear H;obtain⟨⟨ad229,e229,hx229_0,hx229_1,hx229_2,hx229_3⟩,p229,q229⟩:=atB (at_T57 HR0.out x3_1);obtain rfl:ad227=ad229:=(by injection e229);obtain⟨hx229_0,hx229_1,hx229_2,hx229_3⟩:=cb4 HB hx229_0 hx229_1 hx229_2 hx229_3;go_wp2
       repeat(go_quiet (fail);try go_wp2)
       go_meet
       case rel=>exact⟨_,(true),zz0,H',⟨(zz12 HK1)⟩,⟨(zz6 HB)⟩⟩
      ·have c9b0:=gtF c9
       have c9b1:decide (300<((rd_T57 l0 x3_1).f1).size)=false:=dF (by omega);clear c9;replace H:=bindA H;obtain⟨t231,A10,H⟩:=H;have HF11:=A_ H;clear H;obtain⟨⟨ad229,e229,hx229_0,hx229_1,hx229_2,hx229_3⟩,p229,q229⟩:=atB (at_T57 HR0.out x3_1);obtain rfl:ad227=ad229:=(by injection e229);obtain⟨hx229_0,hx229_1,hx229_2,hx229_3⟩:=cb4 HB hx229_0 hx229_1 hx229_2 hx229_3;obtain⟨⟨ad230,e230,hx230_0,hx230_1,hx230_2,hx230_3⟩,p230,q230⟩:=atB (at_T57 HR0.out x3_1);obtain rfl:ad227=ad230:=(by injection e230);obtain⟨hx230_0,hx230_1,hx230_2,hx230_3⟩:=cb4 HB hx230_0 hx230_1 hx230_2 hx230_3;go_wp2_with (first|(go_at_call 65;(with_reducible refine(spec_l6In.calls ((rd_T57 l0 x3_1).f3) 0 9 t231 _ A10.out).mono ?_);rintro e w' ⟨rfl,⟨nd,rfl⟩⟩;(try first|exact⟨rfl,_,dN_ _ _ _⟩|exact⟨rfl,_,Eq.trans (dN_ _ _ _) (congrArg (World.drewN _) (Nat.add_assoc _ _ _))⟩))|((with_reducible refine atG ?_ ?_ fun K_ hK_=>?_);rfl;exact undecG)|((with_reducible refine atI ?_ fun K_ hK_=>?_);exact undecI))
       repeat(go_quiet (first|(go_at_call 65;(with_reducible refine(spec_l6In.calls ((rd_T57 l0 x3_1).f3) 0 9 t231 _ A10.out).mono ?_);rintro e w' ⟨rfl,⟨nd,rfl⟩⟩;(try first|exact⟨rfl,_,dN_ _ _ _⟩|exact⟨rfl,_,Eq.trans (dN_ _ _ _) (congrArg (World.drewN _) (Nat.add_assoc _ _ _))⟩))|((with_reducible refine atG ?_ ?_ fun K_ hK_=>?_);rfl;exact undecG)|((with_reducible refine atI ?_ fun K_ hK_=>?_);exact undecI));go_wp2_with (first|(go_at_call 65;(with_reducible refine(spec_l6In.calls ((rd_T57 l0 x3_1).f3) 0 9 t231 _ A10.out).mono ?_);rintro e w' ⟨rfl,⟨nd,rfl⟩⟩;(try first|exact⟨rfl,_,dN_ _ _ _⟩|exact⟨rfl,_,Eq.trans (dN_ _ _ _) (congrArg (World.drewN _) (Nat.add_assoc _ _ _))⟩))|((with_reducible refine atG ?_ ?_ fun K_ hK_=>?_);rfl;exact undecG)|((with_reducible refine atI ?_ fun K_ hK_=>?_);exact undecI)))
       refine unG hK_ ?_;clear hK_ K_;obtain⟨H⟩:=HF11;replace H:=iteB H;rcases H with⟨rfl,H⟩|⟨rfl,H⟩
       ·(first|refine iteT ?_|refine iteF ?_|skip)
        replace H:=iteEq H;rcases H with⟨c13b0,c13b1,H⟩|⟨c13b0,c13b1,c13,H⟩
        ·have H':=A_ H
         clear H;obtain⟨⟨ad232,e232,hx232_0,hx232_1,hx232_2,hx232_3⟩,p232,q232⟩:=atB (at_T57 HR0.out x3_1);obtain rfl:ad227=ad232:=(by injection e232);obtain⟨hx232_0,hx232_1,hx232_2,hx232_3⟩:=cb4 HB hx232_0 hx232_1 hx232_2 hx232_3;go_wp2
         repeat(go_quiet (fail);try go_wp2)
         go_meet
         case rel=>exact⟨_,(false),zz0,H',⟨(zz12 HK1)⟩,⟨(zz6 HB)⟩⟩
        ·replace H:=iteEq H
         rcases H with⟨c14b0,c14b1,H⟩|⟨c14b0,c14b1,c14,H⟩
         ·replace H:=bindA H
          obtain⟨t235,A15,H⟩:=H;have H':=A_ H;clear H;obtain⟨⟨ad232,e232,hx232_0,hx232_1,hx232_2,hx232_3⟩,p232,q232⟩:=atB (at_T57 HR0.out x3_1);obtain rfl:ad227=ad232:=(by injection e232);obtain⟨hx232_0,hx232_1,hx232_2,hx232_3⟩:=cb4 HB hx232_0 hx232_1 hx232_2 hx232_3;obtain⟨⟨ad233,e233,hx233_0,hx233_1,hx233_2,hx233_3⟩,p233,q233⟩:=atB (at_T57 HR0.out x3_1);obtain rfl:ad227=ad233:=(by injection e233);obtain⟨hx233_0,hx233_1,hx233_2,hx233_3⟩:=cb4 HB hx233_0 hx233_1 hx233_2 hx233_3;obtain⟨⟨ad234,e234,hx234_0,hx234_1,hx234_2,hx234_3⟩,p234,q234⟩:=atB (at_T57 HR0.out x3_1);obtain rfl:ad227=ad234:=(by injection e234);obtain⟨hx234_0,hx234_1,hx234_2,hx234_3⟩:=cb4 HB hx234_0 hx234_1 hx234_2 hx234_3;go_wp2_with (first|(go_at_call 64;(with_reducible refine(spec_l11Norm.calls k1 ((rd_T57 l0 x3_1).f2) t235 _ A15.out).mono ?_);rintro e w16 ⟨rfl,hb⟩;replace HB:=A_ (bS (zz6 HB) hb);(try clear hb)))
          repeat(go_quiet (first|(go_at_call 64;(with_reducible refine(spec_l11Norm.calls k1 ((rd_T57 l0 x3_1).f2) t235 _ A15.out).mono ?_);rintro e w16 ⟨rfl,hb⟩;replace HB:=A_ (bS (zz6 HB) hb);(try clear hb)));try go_wp2_with (first|(go_at_call 64;(with_reducible refine(spec_l11Norm.calls k1 ((rd_T57 l0 x3_1).f2) t235 _ A15.out).mono ?_);rintro e w16 ⟨rfl,hb⟩;replace HB:=A_ (bS (zz6 HB) hb);(try clear hb))))
          go_meet
          case rel=>exact⟨_,(!t235),zz0,H',⟨(zz12 HK1)⟩,⟨(zz6 HB)⟩⟩
         ·have H':=A_ H
          clear H;obtain⟨⟨ad232,e232,hx232_0,hx232_1,hx232_2,hx232_3⟩,p232,q232⟩:=atB (at_T57 HR0.out x3_1);obtain rfl:ad227=ad232:=(by injection e232);obtain⟨hx232_0,hx232_1,hx232_2,hx232_3⟩:=cb4 HB hx232_0 hx232_1 hx232_2 hx232_3;obtain⟨⟨ad233,e233,hx233_0,hx233_1,hx233_2,hx233_3⟩,p233,q233⟩:=atB (at_T57 HR0.out x3_1);obtain rfl:ad227=ad233:=(by injection e233);obtain⟨hx233_0,hx233_1,hx233_2,hx233_3⟩:=cb4 HB hx233_0 hx233_1 hx233_2 hx233_3;go_wp2
          repeat(go_quiet (fail);try go_wp2)
          go_meet
          case rel=>exact⟨_,(true),zz0,H',⟨(zz12 HK1)⟩,⟨(zz6 HB)⟩⟩
       ·(first|refine iteT ?_|refine iteF ?_|skip)
        have H':=A_ H;clear H;(try((with_reducible refine upS ?_);go_simp));go_wp2
        repeat(go_quiet (fail);try go_wp2)
        go_meet
        case rel=>exact⟨_,(true),zz0,H',⟨(zz12 HK1)⟩,⟨(zz6 HB)⟩⟩
     ·(first|refine iteT ?_|refine iteF ?_|skip)
      have H':=A_ H;clear H;(try((with_reducible refine upS ?_);go_simp));go_wp2
      repeat(go_quiet (fail);try go_wp2)
      go_meet
      case rel=>exact⟨_,(true),zz0,H',⟨(zz12 HK1)⟩,⟨(zz6 HB)⟩⟩
    case rest=>
     clear HC3;obtain⟨kq,x60_2,rfl,HA,HJ2,HB⟩:=hcut;cases kq with
     |zero=>exact absurd HA.out (by simp[spec_WorldOk.j1])
     |succ kj2=>
      obtain⟨H⟩:=HA;simp only[spec_WorldOk.j1]at H;replace H:=iteB H;rcases H with⟨rfl,H⟩|⟨rfl,H⟩
      ·obtain rfl:=sI H
       go_wp2
       repeat(go_quiet (fail);try go_wp2)
       go_ret;exact⟨zz9,(zz6 HB)⟩
      ·have H':=A_ H
       clear H;go_wp2
       repeat(go_quiet (fail);try go_wp2)
       go_loopg [4] kj2 (fun kq v4 w'=>∃(x4_3:Int),v4=.int .i64 x4_3∧Aside0 (spec_WorldOk.l1 kq l0 x3_1 x4_3=some r)∧Aside0 (kq≤kj2)∧Aside0 (Below w.heap.size w w'))
       case atStart=>exact⟨(0),zz0,H',⟨lL_ _⟩,⟨(zz6 HB)⟩⟩
       case round=>
        clear H';obtain⟨x4_3,rfl,HA,HK3,HB⟩:=hrel;cases gk with
        |zero=>exact absurd HA.out (by simp[spec_WorldOk.l1])
        |succ k3=>
         obtain⟨H⟩:=HA;simp only[spec_WorldOk.l1]at H;replace H:=iteEd H;rcases H with⟨c18b0,H⟩|⟨c18b0,H⟩
         ·replace H:=iteNd H
          obtain⟨c19b0,H⟩:=H;replace H:=iteNd H;obtain⟨c20b0,H⟩:=H;replace H:=iteNd H;obtain⟨c21b0,H⟩:=H;replace H:=iteNd H;obtain⟨c22b0,H⟩:=H;replace H:=iteEq H;rcases H with⟨c23b0,c23b1,H⟩|⟨c23b0,c23b1,c23,H⟩
          ·obtain rfl:=sI H
           obtain⟨⟨ad236,e236,hx236_0,hx236_1,hx236_2,hx236_3⟩,p236,q236⟩:=atB (at_T57 HR0.out x4_3);cases e236;obtain⟨hx236_0,hx236_1,hx236_2,hx236_3⟩:=cb4 HB hx236_0 hx236_1 hx236_2 hx236_3;obtain⟨⟨ad237,e237,hx237_0,hx237_1,hx237_2,hx237_3⟩,p237,q237⟩:=atB (at_T57 HR0.out x3_1);obtain rfl:ad236=ad237:=(by injection e237);obtain⟨hx237_0,hx237_1,hx237_2,hx237_3⟩:=cb4 HB hx237_0 hx237_1 hx237_2 hx237_3;go_wp2
           repeat(go_quiet (fail);try go_wp2)
           go_ret;exact⟨zz9,(zz6 HB)⟩
          ·have H':=A_ H
           clear H;obtain⟨⟨ad236,e236,hx236_0,hx236_1,hx236_2,hx236_3⟩,p236,q236⟩:=atB (at_T57 HR0.out x4_3);cases e236;obtain⟨hx236_0,hx236_1,hx236_2,hx236_3⟩:=cb4 HB hx236_0 hx236_1 hx236_2 hx236_3;obtain⟨⟨ad237,e237,hx237_0,hx237_1,hx237_2,hx237_3⟩,p237,q237⟩:=atB (at_T57 HR0.out x3_1);obtain rfl:ad236=ad237:=(by injection e237);obtain⟨hx237_0,hx237_1,hx237_2,hx237_3⟩:=cb4 HB hx237_0 hx237_1 hx237_2 hx237_3;go_wp2
           repeat(go_quiet (fail);try go_wp2)
           go_roundg k3
           case measure=>have:=HK1.out;have:=HJ2.out;have:=HK3.out;omega
           case rel=>exact⟨(wrap64 (x4_3+1)),zz0,H',⟨(zz108 HK1 HJ2 HK3)⟩,⟨(zz6 HB)⟩⟩
         ·have H':=A_ H
          clear H;go_wp2
          repeat(go_quiet (fail);try go_wp2)
          go_roundg k3
          case measure=>have:=HK1.out;have:=HJ2.out;have:=HK3.out;omega
          case rel=>exact⟨(wrap64 (x3_1+1)),zz0,H',⟨(zz108 HK1 HJ2 HK3)⟩,⟨(zz6 HB)⟩⟩
   ·obtain rfl:=sI H
    go_wp2
    repeat(go_quiet (fail);try go_wp2)
    go_ret;exact⟨zz9,(zz6 HB)⟩
def spec_WorldNotice.j0:Nat→List (S57)→BA→BA→Bool→Option (List BA×(List (S93))×Int)
 |0,_,_,_,_=>none
 |k+1,x0,x1,x2,x21=>if x21=true then(some (([]:List BA),([]:List (S93)),0))else((spec_l11Door.f x1).bind fun t330=>((spec_l11Last.f k x0 t330).bind fun bt331=>((spec_l11Said.f k bt331.1 bt331.2 x2).bind fun bt333=>(some (bt333.1,bt333.2.1,bt333.2.2)))))
def spec_WorldNotice.f (k:Nat)(l0:List (S57))(a1:BA)(a2:BA):Option (List BA×(List (S93))×Int):=(spec_WorldOk.f k l0).bind fun t327=>(if t327=true then((spec_l1House.f k a1).bind fun t328=>(if t328=true then((spec_l2Name.f k a2).bind fun t329=>(spec_WorldNotice.j0 k l0 a1 a2 (!t329)))else(spec_WorldNotice.j0 k l0 a1 a2 true)))else(spec_WorldNotice.j0 k l0 a1 a2 true))
theorem spec_WorldNotice.calls (k:Nat)(A0:Option Addr)(c0:Nat)(l0:List (S57))(a1:BA)(a2:BA)(r1:List BA)(r2:List (S93))(r3:Int)(w:World)(hr0:Kd.C k57 w A0 l0.length l0)(hc0:l0.length≤c0)(h:spec_WorldNotice.f k l0 a1 a2=some (r1,r2,r3)):
  Calls Tryz.prog 11 #[.slice A0 l0.length c0,.string a1,.string a2] w fun e w'=>∃v0_ v1_:Value,e=.returned (.agg #[v0_,v1_,.int .i64 r3])∧Kd.R Kd.string 9 w' w.heap.size (fun _=>True) v0_ r1∧Kd.R k93 93 w' w.heap.size (fun _=>True) v1_ r2∧Below w.heap.size w w':=by
 have hu32:=Tryz.underlying32;have HR0:=A_ hr0;have HC0:=A_ hc0;clear hr0 hc0;have HB:=A_ (Below.refl w.heap.size w);unfold spec_WorldNotice.f at h;have H:=h;clear h;have HC4:=A_ H;clear H;go_enter Tryz.func11,Tryz.ntmps11;go_upto_region 1 with(first|(refine boxF 6 #[.slice none 0 0,.slice none 0 0,.int .i64 0] 32 ?_;intro gb326 hg w5 BK326 hb;have GE326:=geB hg (zz6 HB);replace HB:=A_ (bS (zz6 HB) hb);clear hb hg))
 (try simp only[Act.put,lS_,l0_,lC_])
 go_cut [21] (fun v21 wc=>∃(kq:Nat)(x21_3:Bool),v21=.bool x21_3∧Aside0 (spec_WorldNotice.j0 kq l0 a1 a2 x21_3=some (r1,r2,r3))∧Aside0 (kq≤k)∧Aside0 (wc.heap[gb326]?=some (.cells #[(.slice none 0 0),(.slice none 0 0),.int .i64 0] 32 (0,0)))∧Aside0 (Below w.heap.size w wc))
 case first=>
  obtain⟨H⟩:=HC4;replace H:=bindA H;obtain⟨t327,A6,H⟩:=H;have HF7:=A_ H;clear H;go_wp2_with (first|(refine gR 25 (some 10) Tryz.func25 (spec_WorldOk.calls k _ _ l0 t327 _ ?side1 ?side2 A6.out) ?_;(case side1=>exact(zz29 HR0 HB));(case side2=>exact HC0.out);rintro w8 hb;replace BK326:=A_ (bB (zz18 BK326) hb);replace HB:=A_ (bS (zz19 HB GE326) hb);(try clear hb))|((with_reducible refine atG ?_ ?_ fun K_ hK_=>?_);rfl;exact undecG)|((with_reducible refine atI ?_ fun K_ hK_=>?_);exact undecI));refine unG hK_ ?_;clear hK_ K_;obtain⟨H⟩:=HF7;replace H:=iteB H;rcases H with⟨rfl,H⟩|⟨rfl,H⟩
  ·(first|refine iteT ?_|refine iteF ?_|skip)
   replace H:=bindA H;obtain⟨t328,A10,H⟩:=H;have HF11:=A_ H;clear H;(try((with_reducible refine upS ?_);go_simp))
   go_wp2_with (first|(go_at_call 34;(with_reducible refine(spec_l1House.calls k a1 t328 _ A10.out).mono ?_);rintro e w' ⟨rfl,⟨nd,rfl⟩⟩)|((with_reducible refine atG ?_ ?_ fun K_ hK_=>?_);rfl;exact undecG)|((with_reducible refine atI ?_ fun K_ hK_=>?_);exact undecI))
   refine unG hK_ ?_;clear hK_ K_;obtain⟨H⟩:=HF11;replace H:=iteB H;rcases H with⟨rfl,H⟩|⟨rfl,H⟩
   ·(first|refine iteT ?_|refine iteF ?_|skip)
    replace H:=bindA H;obtain⟨t329,A13,H⟩:=H;have H':=A_ H;clear H;(try((with_reducible refine upS ?_);go_simp))
    go_wp2_with (first|(go_at_call 26;(with_reducible refine(spec_l2Name.calls k a2 t329 _ A13.out).mono ?_);rintro e w' ⟨rfl,⟨nd,rfl⟩⟩))
    go_meet
    case rel=>exact⟨_,(!t329),zz0,H',⟨zz10⟩,⟨(zz18 BK326)⟩,⟨(zz19 HB GE326)⟩⟩
   ·(first|refine iteT ?_|refine iteF ?_|skip)
    have H':=A_ H;clear H;(try((with_reducible refine upS ?_);go_simp));go_wp2
    go_meet
    case rel=>exact⟨_,(true),zz0,H',⟨zz10⟩,⟨(zz18 BK326)⟩,⟨(zz19 HB GE326)⟩⟩
  ·(first|refine iteT ?_|refine iteF ?_|skip)
   have H':=A_ H;clear H;(try((with_reducible refine upS ?_);go_simp));go_wp2
   go_meet
   case rel=>exact⟨_,(true),zz0,H',⟨zz10⟩,⟨(zz18 BK326)⟩,⟨(zz19 HB GE326)⟩⟩
 case rest=>
  clear HC4;obtain⟨kq,x21_3,rfl,HA,HJ3,BK326,HB⟩:=hcut;cases kq with
  |zero=>exact absurd HA.out (by simp[spec_WorldNotice.j0])
  |succ kj3=>
   obtain⟨H⟩:=HA;simp only[spec_WorldNotice.j0]at H;replace H:=iteB H;rcases H with⟨rfl,H⟩|⟨rfl,H⟩
   ·simp only[oI_,pI_]at H
    obtain⟨rfl,rfl,rfl⟩:=H;obtain⟨_,_,_,_,_,_⟩:=cf3 BK326;go_wp2;refine pR (results_cell_row rfl _ _ gb326 32 #[.slice none 0 0,.slice none 0 0,.int .i64 0] (0,0) _ rfl (zz25 BK326) Tryz.underlying32 rfl (by kernel_rfl)) rfl ?_;exact⟨_,_,zz9,zz68,zz68,(zz19 HB GE326)⟩
   ·replace H:=bindA H
    obtain⟨t330,A16,H⟩:=H;replace H:=bindA H;obtain⟨⟨t331,t332⟩,A17,H⟩:=H;try dsimp only at H;replace H:=bindA H;obtain⟨⟨t333,t336,t339⟩,A18,H⟩:=H;try dsimp only at H;simp only[oI_,pI_]at H;obtain⟨rfl,rfl,rfl⟩:=H;go_wp2_with (first|(refine gR 36 (some 26) Tryz.func36 (spec_l11Door.calls a1 t330 _ A16.out) ?_;rintro w' ⟨nd,rfl⟩;(try(rw[drewN_self wc];generalize hq_:World.drewN wc _=wc;have n0_:Aside0 (wc.heap[gb326]?=some (.cells #[.slice none 0 0,.slice none 0 0,.int .i64 0] 32 (0,0))):=⟨(by rw[←hq_];exact(zz18 BK326))⟩;have n1_:Aside0 (Below w.heap.size w wc):=⟨(by rw[←hq_];exact(zz19 HB GE326))⟩;clear BK326 HB hq_;have BK326:=n0_;have HB:=n1_;clear n0_ n1_)))|(refine gR 35 (some 27) Tryz.func35 (spec_l11Last.calls kj3 _ _ l0 t330 t331 t332 _ ?side1 ?side2 A17.out) ?_;(case side1=>exact(zz29 HR0 HB));(case side2=>exact HC0.out);rintro w19 hb;replace BK326:=A_ (bB (zz18 BK326) hb);replace HB:=A_ (bS (zz19 HB GE326) hb);(try clear hb))|((with_reducible refine gC (f:=37) rfl ?_);refine gsL (some 33) Tryz.func37 #[.int .i64 t331,.string t332,.string a2] ?_;(with_reducible refine(spec_l11Said.calls kj3 t331 t332 a2 t333 t336 t339 _ A18.out).mono ?_);rintro e w20 ⟨v334,v337,rfl,ho0,ho1,hb⟩;refine⟨_,rfl,?_⟩;have HO335:=A_ (Kd.R_lower ho0 (below_size (zz19 HB GE326)));have HO338:=A_ (Kd.R_lower ho1 (below_size (zz19 HB GE326)));replace BK326:=A_ (bB (zz18 BK326) hb);replace HB:=A_ (bS (zz19 HB GE326) hb);(try clear hb ho0 ho1);obtain⟨Ao21,co21,eo21⟩:=Kd.R_slice HO335.out;subst eo21;obtain⟨_,_,_,_,_,_⟩:=cf3 BK326;obtain⟨Ao23,co23,eo23⟩:=Kd.R_slice HO338.out;subst eo23));refine pR (results_cell_row rfl _ _ gb326 32 #[.slice Ao21 t333.length co21,.slice Ao23 t336.length co23,.int .i64 t339] (0,0) _ rfl (zz25 BK326) Tryz.underlying32 rfl (by kernel_rfl)) rfl ?_;exact⟨_,_,zz9,(zz23 (rt HO335 BK326)),(zz23 (rt HO338 BK326)),(zz19 HB GE326)⟩
end Go.Proofs.YtloijngehifbmaaGreatDoor.P
end
