/- Part 5 of the proof of FnWorldNotice: the plain functions of what it reaches, that Go comes to just their answers, what they answer, and the words that the walks use; conditions: each theorem's own. -/
import Derived.Test.YtloijngehifbmaaGreatDoorZFnWorldNoticeb
import Derived.Test.YtloijngehifbmaaGreatDoorZFnWorldNoticed
import Derived.Test.YtloijngehifbmaaGreatDoorZFnWorldNoticec
import Derived.Deep.RegionHeld3
import Derived.Maps.Own
import Derived.Maps.OwnSet
import Derived.Carry
import Derived.Test.YtloijngehifbmaaGreatDoorZFnWorldNoticea

set_option linter.unusedVariables false
set_option linter.unusedSimpArgs false
section
namespace Go.Proofs.YtloijngehifbmaaGreatDoor.P
open Go.RowKit Go.Proofs.YtloijngehifbmaaGreatDoorW PrintWords PrintLast PrintMore
attribute [local go_sem] max2_int min2_int max_two min_two max_three min_three max_four min_four
set_option maxHeartbeats 8000000
set_option maxRecDepth 100000
mutual
def strings_genSplit.j0:Nat→BA→BA→Int→Int→Option (List BA)
 |0,_,_,_,_=>none
 |k+1,x0,x1,x2,x3=>if 0≤(mn x3 (wrap64 ((x0.size:Int)+1)))then(if(mn x3 (wrap64 ((x0.size:Int)+1)):Int).toNat≤17592186044416 then(strings_genSplit.l0 k x0 x1 x2 (wrap64 ((mn x3 (wrap64 ((x0.size:Int)+1)))-1)) (List.replicate (mn x3 (wrap64 ((x0.size:Int)+1)):Int).toNat (⟨#[]⟩:BA)) 0)else(none))else(none)
def strings_genSplit.l0:Nat→BA→BA→Int→Int→List BA→Int→Option (List BA)
 |0,_,_,_,_,_,_=>none
 |k+1,x0,x1,x2,x3,x9,x10=>if x10<x3 then((strings_Index.f x0 x1).bind fun t440=>(if t440<0 then(if 0≤x10 then(if x10<(x9.length:Int)then(if 0≤(wrap64 (x10+1))then(if(wrap64 (x10+1))≤(x9.length:Int)then(some ((x9.set (x10:Int).toNat x0).take ((wrap64 (x10+1)):Int).toNat))else(none))else(none))else(none))else(none))else(if 0≤(wrap64 (t440+x2))then(if(wrap64 (t440+x2))≤(x0.size:Int)then(if 0≤x10 then(if x10<(x9.length:Int)then(if 0≤(wrap64 (t440+(x1.size:Int)))then(if(wrap64 (t440+(x1.size:Int)))≤(x0.size:Int)then(strings_genSplit.l0 k (x0.extract ((wrap64 (t440+(x1.size:Int))):Int).toNat x0.size) x1 x2 x3 (x9.set (x10:Int).toNat (x0.extract 0 ((wrap64 (t440+x2)):Int).toNat)) (wrap64 (x10+1)))else(none))else(none))else(none))else(none))else(none))else(none))))else(if 0≤x10 then(if x10<(x9.length:Int)then(if 0≤(wrap64 (x10+1))then(if(wrap64 (x10+1))≤(x9.length:Int)then(some ((x9.set (x10:Int).toNat x0).take ((wrap64 (x10+1)):Int).toNat))else(none))else(none))else(none))else(none))
end
def strings_genSplit.f (k:Nat)(a0:BA)(a1:BA)(a2:Int)(a3:Int):Option (List BA):=if a3=0 then(some ([]:List BA))else(if a1.toList=([]:List UInt8)then((strings_explode.f a0 a3).bind fun t433=>(some t433))else(if a3<0 then((strings_Count.f a0 a1).bind fun t436=>(strings_genSplit.j0 k a0 a1 a2 (wrap64 (t436+1))))else(strings_genSplit.j0 k a0 a1 a2 a3)))
theorem strings_genSplit.mono_l:∀k,(∀y0 y1 y2 y3,LeO (strings_genSplit.j0 k y0 y1 y2 y3) (strings_genSplit.j0 (k+1) y0 y1 y2 y3))∧(∀y0 y1 y2 y3 y4 y5,LeO (strings_genSplit.l0 k y0 y1 y2 y3 y4 y5) (strings_genSplit.l0 (k+1) y0 y1 y2 y3 y4 y5))
 |0=>by refine⟨?_,?_⟩ <;> (intros;intro r h;simp[strings_genSplit.j0,strings_genSplit.l0]at h)
 |k+1=>by
  obtain⟨ih0,ih1⟩:=strings_genSplit.mono_l k;refine⟨?_,?_⟩ <;> intros <;> (first|unfold strings_genSplit.j0|unfold strings_genSplit.l0) <;>
  repeat' first|(with_reducible first|exact ih0 _ _ _ _|exact ih1 _ _ _ _ _ _|exact LeO.refl _|exact LeO.none _|refine LeO.ite ?_ ?_|refine LeO.bind ?_ (fun _=>?_))|exact LeO.none _|refine LeO.ite ?_ ?_|refine LeO.bind ?_ (fun _=>?_)
theorem strings_genSplit.mono:∀a0 a1 a2 a3 k,LeO (strings_genSplit.f k a0 a1 a2 a3) (strings_genSplit.f (k+1) a0 a1 a2 a3):=by
 intro a0 a1 a2 a3 k;obtain⟨ih0,ih1⟩:=strings_genSplit.mono_l k;unfold strings_genSplit.f
 repeat' first|(with_reducible first|exact ih0 _ _ _ _|exact ih1 _ _ _ _ _ _|exact LeO.refl _|exact LeO.none _|refine LeO.ite ?_ ?_|refine LeO.bind ?_ (fun _=>?_))|exact LeO.none _|refine LeO.ite ?_ ?_|refine LeO.bind ?_ (fun _=>?_)
theorem strings_genSplit.calls (k:Nat)(a0:BA)(a1:BA)(a2:Int)(a3:Int)(r:List BA)(w:World)(h:strings_genSplit.f k a0 a1 a2 a3=some r):
  Calls Tryz.prog 85 #[.string a0,.string a1,.int .i64 a2,.int .i64 a3] w fun e w'=>∃v0_:Value,e=.returned (v0_)∧Kd.R Kd.string 9 w' w.heap.size (fun _=>True) v0_ r∧Below w.heap.size w w':=by
 have HB:=A_ (Below.refl w.heap.size w);unfold strings_genSplit.f at h;have H:=h;clear h;replace H:=iteEq H;rcases H with⟨c5b0,c5b1,H⟩|⟨c5b0,c5b1,c5,H⟩
 ·obtain rfl:=sI H
  go_enter Tryz.func85,Tryz.ntmps85;go_wp2
  go_ret;exact⟨_,zz9,zz68,(zz6 HB)⟩
 ·replace H:=iteEq H
  rcases H with⟨c6b0,c6b1,H⟩|⟨c6b0,c6b1,c6,H⟩
  ·replace H:=bindA H
   obtain⟨t433,A7,H⟩:=H;obtain rfl:=sI H;go_enter Tryz.func85,Tryz.ntmps85;go_wp2_with (first|(refine gV 112 (some 18) Tryz.func112 (strings_explode.calls a0 a3 t433 _ A7.out) ?_;rintro v434 w8 ⟨ho0,hb⟩;have HO435:=A_ (Kd.R_lower ho0 (below_size (zz6 HB)));replace HB:=A_ (bS (zz6 HB) hb);(try clear hb ho0)));go_ret;exact⟨_,zz9,(zz7 HO435),(zz6 HB)⟩
  ·have HC9:=A_ H
   clear H;go_enter Tryz.func85,Tryz.ntmps85;go_upto_if 20 with(fail)
   go_cut [3] (fun v3 wc=>∃(kq:Nat)(x3_8:Int),v3=.int .i64 x3_8∧Aside0 (strings_genSplit.j0 kq a0 a1 a2 x3_8=some r)∧Aside0 (kq≤k)∧Aside0 (Below w.heap.size w wc))
   case first=>
    obtain⟨H⟩:=HC9;replace H:=iteEd H;rcases H with⟨c10b0,H⟩|⟨c10b0,H⟩
    ·(first|rw[c10b0]|(simp only[i64_w,i32_w];rw[c10b0])|skip)
     replace H:=bindA H;obtain⟨t436,A11,H⟩:=H;have H':=A_ H;clear H;go_wp2_with (first|(refine gR 113 (some 23) Tryz.func113 (strings_Count.calls a0 a1 t436 _ A11.out) ?_;rintro w12 hb;replace HB:=A_ (bS (zz6 HB) hb);(try clear hb)))
     go_meet
     case rel=>exact⟨_,(wrap64 (t436+1)),zz0,H',⟨zz10⟩,⟨(zz6 HB)⟩⟩
    ·(first|rw[c10b0]|(simp only[i64_w,i32_w];rw[c10b0])|skip)
     have H':=A_ H;clear H;go_wp2
     go_meet
     case rel=>exact⟨_,(a3),zz0,H',⟨zz10⟩,⟨(zz6 HB)⟩⟩
   case rest=>
    clear HC9;obtain⟨kq,x3_8,rfl,HA,HJ8,HB⟩:=hcut;cases kq with
    |zero=>exact absurd HA.out (by simp[strings_genSplit.j0])
    |succ kj8=>
     obtain⟨H⟩:=HA;simp only[strings_genSplit.j0]at H;obtain⟨ji13,hji13⟩:∃j_:Int,(mn x3_8 (wrap64 ((a0.size:Int)+1)))=j_:=⟨_,rfl⟩;(first|rw[hji13]at H|simp only[hji13]at H);have hji13_:(if(wrap64 ((a0.size:Int)+1))<x3_8 then(wrap64 ((a0.size:Int)+1))else x3_8)=ji13:=hji13;replace H:=iteE H;rcases H with⟨c14,H⟩|⟨c14,H⟩
     ·have c14b0:=eq_true c14
      have c14b1:=dT c14;clear c14;replace H:=iteN H;obtain⟨c15,H⟩:=H;have c15b0:=eq_true c15;have c15b1:=dT c15;clear c15;obtain⟨y437,Ny437⟩:=toY (List.replicate (ji13:Int).toNat (⟨#[]⟩:BA));(first|with_reducible replace H:=bindZ Ny437 H|rw[←Ny437.out]at H|skip);have H':=A_ H;clear H;go_wp2_with (first|((with_reducible refine gD (N:=31) rfl ?_);refine Kd.R_make Kd.string _ 9 rfl (N:=31) rfl 29 _ _ rfl ji13 rfl rfl Tryz.underlying29 (.string ⟨#[]⟩) 16 info9 rfl (by decide) (by omega) (⟨#[]⟩:BA) (ok:=fun _=>True) (okp:=fun _=>True) rfl (fun _ hk=>hk) trivial ofD (nT_ (mR_ _ (ofD:ji13.toNat≤17592186044416)) (by omega)) (Below.refl _ _) (lL_ _) ?_;intro v438 w16 ho17 hb hg_ hnew_;clear hg_ hnew_;(first|rw[←Ny437.out]at ho17|(simp only[Int.reduceToNat]at ho17;rw[←Ny437.out]at ho17));have HO439:=A_ (Kd.R_lower ho17 (below_size (zz6 HB)));replace HB:=A_ (bS (zz6 HB) hb);clear hb ho17))
      go_loopg [0,10] kj8 (fun kq v0 v10 w'=>∃(x0_2:BA)(x9_2:List BA)(x10_2:Int),v0=.string x0_2∧v10=.int .i64 x10_2∧Aside0 (strings_genSplit.l0 kq x0_2 a1 a2 (wrap64 ((ji13)-1)) x9_2 x10_2=some r)∧Aside0 (kq≤kj8)∧Aside0 (Kd.R Kd.string 9 w' w.heap.size (fun _=>True) v438 x9_2)∧Aside0 (Below w.heap.size w w'))
      case atStart=>exact⟨(a0),(y437),(0),zz0,zz0,H',⟨lL_ _⟩,⟨(zz7 HO439)⟩,⟨(zz6 HB)⟩⟩
      case round=>
       clear H';obtain⟨x0_2,x9_2,x10_2,rfl,rfl,HA,HK2,HO_9,HB⟩:=hrel;cases gk with
       |zero=>exact absurd HA.out (by simp[strings_genSplit.l0])
       |succ k2=>
        obtain⟨H⟩:=HA;simp only[strings_genSplit.l0]at H;replace H:=iteEd H;rcases H with⟨c18b0,H⟩|⟨c18b0,H⟩
        ·replace H:=bindA H
         obtain⟨t440,A19,H⟩:=H;have HF20:=A_ H;clear H;go_upto_if 41 with(first|(refine gR 114 (some 39) Tryz.func114 (strings_Index.calls x0_2 a1 t440 _ A19.out) ?_;rintro w21 hb;replace HO_9:=A_ (rB (zz7 HO_9) hb);replace HB:=A_ (bS (zz6 HB) hb);(try clear hb)))
         obtain⟨H⟩:=HF20;replace H:=iteEd H;rcases H with⟨c22b0,H⟩|⟨c22b0,H⟩
         ·(first|rw[c22b0]|(simp only[i64_w,i32_w];rw[c22b0])|skip)
          replace H:=iteNd H;obtain⟨c23b0,H⟩:=H;replace H:=iteNd H;obtain⟨c24b0,H⟩:=H;obtain⟨y441,hy441⟩:∃y_:List BA,y_=(x9_2.set (x10_2:Int).toNat x0_2):=⟨_,rfl⟩;replace H:(if 0≤(wrap64 (x10_2+1))then(if(wrap64 (x10_2+1))≤(x9_2.length:Int)then(some (y441.take ((wrap64 (x10_2+1)):Int).toNat))else(none))else(none))=some r:=by first|(rw[hy441];with_reducible exact H)|(have H2_:=(oB_ _ _).symm.trans H;rw[hy441];with_reducible exact H2_)|(have H2_:=(oB_ _ _).symm.trans H;with_reducible exact H2_)|with_reducible exact H|(rw[hy441];exact H)|exact H
          have Ny441:=A_ hy441;have Ly441:y441.length≤x9_2.length∧x9_2.length≤y441.length:=by rw[hy441,List.length_set];exact⟨lL_ _,lL_ _⟩
          have My441:=Ly441.1;replace Ly441:=Ly441.2;clear hy441;obtain⟨ji26,hji26⟩:∃j_:Int,(wrap64 (x10_2+1))=j_:=⟨_,rfl⟩;(first|rw[hji26]at H|simp only[hji26]at H);have hji26w:(IntKind.i64.wrap (x10_2+1))=ji26:=(i64_w _).trans hji26;replace H:=iteN H;obtain⟨c27,H⟩:=H;have c27b0:=eq_true c27;have c27b1:=dT c27;clear c27;replace H:=iteN H;obtain⟨c28,H⟩:=H;have c28b0:=eq_true c28;have c28b1:=dT c28;clear c28;obtain⟨y442,Ny442⟩:=toY (y441.take ((ji26):Int).toNat);(first|with_reducible replace H:=bindZ Ny442 H|rw[←Ny442.out]at H|skip);obtain rfl:=sI H;have p25:0≤(x10_2:Int):=ofD;have q25:(x10_2:Int)<((x9_2.length:Int):Int):=ofD;obtain⟨go25,co25,eo25,gb25,gl25,cl25,HG25⟩:=Kd.R_form HO_9.out (by omega);(first|cases eo25|(injection eo25 with ea_ en_ ec_;(first|subst ea_|(injection ea_ with ea_;subst ea_));subst ec_;clear en_));have GB25:=A_ gb25;have GG25:=A_ HG25;clear gb25 gl25 HG25;obtain⟨hx25_0,hf25_0⟩:=Kd.R_celln (⟨#[]⟩:BA) HO_9.out (x10_2:Int) p25 q25;replace p25:=eq_true p25;replace q25:=eq_true q25;have HP29:=Kd.R_putg HO_9.out (x10_2:Int) x0_2;go_wp2_with (first|((with_reducible refine gate_store (t:=9) (p:=61) rfl ?_);refine store_event (t:=9) (p:=61) (v:=?vo_w30) (w1:=(w21.setCell ⟨go25,(x10_2:Int).toNat,none⟩ (.string x0_2))) ?hg ?ho ?hn ?hr ?_;(case ho=>rfl);(case hg=>rfl);(case hn=>rfl);(case hr=>exact zz5);intro w30 hw;have hg:w21.grownBy w30 (some go25):=(by rw[hw];exact HP29.2);have hp_:Kd.R Kd.string 9 w30 w.heap.size (fun _=>True) (.slice (some ⟨go25,0,none⟩) x9_2.length co25) y441:=(by rw[hw,Ny441.out];exact HP29.1);clear HP29;replace HO_9:=A_ (hp_);replace HB:=A_ ((by rw[hw];exact below_set (HB.out) GB25.out:Below w.heap.size w w30));clear hg hw hp_;have q31:((ji26):Int)≤((x9_2.length:Int):Int):=ofD;obtain⟨i031,hi031,_,hsz31,_⟩:=info_parts info9;have hcut31:=cut_to (P:=Tryz.prog) 29 9 .i64 Tryz.underlying29 hi031 (some ⟨go25,0,none⟩) x9_2.length co25 (ji26) ofD q31 (Kd.R_reads' HO_9.out).2.1;have hr31:=Kd.R_take (m:=((ji26):Int).toNat) HO_9.out (by omega);have hy31:y442.length=((ji26):Int).toNat:=(by rw[Ny442.out,lT_];omega);rw[←Ny442.out]at hr31;rw[←hy31]at hr31 hcut31;clear hy31 hi031 hsz31 HO_9;have HO444:=A_ hr31;clear hr31;replace q31:=eq_true q31));go_ret;exact⟨_,(by first|rfl|(simp[errW_none,errW_some] <;> rfl)|(simp only[←hji13,←hji26];first|rfl|(simp[errW_none,errW_some] <;> rfl))|(simp[*,errW_none,errW_some] <;> rfl)),(zz7 HO444),(zz6 HB)⟩
         ·(first|rw[c22b0]|(simp only[i64_w,i32_w];rw[c22b0])|skip)
          obtain⟨ji32,hji32⟩:∃j_:Int,(wrap64 (t440+a2))=j_:=⟨_,rfl⟩;(first|rw[hji32]at H|simp only[hji32]at H);have hji32w:(IntKind.i64.wrap (t440+a2))=ji32:=(i64_w _).trans hji32;replace H:=iteN H;obtain⟨c33,H⟩:=H;have c33b0:=eq_true c33;have c33b1:=dT c33;clear c33;replace H:=iteN H;obtain⟨c34,H⟩:=H;have c34b0:=eq_true c34;have c34b1:=dT c34;clear c34;replace H:=iteNd H;obtain⟨c35b0,H⟩:=H;replace H:=iteNd H;obtain⟨c36b0,H⟩:=H;obtain⟨y445,hy445⟩:∃y_:List BA,y_=(x9_2.set (x10_2:Int).toNat (x0_2.extract 0 ((ji32):Int).toNat)):=⟨_,rfl⟩;replace H:(if 0≤(wrap64 (t440+(a1.size:Int)))then(if(wrap64 (t440+(a1.size:Int)))≤(x0_2.size:Int)then(strings_genSplit.l0 k2 (x0_2.extract ((wrap64 (t440+(a1.size:Int))):Int).toNat x0_2.size) a1 a2 (wrap64 ((ji13)-1)) y445 (wrap64 (x10_2+1)))else(none))else(none))=some r:=by first|(rw[hy445];with_reducible exact H)|(have H2_:=(oB_ _ _).symm.trans H;rw[hy445];with_reducible exact H2_)|(have H2_:=(oB_ _ _).symm.trans H;with_reducible exact H2_)|with_reducible exact H|(rw[hy445];exact H)|exact H
          have Ny445:=A_ hy445;have Ly445:y445.length≤x9_2.length∧x9_2.length≤y445.length:=by rw[hy445,List.length_set];exact⟨lL_ _,lL_ _⟩
          have My445:=Ly445.1;replace Ly445:=Ly445.2;clear hy445;obtain⟨ji38,hji38⟩:∃j_:Int,(wrap64 (t440+(a1.size:Int)))=j_:=⟨_,rfl⟩;(first|rw[hji38]at H|simp only[hji38]at H);have hji38w:(IntKind.i64.wrap (t440+(a1.size:Int)))=ji38:=(i64_w _).trans hji38;replace H:=iteN H;obtain⟨c39,H⟩:=H;have c39b0:=eq_true c39;have c39b1:=dT c39;clear c39;replace H:=iteN H;obtain⟨c40,H⟩:=H;have c40b0:=eq_true c40;have c40b1:=dT c40;clear c40;have H':=A_ H;clear H;have p37:0≤(x10_2:Int):=ofD;have q37:(x10_2:Int)<((x9_2.length:Int):Int):=ofD;obtain⟨go37,co37,eo37,gb37,gl37,cl37,HG37⟩:=Kd.R_form HO_9.out (by omega);(first|cases eo37|(injection eo37 with ea_ en_ ec_;(first|subst ea_|(injection ea_ with ea_;subst ea_));subst ec_;clear en_));have GB37:=A_ gb37;have GG37:=A_ HG37;clear gb37 gl37 HG37;obtain⟨hx37_0,hf37_0⟩:=Kd.R_celln (⟨#[]⟩:BA) HO_9.out (x10_2:Int) p37 q37;replace p37:=eq_true p37;replace q37:=eq_true q37;have HP41:=Kd.R_putg HO_9.out (x10_2:Int) (x0_2.extract 0 ((ji32):Int).toNat);go_wp2_with (first|((with_reducible refine gate_store (t:=9) (p:=49) rfl ?_);refine store_event (t:=9) (p:=49) (v:=?vo_w42) (w1:=(w21.setCell ⟨go37,(x10_2:Int).toNat,none⟩ (.string (x0_2.extract 0 ((ji32):Int).toNat)))) ?hg ?ho ?hn ?hr ?_;(case ho=>rfl);(case hg=>rfl);(case hn=>rfl);(case hr=>exact zz5);intro w42 hw;have hg:w21.grownBy w42 (some go37):=(by rw[hw];exact HP41.2);have hp_:Kd.R Kd.string 9 w42 w.heap.size (fun _=>True) (.slice (some ⟨go37,0,none⟩) x9_2.length co37) y445:=(by rw[hw,Ny445.out];exact HP41.1);clear HP41;replace HO_9:=A_ (hp_);replace HB:=A_ ((by rw[hw];exact below_set (HB.out) GB37.out:Below w.heap.size w w42));clear hg hw hp_))
          go_roundg k2
          case measure=>have:=HJ8.out;have:=HK2.out;omega
          case rel=>exact⟨(x0_2.extract ((ji38):Int).toNat x0_2.size),(y445),(wrap64 (x10_2+1)),(by first|rfl|(simp only[i64_w,i32_w];done)|(simp only[aid_isEmpty,aid_isEmpty2];done)|(simp;done)|((simp only[←hji38] <;> (first|rfl|simp));done)|(simp[*];done)),zz0,H',⟨(zz16 HJ8 HK2)⟩,⟨(zz7 HO_9)⟩,⟨(zz6 HB)⟩⟩
        ·replace H:=iteNd H
         obtain⟨c43b0,H⟩:=H;replace H:=iteNd H;obtain⟨c44b0,H⟩:=H;obtain⟨y446,hy446⟩:∃y_:List BA,y_=(x9_2.set (x10_2:Int).toNat x0_2):=⟨_,rfl⟩;replace H:(if 0≤(wrap64 (x10_2+1))then(if(wrap64 (x10_2+1))≤(x9_2.length:Int)then(some (y446.take ((wrap64 (x10_2+1)):Int).toNat))else(none))else(none))=some r:=by first|(rw[hy446];with_reducible exact H)|(have H2_:=(oB_ _ _).symm.trans H;rw[hy446];with_reducible exact H2_)|(have H2_:=(oB_ _ _).symm.trans H;with_reducible exact H2_)|with_reducible exact H|(rw[hy446];exact H)|exact H
         have Ny446:=A_ hy446;have Ly446:y446.length≤x9_2.length∧x9_2.length≤y446.length:=by rw[hy446,List.length_set];exact⟨lL_ _,lL_ _⟩
         have My446:=Ly446.1;replace Ly446:=Ly446.2;clear hy446;obtain⟨ji46,hji46⟩:∃j_:Int,(wrap64 (x10_2+1))=j_:=⟨_,rfl⟩;(first|rw[hji46]at H|simp only[hji46]at H);have hji46w:(IntKind.i64.wrap (x10_2+1))=ji46:=(i64_w _).trans hji46;replace H:=iteN H;obtain⟨c47,H⟩:=H;have c47b0:=eq_true c47;have c47b1:=dT c47;clear c47;replace H:=iteN H;obtain⟨c48,H⟩:=H;have c48b0:=eq_true c48;have c48b1:=dT c48;clear c48;obtain⟨y447,Ny447⟩:=toY (y446.take ((ji46):Int).toNat);(first|with_reducible replace H:=bindZ Ny447 H|rw[←Ny447.out]at H|skip);obtain rfl:=sI H;have p45:0≤(x10_2:Int):=ofD;have q45:(x10_2:Int)<((x9_2.length:Int):Int):=ofD;obtain⟨go45,co45,eo45,gb45,gl45,cl45,HG45⟩:=Kd.R_form HO_9.out (by omega);(first|cases eo45|(injection eo45 with ea_ en_ ec_;(first|subst ea_|(injection ea_ with ea_;subst ea_));subst ec_;clear en_));have GB45:=A_ gb45;have GG45:=A_ HG45;clear gb45 gl45 HG45;obtain⟨hx45_0,hf45_0⟩:=Kd.R_celln (⟨#[]⟩:BA) HO_9.out (x10_2:Int) p45 q45;replace p45:=eq_true p45;replace q45:=eq_true q45;have HP49:=Kd.R_putg HO_9.out (x10_2:Int) x0_2;go_wp2_with (first|((with_reducible refine gate_store (t:=9) (p:=61) rfl ?_);refine store_event (t:=9) (p:=61) (v:=?vo_w50) (w1:=(wr.setCell ⟨go45,(x10_2:Int).toNat,none⟩ (.string x0_2))) ?hg ?ho ?hn ?hr ?_;(case ho=>rfl);(case hg=>rfl);(case hn=>rfl);(case hr=>exact zz5);intro w50 hw;have hg:wr.grownBy w50 (some go45):=(by rw[hw];exact HP49.2);have hp_:Kd.R Kd.string 9 w50 w.heap.size (fun _=>True) (.slice (some ⟨go45,0,none⟩) x9_2.length co45) y446:=(by rw[hw,Ny446.out];exact HP49.1);clear HP49;replace HO_9:=A_ (hp_);replace HB:=A_ ((by rw[hw];exact below_set (HB.out) GB45.out:Below w.heap.size w w50));clear hg hw hp_;have q51:((ji46):Int)≤((x9_2.length:Int):Int):=ofD;obtain⟨i051,hi051,_,hsz51,_⟩:=info_parts info9;have hcut51:=cut_to (P:=Tryz.prog) 29 9 .i64 Tryz.underlying29 hi051 (some ⟨go45,0,none⟩) x9_2.length co45 (ji46) ofD q51 (Kd.R_reads' HO_9.out).2.1;have hr51:=Kd.R_take (m:=((ji46):Int).toNat) HO_9.out (by omega);have hy51:y447.length=((ji46):Int).toNat:=(by rw[Ny447.out,lT_];omega);rw[←Ny447.out]at hr51;rw[←hy51]at hr51 hcut51;clear hy51 hi051 hsz51 HO_9;have HO449:=A_ hr51;clear hr51;replace q51:=eq_true q51));go_ret;exact⟨_,(by first|rfl|(simp[errW_none,errW_some] <;> rfl)|(simp only[←hji13,←hji46];first|rfl|(simp[errW_none,errW_some] <;> rfl))|(simp[*,errW_none,errW_some] <;> rfl)),(zz7 HO449),(zz6 HB)⟩
     ·exact absurd H (by simp)
def impl_EscNorm.l0:Nat→BA→List Int→Int→Option (BA×Bool)
 |0,_,_,_=>none
 |k+1,x0,x4,x5=>if x5<(x0.size:Int)then(if 0≤x5 then(if(bt x0 x5)=37 then((impl_signByte.f x0 x5).bind fun bt458=>(if bt458.2=true then((impl_standsForItself.f bt458.1).bind fun t460=>(if t460=true then(if x4.length<140737488355328 then(impl_EscNorm.l0 k x0 (x4++[bt458.1]) (wrap64 ((wrap64 (x5+2))+1)))else(none))else(if 0≤(bt458.1 / 16)then(if(bt458.1 / 16)<16 then(if 0≤(Go.bits .and .u8 bt458.1 15)then(if(Go.bits .and .u8 bt458.1 15)<16 then((some (([37,bt (⟨#[48,49,50,51,52,53,54,55,56,57,65,66,67,68,69,70]⟩:BA) (bt458.1 / 16),bt (⟨#[48,49,50,51,52,53,54,55,56,57,65,66,67,68,69,70]⟩:BA) (Go.bits .and .u8 bt458.1 15)]:List Int):List Int)).bind fun y464=>(if x4.length+y464.length<140737488355328 then(impl_EscNorm.l0 k x0 (x4++y464) (wrap64 ((wrap64 (x5+2))+1)))else(none)))else(none))else(none))else(none))else(none))))else(some ((⟨#[]⟩:BA),false))))else((impl_standsForItself.f (bt x0 x5)).bind fun t470=>(if t470=true then(if x4.length<140737488355328 then(impl_EscNorm.l0 k x0 (x4++[bt x0 x5]) (wrap64 (x5+1)))else(none))else(if 0≤((bt x0 x5) / 16)then(if((bt x0 x5) / 16)<16 then(if 0≤(Go.bits .and .u8 (bt x0 x5) 15)then(if(Go.bits .and .u8 (bt x0 x5) 15)<16 then((some (([37,bt (⟨#[48,49,50,51,52,53,54,55,56,57,65,66,67,68,69,70]⟩:BA) ((bt x0 x5) / 16),bt (⟨#[48,49,50,51,52,53,54,55,56,57,65,66,67,68,69,70]⟩:BA) (Go.bits .and .u8 (bt x0 x5) 15)]:List Int):List Int)).bind fun y474=>(if x4.length+y474.length<140737488355328 then(impl_EscNorm.l0 k x0 (x4++y474) (wrap64 (x5+1)))else(none)))else(none))else(none))else(none))else(none)))))else(none))else(some (strOfNums x4,true))
def impl_EscNorm.f (k:Nat)(a0:BA):Option (BA×Bool):=if(a0.size:Int)>60 then(some ((⟨#[]⟩:BA),false))else(impl_EscNorm.l0 k a0 ([]:List Int) 0)
theorem impl_EscNorm.mono_l:∀k,(∀y0 y1 y2,LeO (impl_EscNorm.l0 k y0 y1 y2) (impl_EscNorm.l0 (k+1) y0 y1 y2))
 |0=>by intros;intro r h;simp[impl_EscNorm.l0]at h
 |k+1=>by
  have ih0:=impl_EscNorm.mono_l k;intros;unfold impl_EscNorm.l0;repeat' first|(with_reducible first|exact ih0 _ _ _|exact LeO.refl _|exact LeO.none _|refine LeO.ite ?_ ?_|refine LeO.bind ?_ (fun _=>?_))|exact LeO.none _|refine LeO.ite ?_ ?_|refine LeO.bind ?_ (fun _=>?_)
theorem impl_EscNorm.mono:∀a0 k,LeO (impl_EscNorm.f k a0) (impl_EscNorm.f (k+1) a0):=by
 intro a0 k;have ih0:=impl_EscNorm.mono_l k;unfold impl_EscNorm.f
 repeat' first|(with_reducible first|exact ih0 _ _ _|exact LeO.refl _|exact LeO.none _|refine LeO.ite ?_ ?_|refine LeO.bind ?_ (fun _=>?_))|exact LeO.none _|refine LeO.ite ?_ ?_|refine LeO.bind ?_ (fun _=>?_)
def impl_EscNorm.T16:Bool×List (List Nat×List Nat):=(true,[([],[]),([],[]),([1],[1]),([2],[2]),([],[]),([4],[4]),([5],[5]),([3,6],[3,6]),([0,7],[0,7]),([8,8,0,1,2,3,4,5,6,7,8],[0,8])])
def impl_EscNorm.B16:List Nat:=[0,0,2,6,0,16,48,126,255,511]
theorem impl_EscNorm.tab16:rtab .any (opsOf Tryz.f132 16)=impl_EscNorm.T16:=by kernel_rfl
theorem impl_EscNorm.bits16:waitsOk impl_EscNorm.T16.2 impl_EscNorm.B16=true:=by kernel_rfl
theorem impl_EscNorm.calls (k:Nat)(a0:BA)(r1:BA)(r2:Bool)(w:World)(h:impl_EscNorm.f k a0=some (r1,r2)):
  Calls Tryz.prog 132 #[.string a0] w fun e w'=>e=.returned (.tuple #[.string r1,.bool r2])∧Below w.heap.size w w':=by
 have HB:=A_ (Below.refl w.heap.size w);unfold impl_EscNorm.f at h;have H:=h;clear h;replace H:=iteE H;rcases H with⟨c2,H⟩|⟨c2,H⟩
 ·have c2b0:=gtT c2
  have c2b1:decide (60<a0.size)=true:=dT (by omega);clear c2;simp only[oI_,pI_]at H;obtain⟨rfl,rfl⟩:=H;go_enter Tryz.func132,Tryz.ntmps132;go_wp2
  go_ret2
  exact⟨zz9,(zz6 HB)⟩
 ·have c2b0:=gtF c2
  have c2b1:decide (60<a0.size)=false:=dF (by omega);clear c2;have H':=A_ H;clear H;go_enter Tryz.func132,Tryz.ntmps132;go_wp2
  go_loopg [4,5] k (fun kq v4 v5 w'=>∃(x4_1:List Int)(x5_1:Int),v5=.int .i64 x5_1∧Aside0 (impl_EscNorm.l0 kq a0 x4_1 x5_1=some (r1,r2))∧Aside0 (kq≤k)∧Aside0 (Kd.R (Kd.int .u8) 5 w' w.heap.size (fun _=>True) v4 x4_1)∧Aside0 (Below w.heap.size w w'))
  case atStart=>exact⟨(([]:List Int)),(0),zz0,H',⟨lL_ _⟩,⟨zz68⟩,⟨(zz6 HB)⟩⟩
  case round=>
   clear H';obtain⟨x4_1,x5_1,rfl,HA,HK1,HO_4,HB⟩:=hrel;cases gk with
   |zero=>exact absurd HA.out (by simp[impl_EscNorm.l0])
   |succ k1=>
    obtain⟨H⟩:=HA;simp only[impl_EscNorm.l0]at H;replace H:=iteEd H;rcases H with⟨c3b0,H⟩|⟨c3b0,H⟩
    ·replace H:=iteNd H
     obtain⟨c4b0,H⟩:=H;replace H:=iteEq H;rcases H with⟨c6b0,c6b1,H⟩|⟨c6b0,c6b1,c6,H⟩
     ·replace H:=bindA H
      obtain⟨⟨t458,t459⟩,A7,H⟩:=H;try dsimp only at H;replace H:=iteB H;rcases H with⟨rfl,H⟩|⟨rfl,H⟩
      ·replace H:=bindA H
       obtain⟨t460,A9,H⟩:=H;replace H:=iteB H;rcases H with⟨rfl,H⟩|⟨rfl,H⟩
       ·replace H:=iteN H
        obtain⟨c11,H⟩:=H;have LMc11:=A_ c11;clear c11;obtain⟨y461,Ny461⟩:=toY (x4_1++[t458]);(first|with_reducible replace H:=bindZ Ny461 H|rw[←Ny461.out]at H|skip);have H':=A_ H;clear H;have p5:0≤(x5_1:Int):=ofD;have q5:x5_1<(a0.size:Int):=ofD;have hx5:=bt_at a0 x5_1;replace p5:=eq_true p5;replace q5:=eq_true q5;go_wp2_with (first|(refine gR 160 (some 26) Tryz.func160 (impl_signByte.calls a0 x5_1 t458 true _ A7.out) ?_;rintro w12 hb;replace HO_4:=A_ (rB (zz7 HO_4) hb);replace HB:=A_ (bS (zz6 HB) hb);(try clear hb))|(refine gR 146 (some 35) Tryz.func146 (impl_standsForItself.calls t458 true _ A9.out) ?_;rintro w' ⟨nd,rfl⟩)|((with_reducible refine gate_builtin (b:=.append) (xs:=#[.tmp 36,.tmp 38]) rfl ?_);at_builtin;refine Kd.R_append (Kd.int .u8) (w0:=w) w.heap.size rfl (.tmp 36) (.tmp 38) 37 5 (.int .u8 0) 1 rfl Tryz.underlying37 info5 rfl (by decide) (by omega) u4 x4_1 t458 [.int .u8 t458] (fun _=>True) (fun _=>False) rfl rfl ?aP (fun _ hk=>hk.elim) ?aF ?aO ?aB ?aS ?aL ?_;(case aP=>exact rfl);(case aB=>exact(zz6 HB));(case aF=>exact(fun _ _=>trivial));(case aO=>exact(zz7 HO_4));(case aS=>exact(below_size (zz6 HB)));(case aL=>exact(zz4 LMc11));intro v462 w13 ho hb hg hat;rw[←Ny461.out]at ho;replace HB:=A_ (hb);have HO463:=A_ (ho);clear HO_4;clear ho hb hg hat))
        go_roundg k1
        case measure=>have:=HK1.out;omega
        case rel=>exact⟨(y461),(wrap64 ((wrap64 (x5_1+2))+1)),zz0,H',⟨(zz4 HK1)⟩,⟨(zz7 HO463)⟩,⟨(zz6 HB)⟩⟩
       ·obtain⟨ji14,hji14⟩:∃j_:Int,(t458 / 16)=j_:=⟨_,rfl⟩
        (first|rw[hji14]at H|simp only[hji14]at H)
        (try rw[hji14]at A7)
        (try rw[hji14]at A9)
        replace H:=iteNd H;obtain⟨c15b0,H⟩:=H;replace H:=iteNd H;obtain⟨c16b0,H⟩:=H;replace H:=iteNd H;obtain⟨c18b0,H⟩:=H;replace H:=iteNd H;obtain⟨c19b0,H⟩:=H;obtain⟨y464,Ny464⟩:=toY (([37,bt (⟨#[48,49,50,51,52,53,54,55,56,57,65,66,67,68,69,70]⟩:BA) (ji14),bt (⟨#[48,49,50,51,52,53,54,55,56,57,65,66,67,68,69,70]⟩:BA) (Go.bits .and .u8 t458 15)]:List Int));(first|with_reducible replace H:=bindZ Ny464 H|rw[←Ny464.out]at H|skip);replace H:=iteN H;obtain⟨c21,H⟩:=H;have LMc21:=A_ c21;clear c21;obtain⟨y467,Ny467⟩:=toY (x4_1++y464);(first|with_reducible replace H:=bindZ Ny467 H|rw[←Ny467.out]at H|skip);have H':=A_ H;clear H;have p5:0≤(x5_1:Int):=ofD;have q5:x5_1<(a0.size:Int):=ofD;have hx5:=bt_at a0 x5_1;replace p5:=eq_true p5;replace q5:=eq_true q5;try go_wp2_with (first|(refine gR 160 (some 26) Tryz.func160 (impl_signByte.calls a0 x5_1 t458 true _ A7.out) ?_;rintro w22 hb;replace HO_4:=A_ (rB (zz7 HO_4) hb);replace HB:=A_ (bS (zz6 HB) hb);(try clear hb))|(refine gR 146 (some 35) Tryz.func146 (impl_standsForItself.calls t458 false _ A9.out) ?_;rintro w' ⟨nd,rfl⟩))
        (try(rw[drewN_self w22];generalize hq_:World.drewN w22 _=w22;have n0_:Aside0 (Kd.R (Kd.int .u8) 5 w22 w.heap.size (fun _=>True) u4 x4_1):=⟨(by rw[←hq_];exact(zz7 HO_4))⟩;have n1_:Aside0 (Below w.heap.size w w22):=⟨(by rw[←hq_];exact(zz6 HB))⟩;clear HO_4 HB hq_;have HO_4:=n0_;have HB:=n1_;clear n0_ n1_))
        replace HO_4:=A_ (Kd.R_drew HO_4.out);replace HB:=A_ (below_drew1 HB.out);have p17:0≤((ji14):Int):=ofD;have q17:(ji14)<(16:Int):=ofD;have hx17:=bt_at (⟨#[48,49,50,51,52,53,54,55,56,57,65,66,67,68,69,70]⟩:BA) (ji14);replace p17:=eq_true p17;replace q17:=eq_true q17;have p20:0≤((Go.bits .and .u8 t458 15):Int):=ofD;have q20:(Go.bits .and .u8 t458 15)<(16:Int):=ofD;have hx20:=bt_at (⟨#[48,49,50,51,52,53,54,55,56,57,65,66,67,68,69,70]⟩:BA) (Go.bits .and .u8 t458 15);replace p20:=eq_true p20;replace q20:=eq_true q20;refine start_ (n:=10) (S:=fun w'=>True) (ds:=[]) #[yF,yF,yF,yF,yF,yF,yF,yF,yF,yF] (by kernel_rfl) rfl rfl trivial (fun hHeld=>?_);refine with_tabW impl_EscNorm.tab16 impl_EscNorm.bits16 (fun HT_ HW_=>?_);generalize w22.drew=w23 at HO_4 HB hHeld ⊢;refine pureZ 0 (some 40) (yA 1 9) ?_;refine pureZ 1 (some 41) (yA 2 8) ?_;refine pureZ 2 (some 42) (yA 3 7) ?_;refine pureZ 4 (some 44) #[yT,yT,yT,yF,yT,yF,yF,yF,yF,yF] ?_;refine pureZ 5 (some 45) #[yT,yT,yT,yF,yT,yT,yF,yF,yF,yF] ?_;refine take_ (i:=3) (N:=some 43) (v:=?_) (a':=?_) (yA 6 4) rfl rfl (take_ofW HT_.out HW_.out (by kernel_rfl)) (fun _ _ _ h=>h) (Or.inl ⟨by rfl,?_⟩) hHeld ?_ ?_;rotate_left
        ·intro w' _
         go_simp
         with_reducible rfl
        rotate_left
        ·simp only[Act.put,lS_,l0_,lC_,i64_w,i32_w]
         rfl
        refine take_ (i:=6) (N:=some 46) (v:=?_) (a':=?_) (yA 7 3) rfl rfl (take_ofW HT_.out HW_.out (by kernel_rfl)) (fun _ _ _ h=>h) (Or.inl ⟨by rfl,?_⟩) hHeld ?_ ?_;rotate_left
        ·intro w' _
         go_simp
         with_reducible rfl
        rotate_left
        ·simp only[Act.put,lS_,l0_,lC_,i64_w,i32_w]
         rfl
        refine oneZ 7 (some 47) (yA 8 2) (fun K hK=>?_);refine Kd.R_lit_step (Kd.int .u8) _ 5 ?hg (N:=47) ?hd (xs:=([37,bt (⟨#[48,49,50,51,52,53,54,55,56,57,65,66,67,68,69,70]⟩:BA) (ji14),bt (⟨#[48,49,50,51,52,53,54,55,56,57,65,66,67,68,69,70]⟩:BA) (Go.bits .and .u8 t458 15)]:List Int)) (inner:=[.int .u8 37,.int .u8 (bt (⟨#[48,49,50,51,52,53,54,55,56,57,65,66,67,68,69,70]⟩:BA) (ji14)),.int .u8 (bt (⟨#[48,49,50,51,52,53,54,55,56,57,65,66,67,68,69,70]⟩:BA) (Go.bits .and .u8 t458 15))]) (ok:=fun _=>True) (okp:=fun _=>True) ?hr ?hp (fun _ hk=>hk) trivial (Below.refl _ _) (lL_ _) (by simp) ?_;(case hd=>rfl);(case hg=>rfl);(case hr=>exact zz5);(case hp=>exact(Reps.one (show Kd.M (Kd.int .u8) _ _ _ 37 [.int .u8 37]from rfl) (Reps.one (show Kd.M (Kd.int .u8) _ _ _ (bt (⟨#[48,49,50,51,52,53,54,55,56,57,65,66,67,68,69,70]⟩:BA) (ji14)) [.int .u8 (bt (⟨#[48,49,50,51,52,53,54,55,56,57,65,66,67,68,69,70]⟩:BA) (ji14))]from rfl) (Reps.one (show Kd.M (Kd.int .u8) _ _ _ (bt (⟨#[48,49,50,51,52,53,54,55,56,57,65,66,67,68,69,70]⟩:BA) (Go.bits .and .u8 t458 15)) [.int .u8 (bt (⟨#[48,49,50,51,52,53,54,55,56,57,65,66,67,68,69,70]⟩:BA) (Go.bits .and .u8 t458 15))]from rfl) (Reps.none _ _)))));intro v465 w24 ho25 hb hg_ hnew_;clear hg_ hnew_;(first|rw[←Ny464.out]at ho25|(simp only[Int.reduceToNat]at ho25;rw[←Ny464.out]at ho25));have HO466:=A_ (Kd.R_lower (Kd.R_new' ho25 (Kd.R_lt (zz7 HO_4))) (below_size (zz6 HB)));replace HO_4:=A_ (Kd.R_elder' (zz7 HO_4) (Kd.R_base ho25) hb);replace HB:=A_ (bS (zz6 HB) hb);clear hb ho25;obtain⟨Ao27,co27,eo27⟩:=Kd.R_slice HO466.out;(first|subst eo27|(injection eo27 with f1_ f2_ f3_;have f4_:=f1_.symm;have f5_:=f3_.symm;clear f1_ f2_ f3_;subst f4_;subst f5_));refine hK.out _ _ trivial (fun hHeld=>?_);clear hK K;refine nZ 47 ?_;refine oneZ 8 (some 48) (yA 9 1) (fun K hK=>?_);refine Kd.R_append_rows_step (Kd.int .u8) (w0:=w) w.heap.size (by rfl) (.tmp 40) (.tmp 47) 37 5 (.int .u8 0) 1 rfl Tryz.underlying37 info5 rfl (by decide) (by omega) u4 x4_1 y464 _ _ _ (fun k_=>some k_≠(.slice Ao27 y464.length co27:Value).ownBlock) (fun _=>False) rfl rfl ?aO ?aR (fun _ _ h=>h) (fun _ h=>h.elim) ?aF ?aB ?aS ?aL ?_;(case aR=>exact(zz46 HO466))
        (case aB=>exact(zz6 HB))
        (case aF=>exact(fun k_ hk=>Kd.fresh' (Kd.R_lt (zz7 HO466)) k_ hk))
        (case aO=>exact(zz103 HO_4))
        (case aS=>exact(below_size (zz6 HB)))
        (case aL=>exact(zz4 LMc21))
        intro v468 w26 ho hb hg hat;rw[←Ny467.out]at ho;replace HO466:=A_ (Kd.R_after (ok:=(fun _=>True)) (zz7 HO466) hg hat);replace HB:=A_ (hb);have HO469:=A_ (ho);clear HO_4;clear ho hb hg hat;refine hK.out _ _ trivial (fun hHeld=>?_);clear hK K;refine nZ 48 ?_;refine pureZ 9 (some 4) (yA 10 0) ?_;refine done_ (done_of HT_.out (by kernel_rfl)) ?_;try go_wp2
        go_roundg k1
        case measure=>have:=HK1.out;omega
        case rel=>exact⟨(y467),(wrap64 ((wrap64 (x5_1+2))+1)),zz0,H',⟨(zz4 HK1)⟩,⟨(zz168 HO469)⟩,⟨(zz6 HB)⟩⟩
      ·simp only[oI_,pI_]at H
       obtain⟨rfl,rfl⟩:=H;have p5:0≤(x5_1:Int):=ofD;have q5:x5_1<(a0.size:Int):=ofD;have hx5:=bt_at a0 x5_1;replace p5:=eq_true p5;replace q5:=eq_true q5;go_wp2_with (first|(refine gR 160 (some 26) Tryz.func160 (impl_signByte.calls a0 x5_1 t458 false _ A7.out) ?_;rintro w28 hb;replace HO_4:=A_ (rB (zz7 HO_4) hb);replace HB:=A_ (bS (zz6 HB) hb);(try clear hb)))
       go_ret2
       exact⟨zz9,(zz6 HB)⟩
     ·replace H:=bindA H
      obtain⟨t470,A29,H⟩:=H;replace H:=iteB H;rcases H with⟨rfl,H⟩|⟨rfl,H⟩
      ·replace H:=iteN H
       obtain⟨c31,H⟩:=H;have LMc31:=A_ c31;clear c31;obtain⟨y471,Ny471⟩:=toY (x4_1++[bt a0 x5_1]);(first|with_reducible replace H:=bindZ Ny471 H|rw[←Ny471.out]at H|skip);have H':=A_ H;clear H;have p5:0≤(x5_1:Int):=ofD;have q5:x5_1<(a0.size:Int):=ofD;have hx5:=bt_at a0 x5_1;replace p5:=eq_true p5;replace q5:=eq_true q5;go_wp2_with (first|(refine gR 146 (some 35) Tryz.func146 (impl_standsForItself.calls (bt a0 x5_1) true _ A29.out) ?_;rintro w' ⟨nd,rfl⟩)|((with_reducible refine gate_builtin (b:=.append) (xs:=#[.tmp 36,.tmp 38]) rfl ?_);at_builtin;refine Kd.R_append (Kd.int .u8) (w0:=w) w.heap.size rfl (.tmp 36) (.tmp 38) 37 5 (.int .u8 0) 1 rfl Tryz.underlying37 info5 rfl (by decide) (by omega) u4 x4_1 (bt a0 x5_1) [.int .u8 (bt a0 x5_1)] (fun _=>True) (fun _=>False) rfl rfl ?aP (fun _ hk=>hk.elim) ?aF ?aO ?aB ?aS ?aL ?_;(case aP=>exact rfl);(case aB=>exact(zz6 HB));(case aF=>exact(fun _ _=>trivial));(case aO=>exact(zz7 HO_4));(case aS=>exact(below_size (zz6 HB)));(case aL=>exact(zz4 LMc31));intro v472 w32 ho hb hg hat;rw[←Ny471.out]at ho;replace HB:=A_ (hb);have HO473:=A_ (ho);clear HO_4;clear ho hb hg hat))
       go_roundg k1
       case measure=>have:=HK1.out;omega
       case rel=>exact⟨(y471),(wrap64 (x5_1+1)),zz0,H',⟨(zz4 HK1)⟩,⟨(zz7 HO473)⟩,⟨(zz6 HB)⟩⟩
      ·obtain⟨ji33,hji33⟩:∃j_:Int,((bt a0 x5_1) / 16)=j_:=⟨_,rfl⟩
       (first|rw[hji33]at H|simp only[hji33]at H)
       (try rw[hji33]at A29)
       replace H:=iteNd H;obtain⟨c34b0,H⟩:=H;replace H:=iteNd H;obtain⟨c35b0,H⟩:=H;replace H:=iteNd H;obtain⟨c37b0,H⟩:=H;replace H:=iteNd H;obtain⟨c38b0,H⟩:=H;obtain⟨y474,Ny474⟩:=toY (([37,bt (⟨#[48,49,50,51,52,53,54,55,56,57,65,66,67,68,69,70]⟩:BA) (ji33),bt (⟨#[48,49,50,51,52,53,54,55,56,57,65,66,67,68,69,70]⟩:BA) (Go.bits .and .u8 (bt a0 x5_1) 15)]:List Int));(first|with_reducible replace H:=bindZ Ny474 H|rw[←Ny474.out]at H|skip);replace H:=iteN H;obtain⟨c40,H⟩:=H;have LMc40:=A_ c40;clear c40;obtain⟨y477,Ny477⟩:=toY (x4_1++y474);(first|with_reducible replace H:=bindZ Ny477 H|rw[←Ny477.out]at H|skip);have H':=A_ H;clear H;have p5:0≤(x5_1:Int):=ofD;have q5:x5_1<(a0.size:Int):=ofD;have hx5:=bt_at a0 x5_1;replace p5:=eq_true p5;replace q5:=eq_true q5;try go_wp2_with (first|(refine gR 146 (some 35) Tryz.func146 (impl_standsForItself.calls (bt a0 x5_1) false _ A29.out) ?_;rintro w' ⟨nd,rfl⟩))
       (try(rw[drewN_self wr];generalize hq_:World.drewN wr _=wr;have n0_:Aside0 (Kd.R (Kd.int .u8) 5 wr w.heap.size (fun _=>True) u4 x4_1):=⟨(by rw[←hq_];exact(zz7 HO_4))⟩;have n1_:Aside0 (Below w.heap.size w wr):=⟨(by rw[←hq_];exact(zz6 HB))⟩;clear HO_4 HB hq_;have HO_4:=n0_;have HB:=n1_;clear n0_ n1_))
       replace HO_4:=A_ (Kd.R_drew HO_4.out);replace HB:=A_ (below_drew1 HB.out);have p36:0≤((ji33):Int):=ofD;have q36:(ji33)<(16:Int):=ofD;have hx36:=bt_at (⟨#[48,49,50,51,52,53,54,55,56,57,65,66,67,68,69,70]⟩:BA) (ji33);replace p36:=eq_true p36;replace q36:=eq_true q36;have p39:0≤((Go.bits .and .u8 (bt a0 x5_1) 15):Int):=ofD;have q39:(Go.bits .and .u8 (bt a0 x5_1) 15)<(16:Int):=ofD;have hx39:=bt_at (⟨#[48,49,50,51,52,53,54,55,56,57,65,66,67,68,69,70]⟩:BA) (Go.bits .and .u8 (bt a0 x5_1) 15);replace p39:=eq_true p39;replace q39:=eq_true q39;refine start_ (n:=10) (S:=fun w'=>True) (ds:=[]) #[yF,yF,yF,yF,yF,yF,yF,yF,yF,yF] (by kernel_rfl) rfl rfl trivial (fun hHeld=>?_);refine with_tabW impl_EscNorm.tab16 impl_EscNorm.bits16 (fun HT_ HW_=>?_);generalize wr.drew=w41 at HO_4 HB hHeld ⊢;refine pureZ 0 (some 40) (yA 1 9) ?_;refine pureZ 1 (some 41) (yA 2 8) ?_;refine pureZ 2 (some 42) (yA 3 7) ?_;refine pureZ 4 (some 44) #[yT,yT,yT,yF,yT,yF,yF,yF,yF,yF] ?_;refine pureZ 5 (some 45) #[yT,yT,yT,yF,yT,yT,yF,yF,yF,yF] ?_;refine take_ (i:=3) (N:=some 43) (v:=?_) (a':=?_) (yA 6 4) rfl rfl (take_ofW HT_.out HW_.out (by kernel_rfl)) (fun _ _ _ h=>h) (Or.inl ⟨by rfl,?_⟩) hHeld ?_ ?_;rotate_left
       ·intro w' _
        go_simp
        with_reducible rfl
       rotate_left
       ·simp only[Act.put,lS_,l0_,lC_,i64_w,i32_w]
        rfl
       refine take_ (i:=6) (N:=some 46) (v:=?_) (a':=?_) (yA 7 3) rfl rfl (take_ofW HT_.out HW_.out (by kernel_rfl)) (fun _ _ _ h=>h) (Or.inl ⟨by rfl,?_⟩) hHeld ?_ ?_;rotate_left
       ·intro w' _
        go_simp
        with_reducible rfl
       rotate_left
       ·simp only[Act.put,lS_,l0_,lC_,i64_w,i32_w]
        rfl
       refine oneZ 7 (some 47) (yA 8 2) (fun K hK=>?_);refine Kd.R_lit_step (Kd.int .u8) _ 5 ?hg (N:=47) ?hd (xs:=([37,bt (⟨#[48,49,50,51,52,53,54,55,56,57,65,66,67,68,69,70]⟩:BA) (ji33),bt (⟨#[48,49,50,51,52,53,54,55,56,57,65,66,67,68,69,70]⟩:BA) (Go.bits .and .u8 (bt a0 x5_1) 15)]:List Int)) (inner:=[.int .u8 37,.int .u8 (bt (⟨#[48,49,50,51,52,53,54,55,56,57,65,66,67,68,69,70]⟩:BA) (ji33)),.int .u8 (bt (⟨#[48,49,50,51,52,53,54,55,56,57,65,66,67,68,69,70]⟩:BA) (Go.bits .and .u8 (bt a0 x5_1) 15))]) (ok:=fun _=>True) (okp:=fun _=>True) ?hr ?hp (fun _ hk=>hk) trivial (Below.refl _ _) (lL_ _) (by simp) ?_;(case hd=>rfl);(case hg=>rfl);(case hr=>exact zz5);(case hp=>exact(Reps.one (show Kd.M (Kd.int .u8) _ _ _ 37 [.int .u8 37]from rfl) (Reps.one (show Kd.M (Kd.int .u8) _ _ _ (bt (⟨#[48,49,50,51,52,53,54,55,56,57,65,66,67,68,69,70]⟩:BA) (ji33)) [.int .u8 (bt (⟨#[48,49,50,51,52,53,54,55,56,57,65,66,67,68,69,70]⟩:BA) (ji33))]from rfl) (Reps.one (show Kd.M (Kd.int .u8) _ _ _ (bt (⟨#[48,49,50,51,52,53,54,55,56,57,65,66,67,68,69,70]⟩:BA) (Go.bits .and .u8 (bt a0 x5_1) 15)) [.int .u8 (bt (⟨#[48,49,50,51,52,53,54,55,56,57,65,66,67,68,69,70]⟩:BA) (Go.bits .and .u8 (bt a0 x5_1) 15))]from rfl) (Reps.none _ _)))));intro v475 w42 ho43 hb hg_ hnew_;clear hg_ hnew_;(first|rw[←Ny474.out]at ho43|(simp only[Int.reduceToNat]at ho43;rw[←Ny474.out]at ho43));have HO476:=A_ (Kd.R_lower (Kd.R_new' ho43 (Kd.R_lt (zz7 HO_4))) (below_size (zz6 HB)));replace HO_4:=A_ (Kd.R_elder' (zz7 HO_4) (Kd.R_base ho43) hb);replace HB:=A_ (bS (zz6 HB) hb);clear hb ho43;obtain⟨Ao45,co45,eo45⟩:=Kd.R_slice HO476.out;(first|subst eo45|(injection eo45 with f1_ f2_ f3_;have f4_:=f1_.symm;have f5_:=f3_.symm;clear f1_ f2_ f3_;subst f4_;subst f5_));refine hK.out _ _ trivial (fun hHeld=>?_);clear hK K;refine nZ 47 ?_;refine oneZ 8 (some 48) (yA 9 1) (fun K hK=>?_);refine Kd.R_append_rows_step (Kd.int .u8) (w0:=w) w.heap.size (by rfl) (.tmp 40) (.tmp 47) 37 5 (.int .u8 0) 1 rfl Tryz.underlying37 info5 rfl (by decide) (by omega) u4 x4_1 y474 _ _ _ (fun k_=>some k_≠(.slice Ao45 y474.length co45:Value).ownBlock) (fun _=>False) rfl rfl ?aO ?aR (fun _ _ h=>h) (fun _ h=>h.elim) ?aF ?aB ?aS ?aL ?_;(case aR=>exact(zz46 HO476))
       (case aB=>exact(zz6 HB))
       (case aF=>exact(fun k_ hk=>Kd.fresh' (Kd.R_lt (zz7 HO476)) k_ hk))
       (case aO=>exact(zz103 HO_4))
       (case aS=>exact(below_size (zz6 HB)))
       (case aL=>exact(zz4 LMc40))
       intro v478 w44 ho hb hg hat;rw[←Ny477.out]at ho;replace HO476:=A_ (Kd.R_after (ok:=(fun _=>True)) (zz7 HO476) hg hat);replace HB:=A_ (hb);have HO479:=A_ (ho);clear HO_4;clear ho hb hg hat;refine hK.out _ _ trivial (fun hHeld=>?_);clear hK K;refine nZ 48 ?_;refine pureZ 9 (some 4) (yA 10 0) ?_;refine done_ (done_of HT_.out (by kernel_rfl)) ?_;try go_wp2
       go_roundg k1
       case measure=>have:=HK1.out;omega
       case rel=>exact⟨(y477),(wrap64 (x5_1+1)),zz0,H',⟨(zz4 HK1)⟩,⟨(zz168 HO479)⟩,⟨(zz6 HB)⟩⟩
    ·simp only[oI_,pI_]at H
     obtain⟨rfl,rfl⟩:=H;have hcv46:=own_string (P:=Tryz.prog) Tryz.underlying37 Tryz.underlying5 Tryz.underlying9 (Kd.own_of_R HO_4.out);go_wp2
     go_ret2
     exact⟨zz9,(zz6 HB)⟩
def strings_Split.f (k:Nat)(a0:BA)(a1:BA):Option (List BA):=(strings_genSplit.f k a0 a1 0 (-1)).bind fun t450=>(some t450)
theorem strings_Split.mono:∀a0 a1 k,LeO (strings_Split.f k a0 a1) (strings_Split.f (k+1) a0 a1):=by
 intro a0 a1 k;unfold strings_Split.f
 repeat' first|(with_reducible first|exact strings_genSplit.mono _ _ _ _ _|exact LeO.refl _|exact LeO.none _|refine LeO.ite ?_ ?_|refine LeO.bind ?_ (fun _=>?_))|exact LeO.none _|refine LeO.ite ?_ ?_|refine LeO.bind ?_ (fun _=>?_)
theorem strings_Split.calls (k:Nat)(a0:BA)(a1:BA)(r:List BA)(w:World)(h:strings_Split.f k a0 a1=some r):
  Calls Tryz.prog 58 #[.string a0,.string a1] w fun e w'=>∃v0_:Value,e=.returned (v0_)∧Kd.R Kd.string 9 w' w.heap.size (fun _=>True) v0_ r∧Below w.heap.size w w':=by
 have HB:=A_ (Below.refl w.heap.size w);unfold strings_Split.f at h;have H:=h;clear h;replace H:=bindA H;obtain⟨t450,A3,H⟩:=H;obtain rfl:=sI H;go_enter Tryz.func58,Tryz.ntmps58;go_wp2_with (first|(refine gV 85 (some 7) Tryz.func85 (strings_genSplit.calls k a0 a1 0 (-1) t450 _ A3.out) ?_;rintro v451 w4 ⟨ho0,hb⟩;have HO452:=A_ (Kd.R_lower ho0 (below_size (zz6 HB)));replace HB:=A_ (bS (zz6 HB) hb);(try clear hb ho0)));go_ret;exact⟨_,zz9,(zz7 HO452),(zz6 HB)⟩
def impl_isNormal.f (k:Nat)(a0:BA):Option (Bool):=(impl_EscNorm.f k a0).bind fun bt480=>(if bt480.2=true then(some (bt480.1.toList==a0.toList))else(some false))
theorem impl_isNormal.mono:∀a0 k,LeO (impl_isNormal.f k a0) (impl_isNormal.f (k+1) a0):=by
 intro a0 k;unfold impl_isNormal.f
 repeat' first|(with_reducible first|exact impl_EscNorm.mono _ _|exact LeO.refl _|exact LeO.none _|refine LeO.ite ?_ ?_|refine LeO.bind ?_ (fun _=>?_))|exact LeO.none _|refine LeO.ite ?_ ?_|refine LeO.bind ?_ (fun _=>?_)
theorem impl_isNormal.calls (k:Nat)(a0:BA)(r:Bool)(w:World)(h:impl_isNormal.f k a0=some r):
  Calls Tryz.prog 135 #[.string a0] w fun e w'=>e=.returned (.bool r)∧Below w.heap.size w w':=by
 have HB:=A_ (Below.refl w.heap.size w);unfold impl_isNormal.f at h;have H:=h;clear h;replace H:=bindA H;obtain⟨⟨t480,t481⟩,A2,H⟩:=H;try dsimp only at H;have HF3:=A_ H;clear H;go_enter Tryz.func135,Tryz.ntmps135;go_wp2_with (first|(refine gR 132 (some 7) Tryz.func132 (impl_EscNorm.calls k a0 t480 t481 _ A2.out) ?_;rintro w4 hb;replace HB:=A_ (bS (zz6 HB) hb);(try clear hb))|((with_reducible refine atG ?_ ?_ fun K_ hK_=>?_);rfl;exact undecG)|((with_reducible refine atI ?_ fun K_ hK_=>?_);exact undecI));refine unG hK_ ?_;clear hK_ K_;obtain⟨H⟩:=HF3;replace H:=iteB H;rcases H with⟨rfl,H⟩|⟨rfl,H⟩
 ·(first|refine iteT ?_|refine iteF ?_|skip)
  obtain rfl:=sI H;(try((with_reducible refine upS ?_);go_simp));go_wp2;go_ret;exact⟨zz9,(zz6 HB)⟩
 ·(first|refine iteT ?_|refine iteF ?_|skip)
  obtain rfl:=sI H;(try((with_reducible refine upS ?_);go_simp));go_wp2;go_ret;exact⟨zz9,(zz6 HB)⟩
end Go.Proofs.YtloijngehifbmaaGreatDoor.P
end
section
namespace Go.Proofs.YtloijngehifbmaaGreatDoor.P
open Go.RowKit Go.Proofs.YtloijngehifbmaaGreatDoorW PrintWords PrintLast PrintMore
attribute [local go_sem] max2_int min2_int max_two min_two max_three min_three max_four min_four
set_option maxHeartbeats 8000000
set_option maxRecDepth 100000
attribute [local go_sem high] eqA93
def laws_lpRules.l0:Nat→List (S93)→List (S93)→Int→Option (Bool)
 |0,_,_,_=>none
 |k+1,x0,x1,x5=>if x5<(x0.length:Int)then(if 0≤x5 then(if x5<(x1.length:Int)then(if(!(((rd_T93 x0 x5).f0)==((rd_T93 x1 x5).f0))||(!((((rd_T93 x0 x5).f1).toList)==(((rd_T93 x1 x5).f1).toList))))=true then(some false)else(laws_lpRules.l0 k x0 x1 (wrap64 (x5+1))))else(none))else(none))else(some true)
def laws_lpRules.f (k:Nat)(l0:List (S93))(l1:List (S93)):Option (Bool):=if(l0.length:Int)=(l1.length:Int)then(laws_lpRules.l0 k l0 l1 0)else(some false)
theorem laws_lpRules.calls (k:Nat)(A0:Option Addr)(c0:Nat)(l0:List (S93))(A1:Option Addr)(c1:Nat)(l1:List (S93))(r:Bool)(w:World)(hr0:Kd.C k93 w A0 l0.length l0)(hc0:l0.length≤c0)(hr1:Kd.C k93 w A1 l1.length l1)(hc1:l1.length≤c1)(h:laws_lpRules.f k l0 l1=some r):
  Calls Tryz.prog 52 #[.slice A0 l0.length c0,.slice A1 l1.length c1] w fun e w'=>e=.returned (.bool r)∧Drawn0 w w':=by
 have hu93:=Tryz.underlying93;have HR0:=A_ hr0;have HC0:=A_ hc0;clear hr0 hc0;have HR1:=A_ hr1;have HC1:=A_ hc1;clear hr1 hc1;unfold laws_lpRules.f at h;have H:=h;clear h;replace H:=iteE H;rcases H with⟨c3,H⟩|⟨c3,H⟩
 ·obtain⟨c3b0,c3b1⟩:=eqT c3
  have c3b2:(l0.length==l1.length)=true:=by first|simpa using c3|(simp at c3 ⊢;omega)
  clear c3;have H':=A_ H;clear H;go_enter Tryz.func52,Tryz.ntmps52;go_wp2
  repeat(go_quiet (fail);try go_wp2)
  go_loopg [5] k (fun kq v5 w'=>∃(x5_1:Int),v5=.int .i64 x5_1∧Aside0 (laws_lpRules.l0 kq l0 l1 x5_1=some r)∧Aside0 (kq≤k)∧Drawn0 w w')
  case atStart=>exact⟨(0),zz0,H',⟨lL_ _⟩,zz1⟩
  case round=>
   clear H';obtain⟨x5_1,rfl,HA,HK1,⟨m1,rfl⟩⟩:=hrel;cases gk with
   |zero=>exact absurd HA.out (by simp[laws_lpRules.l0])
   |succ k1=>
    obtain⟨H⟩:=HA;simp only[laws_lpRules.l0]at H;replace H:=iteEd H;rcases H with⟨c4b0,H⟩|⟨c4b0,H⟩
    ·replace H:=iteNd H
     obtain⟨c5b0,H⟩:=H;replace H:=iteNd H;obtain⟨c6b0,H⟩:=H;replace H:=iteE H;rcases H with⟨c7,H⟩|⟨c7,H⟩
     ·have c7b0:(!(((rd_T93 l0 x5_1).f0)==((rd_T93 l1 x5_1).f0))||(!((((rd_T93 l0 x5_1).f1).toList)==(((rd_T93 l1 x5_1).f1).toList))))=true:=c7
      clear c7;obtain rfl:=sI H;obtain⟨⟨ad990,e990,hx990_0,hx990_1⟩,p990,q990⟩:=atB (at_T93 HR0.out x5_1);cases e990;obtain⟨⟨ad991,e991,hx991_0,hx991_1⟩,p991,q991⟩:=atB (at_T93 HR1.out x5_1);cases e991;go_wp2
      repeat(go_quiet (fail);try go_wp2)
      go_ret;exact⟨zz0,zz1⟩
     ·have c7b0:(!(((rd_T93 l0 x5_1).f0)==((rd_T93 l1 x5_1).f0))||(!((((rd_T93 l0 x5_1).f1).toList)==(((rd_T93 l1 x5_1).f1).toList))))=false:=by simpa using c7
      clear c7;have H':=A_ H;clear H;obtain⟨⟨ad990,e990,hx990_0,hx990_1⟩,p990,q990⟩:=atB (at_T93 HR0.out x5_1);cases e990;obtain⟨⟨ad991,e991,hx991_0,hx991_1⟩,p991,q991⟩:=atB (at_T93 HR1.out x5_1);cases e991;go_wp2
      repeat(go_quiet (fail);try go_wp2)
      go_roundg k1
      case measure=>have:=HK1.out;omega
      case rel=>exact⟨(wrap64 (x5_1+1)),zz0,H',⟨(zz4 HK1)⟩,zz1⟩
    ·obtain rfl:=sI H
     go_wp2
     repeat(go_quiet (fail);try go_wp2)
     go_ret;exact⟨zz0,zz1⟩
 ·obtain⟨c3b0,c3b1⟩:=eqF c3
  have c3b2:(l0.length==l1.length)=false:=by first|simpa using c3|(simp at c3 ⊢;omega)
  obtain rfl:=sI H;go_enter Tryz.func52,Tryz.ntmps52;go_wp2
  repeat(go_quiet (fail);try go_wp2)
  go_ret;exact⟨zz0,zz1⟩
end Go.Proofs.YtloijngehifbmaaGreatDoor.P
end
section
namespace Go.Proofs.YtloijngehifbmaaGreatDoor.P
open Go.RowKit Go.Proofs.YtloijngehifbmaaGreatDoorW PrintWords PrintLast PrintMore
attribute [local go_sem] max2_int min2_int max_two min_two max_three min_three max_four min_four
set_option maxHeartbeats 8000000
set_option maxRecDepth 100000
def laws_lpGroup.f (k:Nat)(l0_0:List BA)(l0_1:List (S93))(a0_2:Int)(l1_0:List BA)(l1_1:List (S93))(a1_2:Int):Option (Bool):=if a0_2=a1_2 then((laws_lpTexts.f k l0_0 l1_0).bind fun t994=>(if t994=true then((laws_lpRules.f k l0_1 l1_1).bind fun t995=>(some t995))else(some false)))else(some false)
theorem laws_lpGroup.calls (k:Nat)(A0_0:Option Addr)(c0_0:Nat)(l0_0:List BA)(A0_1:Option Addr)(c0_1:Nat)(l0_1:List (S93))(a0_2:Int)(A1_0:Option Addr)(c1_0:Nat)(l1_0:List BA)(A1_1:Option Addr)(c1_1:Nat)(l1_1:List (S93))(a1_2:Int)(r:Bool)(w:World)(hr0_0:Kd.C Kd.string w A0_0 l0_0.length l0_0)(hc0_0:l0_0.length≤c0_0)(hr0_1:Kd.C k93 w A0_1 l0_1.length l0_1)(hc0_1:l0_1.length≤c0_1)(hr1_0:Kd.C Kd.string w A1_0 l1_0.length l1_0)(hc1_0:l1_0.length≤c1_0)(hr1_1:Kd.C k93 w A1_1 l1_1.length l1_1)(hc1_1:l1_1.length≤c1_1)(h:laws_lpGroup.f k l0_0 l0_1 a0_2 l1_0 l1_1 a1_2=some r):
  Calls Tryz.prog 18 #[.agg #[.slice A0_0 l0_0.length c0_0,.slice A0_1 l0_1.length c0_1,.int .i64 a0_2],.agg #[.slice A1_0 l1_0.length c1_0,.slice A1_1 l1_1.length c1_1,.int .i64 a1_2]] w fun e w'=>e=.returned (.bool r)∧Below w.heap.size w w':=by
 have hu32:=Tryz.underlying32;have HR0_0:=A_ hr0_0;have HC0_0:=A_ hc0_0;clear hr0_0 hc0_0;have HR0_1:=A_ hr0_1;have HC0_1:=A_ hc0_1;clear hr0_1 hc0_1;have HR1_0:=A_ hr1_0;have HC1_0:=A_ hc1_0;clear hr1_0 hc1_0;have HR1_1:=A_ hr1_1;have HC1_1:=A_ hc1_1;clear hr1_1 hc1_1;have HB:=A_ (Below.refl w.heap.size w);unfold laws_lpGroup.f at h;have H:=h;clear h;have HF3:=A_ H;clear H;go_enter Tryz.func18,Tryz.ntmps18;go_wp2_with (first|(refine boxF 2 #[.slice A0_0 l0_0.length c0_0,.slice A0_1 l0_1.length c0_1,.int .i64 a0_2] 32 ?_;intro gb992 hg w4 BK992 hb;have GE992:=geB hg (zz6 HB);replace HB:=A_ (bS (zz6 HB) hb);clear hb hg)|(refine boxF 3 #[.slice A1_0 l1_0.length c1_0,.slice A1_1 l1_1.length c1_1,.int .i64 a1_2] 32 ?_;intro gb993 hg w5 BK993 hb;have GE993:=geB hg (zz19 HB GE992);replace HB:=A_ (bS (zz19 HB GE992) hb);have NB992_993:=A_ ((by rw[hg];exact Nat.ne_of_lt (blk_lt (zz18 BK992)):gb992≠gb993));have NB993_992:=A_ ((by rw[hg];exact Nat.ne_of_gt (blk_lt (zz18 BK992)):gb993≠gb992));replace BK992:=A_ (bB (zz18 BK992) hb);clear hb hg;have hnb6:=NB992_993.out;have hnc6:=NB993_992.out;obtain⟨_,_,_,_,_,_⟩:=cf3 BK992;obtain⟨_,_,_,_,_,_⟩:=cf3 BK993)|((with_reducible refine atG ?_ ?_ fun K_ hK_=>?_);rfl;exact undecG)|((with_reducible refine atI ?_ fun K_ hK_=>?_);exact undecI));refine unG hK_ ?_;clear hK_ K_;obtain⟨H⟩:=HF3;replace H:=iteE H;rcases H with⟨c9,H⟩|⟨c9,H⟩
 ·obtain⟨c9b0,c9b1⟩:=eqT c9
  (first|refine iteT ?_|refine iteF ?_|skip)
  clear c9;(first|rw[c9b0]|(simp only[i64_w,i32_w];rw[c9b0])|skip);replace H:=bindA H;obtain⟨t994,A10,H⟩:=H;have HF11:=A_ H;clear H;have hnb12:=NB992_993.out;have hnc12:=NB993_992.out;obtain⟨_,_,_,_,_,_⟩:=cf3 BK992;obtain⟨_,_,_,_,_,_⟩:=cf3 BK993;(try((with_reducible refine upS ?_);go_simp))
  go_wp2_with (first|(go_at_call 51;(with_reducible refine(laws_lpTexts.calls k _ _ l0_0 _ _ l1_0 t994 _ ?side1 ?side2 ?side3 ?side4 A10.out).mono ?_);(case side1=>exact(zz29 HR0_0 HB));(case side2=>exact HC0_0.out);(case side3=>exact(zz29 HR1_0 HB));(case side4=>exact HC1_0.out);rintro e w' ⟨rfl,⟨nd,rfl⟩⟩)|((with_reducible refine atG ?_ ?_ fun K_ hK_=>?_);rfl;exact undecG)|((with_reducible refine atI ?_ fun K_ hK_=>?_);exact undecI))
  refine unG hK_ ?_;clear hK_ K_;obtain⟨H⟩:=HF11;replace H:=iteB H;rcases H with⟨rfl,H⟩|⟨rfl,H⟩
  ·(first|refine iteT ?_|refine iteF ?_|skip)
   replace H:=bindA H;obtain⟨t995,A16,H⟩:=H;obtain rfl:=sI H;have hnb17:=NB992_993.out;have hnc17:=NB993_992.out;obtain⟨_,_,_,_,_,_⟩:=cf3 BK992;obtain⟨_,_,_,_,_,_⟩:=cf3 BK993;(try((with_reducible refine upS ?_);go_simp))
   go_wp2_with (first|(go_at_call 52;(with_reducible refine(laws_lpRules.calls k _ _ l0_1 _ _ l1_1 t995 _ ?side1 ?side2 ?side3 ?side4 A16.out).mono ?_);(case side1=>exact(zz29 HR0_1 HB));(case side2=>exact HC0_1.out);(case side3=>exact(zz29 HR1_1 HB));(case side4=>exact HC1_1.out);rintro e w' ⟨rfl,⟨nd,rfl⟩⟩))
   go_ret;exact⟨zz9,(zz26 HB GE992 GE993)⟩
  ·(first|refine iteT ?_|refine iteF ?_|skip)
   obtain rfl:=sI H;(try((with_reducible refine upS ?_);go_simp));go_wp2;go_ret;exact⟨zz9,(zz26 HB GE992 GE993)⟩
 ·obtain⟨c9b0,c9b1⟩:=eqF c9
  (first|refine iteT ?_|refine iteF ?_|skip)
  (first|rw[c9b0]|(simp only[i64_w,i32_w];rw[c9b0])|skip)
  obtain rfl:=sI H;(try((with_reducible refine upS ?_);go_simp));go_wp2;go_ret;exact⟨zz9,(zz26 HB GE992 GE993)⟩
mutual
def impl_AddrOk.j0:Nat→Bool→BA→List BA→Bool→BA→Option (Bool)
 |0,_,_,_,_,_=>none
 |k+1,x14,x487000,x487001,x487002,x487003=>if x14=true then(some false)else(impl_AddrOk.l0 k x487001 (x487001.length:Int) 0 x487000 x487001 x487002 x487003)
def impl_AddrOk.l0:Nat→List BA→Int→Int→BA→List BA→Bool→BA→Option (Bool)
 |0,_,_,_,_,_,_,_=>none
 |k+1,x16,x17,x18,x487000,x487001,x487002,x487003=>if x18<x17 then(if 0≤x18 then(if x18<(x16.length:Int)then(if(rdOf bE_ x16 x18).toList=([]:List UInt8)then(some false)else(if(rdOf bE_ x16 x18).toList=([46]:List UInt8)then(some false)else(if(rdOf bE_ x16 x18).toList=([46,46]:List UInt8)then(some false)else((impl_isNormal.f k (rdOf bE_ x16 x18)).bind fun t489=>(if t489=true then(impl_AddrOk.l0 k x16 x17 (wrap64 (x18+1)) x487000 x487001 x487002 x487003)else(some false))))))else(none))else(none))else((impl_isNormal.f k x487003).bind fun t490=>(if t490=true then(if x487002=true then((impl_writeAddr.f x487000 x487001 x487002 x487003).bind fun t491=>(some (decide ((t491.size:Int)≤60))))else(if x487003.toList=([]:List UInt8)then((impl_writeAddr.f x487000 x487001 x487002 x487003).bind fun t492=>(some (decide ((t492.size:Int)≤60))))else(some false)))else(some false)))
end
def impl_AddrOk.f (k:Nat)(a0_0:BA)(l0_1:List BA)(a0_2:Bool)(a0_3:BA):Option (Bool):=(impl_isHouse.f k a0_0).bind fun t487=>(if t487=true then(impl_AddrOk.j0 k (decide ((l0_1.length:Int)>5)) a0_0 l0_1 a0_2 a0_3)else(impl_AddrOk.j0 k true a0_0 l0_1 a0_2 a0_3))
theorem impl_AddrOk.mono_l:∀k,(∀y0 y1 y2 y3 y4,LeO (impl_AddrOk.j0 k y0 y1 y2 y3 y4) (impl_AddrOk.j0 (k+1) y0 y1 y2 y3 y4))∧(∀y0 y1 y2 y3 y4 y5 y6,LeO (impl_AddrOk.l0 k y0 y1 y2 y3 y4 y5 y6) (impl_AddrOk.l0 (k+1) y0 y1 y2 y3 y4 y5 y6))
 |0=>by refine⟨?_,?_⟩ <;> (intros;intro r h;simp[impl_AddrOk.j0,impl_AddrOk.l0]at h)
 |k+1=>by
  obtain⟨ih0,ih1⟩:=impl_AddrOk.mono_l k;refine⟨?_,?_⟩ <;> intros <;> (first|unfold impl_AddrOk.j0|unfold impl_AddrOk.l0) <;>
  repeat' first|(with_reducible first|exact ih0 _ _ _ _ _|exact ih1 _ _ _ _ _ _ _|exact impl_isHouse.mono _ _|exact impl_isNormal.mono _ _|exact LeO.refl _|exact LeO.none _|refine LeO.ite ?_ ?_|refine LeO.bind ?_ (fun _=>?_))|exact LeO.none _|refine LeO.ite ?_ ?_|refine LeO.bind ?_ (fun _=>?_)
theorem impl_AddrOk.mono:∀a0 a1 a2 a3 k,LeO (impl_AddrOk.f k a0 a1 a2 a3) (impl_AddrOk.f (k+1) a0 a1 a2 a3):=by
 intro a0 a1 a2 a3 k;obtain⟨ih0,ih1⟩:=impl_AddrOk.mono_l k;unfold impl_AddrOk.f
 repeat' first|(with_reducible first|exact ih0 _ _ _ _ _|exact ih1 _ _ _ _ _ _ _|exact impl_isHouse.mono _ _|exact impl_isNormal.mono _ _|exact LeO.refl _|exact LeO.none _|refine LeO.ite ?_ ?_|refine LeO.bind ?_ (fun _=>?_))|exact LeO.none _|refine LeO.ite ?_ ?_|refine LeO.bind ?_ (fun _=>?_)
theorem impl_AddrOk.calls (k:Nat)(a0_0:BA)(A0_1:Option Addr)(c0_1:Nat)(l0_1:List BA)(a0_2:Bool)(a0_3:BA)(r:Bool)(w:World)(hr0_1:Kd.C Kd.string w A0_1 l0_1.length l0_1)(hc0_1:l0_1.length≤c0_1)(h:impl_AddrOk.f k a0_0 l0_1 a0_2 a0_3=some r):
  Calls Tryz.prog 101 #[.agg #[.string a0_0,.slice A0_1 l0_1.length c0_1,.bool a0_2,.string a0_3]] w fun e w'=>e=.returned (.bool r)∧Below w.heap.size w w':=by
 have hu51:=Tryz.underlying51;have HR0_1:=A_ hr0_1;have HC0_1:=A_ hc0_1;clear hr0_1 hc0_1;have HB:=A_ (Below.refl w.heap.size w);unfold impl_AddrOk.f at h;have H:=h;clear h;have HC2:=A_ H;clear H;go_enter Tryz.func101,Tryz.ntmps101;go_upto_region 1 with(first|((with_reducible refine gD (N:=1) rfl ?_);(try(refine gate_guard (by rfl) ?_;dsimp only));refine boxE 1 #[.string a0_0,.slice A0_1 l0_1.length c0_1,.bool a0_2,.string a0_3] 51 ?_;intro gb486 hg w3 hbox hb;have BK486:=A_ (hbox);have GE486:=geB hg (zz6 HB);replace HB:=A_ (bS (zz6 HB) hb);clear hb hbox hg))
 (try simp only[Act.put,lS_,l0_,lC_])
 go_cut [14] (fun v14 wc=>∃(kq:Nat)(x14_1:Bool),v14=.bool x14_1∧Aside0 (impl_AddrOk.j0 kq x14_1 a0_0 l0_1 a0_2 a0_3=some r)∧Aside0 (kq≤k)∧Aside0 (wc.heap[gb486]?=some (.cells #[.string a0_0,(.slice A0_1 l0_1.length c0_1),.bool a0_2,.string a0_3] 51 (0,0)))∧Aside0 (Below w.heap.size w wc))
 case first=>
  obtain⟨H⟩:=HC2;replace H:=bindA H;obtain⟨t487,A4,H⟩:=H;have HF5:=A_ H;clear H;obtain⟨_,_,_,_,_,_,_,_⟩:=cf4 BK486;go_wp2_with (first|(refine gR 38 (some 7) Tryz.func38 (impl_isHouse.calls k a0_0 t487 _ A4.out) ?_;rintro w' ⟨nd,rfl⟩)|((with_reducible refine atG ?_ ?_ fun K_ hK_=>?_);rfl;exact undecG)|((with_reducible refine atI ?_ fun K_ hK_=>?_);exact undecI));refine unG hK_ ?_;clear hK_ K_;obtain⟨H⟩:=HF5;replace H:=iteB H;rcases H with⟨rfl,H⟩|⟨rfl,H⟩
  ·(first|refine iteT ?_|refine iteF ?_|skip)
   have H':=A_ H;clear H;obtain⟨_,_,_,_,_,_,_,_⟩:=cf4 BK486;(try((with_reducible refine upS ?_);go_simp));go_wp2
   go_meet
   case rel=>exact⟨_,(decide ((l0_1.length:Int)>5)),zz0,H',⟨zz10⟩,⟨(zz18 BK486)⟩,⟨(zz19 HB GE486)⟩⟩
  ·(first|refine iteT ?_|refine iteF ?_|skip)
   have H':=A_ H;clear H;(try((with_reducible refine upS ?_);go_simp));go_wp2
   go_meet
   case rel=>exact⟨_,(true),zz0,H',⟨zz10⟩,⟨(zz18 BK486)⟩,⟨(zz19 HB GE486)⟩⟩
 case rest=>
  clear HC2;obtain⟨kq,x14_1,rfl,HA,HJ1,BK486,HB⟩:=hcut;cases kq with
  |zero=>exact absurd HA.out (by simp[impl_AddrOk.j0])
  |succ kj1=>
   obtain⟨H⟩:=HA;simp only[impl_AddrOk.j0]at H;replace H:=iteB H;rcases H with⟨rfl,H⟩|⟨rfl,H⟩
   ·obtain rfl:=sI H
    go_wp2;go_ret;exact⟨zz9,(zz19 HB GE486)⟩
   ·have H':=A_ H
    clear H;obtain⟨_,_,_,_,_,_,_,_⟩:=cf4 BK486;go_wp2
    go_loopg [18] kj1 (fun kq v18 w'=>∃(x18_2:Int),v18=.int .i64 x18_2∧Aside0 (impl_AddrOk.l0 kq l0_1 (l0_1.length:Int) x18_2 a0_0 l0_1 a0_2 a0_3=some r)∧Aside0 (kq≤kj1)∧Aside0 (w'.heap[gb486]?=some (.cells #[.string a0_0,(.slice A0_1 l0_1.length c0_1),.bool a0_2,.string a0_3] 51 (0,0)))∧Aside0 (Below w.heap.size w w'))
    case atStart=>exact⟨(0),zz0,H',⟨lL_ _⟩,⟨(zz18 BK486)⟩,⟨(zz19 HB GE486)⟩⟩
    case round=>
     clear H';obtain⟨x18_2,rfl,HA,HK2,BK486,HB⟩:=hrel;cases gk with
     |zero=>exact absurd HA.out (by simp[impl_AddrOk.l0])
     |succ k2=>
      obtain⟨H⟩:=HA;simp only[impl_AddrOk.l0]at H;replace H:=iteEd H;rcases H with⟨c11b0,H⟩|⟨c11b0,H⟩
      ·replace H:=iteNd H
       obtain⟨c12b0,H⟩:=H;replace H:=iteNd H;obtain⟨c13b0,H⟩:=H;replace H:=iteEq H;rcases H with⟨c14b0,c14b1,H⟩|⟨c14b0,c14b1,c14,H⟩
       ·obtain rfl:=sI H
        obtain⟨⟨ad488,e488,hx488_0⟩,p488,q488⟩:=atB (Kd.at_string HR0_1.out x18_2);cases e488;replace hx488_0:=cbl HB hx488_0;go_wp2;go_ret;exact⟨zz9,(zz19 HB GE486)⟩
       ·replace H:=iteEq H
        rcases H with⟨c15b0,c15b1,H⟩|⟨c15b0,c15b1,c15,H⟩
        ·obtain rfl:=sI H
         obtain⟨⟨ad488,e488,hx488_0⟩,p488,q488⟩:=atB (Kd.at_string HR0_1.out x18_2);cases e488;replace hx488_0:=cbl HB hx488_0;go_wp2;go_ret;exact⟨zz9,(zz19 HB GE486)⟩
        ·replace H:=iteEq H
         rcases H with⟨c16b0,c16b1,H⟩|⟨c16b0,c16b1,c16,H⟩
         ·obtain rfl:=sI H
          obtain⟨⟨ad488,e488,hx488_0⟩,p488,q488⟩:=atB (Kd.at_string HR0_1.out x18_2);cases e488;replace hx488_0:=cbl HB hx488_0;go_wp2;go_ret;exact⟨zz9,(zz19 HB GE486)⟩
         ·replace H:=bindA H
          obtain⟨t489,A17,H⟩:=H;have HF18:=A_ H;clear H;obtain⟨⟨ad488,e488,hx488_0⟩,p488,q488⟩:=atB (Kd.at_string HR0_1.out x18_2);cases e488;replace hx488_0:=cbl HB hx488_0;go_upto_if 36 with(first|(go_at_call 135;(with_reducible refine(impl_isNormal.calls k2 (rdOf bE_ l0_1 x18_2) t489 _ A17.out).mono ?_);rintro e w19 ⟨rfl,hb⟩;replace BK486:=A_ (bB (zz18 BK486) hb);replace HB:=A_ (bS (zz19 HB GE486) hb);(try clear hb)))
          obtain⟨H⟩:=HF18;replace H:=iteB H;rcases H with⟨rfl,H⟩|⟨rfl,H⟩
          ·have H':=A_ H
           clear H;go_wp2
           go_roundg k2
           case measure=>have:=HJ1.out;have:=HK2.out;omega
           case rel=>exact⟨(wrap64 (x18_2+1)),zz0,H',⟨(zz16 HJ1 HK2)⟩,⟨(zz18 BK486)⟩,⟨(zz19 HB GE486)⟩⟩
          ·obtain rfl:=sI H
           go_wp2;go_ret;exact⟨zz9,(zz19 HB GE486)⟩
      ·replace H:=bindA H
       obtain⟨t490,A21,H⟩:=H;have HF22:=A_ H;clear H;obtain⟨_,_,_,_,_,_,_,_⟩:=cf4 BK486;go_wp2_with (first|(refine gR 135 (some 40) Tryz.func135 (impl_isNormal.calls k2 a0_3 t490 _ A21.out) ?_;rintro w24 hb;replace BK486:=A_ (bB (zz18 BK486) hb);replace HB:=A_ (bS (zz19 HB GE486) hb);(try clear hb))|((with_reducible refine atG ?_ ?_ fun K_ hK_=>?_);rfl;exact undecG)|((with_reducible refine atI ?_ fun K_ hK_=>?_);exact undecI));refine unG hK_ ?_;clear hK_ K_;obtain⟨H⟩:=HF22;replace H:=iteB H;rcases H with⟨rfl,H⟩|⟨rfl,H⟩
       ·(first|refine iteT ?_|refine iteF ?_|skip)
        replace H:=iteB H;rcases H with⟨rfl,H⟩|⟨rfl,H⟩
        ·replace H:=bindA H
         obtain⟨t491,A27,H⟩:=H;obtain rfl:=sI H;obtain⟨_,_,_,_,_,_,_,_⟩:=cf4 BK486;go_wp2_with (first|(refine gR 136 (some 53) Tryz.func136 (impl_writeAddr.calls a0_0 _ _ l0_1 true a0_3 t491 _ ?side1 ?side2 A27.out) ?_;(case side1=>exact(zz29 HR0_1 HB));(case side2=>exact HC0_1.out);rintro w29 hb;replace BK486:=A_ (bB (zz18 BK486) hb);replace HB:=A_ (bS (zz19 HB GE486) hb);(try clear hb)));go_ret;exact⟨zz9,(zz19 HB GE486)⟩
        ·replace H:=iteE H
         rcases H with⟨c30,H⟩|⟨c30,H⟩
         ·obtain⟨c30b0,c30b1⟩:=eqT c30
          clear c30;replace H:=bindA H;obtain⟨t492,A31,H⟩:=H;obtain rfl:=sI H;obtain⟨_,_,_,_,_,_,_,_⟩:=cf4 BK486;go_wp2_with (first|(refine gR 136 (some 53) Tryz.func136 (impl_writeAddr.calls a0_0 _ _ l0_1 false a0_3 t492 _ ?side1 ?side2 A31.out) ?_;(case side1=>exact(zz29 HR0_1 HB));(case side2=>exact HC0_1.out);rintro w33 hb;replace BK486:=A_ (bB (zz18 BK486) hb);replace HB:=A_ (bS (zz19 HB GE486) hb);(try clear hb)));go_ret;exact⟨zz9,(zz19 HB GE486)⟩
         ·obtain⟨c30b0,c30b1⟩:=eqF c30
          obtain rfl:=sI H;obtain⟨_,_,_,_,_,_,_,_⟩:=cf4 BK486;go_wp2;go_ret;exact⟨zz9,(zz19 HB GE486)⟩
       ·(first|refine iteT ?_|refine iteF ?_|skip)
        obtain rfl:=sI H;(try((with_reducible refine upS ?_);go_simp));go_wp2;go_ret;exact⟨zz9,(zz19 HB GE486)⟩
def impl_readWay.l0:Nat→BA→BA→Bool→List BA→List BA→Int→Int→Option (BA×List BA×Bool×BA×Bool)
 |0,_,_,_,_,_,_,_=>none
 |k+1,x0,x9,x10,x12,x35,x36,x37=>if x37<x36 then(if 0≤x37 then(if x37<(x35.length:Int)then((impl_EscNorm.f k (rdOf bE_ x35 x37)).bind fun bt513=>(if bt513.2=true then(if x12.length<8796093022208 then(impl_readWay.l0 k x0 x9 x10 (x12++[bt513.1]) x35 x36 (wrap64 (x37+1)))else(none))else(some ((⟨#[]⟩:BA),([]:List BA),false,(⟨#[]⟩:BA),false))))else(none))else(none))else((impl_PathClean.f k x12).bind fun t518=>((impl_AddrOk.f k x0 t518 x10 x9).bind fun t522=>(if t522=true then(some (x0,t518,x10,x9,true))else(some ((⟨#[]⟩:BA),([]:List BA),false,(⟨#[]⟩:BA),false)))))
def impl_readWay.f (k:Nat)(a0:BA)(l1:List BA)(a2:BA):Option (BA×List BA×Bool×BA×Bool):=(strings_Cut.f a2 (⟨#[63]⟩:BA)).bind fun bt501=>((impl_EscNorm.f k bt501.2.1).bind fun bt504=>(if bt504.2=true then((slices_Clone_string_string.f l1).bind fun t506=>((strings_Split.f k bt501.1 (⟨#[47]⟩:BA)).bind fun t509=>(impl_readWay.l0 k a0 bt504.1 bt501.2.2 t506 t509 (t509.length:Int) 0)))else(some ((⟨#[]⟩:BA),([]:List BA),false,(⟨#[]⟩:BA),false))))
theorem impl_readWay.mono_l:∀k,(∀y0 y1 y2 y3 y4 y5 y6,LeO (impl_readWay.l0 k y0 y1 y2 y3 y4 y5 y6) (impl_readWay.l0 (k+1) y0 y1 y2 y3 y4 y5 y6))
 |0=>by intros;intro r h;simp[impl_readWay.l0]at h
 |k+1=>by
  have ih0:=impl_readWay.mono_l k;intros;unfold impl_readWay.l0;repeat' first|(with_reducible first|exact ih0 _ _ _ _ _ _ _|exact impl_AddrOk.mono _ _ _ _ _|exact impl_EscNorm.mono _ _|exact impl_PathClean.mono _ _|exact strings_Split.mono _ _ _|exact LeO.refl _|exact LeO.none _|refine LeO.ite ?_ ?_|refine LeO.bind ?_ (fun _=>?_))|exact LeO.none _|refine LeO.ite ?_ ?_|refine LeO.bind ?_ (fun _=>?_)
theorem impl_readWay.mono:∀a0 a1 a2 k,LeO (impl_readWay.f k a0 a1 a2) (impl_readWay.f (k+1) a0 a1 a2):=by
 intro a0 a1 a2 k;have ih0:=impl_readWay.mono_l k;unfold impl_readWay.f
 repeat' first|(with_reducible first|exact ih0 _ _ _ _ _ _ _|exact impl_AddrOk.mono _ _ _ _ _|exact impl_EscNorm.mono _ _|exact impl_PathClean.mono _ _|exact strings_Split.mono _ _ _|exact LeO.refl _|exact LeO.none _|refine LeO.ite ?_ ?_|refine LeO.bind ?_ (fun _=>?_))|exact LeO.none _|refine LeO.ite ?_ ?_|refine LeO.bind ?_ (fun _=>?_)
theorem impl_readWay.calls (k:Nat)(a0:BA)(A1:Option Addr)(c1:Nat)(l1:List BA)(a2:BA)(r1:BA)(r2:List BA)(r3:Bool)(r4:BA)(r5:Bool)(w:World)(hr1:Kd.C Kd.string w A1 l1.length l1)(hc1:l1.length≤c1)(h:impl_readWay.f k a0 l1 a2=some (r1,r2,r3,r4,r5)):
  Calls Tryz.prog 99 #[.string a0,.slice A1 l1.length c1,.string a2] w fun e w'=>∃v1_:Value,e=.returned (.tuple #[.agg #[.string r1,v1_,.bool r3,.string r4],.bool r5])∧Kd.R Kd.string 9 w' w.heap.size (fun _=>True) v1_ r2∧Below w.heap.size w w':=by
 have hu51:=Tryz.underlying51;have HR1:=A_ hr1;have HC1:=A_ hc1;clear hr1 hc1;have HB:=A_ (Below.refl w.heap.size w);unfold impl_readWay.f at h;have H:=h;clear h;replace H:=bindA H;obtain⟨⟨t501,t502,t503⟩,A4,H⟩:=H;try dsimp only at H;replace H:=bindA H;obtain⟨⟨t504,t505⟩,A5,H⟩:=H;try dsimp only at H;have HF6:=A_ H;clear H;go_enter Tryz.func99,Tryz.ntmps99;go_upto_if 30 with(first|(refine boxF 6 #[.string (⟨#[]⟩:BA),.slice none 0 0,.bool false,.string (⟨#[]⟩:BA)] 51 ?_;intro gb500 hg w7 BK500 hb;have GE500:=geB hg (zz6 HB);replace HB:=A_ (bS (zz6 HB) hb);clear hb hg)|(refine gR 70 (some 20) Tryz.func70 (strings_Cut.calls a2 (⟨#[63]⟩:BA) t501 t502 t503 _ A4.out) ?_;rintro w8 hb;replace BK500:=A_ (bB (zz18 BK500) hb);replace HB:=A_ (bS (zz19 HB GE500) hb);(try clear hb))|(refine gR 132 (some 26) Tryz.func132 (impl_EscNorm.calls k t502 t504 t505 _ A5.out) ?_;rintro w9 hb;replace BK500:=A_ (bB (zz18 BK500) hb);replace HB:=A_ (bS (zz19 HB GE500) hb);(try clear hb)))
 obtain⟨H⟩:=HF6;replace H:=iteB H;rcases H with⟨rfl,H⟩|⟨rfl,H⟩
 ·replace H:=bindA H
  obtain⟨t506,A11,H⟩:=H;replace H:=bindA H;obtain⟨t509,A12,H⟩:=H;have H':=A_ H;clear H;go_wp2_with (first|(refine gV 133 (some 33) Tryz.func133 (slices_Clone_string_string.calls _ _ l1 t506 _ ?side1 ?side2 A11.out) ?_;(case side1=>exact(zz29 HR1 HB));(case side2=>exact HC1.out);rintro v507 w13 ⟨ho0,hb⟩;have HO508:=A_ (Kd.R_lower ho0 (below_size (zz19 HB GE500)));replace BK500:=A_ (bB (zz18 BK500) hb);replace HB:=A_ (bS (zz19 HB GE500) hb);(try clear hb ho0))|(refine gV 58 (some 35) Tryz.func58 (strings_Split.calls k t501 (⟨#[47]⟩:BA) t509 _ A12.out) ?_;rintro v510 w14 ⟨ho0,hb⟩;have HO511:=A_ (Kd.R_lower (Kd.R_new' ho0 (Kd.R_lt (zz7 HO508))) (below_size (zz19 HB GE500)));replace HO508:=A_ (Kd.R_elder' (zz7 HO508) (Kd.R_base ho0) hb);replace BK500:=A_ (bB (zz18 BK500) hb);replace HB:=A_ (bS (zz19 HB GE500) hb);(try clear hb ho0);obtain⟨Ao15,co15,eo15⟩:=Kd.R_slice HO511.out;subst eo15))
  go_loopg [12,37] k (fun kq v12 v37 w'=>∃(x12_1:List BA)(x37_1:Int)(x501000_1:BA)(x501002_1:Bool)(x501003_1:BA),v37=.int .i64 x37_1∧Aside0 (impl_readWay.l0 kq a0 t504 t503 x12_1 t509 (t509.length:Int) x37_1=some (r1,r2,r3,r4,r5))∧Aside0 (kq≤k)∧Aside0 (Kd.R Kd.string 9 w' w.heap.size (fun k_=>some k_≠((.slice Ao15 t509.length co15):Value).ownBlock) v12 x12_1)∧Aside0 (Kd.R Kd.string 9 w' w.heap.size (fun k_=>some k_≠(v12:Value).ownBlock) (.slice Ao15 t509.length co15) t509)∧Aside0 (w'.heap[gb500]?=some (.cells #[.string x501000_1,(.slice none 0 0),.bool x501002_1,.string x501003_1] 51 (0,0)))∧Aside0 (Below w.heap.size w w'))
  case atStart=>exact⟨(t506),(0),((⟨#[]⟩:BA)),(false),((⟨#[]⟩:BA)),zz0,H',⟨lL_ _⟩,⟨(zz103 HO508)⟩,⟨(zz103 HO511)⟩,⟨(zz18 BK500)⟩,⟨(zz19 HB GE500)⟩⟩
  case round=>
   clear H';obtain⟨x12_1,x37_1,x501000_1,x501002_1,x501003_1,rfl,HA,HK1,HO_12,HO_35,BK500,HB⟩:=hrel;cases gk with
   |zero=>exact absurd HA.out (by simp[impl_readWay.l0])
   |succ k1=>
    obtain⟨H⟩:=HA;simp only[impl_readWay.l0]at H;replace H:=iteEd H;rcases H with⟨c16b0,H⟩|⟨c16b0,H⟩
    ·(first|rw[c16b0]|(simp only[i64_w,i32_w];rw[c16b0])|skip)
     replace H:=iteNd H;obtain⟨c17b0,H⟩:=H;replace H:=iteNd H;obtain⟨c18b0,H⟩:=H;replace H:=bindA H;obtain⟨⟨t513,t514⟩,A19,H⟩:=H;try dsimp only at H;have HF20:=A_ H;clear H;obtain⟨⟨ad512,e512,hx512_0⟩,p512,q512⟩:=atB (Kd.at_string (Kd.R_reads' HO_35.out).2.2 x37_1);cases e512
     go_upto_if 47 with(first|(refine gR 132 (some 43) Tryz.func132 (impl_EscNorm.calls k1 (rdOf bE_ t509 x37_1) t513 t514 _ A19.out) ?_;rintro w21 hb;replace HO_12:=A_ (rB (zz7 HO_12) hb);replace HO_35:=A_ (rB (zz7 HO_35) hb);replace BK500:=A_ (bB (zz18 BK500) hb);replace HB:=A_ (bS (zz19 HB GE500) hb);(try clear hb)))
     obtain⟨H⟩:=HF20;replace H:=iteB H;rcases H with⟨rfl,H⟩|⟨rfl,H⟩
     ·replace H:=iteN H
      obtain⟨c23,H⟩:=H;have LMc23:=A_ c23;clear c23;obtain⟨y515,Ny515⟩:=toY (x12_1++[t513]);(first|with_reducible replace H:=bindZ Ny515 H|rw[←Ny515.out]at H|skip);have H':=A_ H;clear H;go_wp2_with (first|((with_reducible refine gate_builtin (b:=.append) (xs:=#[.tmp 49,.tmp 51]) rfl ?_);at_builtin;refine Kd.R_append Kd.string (w0:=w) w.heap.size rfl (.tmp 49) (.tmp 51) 29 9 (.string ⟨#[]⟩) 16 rfl Tryz.underlying29 info9 rfl (by decide) (by omega) u12 x12_1 t513 [.string t513] (fun k_=>some k_≠(.slice (some ad512) t509.length co15:Value).ownBlock) (fun _=>False) rfl rfl ?aP (fun _ hk=>hk.elim) ?aF ?aO ?aB ?aS ?aL ?_;(case aP=>exact rfl);(case aB=>exact(zz19 HB GE500));(case aF=>exact(fun k_ hk=>Kd.fresh' (Kd.R_lt (zz7 HO_35)) k_ hk));(case aO=>exact(zz7 HO_12));(case aS=>exact(below_size (zz19 HB GE500)));(case aL=>exact(zz4 LMc23));intro v516 w24 ho hb hg hat;rw[←Ny515.out]at ho;replace HO_35:=A_ (Kd.R_after (ok:=(fun _=>True)) (zz107 HO_35) hg hat);replace BK500:=A_ (blk_grown (zz18 BK500) hg (Kd.R_ne HO_12.out BK500.out (by decide)));replace HB:=A_ (hb);have HO517:=A_ (ho);clear HO_12;clear ho hb hg hat))
      go_roundg k1
      case measure=>have:=HK1.out;omega
      case rel=>exact⟨(y515),(wrap64 (x37_1+1)),(x501000_1),(x501002_1),(x501003_1),zz0,H',⟨(zz4 HK1)⟩,⟨(zz7 HO517)⟩,⟨(zz103 HO_35)⟩,⟨(zz18 BK500)⟩,⟨(zz19 HB GE500)⟩⟩
     ·simp only[oI_,pI_]at H
      obtain⟨rfl,rfl,rfl,rfl,rfl⟩:=H;obtain⟨_,_,_,_,_,_,_,_⟩:=cf4 BK500;go_wp2;refine pR (results_ct rfl _ _ gb500 51 #[.string (⟨#[]⟩:BA),.slice none 0 0,.bool false,.string (⟨#[]⟩:BA)] (0,0) _ rfl (zz22 BK500) Tryz.underlying51 rfl (by kernel_rfl)) rfl ?_;exact⟨_,zz9,zz68,(zz19 HB GE500)⟩
    ·(first|rw[c16b0]|(simp only[i64_w,i32_w];rw[c16b0])|skip)
     replace H:=bindA H;obtain⟨t518,A26,H⟩:=H;replace H:=bindA H;obtain⟨t522,A27,H⟩:=H;have HF28:=A_ H;clear H;obtain⟨Ao29,co29,eo29⟩:=Kd.R_slice HO_12.out;subst eo29;go_upto_if 62 with(first|(refine gV 134 (some 56) Tryz.func134 (impl_PathClean.calls k1 _ _ x12_1 t518 _ ?side1 ?side2 A26.out) ?_;(case side1=>exact(zz46 HO_12));(case side2=>exact(Kd.R_reads' HO_12.out).2.1);rintro v519 w30 ⟨ho0,hb⟩;have HO520:=A_ (Kd.R_lower (Kd.R_new' (Kd.R_new' ho0 (Kd.R_lt (zz7 HO_12))) (Kd.R_lt (zz7 HO_35))) (below_size (zz19 HB GE500)));replace HO_12:=A_ (Kd.R_elder' (zz7 HO_12) (Kd.R_base ho0) hb);replace HO_35:=A_ (Kd.R_elder' (zz7 HO_35) (Kd.R_base ho0) hb);replace BK500:=A_ (bB (zz18 BK500) hb);replace HB:=A_ (bS (zz19 HB GE500) hb);(try clear hb ho0);obtain⟨Ao31,co31,eo31⟩:=Kd.R_slice HO520.out;subst eo31)|(refine boxF 17 #[.string (⟨#[]⟩:BA),.slice none 0 0,.bool false,.string (⟨#[]⟩:BA)] 51 ?_;intro gb521 hg w32 BK521 hb;replace HO_12:=A_ (rB (zz7 HO_12) hb);replace HO_35:=A_ (rB (zz7 HO_35) hb);replace HO520:=A_ (rB (zz7 HO520) hb);have GE521:=geB hg (zz19 HB GE500);replace HB:=A_ (bS (zz19 HB GE500) hb);have NB500_521:=A_ ((by rw[hg];exact Nat.ne_of_lt (blk_lt (zz18 BK500)):gb500≠gb521));have NB521_500:=A_ ((by rw[hg];exact Nat.ne_of_gt (blk_lt (zz18 BK500)):gb521≠gb500));replace BK500:=A_ (bB (zz18 BK500) hb);clear hb hg;have hnb33:=NB521_500.out;have hnc33:=NB500_521.out;obtain⟨_,_,_,_,_,_,_,_⟩:=cf4 BK521)|((with_reducible refine gC (f:=101) rfl ?_);refine gsL (some 61) Tryz.func101 #[.agg #[.string a0,.slice Ao31 t518.length co31,.bool t503,.string t504]] ?_;(with_reducible refine(impl_AddrOk.calls k1 a0 _ _ t518 t503 t504 t522 _ ?side1 ?side2 A27.out).mono ?_);(case side1=>exact(by refine(Kd.R_reads' (e:=9) (base:=w.heap.size) (ok:=fun k_=>((True∧some k_≠(.slice Ao29 x12_1.length co29:Value).ownBlock)∧some k_≠(.slice Ao15 t509.length co15:Value).ownBlock)) (n:=t518.length) (c:=co31) ?_).2.2;exact(zz249 HO520 BK521)));(case side2=>exact(Kd.R_reads' HO520.out).2.1);rintro e w35 ⟨rfl,hb⟩;refine⟨_,rfl,?_⟩;replace HO_12:=A_ (rB (zz249 HO_12 BK521) hb);replace HO_35:=A_ (rB (zz249 HO_35 BK521) hb);replace HO520:=A_ (rB (zz249 HO520 BK521) hb);replace BK500:=A_ (bB (g:=gb500) (o:=.cells #[.string x501000_1,.slice none 0 0,.bool x501002_1,.string x501003_1] 51 (0,0)) (zz24 BK500 NB500_521) hb);replace BK521:=A_ (bB (g:=gb521) (o:=.cells #[.string a0,.slice Ao31 t518.length co31,.bool t503,.string t504] 51 (0,0)) (zz22 BK521) hb);replace HB:=A_ (bS (zz26 HB GE500 GE521) hb);(try clear hb)))
     obtain⟨H⟩:=HF28;replace H:=iteB H;rcases H with⟨rfl,H⟩|⟨rfl,H⟩
     ·simp only[oI_,pI_]at H
      obtain⟨rfl,rfl,rfl,rfl,rfl⟩:=H;have hnb37:=NB521_500.out;have hnc37:=NB500_521.out;obtain⟨_,_,_,_,_,_,_,_⟩:=cf4 BK521;obtain⟨_,_,_,_,_,_,_,_⟩:=cf4 BK500;go_wp2;refine pR (results_ct rfl _ _ gb500 51 #[.string a0,.slice Ao31 t518.length co31,.bool t503,.string t504] (0,0) _ rfl (zz22 BK500) Tryz.underlying51 rfl (by kernel_rfl)) rfl ?_;exact⟨_,zz9,(zz23 (rt HO520 BK500)),(zz26 HB GE500 GE521)⟩
     ·simp only[oI_,pI_]at H
      obtain⟨rfl,rfl,rfl,rfl,rfl⟩:=H;have hnb40:=NB500_521.out;have hnc40:=NB521_500.out;obtain⟨_,_,_,_,_,_,_,_⟩:=cf4 BK500;go_wp2;refine pR (results_ct rfl _ _ gb500 51 #[.string (⟨#[]⟩:BA),.slice none 0 0,.bool false,.string (⟨#[]⟩:BA)] (0,0) _ rfl (zz22 BK500) Tryz.underlying51 rfl (by kernel_rfl)) rfl ?_;exact⟨_,zz9,zz68,(zz26 HB GE500 GE521)⟩
 ·simp only[oI_,pI_]at H
  obtain⟨rfl,rfl,rfl,rfl,rfl⟩:=H;obtain⟨_,_,_,_,_,_,_,_⟩:=cf4 BK500;go_wp2;refine pR (results_ct rfl _ _ gb500 51 #[.string (⟨#[]⟩:BA),.slice none 0 0,.bool false,.string (⟨#[]⟩:BA)] (0,0) _ rfl (zz22 BK500) Tryz.underlying51 rfl (by kernel_rfl)) rfl ?_;exact⟨_,zz9,zz68,(zz19 HB GE500)⟩
def impl_readWhole.f (k:Nat)(a0:BA):Option (BA×List BA×Bool×BA×Bool):=(strings_CutPrefix.f a0 (⟨#[47,47]⟩:BA)).bind fun bt524=>(if bt524.2=true then((strings_IndexAny.f bt524.1 (⟨#[47,63]⟩:BA)).bind fun t526=>(if t526<0 then(if 0≤(bt524.1.size:Int)then(if(bt524.1.size:Int)≤(bt524.1.size:Int)then((impl_smallLetters.f (bt524.1.extract 0 ((bt524.1.size:Int):Int).toNat)).bind fun t527=>((impl_readWay.f k t527 ([]:List BA) (bt524.1.extract ((bt524.1.size:Int):Int).toNat bt524.1.size)).bind fun bt528=>(some (bt528.1,bt528.2.1,bt528.2.2.1,bt528.2.2.2.1,bt528.2.2.2.2))))else(none))else(none))else(if 0≤t526 then(if t526≤(bt524.1.size:Int)then((impl_smallLetters.f (bt524.1.extract 0 (t526:Int).toNat)).bind fun t535=>((impl_readWay.f k t535 ([]:List BA) (bt524.1.extract (t526:Int).toNat bt524.1.size)).bind fun bt536=>(some (bt536.1,bt536.2.1,bt536.2.2.1,bt536.2.2.2.1,bt536.2.2.2.2))))else(none))else(none))))else(some ((⟨#[]⟩:BA),([]:List BA),false,(⟨#[]⟩:BA),false)))
theorem impl_readWhole.mono:∀a0 k,LeO (impl_readWhole.f k a0) (impl_readWhole.f (k+1) a0):=by
 intro a0 k;unfold impl_readWhole.f
 repeat' first|(with_reducible first|exact impl_readWay.mono _ _ _ _|exact LeO.refl _|exact LeO.none _|refine LeO.ite ?_ ?_|refine LeO.bind ?_ (fun _=>?_))|exact LeO.none _|refine LeO.ite ?_ ?_|refine LeO.bind ?_ (fun _=>?_)
def impl_readWhole.T7:Bool×List (List Nat×List Nat):=(true,[([],[]),([],[]),([0,1],[0,1]),([2],[2]),([],[]),([],[]),([4,5],[4,5]),([3,6,3],[3,6]),([7],[7]),([7],[7]),([8,7,0,1,2,3,4,5,6,7,8,9],[8]),([9,10,0,1,2,3,4,5,6,7,8,9,10],[9])])
def impl_readWhole.B7:List Nat:=[0,0,3,7,0,0,48,127,255,255,1023,2047]
theorem impl_readWhole.tab7:rtab .any (opsOf Tryz.f71 7)=impl_readWhole.T7:=by kernel_rfl
theorem impl_readWhole.bits7:waitsOk impl_readWhole.T7.2 impl_readWhole.B7=true:=by kernel_rfl
theorem impl_readWhole.calls (k:Nat)(a0:BA)(r1:BA)(r2:List BA)(r3:Bool)(r4:BA)(r5:Bool)(w:World)(h:impl_readWhole.f k a0=some (r1,r2,r3,r4,r5)):
  Calls Tryz.prog 71 #[.string a0] w fun e w'=>∃v1_:Value,e=.returned (.tuple #[.agg #[.string r1,v1_,.bool r3,.string r4],.bool r5])∧Kd.R Kd.string 9 w' w.heap.size (fun _=>True) v1_ r2∧Below w.heap.size w w':=by
 have hu51:=Tryz.underlying51;have HB:=A_ (Below.refl w.heap.size w);unfold impl_readWhole.f at h;have H:=h;clear h;replace H:=bindA H;obtain⟨⟨t524,t525⟩,A2,H⟩:=H;try dsimp only at H;have HF3:=A_ H;clear H;go_enter Tryz.func71,Tryz.ntmps71;go_upto_if 13 with(first|(refine boxF 2 #[.string (⟨#[]⟩:BA),.slice none 0 0,.bool false,.string (⟨#[]⟩:BA)] 51 ?_;intro gb523 hg w4 BK523 hb;have GE523:=geB hg (zz6 HB);replace HB:=A_ (bS (zz6 HB) hb);clear hb hg)|((with_reducible refine gC (f:=97) rfl ?_);refine goesL_ (some 9) rfl rfl Tryz.func97 (by kernel_rfl) rfl #[.string a0,.string (⟨#[47,47]⟩:BA)] rfl zz251 ?_;(with_reducible refine(strings_CutPrefix.calls a0 (⟨#[47,47]⟩:BA) t524 t525 _ A2.out).mono ?_);rintro e w' ⟨rfl,⟨nd,rfl⟩⟩;refine⟨_,rfl,?_⟩))
 obtain⟨H⟩:=HF3;replace H:=iteB H;rcases H with⟨rfl,H⟩|⟨rfl,H⟩
 ·replace H:=bindA H
  obtain⟨t526,A6,H⟩:=H;have HF7:=A_ H;clear H;go_upto_if 18 with(first|((with_reducible refine gC (f:=98) rfl ?_);refine goesL_ (some 16) rfl rfl Tryz.func98 (by kernel_rfl) rfl #[.string t524,.string (⟨#[47,63]⟩:BA)] rfl zz251 ?_;(with_reducible refine mR (strings_IndexAny.calls t524 (⟨#[47,63]⟩:BA) t526 _ A6.out) ?_);rintro w8 hb;replace BK523:=A_ (bB (zz18 BK523) hb);replace HB:=A_ (bS (zz19 HB GE523) hb);(try clear hb)))
  obtain⟨H⟩:=HF7;replace H:=iteEd H;rcases H with⟨c9b0,H⟩|⟨c9b0,H⟩
  ·(first|rw[c9b0]|(simp only[i64_w,i32_w];rw[c9b0])|skip)
   replace H:=iteN H;obtain⟨c10,H⟩:=H;have c10b0:=eq_true c10;have c10b1:=dT c10;clear c10;replace H:=iteN H;obtain⟨c11,H⟩:=H;have c11b0:=eq_true c11;have c11b1:=dT c11;clear c11;replace H:=bindA H;obtain⟨t527,A12,H⟩:=H;have c13b0:=eq_true (ofD:0≤(t524.size:Int));have c14b0:=eq_true (ofD:(t524.size:Int)≤(t524.size:Int));replace H:=bindA H;obtain⟨⟨t528,t529,t532,t533,t534⟩,A15,H⟩:=H;try dsimp only at H;simp only[oI_,pI_]at H;obtain⟨rfl,rfl,rfl,rfl,rfl⟩:=H;try go_wp2;replace BK523:=A_ (blk_drew BK523.out);replace HB:=A_ (below_drew1 HB.out);refine start_ (n:=12) (S:=fun w'=>True) (ds:=[]) #[yF,yF,yF,yF,yF,yF,yF,yF,yF,yF,yF,yF] (by kernel_rfl) rfl rfl trivial (fun hHeld=>?_);refine with_tabW impl_readWhole.tab7 impl_readWhole.bits7 (fun HT_ HW_=>?_);generalize w8.drew=w16 at BK523 HB hHeld ⊢;refine pureZ 0 (some 21) (yA 1 11) ?_;refine pureZ 1 (some 22) (yA 2 10) ?_;refine pureZ 2 (some 23) (yA 3 9) ?_;refine pureZ 4 (some 25) #[yT,yT,yT,yF,yT,yF,yF,yF,yF,yF,yF,yF] ?_;refine pureZ 5 (some 26) #[yT,yT,yT,yF,yT,yT,yF,yF,yF,yF,yF,yF] ?_;refine pureZ 6 (some 27) #[yT,yT,yT,yF,yT,yT,yT,yF,yF,yF,yF,yF] ?_;refine oneZ 3 (some 24) (yA 7 5) (fun K hK=>?_);refine goes_ Tryz.func100 (by kernel_rfl) rfl #[.string (t524.extract 0 ((t524.size:Int):Int).toNat)] (by rfl) rfl rfl zz251 ?_;with_reducible refine(impl_smallLetters.calls (t524.extract 0 ((t524.size:Int):Int).toNat) t527 _ A12.out).mono ?_;rintro e w17 ⟨rfl,hb⟩;refine⟨_,rfl,?_⟩;replace BK523:=A_ (bB (zz18 BK523) hb);replace HB:=A_ (bS (zz19 HB GE523) hb);(try clear hb)
   (try clear hb2)
   (try clear hk)
   (try clear hi)
   refine hK.out _ _ trivial (fun hHeld=>?_);clear hK K;refine nZ 24 ?_;refine oneZ 7 (some 28) (yA 8 4) (fun K hK=>?_);refine goes_ Tryz.func99 (by kernel_rfl) rfl #[.string t527,.slice none 0 0,.string (t524.extract ((t524.size:Int):Int).toNat t524.size)] (by rfl) rfl rfl zz251 ?_;refine(impl_readWay.calls k t527 _ _ ([]:List BA) (t524.extract ((t524.size:Int):Int).toNat t524.size) t528 t529 t532 t533 t534 _ ?side1 ?side2 A15.out).mono ?_;(case side1=>exact Kd.C_nil _ _)
   (case side2=>exact lL_ _)
   rintro e w18 ⟨v530,rfl,ho0,hb⟩;refine⟨_,rfl,?_⟩;have HO531:=A_ (Kd.R_lower ho0 (below_size (zz19 HB GE523)));replace BK523:=A_ (bB (zz18 BK523) hb);replace HB:=A_ (bS (zz19 HB GE523) hb);(try clear hb)
   (try clear hb2)
   (try clear hk)
   (try clear hi)
   (try clear ho0)
   obtain⟨Ao20,co20,eo20⟩:=Kd.R_slice HO531.out;(first|subst eo20|(injection eo20 with f1_ f2_ f3_;have f4_:=f1_.symm;have f5_:=f3_.symm;clear f1_ f2_ f3_;subst f4_;subst f5_));refine hK.out _ _ trivial (fun hHeld=>?_);clear hK K;refine nZ 28 ?_;refine pureZ 8 (some 29) (yA 9 3) ?_;refine pureZ 9 (some 30) (yA 10 2) ?_;refine oneZ 10 (none) (yA 11 1) (fun K hK=>?_);have hs19:w18.cell? ⟨gb523,0,none⟩=some (.string (⟨#[]⟩:BA)):=(blk_cell BK523.out 0).trans rfl;have hfs19:=blk_frozen BK523.out 0;have hs21:w18.cell? ⟨gb523,1,none⟩=some (.slice none 0 0):=(blk_cell BK523.out 1).trans rfl;have hfs21:=blk_frozen BK523.out 1;have hs22:w18.cell? ⟨gb523,2,none⟩=some (.bool false):=(blk_cell BK523.out 2).trans rfl;have hfs22:=blk_frozen BK523.out 2;have hs23:w18.cell? ⟨gb523,3,none⟩=some (.string (⟨#[]⟩:BA)):=(blk_cell BK523.out 3).trans rfl;have hfs23:=blk_frozen BK523.out 3;refine skip_ (w1:=?_) (by rfl) rfl ?_ ?_;rotate_left
   ·go_simp
    rfl
   refine hK.out _ _ trivial (fun hHeld=>?_);clear hK K;refine pureZ 11 (some 3) (yA 12 0) ?_;refine done_ (done_of HT_.out (by kernel_rfl)) ?_;try go_wp2;refine pR (results_ct rfl _ _ gb523 51 #[.string t528,.slice Ao20 t529.length co20,.bool t532,.string t533] (0,0) _ rfl (zz22 BK523) Tryz.underlying51 rfl (by kernel_rfl)) rfl ?_;exact⟨_,zz9,(zz23 (rt HO531 BK523)),(zz19 HB GE523)⟩
  ·(first|rw[c9b0]|(simp only[i64_w,i32_w];rw[c9b0])|skip)
   replace H:=iteN H;obtain⟨c24,H⟩:=H;have c24b0:=eq_true c24;have c24b1:=dT c24;clear c24;replace H:=iteN H;obtain⟨c25,H⟩:=H;have c25b0:=eq_true c25;have c25b1:=dT c25;clear c25;replace H:=bindA H;obtain⟨t535,A26,H⟩:=H;have c27b0:=eq_true (ofD:0≤t526);have c28b0:=eq_true (ofD:t526≤(t524.size:Int));replace H:=bindA H;obtain⟨⟨t536,t537,t540,t541,t542⟩,A29,H⟩:=H;try dsimp only at H;simp only[oI_,pI_]at H;obtain⟨rfl,rfl,rfl,rfl,rfl⟩:=H;try go_wp2;replace BK523:=A_ (blk_drew BK523.out);replace HB:=A_ (below_drew1 HB.out);refine start_ (n:=12) (S:=fun w'=>True) (ds:=[]) #[yF,yF,yF,yF,yF,yF,yF,yF,yF,yF,yF,yF] (by kernel_rfl) rfl rfl trivial (fun hHeld=>?_);refine with_tabW impl_readWhole.tab7 impl_readWhole.bits7 (fun HT_ HW_=>?_);generalize w8.drew=w30 at BK523 HB hHeld ⊢;refine pureZ 0 (some 21) (yA 1 11) ?_;refine pureZ 1 (some 22) (yA 2 10) ?_;refine pureZ 2 (some 23) (yA 3 9) ?_;refine pureZ 4 (some 25) #[yT,yT,yT,yF,yT,yF,yF,yF,yF,yF,yF,yF] ?_;refine pureZ 5 (some 26) #[yT,yT,yT,yF,yT,yT,yF,yF,yF,yF,yF,yF] ?_;refine pureZ 6 (some 27) #[yT,yT,yT,yF,yT,yT,yT,yF,yF,yF,yF,yF] ?_;refine oneZ 3 (some 24) (yA 7 5) (fun K hK=>?_);refine goes_ Tryz.func100 (by kernel_rfl) rfl #[.string (t524.extract 0 (t526:Int).toNat)] (by rfl) rfl rfl zz251 ?_;with_reducible refine(impl_smallLetters.calls (t524.extract 0 (t526:Int).toNat) t535 _ A26.out).mono ?_;rintro e w31 ⟨rfl,hb⟩;refine⟨_,rfl,?_⟩;replace BK523:=A_ (bB (zz18 BK523) hb);replace HB:=A_ (bS (zz19 HB GE523) hb);(try clear hb)
   (try clear hb2)
   (try clear hk)
   (try clear hi)
   refine hK.out _ _ trivial (fun hHeld=>?_);clear hK K;refine nZ 24 ?_;refine oneZ 7 (some 28) (yA 8 4) (fun K hK=>?_);refine goes_ Tryz.func99 (by kernel_rfl) rfl #[.string t535,.slice none 0 0,.string (t524.extract (t526:Int).toNat t524.size)] (by rfl) rfl rfl zz251 ?_;refine(impl_readWay.calls k t535 _ _ ([]:List BA) (t524.extract (t526:Int).toNat t524.size) t536 t537 t540 t541 t542 _ ?side1 ?side2 A29.out).mono ?_;(case side1=>exact Kd.C_nil _ _)
   (case side2=>exact lL_ _)
   rintro e w32 ⟨v538,rfl,ho0,hb⟩;refine⟨_,rfl,?_⟩;have HO539:=A_ (Kd.R_lower ho0 (below_size (zz19 HB GE523)));replace BK523:=A_ (bB (zz18 BK523) hb);replace HB:=A_ (bS (zz19 HB GE523) hb);(try clear hb)
   (try clear hb2)
   (try clear hk)
   (try clear hi)
   (try clear ho0)
   obtain⟨Ao34,co34,eo34⟩:=Kd.R_slice HO539.out;(first|subst eo34|(injection eo34 with f1_ f2_ f3_;have f4_:=f1_.symm;have f5_:=f3_.symm;clear f1_ f2_ f3_;subst f4_;subst f5_));refine hK.out _ _ trivial (fun hHeld=>?_);clear hK K;refine nZ 28 ?_;refine pureZ 8 (some 29) (yA 9 3) ?_;refine pureZ 9 (some 30) (yA 10 2) ?_;refine oneZ 10 (none) (yA 11 1) (fun K hK=>?_);have hs33:w32.cell? ⟨gb523,0,none⟩=some (.string (⟨#[]⟩:BA)):=(blk_cell BK523.out 0).trans rfl;have hfs33:=blk_frozen BK523.out 0;have hs35:w32.cell? ⟨gb523,1,none⟩=some (.slice none 0 0):=(blk_cell BK523.out 1).trans rfl;have hfs35:=blk_frozen BK523.out 1;have hs36:w32.cell? ⟨gb523,2,none⟩=some (.bool false):=(blk_cell BK523.out 2).trans rfl;have hfs36:=blk_frozen BK523.out 2;have hs37:w32.cell? ⟨gb523,3,none⟩=some (.string (⟨#[]⟩:BA)):=(blk_cell BK523.out 3).trans rfl;have hfs37:=blk_frozen BK523.out 3;refine skip_ (w1:=?_) (by rfl) rfl ?_ ?_;rotate_left
   ·go_simp
    rfl
   refine hK.out _ _ trivial (fun hHeld=>?_);clear hK K;refine pureZ 11 (some 3) (yA 12 0) ?_;refine done_ (done_of HT_.out (by kernel_rfl)) ?_;try go_wp2;refine pR (results_ct rfl _ _ gb523 51 #[.string t536,.slice Ao34 t537.length co34,.bool t540,.string t541] (0,0) _ rfl (zz22 BK523) Tryz.underlying51 rfl (by kernel_rfl)) rfl ?_;exact⟨_,zz9,(zz23 (rt HO539 BK523)),(zz19 HB GE523)⟩
 ·simp only[oI_,pI_]at H
  obtain⟨rfl,rfl,rfl,rfl,rfl⟩:=H;obtain⟨_,_,_,_,_,_,_,_⟩:=cf4 BK523;go_wp2;refine pR (results_ct rfl _ _ gb523 51 #[.string (⟨#[]⟩:BA),.slice none 0 0,.bool false,.string (⟨#[]⟩:BA)] (0,0) _ rfl (zz22 BK523) Tryz.underlying51 rfl (by kernel_rfl)) rfl ?_;exact⟨_,zz9,zz68,(zz19 HB GE523)⟩
def impl_AddrRead.f (k:Nat)(a0:BA):Option (BA×List BA×Bool×BA×Bool):=if(a0.size:Int)>60 then(some ((⟨#[]⟩:BA),([]:List BA),false,(⟨#[]⟩:BA),false))else((strings_Cut.f a0 (⟨#[35]⟩:BA)).bind fun bt544=>((impl_readWhole.f k bt544.1).bind fun bt547=>(some (bt547.1,bt547.2.1,bt547.2.2.1,bt547.2.2.2.1,bt547.2.2.2.2))))
theorem impl_AddrRead.mono:∀a0 k,LeO (impl_AddrRead.f k a0) (impl_AddrRead.f (k+1) a0):=by
 intro a0 k;unfold impl_AddrRead.f
 repeat' first|(with_reducible first|exact impl_readWhole.mono _ _|exact LeO.refl _|exact LeO.none _|refine LeO.ite ?_ ?_|refine LeO.bind ?_ (fun _=>?_))|exact LeO.none _|refine LeO.ite ?_ ?_|refine LeO.bind ?_ (fun _=>?_)
theorem impl_AddrRead.calls (k:Nat)(a0:BA)(r1:BA)(r2:List BA)(r3:Bool)(r4:BA)(r5:Bool)(w:World)(h:impl_AddrRead.f k a0=some (r1,r2,r3,r4,r5)):
  Calls Tryz.prog 31 #[.string a0] w fun e w'=>∃v1_:Value,e=.returned (.tuple #[.agg #[.string r1,v1_,.bool r3,.string r4],.bool r5])∧Kd.R Kd.string 9 w' w.heap.size (fun _=>True) v1_ r2∧Below w.heap.size w w':=by
 have hu51:=Tryz.underlying51;have HB:=A_ (Below.refl w.heap.size w);unfold impl_AddrRead.f at h;have H:=h;clear h;have HF2:=A_ H;clear H;go_enter Tryz.func31,Tryz.ntmps31;go_upto_if 9 with(first|(refine boxF 2 #[.string (⟨#[]⟩:BA),.slice none 0 0,.bool false,.string (⟨#[]⟩:BA)] 51 ?_;intro gb543 hg w3 BK543 hb;have GE543:=geB hg (zz6 HB);replace HB:=A_ (bS (zz6 HB) hb);clear hb hg))
 obtain⟨H⟩:=HF2;replace H:=iteE H;rcases H with⟨c4,H⟩|⟨c4,H⟩
 ·have c4b0:=gtT c4
  have c4b1:decide (60<a0.size)=true:=dT (by omega);clear c4;(first|rw[c4b0]|(simp only[i64_w,i32_w];rw[c4b0])|skip);simp only[oI_,pI_]at H;obtain⟨rfl,rfl,rfl,rfl,rfl⟩:=H;obtain⟨_,_,_,_,_,_,_,_⟩:=cf4 BK543;go_wp2;refine pR (results_ct rfl _ _ gb543 51 #[.string (⟨#[]⟩:BA),.slice none 0 0,.bool false,.string (⟨#[]⟩:BA)] (0,0) _ rfl (zz22 BK543) Tryz.underlying51 rfl (by kernel_rfl)) rfl ?_;exact⟨_,zz9,zz68,(zz19 HB GE543)⟩
 ·have c4b0:=gtF c4
  have c4b1:decide (60<a0.size)=false:=dF (by omega);clear c4;(first|rw[c4b0]|(simp only[i64_w,i32_w];rw[c4b0])|skip);replace H:=bindA H;obtain⟨⟨t544,t545,t546⟩,A6,H⟩:=H;try dsimp only at H;replace H:=bindA H;obtain⟨⟨t547,t548,t551,t552,t553⟩,A7,H⟩:=H;try dsimp only at H;simp only[oI_,pI_]at H;obtain⟨rfl,rfl,rfl,rfl,rfl⟩:=H;go_wp2_with (first|(refine gR 70 (some 13) Tryz.func70 (strings_Cut.calls a0 (⟨#[35]⟩:BA) t544 t545 t546 _ A6.out) ?_;rintro w8 hb;replace BK543:=A_ (bB (zz18 BK543) hb);replace HB:=A_ (bS (zz19 HB GE543) hb);(try clear hb))|(refine gV 71 (some 18) Tryz.func71 (impl_readWhole.calls k t544 t547 t548 t551 t552 t553 _ A7.out) ?_;rintro v549 w9 ⟨ho0,hb⟩;have HO550:=A_ (Kd.R_lower ho0 (below_size (zz19 HB GE543)));replace BK543:=A_ (bB (zz18 BK543) hb);replace HB:=A_ (bS (zz19 HB GE543) hb);(try clear hb ho0);obtain⟨_,_,_,_,_,_,_,_⟩:=cf4 BK543;obtain⟨Ao11,co11,eo11⟩:=Kd.R_slice HO550.out;subst eo11));refine pR (results_ct rfl _ _ gb543 51 #[.string t547,.slice Ao11 t548.length co11,.bool t551,.string t552] (0,0) _ rfl (zz22 BK543) Tryz.underlying51 rfl (by kernel_rfl)) rfl ?_;exact⟨_,zz9,(zz23 (rt HO550 BK543)),(zz19 HB GE543)⟩
def impl_readAddress.f (k:Nat)(a0:BA):Option (BA×List BA×Bool×BA×Bool):=(impl_AddrRead.f k a0).bind fun bt555=>(if bt555.2.2.2.2=true then((impl_writeAddr.f bt555.1 bt555.2.1 bt555.2.2.1 bt555.2.2.2.1).bind fun t563=>(if t563.toList=a0.toList then(some (bt555.1,bt555.2.1,bt555.2.2.1,bt555.2.2.2.1,true))else(some ((⟨#[]⟩:BA),([]:List BA),false,(⟨#[]⟩:BA),false))))else(some ((⟨#[]⟩:BA),([]:List BA),false,(⟨#[]⟩:BA),false)))
theorem impl_readAddress.mono:∀a0 k,LeO (impl_readAddress.f k a0) (impl_readAddress.f (k+1) a0):=by
 intro a0 k;unfold impl_readAddress.f
 repeat' first|(with_reducible first|exact impl_AddrRead.mono _ _|exact LeO.refl _|exact LeO.none _|refine LeO.ite ?_ ?_|refine LeO.bind ?_ (fun _=>?_))|exact LeO.none _|refine LeO.ite ?_ ?_|refine LeO.bind ?_ (fun _=>?_)
theorem impl_readAddress.calls (k:Nat)(a0:BA)(r1:BA)(r2:List BA)(r3:Bool)(r4:BA)(r5:Bool)(w:World)(h:impl_readAddress.f k a0=some (r1,r2,r3,r4,r5)):
  Calls Tryz.prog 125 #[.string a0] w fun e w'=>∃v1_:Value,e=.returned (.tuple #[.agg #[.string r1,v1_,.bool r3,.string r4],.bool r5])∧Kd.R Kd.string 9 w' w.heap.size (fun _=>True) v1_ r2∧Below w.heap.size w w':=by
 have hu51:=Tryz.underlying51;have HB:=A_ (Below.refl w.heap.size w);unfold impl_readAddress.f at h;have H:=h;clear h;replace H:=bindA H;obtain⟨⟨t555,t556,t559,t560,t561⟩,A2,H⟩:=H;try dsimp only at H;have HF3:=A_ H;clear H;go_enter Tryz.func125,Tryz.ntmps125;go_wp2_with (first|(refine boxF 2 #[.string (⟨#[]⟩:BA),.slice none 0 0,.bool false,.string (⟨#[]⟩:BA)] 51 ?_;intro gb554 hg w4 BK554 hb;have GE554:=geB hg (zz6 HB);replace HB:=A_ (bS (zz6 HB) hb);clear hb hg)|(refine gV 31 (some 8) Tryz.func31 (impl_AddrRead.calls k a0 t555 t556 t559 t560 t561 _ A2.out) ?_;rintro v557 w5 ⟨ho0,hb⟩;have HO558:=A_ (Kd.R_lower ho0 (below_size (zz19 HB GE554)));replace BK554:=A_ (bB (zz18 BK554) hb);replace HB:=A_ (bS (zz19 HB GE554) hb);(try clear hb ho0))|(refine boxF 4 #[.string (⟨#[]⟩:BA),.slice none 0 0,.bool false,.string (⟨#[]⟩:BA)] 51 ?_;intro gb562 hg w6 BK562 hb;replace HO558:=A_ (rB (zz7 HO558) hb);have GE562:=geB hg (zz19 HB GE554);replace HB:=A_ (bS (zz19 HB GE554) hb);have NB554_562:=A_ ((by rw[hg];exact Nat.ne_of_lt (blk_lt (zz18 BK554)):gb554≠gb562));have NB562_554:=A_ ((by rw[hg];exact Nat.ne_of_gt (blk_lt (zz18 BK554)):gb562≠gb554));replace BK554:=A_ (bB (zz18 BK554) hb);clear hb hg;have hnb7:=NB562_554.out;have hnc7:=NB554_562.out;obtain⟨_,_,_,_,_,_,_,_⟩:=cf4 BK562;obtain⟨Ao9,co9,eo9⟩:=Kd.R_slice HO558.out;subst eo9)|((with_reducible refine gate_store (t:=51) (p:=4) rfl ?_);refine store_event (t:=51) (p:=4) (v:=?vo_w10) (w1:=((((w6.setCell ⟨gb562,0,none⟩ (.string t555)).setCell ⟨gb562,1,none⟩ (.slice Ao9 t556.length co9)).setCell ⟨gb562,2,none⟩ (.bool t559)).setCell ⟨gb562,3,none⟩ (.string t560))) ?hg ?ho ?hn ?hr ?_;(case ho=>rfl);(case hg=>rfl);(case hn=>rfl);(case hr=>exact zz5);intro w10 hw;have n0_:Aside0 (Kd.R Kd.string 9 w10 w.heap.size (fun _=>True) (.slice Ao9 t556.length co9) t556):=⟨(by rw[hw];exact(zz23 (rt HO558 BK562)))⟩;have n1_:Aside0 (w10.heap[gb554]?=some (.cells #[.string (⟨#[]⟩:BA),.slice none 0 0,.bool false,.string (⟨#[]⟩:BA)] 51 (0,0))):=⟨(by rw[hw];exact(zz24 BK554 NB554_562))⟩;have n2_:Aside0 (w10.heap[gb562]?=some (.cells #[.string t555,.slice Ao9 t556.length co9,.bool t559,.string t560] 51 (0,0))):=⟨(by rw[hw];exact(zz22 BK562))⟩;have n3_:Aside0 (Below w.heap.size w w10):=⟨(by rw[hw];exact(zz26 HB GE554 GE562))⟩;clear hw;clear HO558;clear BK554;clear BK562;clear HB;have HO558:=n0_;have BK554:=n1_;have BK562:=n2_;have HB:=n3_;clear n0_ n1_ n2_ n3_)|((with_reducible refine atG ?_ ?_ fun K_ hK_=>?_);rfl;exact undecG)|((with_reducible refine atI ?_ fun K_ hK_=>?_);exact undecI));refine unG hK_ ?_;clear hK_ K_;obtain⟨H⟩:=HF3;replace H:=iteB H;rcases H with⟨rfl,H⟩|⟨rfl,H⟩
 ·(first|refine iteT ?_|refine iteF ?_|skip)
  replace H:=bindA H;obtain⟨t563,A12,H⟩:=H;have HF13:=A_ H;clear H;have hnb14:=NB562_554.out;have hnc14:=NB554_562.out;obtain⟨_,_,_,_,_,_,_,_⟩:=cf4 BK562;(try((with_reducible refine upS ?_);go_simp))
  go_upto_if 18 with(first|(go_at_call 136;(with_reducible refine(impl_writeAddr.calls t555 _ _ t556 t559 t560 t563 _ ?side1 ?side2 A12.out).mono ?_);(case side1=>exact(zz46 HO558));(case side2=>exact(Kd.R_reads' HO558.out).2.1);rintro e w16 ⟨rfl,hb⟩;replace HO558:=A_ (rB (zz7 HO558) hb);replace BK554:=A_ (bB (zz18 BK554) hb);replace BK562:=A_ (bB (zz18 BK562) hb);replace HB:=A_ (bS (zz26 HB GE554 GE562) hb);(try clear hb)))
  obtain⟨H⟩:=HF13;replace H:=iteEq H;rcases H with⟨c17b0,c17b1,H⟩|⟨c17b0,c17b1,c17,H⟩
  ·(first|rw[c17b0]|(simp only[i64_w,i32_w];rw[c17b0])|skip)
   simp only[oI_,pI_]at H;obtain⟨rfl,rfl,rfl,rfl,rfl⟩:=H;have hnb18:=NB562_554.out;have hnc18:=NB554_562.out;obtain⟨_,_,_,_,_,_,_,_⟩:=cf4 BK562;obtain⟨_,_,_,_,_,_,_,_⟩:=cf4 BK554;go_wp2;refine pR (results_ct rfl _ _ gb554 51 #[.string t555,.slice Ao9 t556.length co9,.bool t559,.string t560] (0,0) _ rfl (zz22 BK554) Tryz.underlying51 rfl (by kernel_rfl)) rfl ?_;exact⟨_,zz9,(zz23 (rt HO558 BK554)),(zz26 HB GE554 GE562)⟩
  ·(first|rw[c17b0]|(simp only[i64_w,i32_w];rw[c17b0])|skip)
   simp only[oI_,pI_]at H;obtain⟨rfl,rfl,rfl,rfl,rfl⟩:=H;have hnb21:=NB554_562.out;have hnc21:=NB562_554.out;obtain⟨_,_,_,_,_,_,_,_⟩:=cf4 BK554;go_wp2;refine pR (results_ct rfl _ _ gb554 51 #[.string (⟨#[]⟩:BA),.slice none 0 0,.bool false,.string (⟨#[]⟩:BA)] (0,0) _ rfl (zz22 BK554) Tryz.underlying51 rfl (by kernel_rfl)) rfl ?_;exact⟨_,zz9,zz68,(zz26 HB GE554 GE562)⟩
 ·(first|refine iteT ?_|refine iteF ?_|skip)
  simp only[oI_,pI_]at H;obtain⟨rfl,rfl,rfl,rfl,rfl⟩:=H;have hnb23:=NB554_562.out;have hnc23:=NB562_554.out;obtain⟨_,_,_,_,_,_,_,_⟩:=cf4 BK554;(try((with_reducible refine upS ?_);go_simp));go_wp2;refine pR (results_ct rfl _ _ gb554 51 #[.string (⟨#[]⟩:BA),.slice none 0 0,.bool false,.string (⟨#[]⟩:BA)] (0,0) _ rfl (zz22 BK554) Tryz.underlying51 rfl (by kernel_rfl)) rfl ?_;exact⟨_,zz9,zz68,(zz26 HB GE554 GE562)⟩
end Go.Proofs.YtloijngehifbmaaGreatDoor.P
end
section
namespace Go.Proofs.YtloijngehifbmaaGreatDoor.P
open Go.RowKit Go.Proofs.YtloijngehifbmaaGreatDoorW PrintWords PrintLast PrintMore
inductive RL where
 |caller (name:BA)
 |rule (lets:Bool) (path:BA)
 |wait (n:Int)
@[reducible] def RL.v:RL→Value
 | .caller x=>.iface 112 (.agg #[.string x])
 | .rule b x=>.iface 114 (.agg #[.bool b,.string x])
 | .wait n=>.iface 117 (.agg #[.int .i64 n])
def impl_readLine.g (k:Nat)(x1 x2:BA):Option (Option RL):=
 if x1.toList=([99,97,108,108,101,114]:List UInt8)then(impl_isGroupName.f k x2).bind fun b=>some (if b=true then some (.caller x2)else none)
 else if x1.toList=([108,101,116]:List UInt8)then(impl_RuleOk.f k x2).bind fun b=>some (if b=true then some (.rule true x2)else none)
 else if x1.toList=([98,97,114]:List UInt8)then(impl_RuleOk.f k x2).bind fun b=>some (if b=true then some (.rule false x2)else none)
 else if x1.toList=([119,97,105,116]:List UInt8)then(impl_readWait.f k x2).bind fun n=>some (some (.wait n))
 else some none
def impl_readLine.f (k:Nat)(a0:BA):Option (Option RL):=(strings_Cut.f a0 (⟨#[32]⟩:BA)).bind fun t=>impl_readLine.g k t.1 t.2.1
def Told (w:World)(r:Option RL)(e:Ending)(w':World):Prop:=∃iv,e=.returned (.tuple #[iv,.bool r.isSome])∧(∀x,r=some x→iv=RL.v x)∧Below w.heap.size w w'
theorem told_if {w w':World}{b:Bool}{x:RL}{r:Option RL}{iv:Value}{e:Ending}(hr:(if b=true then some x else none)=r)(he:e=.returned (.tuple #[iv,.bool b]))(hx:iv=x.v)(hb:Below w.heap.size w w'):Told w r e w':=by
 subst hr;cases b with
 |true=>exact⟨iv,he,(fun y hy=>by cases hy;exact hx),hb⟩
 |false=>exact⟨iv,he,(fun y hy=>by cases hy),hb⟩
set_option maxHeartbeats 8000000 in
set_option maxRecDepth 100000 in
theorem impl_readLine.calls (k:Nat)(a0:BA)(r:Option RL)(w:World)(h:impl_readLine.f k a0=some r):
  Calls Tryz.prog 59 #[.string a0] w fun e w'=>Told w r e w':=by
 unfold impl_readLine.f at h;obtain⟨⟨x1,x2,x3⟩,hc,h2⟩:=oE_.mp h;have HC:=A_ hc;simp only at h2;unfold impl_readLine.g at h2;clear h hc
 by_cases c1:x1.toList=([99,97,108,108,101,114]:List UInt8)
 ·rw[if_pos c1]at h2
  have c1b:(x1.toList==([99,97,108,108,101,114]:List UInt8))=true:=beq_iff_eq.mpr c1;clear c1;obtain⟨b,hb,h3⟩:=oE_.mp h2;have HR:=A_ (oJ_ h3);have HB:=A_ hb;clear h2 hb h3
  go_enter Tryz.func59,Tryz.ntmps59
  go_wp2_with (first
   | (go_at_call 70;(with_reducible refine(strings_Cut.calls a0 (⟨#[32]⟩:BA) x1 x2 x3 _ HC.out).mono ?_);rintro e w1 ⟨rfl,hb1⟩;have HB1:=A_ hb1;clear hb1)
   | (go_at_call 86;(with_reducible refine(impl_isGroupName.calls k x2 b _ HB.out).mono ?_);rintro e w' ⟨rfl,⟨nd,rfl⟩⟩))
  go_ret2
  exact told_if HR.out rfl rfl (pw_below_drewN HB1.out _)
 rw[if_neg c1]at h2;have c1b:(x1.toList==([99,97,108,108,101,114]:List UInt8))=false:=bN_.mpr c1;clear c1
 by_cases c2:x1.toList=([108,101,116]:List UInt8)
 ·rw[if_pos c2]at h2
  have c2b:(x1.toList==([108,101,116]:List UInt8))=true:=beq_iff_eq.mpr c2;clear c2;obtain⟨b,hb,h3⟩:=oE_.mp h2;have HR:=A_ (oJ_ h3);have HB:=A_ hb;clear h2 hb h3
  go_enter Tryz.func59,Tryz.ntmps59
  go_wp2_with (first
   | (go_at_call 70;(with_reducible refine(strings_Cut.calls a0 (⟨#[32]⟩:BA) x1 x2 x3 _ HC.out).mono ?_);rintro e w1 ⟨rfl,hb1⟩;have HB1:=A_ hb1;clear hb1)
   | (go_at_call 87;(with_reducible refine(impl_RuleOk.calls k x2 b _ HB.out).mono ?_);rintro e w' ⟨rfl,⟨nd,rfl⟩⟩))
  go_ret2
  exact told_if HR.out rfl rfl (pw_below_drewN HB1.out _)
 rw[if_neg c2]at h2;have c2b:(x1.toList==([108,101,116]:List UInt8))=false:=bN_.mpr c2;clear c2
 by_cases c3:x1.toList=([98,97,114]:List UInt8)
 ·rw[if_pos c3]at h2
  have c3b:(x1.toList==([98,97,114]:List UInt8))=true:=beq_iff_eq.mpr c3;clear c3;obtain⟨b,hb,h3⟩:=oE_.mp h2;have HR:=A_ (oJ_ h3);have HB:=A_ hb;clear h2 hb h3
  go_enter Tryz.func59,Tryz.ntmps59
  go_wp2_with (first
   | (go_at_call 70;(with_reducible refine(strings_Cut.calls a0 (⟨#[32]⟩:BA) x1 x2 x3 _ HC.out).mono ?_);rintro e w1 ⟨rfl,hb1⟩;have HB1:=A_ hb1;clear hb1)
   | (go_at_call 87;(with_reducible refine(impl_RuleOk.calls k x2 b _ HB.out).mono ?_);rintro e w' ⟨rfl,⟨nd,rfl⟩⟩))
  go_ret2
  exact told_if HR.out rfl rfl (pw_below_drewN HB1.out _)
 rw[if_neg c3]at h2;have c3b:(x1.toList==([98,97,114]:List UInt8))=false:=bN_.mpr c3;clear c3
 by_cases c4:x1.toList=([119,97,105,116]:List UInt8)
 ·rw[if_pos c4]at h2
  have c4b:(x1.toList==([119,97,105,116]:List UInt8))=true:=beq_iff_eq.mpr c4;clear c4;obtain⟨n,hb,h3⟩:=oE_.mp h2;have HR:=A_ (oJ_ h3);have HB:=A_ hb;clear h2 hb h3
  go_enter Tryz.func59,Tryz.ntmps59
  go_wp2_with (first
   | (go_at_call 70;(with_reducible refine(strings_Cut.calls a0 (⟨#[32]⟩:BA) x1 x2 x3 _ HC.out).mono ?_);rintro e w1 ⟨rfl,hb1⟩;have HB1:=A_ hb1;clear hb1)
   | (go_at_call 88;(with_reducible refine(impl_readWait.calls k x2 n _ HB.out).mono ?_);rintro e w2 ⟨rfl,hb2⟩;have HB2:=A_ (below_step HB1.out hb2);clear hb2))
  go_ret2
  have hr:=HR.out;subst hr;exact⟨_,rfl,(fun x hx=>by cases hx;rfl),HB2.out⟩
 ·rw[if_neg c4]at h2
  have c4b:(x1.toList==([119,97,105,116]:List UInt8))=false:=bN_.mpr c4;clear c4;obtain rfl:=oJ_ h2;clear h2
  go_enter Tryz.func59,Tryz.ntmps59
  go_wp2_with (first
   | (go_at_call 70;(with_reducible refine(strings_Cut.calls a0 (⟨#[32]⟩:BA) x1 x2 x3 _ HC.out).mono ?_);rintro e w1 ⟨rfl,hb1⟩;have HB1:=A_ hb1;clear hb1))
  go_ret2
  exact⟨_,rfl,(fun x hx=>by cases hx),HB1.out⟩
end Go.Proofs.YtloijngehifbmaaGreatDoor.P
end
section
namespace Go.Proofs.YtloijngehifbmaaGreatDoor.P
open Go.RowKit Go.Proofs.YtloijngehifbmaaGreatDoorW PrintWords PrintLast PrintMore
def takeF (gs:List Gp)(b:Bool):RL→List Gp×Bool
 | .caller x=>if b=true∨gs.length=0 then(gs++[⟨[x],[],0⟩],false)else(gs.set (gs.length-1) ⟨(lastG gs).f0++[x],(lastG gs).f1,(lastG gs).f2⟩,b)
 | .rule l p=>if gs.length=0 then(gs,b)else(if(lastG gs).f1.length<6 then gs.set (gs.length-1) ⟨(lastG gs).f0,(lastG gs).f1++[⟨l,p⟩],(lastG gs).f2⟩else gs,true)
 | .wait n=>if gs.length=0 then(gs,b)else(gs.set (gs.length-1) ⟨(lastG gs).f0,(lastG gs).f1,n⟩,true)
structure Rd (w0 w wc:World)(base gr:Nat)(ok:Nat→Prop)(v:Value)(b:Bool)(gs:List Gp):Prop where
 S:Kd.S kGp 32 wc base ok v gs
 B:Below base w0 wc
 K:Kept w wc (fun k=>ok k∨k=gr)
 le:base≤gr
 ng:∀k,ok k→k≠gr
 box:wc.heap[gr]?=some (.cells #[v,.bool b] 85 (0,0))
theorem Rd.lt {w0 w wc:World}{base gr:Nat}{ok:Nat→Prop}{v:Value}{b:Bool}{gs:List Gp}(h:Rd w0 w wc base gr ok v b gs):gr<wc.heap.size:=blk_lt h.box
theorem Rd.below {w0 w wc wd:World}{base gr:Nat}{ok:Nat→Prop}{v:Value}{b:Bool}{gs:List Gp}(h:Rd w0 w wc base gr ok v b gs)(hb:Below wc.heap.size wc wd):Rd w0 w wd base gr ok v b gs:=
 ⟨Kd.S_below h.S hb,h.B.trans (hb.mono (nT_ h.le (Nat.le_of_lt h.lt))),h.K.below hb,h.le,h.ng,(hb.block gr h.lt).trans h.box⟩
theorem Rd.cell0 {w0 w wc:World}{base gr:Nat}{ok:Nat→Prop}{v:Value}{b:Bool}{gs:List Gp}(h:Rd w0 w wc base gr ok v b gs):wc.cell? ⟨gr,0,none⟩=some v:=(blk_cell h.box 0).trans rfl
theorem Rd.cell1 {w0 w wc:World}{base gr:Nat}{ok:Nat→Prop}{v:Value}{b:Bool}{gs:List Gp}(h:Rd w0 w wc base gr ok v b gs):wc.cell? ⟨gr,1,none⟩=some (.bool b):=(blk_cell h.box 1).trans rfl
theorem Rd.flag {w0 w wc:World}{base gr:Nat}{ok:Nat→Prop}{v:Value}{b:Bool}{gs:List Gp}(h:Rd w0 w wc base gr ok v b gs)(b':Bool):Rd w0 w (wc.setCell ⟨gr,1,none⟩ (.bool b')) base gr ok v b' gs:=
 ⟨Kd.S_far (p:=⟨gr,1,none⟩) h.S h.ng _,h.B.setCell h.le _,h.K.setCell (.inl (.inr rfl)) _,h.le,h.ng,blk_put h.box 1 _ rfl⟩
theorem Rd.groups {w0 w wc:World}{base gr:Nat}{ok:Nat→Prop}{v u:Value}{b:Bool}{gs l:List Gp}(h:Rd w0 w wc base gr ok v b gs){wd:World}{row:Option Nat}(hg:wc.grownBy wd row)(hrow:∀k,row=some k→ok k)
  (hS:Kd.S kGp 32 wd base ok u l) (hB:Below base w0 wd):Rd w0 w (wd.setCell ⟨gr,0,none⟩ u) base gr ok u b l:=
 ⟨Kd.S_far (p:=⟨gr,0,none⟩) hS h.ng _,hB.setCell h.le _,(Kept.of_grown hg h.K (fun k hk=>.inl (.inl (hrow k hk)))).setCell (.inl (.inr rfl)) _,h.le,h.ng,blk_put (blk_grown h.box hg (fun e=>h.ng gr (hrow gr e.symm) rfl)) 0 _ rfl⟩
def Took (w0 w:World)(base gr:Nat)(ok:Nat→Prop)(r:List Gp×Bool)(e:Ending)(w':World):Prop:=e=.returned (.tuple #[])∧∃v',Rd w0 w w' base gr ok v' r.2 r.1
theorem as_cc (v:Value)(w:World):(Instr.typeAssert (.iface 112 v) 88 112 true).run Tryz.prog w=.ok (.tuple #[v,.bool true]) w:=by kernel_rfl
theorem as_rc (v:Value)(w:World):(Instr.typeAssert (.iface 114 v) 88 112 true).run Tryz.prog w=.ok (.tuple #[.agg #[.string bE_],.bool false]) w:=by kernel_rfl
theorem as_rr (v:Value)(w:World):(Instr.typeAssert (.iface 114 v) 88 114 true).run Tryz.prog w=.ok (.tuple #[v,.bool true]) w:=by kernel_rfl
theorem as_wc (v:Value)(w:World):(Instr.typeAssert (.iface 117 v) 88 112 true).run Tryz.prog w=.ok (.tuple #[.agg #[.string bE_],.bool false]) w:=by kernel_rfl
theorem as_wr (v:Value)(w:World):(Instr.typeAssert (.iface 117 v) 88 114 true).run Tryz.prog w=.ok (.tuple #[.agg #[.bool false,.string bE_],.bool false]) w:=by kernel_rfl
theorem as_ww (v:Value)(w:World):(Instr.typeAssert (.iface 117 v) 88 117 true).run Tryz.prog w=.ok (.tuple #[v,.bool true]) w:=by kernel_rfl
attribute [local go_sem] as_cc as_rc as_rr as_wc as_wr as_ww
section
variable {P:Program}{ops:Array Oper}{o:Oper}{a:Act}{Q:Exit→Act→World→Prop}{md:Region.Mode}{S:World→Prop}{ds:List Nat}{W:World}
theorem rgP (i:Nat)(N:Option Tmp){v:Value}{fuel:Nat}{l:Array Bool}(l':Array Bool){a':Act}
  (h:wpAnyLast P md ops Q S ds fuel l' a' W) (hi:ops[i]?=some o:=by rfl) (hN:o.dst=N:=by rfl) (hc:anyB md ops l l' i=true:=by kernel_rfl)
  (hQ:∀c a w,Q (.panic c) (a.put o.dst v) w→Q (.panic c) a w:=by exact fun _ _ _ h=>h)
  (hy:Yields P ops o v a:=by exact Or.inl ⟨by rfl,by intro w';go_simp;with_reducible rfl⟩)
  (ha:a.put N v=a':=by(simp only[Act.put,lS_,l0_,lC_,i64_w,i32_w];rfl)):wpAnyLast P md ops Q S ds (fuel+1) l a W:=pure_ l' hi hN hc hQ hy ha h
theorem rgT (i:Nat)(N:Option Tmp){v:Value}{fuel:Nat}{l:Array Bool}(l':Array Bool)(hS:S W){a':Act}
  (h:wpAnyLast P md ops Q S ds fuel l' a' W) (hi:ops[i]?=some o:=by rfl) (hN:o.dst=N:=by rfl) (hc:takeB md ops ds l l' i=true:=by kernel_rfl)
  (hQ:∀c a w,Q (.panic c) (a.put o.dst v) w→Q (.panic c) a w:=by exact fun _ _ _ h=>h)
  (hy:YieldsIf P ops S o v a:=by exact Or.inl ⟨by rfl,by rintro w' ⟨s0,s1⟩;go_simp;with_reducible rfl⟩)
  (ha:a.put N v=a':=by(simp only[Act.put,lS_,l0_,lC_,i64_w,i32_w];rfl)):wpAnyLast P md ops Q S ds (fuel+1) l a W:=take_ l' hi hN hc hQ hy hS ha h
theorem rgT3 (i:Nat)(N:Option Tmp){v:Value}{fuel:Nat}{l:Array Bool}(l':Array Bool)(hS:S W){a':Act}
  (h:wpAnyLast P md ops Q S ds fuel l' a' W) (hi:ops[i]?=some o:=by rfl) (hN:o.dst=N:=by rfl) (hc:takeB md ops ds l l' i=true:=by kernel_rfl)
  (hQ:∀c a w,Q (.panic c) (a.put o.dst v) w→Q (.panic c) a w:=by exact fun _ _ _ h=>h)
  (hy:YieldsIf P ops S o v a:=by exact Or.inl ⟨by rfl,by rintro w' ⟨s0,s1,s2⟩;go_simp;with_reducible rfl⟩)
  (ha:a.put N v=a':=by(simp only[Act.put,lS_,l0_,lC_,i64_w,i32_w];rfl)):wpAnyLast P md ops Q S ds (fuel+1) l a W:=take_ l' hi hN hc hQ hy hS ha h
theorem rgN (N:Tmp){fuel:Nat}{l:Array Bool}{b a':Act}{v:Value}(h:wpAnyLast P md ops Q S ds fuel l a' W)(hb:a=b.put (some N) v:=by rfl)(ha:b.put (some N) v=a':=by(simp only[Act.put,lS_,l0_,lC_,i64_w,i32_w];rfl)):wpAnyLast P md ops Q S ds fuel l a W:=norm_ (hb.trans ha) h
theorem rgO (i:Nat)(N:Tmp)(v:Value)(w1:World){fuel:Nat}{l:Array Bool}(l':Array Bool)(hS:S w1){a':Act}(h:S w1→wpAnyLast P md ops Q S ds fuel l' a' w1)(hi:ops[i]?=some o:=by rfl)(hN:o.dst=some N:=by rfl)(hc:readyB md ops l l' i=true:=by kernel_rfl)(hd:i ∉ ds:=by decide)
  (hw:Region.wanted o (yielded ops a.tmps)=true:=by rfl) (hrun:(execOp a.eval o).run P W=.ok (.value v) w1:=by first|(go_simp;done)|(go_simp;rfl))
  (ha:a.put (some N) v=a':=by(simp only[Act.put,lS_,l0_,lC_,i64_w,i32_w];rfl)):wpAnyLast P md ops Q S ds (fuel+1) l a W:=
 one_ l' hi hN hc hd fun K hK=>value_ hw hN hrun (hK.out _ _ hS (fun hs=>ha ▸ h hs))
theorem rgL (i:Nat)(w1:World){fuel:Nat}{l:Array Bool}(l':Array Bool)(h:wpAnyLast P md ops Q S ds fuel l' a w1)(hi:ops[i]?=some o:=by rfl)(hN:o.dst=none:=by rfl)(hc:readyB md ops l l' i=true:=by kernel_rfl)(hd:i∈ds:=by decide)
  (hw:Region.wanted o (yielded ops a.tmps)=true:=by rfl) (hrun:(execOp a.eval o).run P W=.ok .skip w1:=by first|(go_simp;done)|(go_simp;rfl)):wpAnyLast P md ops Q S ds (fuel+1) l a W:=
 last_ l' hi hN hc hd fun K hK=>skip_ hw hN hrun (hK.out _ _ h)
end
theorem lit_string (w:World)(base:Nat)(hb:base≤w.heap.size)(x:BA):Kd.string.R 9 (w.alloc (.cells #[.string x] 9)) base (fun _=>True) (.slice (some ⟨w.heap.size,0,none⟩) 1 1) [x]:=by
 refine⟨fun _ _=>trivial,[.string x],?_,Reps.one rfl (Reps.none _ _)⟩;have h2:=World.ownsRow_lit (base:=base) (e:=9) (size:=1) w #[.string x] 1 hb (by decide) rfl;exact h2
theorem fresh_group {wc w3:World}{base:Nat}{ok:Nat→Prop}{u v0 v1:Value}{l:List Gp}{x:Gp}(hS:Kd.S kGp 32 wc base ok u l)(hfr:∀k,wc.heap.size≤k→ok k)
  (hst:∀k,k<wc.heap.size→w3.heap[k]?=wc.heap[k]?) (hle:wc.heap.size≤w3.heap.size)
  (r0:Kd.string.R 9 w3 base (fun _=>True) v0 x.f0) (r1:k93.R 93 w3 base (fun _=>True) v1 x.f1)
  (h0:∀k,some k=v0.ownBlock→wc.heap.size≤k) (h1:∀k,some k=v1.ownBlock→wc.heap.size≤k):
  ∃okp:Nat→Prop,kGp.M w3 base okp x [v0,v1,.int .i64 x.f2]∧(∀k,okp k→ok k∧some k≠u.ownBlock)∧(∀k,w3.heap.size≤k→ok k)∧Kd.S kGp 32 w3 base (fun k=>ok k∧¬okp k) u l:=by
 have hold:∀k,some k=v0.ownBlock∨some k=v1.ownBlock→wc.heap.size≤k:=fun k hk=>hk.elim (h0 k) (h1 k)
 refine⟨fun k=>some k=v0.ownBlock∨some k=v1.ownBlock,k32_mkM _ _ _ x (Kd.R_mono (Kd.R_tight rfl r0) (fun k hk=>.inl hk)) (Kd.R_mono (Kd.R_tight rfl r1) (fun k hk=>.inr hk)),fun k hk=>⟨hfr k (hold k hk),fun he=>?_⟩,fun k hk=>hfr k (by omega),?_⟩
 ·have:=Kd.S_lt hS k he.symm
  have:=hold k hk;omega
 ·refine Kd.S_step (Kd.S_mono (Kd.S_bound hS) (fun k hk=>⟨hk.1,fun h2=>?_⟩)) (fun k _ hlt=>hst k hlt)
  have:=hold k h2;have:=hk.2.2.1;omega
theorem Rd.newName {w0 w w5:World}{base gr g4:Nat}{ok:Nat→Prop}{v:Value}{b:Bool}{gs:List Gp}{x:BA}(h:Rd w0 w w5 base gr ok v b gs)(hfr:∀k,w5.heap.size≤k→ok k)(hk4:w5.heap[g4]?=some (.cells #[.string x] 112 (0,0))):
  ∃okp:Nat→Prop,kGp.M (w5.alloc (.cells #[.string x] 9)) base okp ⟨[x],[],0⟩ [.slice (some ⟨w5.heap.size,0,none⟩) 1 1,.slice none 0 0,.int .i64 0]∧(∀k,okp k→ok k∧some k≠v.ownBlock)∧(∀k,(w5.alloc (.cells #[.string x] 9)).heap.size≤k→ok k)∧Kd.S kGp 32 (w5.alloc (.cells #[.string x] 9)) base (fun k=>ok k∧¬okp k) v gs ∧
   Rd w0 w (w5.alloc (.cells #[.string x] 9)) base gr ok v b gs∧(w5.alloc (.cells #[.string x] 9)).heap[g4]?=some (.cells #[.string x] 112 (0,0))∧base≤(w5.alloc (.cells #[.string x] 9)).heap.size:=by
 have hB:Below w5.heap.size w5 (w5.alloc (.cells #[.string x] 9)):=below_alloc (Below.refl _ _) _;have hle:=nT_ h.le (Nat.le_of_lt h.lt);obtain⟨okp,hM,hokp,hnew,hS⟩:=fresh_group (x:=⟨[x],[],0⟩) h.S hfr (fun k hk=>hB.block k hk) hB.size (lit_string w5 base hle x) (Kd.R_nil k93 _ _ _ _) (fun k hk=>by simp[Value.ownBlock]at hk;omega) (fun k hk=>by simp[Value.ownBlock]at hk);exact⟨okp,hM,hokp,hnew,hS,h.below hB,(hB.block _ (blk_lt hk4)).trans hk4,nT_ hle hB.size⟩
theorem Rd.lines {w0 w wc:World}{base gr:Nat}{ok:Nat→Prop}{v:Value}{b:Bool}{gs:List Gp}(h:Rd w0 w wc base gr ok v b gs):Lines w0 wc wc base ok v gs:=⟨h.S,h.B,Kept.refl _ _,nT_ h.le (Nat.le_of_lt h.lt)⟩
theorem Rd.written {w0 w wc:World}{base gr:Nat}{ok:Nat→Prop}{v:Value}{b:Bool}{gs l:List Gp}(h:Rd w0 w wc base gr ok v b gs){wd:World}(hk:Kept wc wd ok)
  (hS:Kd.S kGp 32 wd base ok v l) (hB:Below base w0 wd):Rd w0 w wd base gr ok v b l:=
 ⟨hS,hB,h.K.then_ hk (fun k hk=>.inl (.inl hk)),h.le,h.ng,(hk.2 gr h.lt (fun e=>h.ng gr e rfl)).trans h.box⟩
set_option maxHeartbeats 8000000 in
set_option maxRecDepth 100000 in
theorem take_caller (base gr:Nat)(ok:Nat→Prop)(v:Value)(b:Bool)(gs:List Gp)(x:BA)(r:List Gp×Bool)(w0 w:World)(hr:Rd w0 w w base gr ok v b gs)(hfr:∀k,w.heap.size≤k→ok k)(hsm:gs.length<1000000)(hs2:(lastG gs).f0.length<1000000)(hF:takeF gs b (.caller x)=r):
  Calls Tryz.prog 60 #[.pointer (some ⟨gr,0,none⟩),.iface 112 (.agg #[.string x])] w fun e w'=>Took w0 w base gr ok r e w':=by
 obtain⟨A,cc,hu⟩:=Kd.S_slice hr.S;subst hu;have HR:=A_ hr;have HF:=A_ hfr;have HT:=A_ hF;clear hr hfr hF
 go_enter Tryz.func60,Tryz.ntmps60
 go_upto_region 1 with(first|((with_reducible refine gate_dst (N:=4) rfl ?_);refine box_event ?hg (N:=4) ?hd (cs:=#[.string ⟨#[]⟩]) (t:=112) ?hr ?_;(case hd=>rfl);(case hg=>rfl);(case hr=>first|(go_simp;done)|(go_simp;rfl));rintro g4 eg w4 hk4 hb4;have EG4:=A_ eg;have BK4:=A_ hk4;have HB4:=A_ hb4;have hc0:w4.cell? ⟨g4,0,none⟩=some (.string ⟨#[]⟩):=(blk_cell hk4 0).trans rfl;have hd0:=blk_frozen hk4 0;clear eg hk4 hb4))
 have HR4:=A_ (HR.out.below (below_set HB4.out (by rw[EG4.out];exact lL_ _)):Rd w0 w (w4.setCell ⟨g4,0,none⟩ (.string x)) base gr ok (.slice A gs.length cc) b gs);have BK5:=A_ (blk_put BK4.out 0 (.string x) rfl:(w4.setCell ⟨g4,0,none⟩ (.string x)).heap[g4]?=some (.cells #[.string x] 112 (0,0)));have SZ:=A_ (by have:=blk_lt BK4.out;have:=EG4.out;simp[World.setCell];omega:w.heap.size≤(w4.setCell ⟨g4,0,none⟩ (.string x)).heap.size);clear HR BK4 HB4 EG4 hc0 hd0;generalize (w4.setCell ⟨g4,0,none⟩ (.string x))=w5 at HR4 BK5 SZ ⊢;have hx0:=HR4.out.cell0;have hx1:=HR4.out.cell1;have hx4:w5.cell? ⟨g4,0,none⟩=some (.string x):=(blk_cell BK5.out 0).trans rfl;have hf0:=blk_frozen HR4.out.box 0;have hf1:=blk_frozen HR4.out.box 1
 by_cases c0:b=true∨gs.length=0
 ·have hF:=HT.out
  simp only[takeF]at hF;rw[if_pos c0]at hF;subst hF;clear HT;have c0':gs.length=0∨(gs.length≠0∧b=true):=by rcases c0 with h|h <;> by_cases h2:gs.length=0 <;> simp_all
  clear c0;have n0:gs.length=0→((gs.length:Int)==0)=true:=fun h=>by rw[h];rfl
  have n1:gs.length≠0→((gs.length:Int)==0)=false:=fun h=>bN_.mpr (by omega)
  rcases c0' with h|⟨h,rfl⟩
  case' inl=>replace n0:=n0 h;clear n1 h
  case' inr=>replace n1:=n1 h;clear n0 h
  all_goals
   go_wp2;have HR8:=A_ (HR4.out.below (below_drew (Below.refl _ _)));have BK8:=A_ (show w5.drew.heap[g4]?=some (.cells #[.string x] 112 (0,0))from BK5.out);have SZ8:=A_ (show w.heap.size≤w5.drew.heap.size from SZ.out);refine start_ (n:=14) (S:=fun w'=>w'.cell? ⟨gr,0,none⟩=some (.slice A gs.length cc)∧w'.cell? ⟨g4,0,none⟩=some (.string x)) (ds:=[13]) #[false,false,false,false,false,false,false,false,false,false,false,false,false,false] (by kernel_rfl) rfl rfl ⟨hx0,hx4⟩ (fun hHeld=>?_);generalize w5.drew=w8 at HR8 BK8 SZ8 hHeld ⊢;refine rgP 0 (some 30) #[true,false,false,false,false,false,false,false,false,false,false,false,false,false] ?_;refine rgP 1 (some 31) #[true,true,false,false,false,false,false,false,false,false,false,false,false,false] ?_;refine rgP 2 (some 32) #[true,true,true,false,false,false,false,false,false,false,false,false,false,false] ?_;refine rgP 3 (some 33) #[true,true,true,true,false,false,false,false,false,false,false,false,false,false] ?_;refine rgP 5 (some 35) #[true,true,true,true,false,true,false,false,false,false,false,false,false,false] ?_;refine rgT 4 (some 34) #[true,true,true,true,true,true,false,false,false,false,false,false,false,false] hHeld ?_;refine rgT 6 (some 36) #[true,true,true,true,true,true,true,false,false,false,false,false,false,false] hHeld ?_;refine rgO 7 37 (.slice (some ⟨w8.heap.size,0,none⟩) 1 1) (w8.alloc (.cells #[.string x] 9)) #[true,true,true,true,true,true,true,true,false,false,false,false,false,false] ?_ (fun hHeld=>?_)
   ·exact⟨(World.cell?_alloc_lt _ _ _ (wb_ _ _ hHeld.1)).trans hHeld.1,(World.cell?_alloc_lt _ _ _ (wb_ _ _ hHeld.2)).trans hHeld.2⟩
   refine rgP 8 (some 38) #[true,true,true,true,true,true,true,true,true,false,false,false,false,false] ?_;refine rgO 9 39 (.slice (some ⟨w8.heap.size+1,0,none⟩) 1 1) ((w8.alloc (.cells #[.string x] 9)).alloc (.cells #[.slice (some ⟨w8.heap.size,0,none⟩) 1 1,.slice none 0 0,.int .i64 0] 32)) #[true,true,true,true,true,true,true,true,true,true,false,false,false,false] ?_ (fun hHeld=>?_)
   ·exact⟨(World.cell?_alloc_lt _ _ _ (wb_ _ _ hHeld.1)).trans hHeld.1,(World.cell?_alloc_lt _ _ _ (wb_ _ _ hHeld.2)).trans hHeld.2⟩
   refine one_ (i:=10) (N:=some 40) #[true,true,true,true,true,true,true,true,true,true,true,false,false,false] rfl rfl (by kernel_rfl) (by decide) (fun K hK=>?_);obtain⟨okp,hM,hokp,hnew,hS,hRW,hKW,hzW⟩:=HR8.out.newName (fun k hk=>HF.out k (nT_ SZ8.out hk)) BK8.out;refine Kd.S_append_step kGp (w0:=w0) (W:=(w8.alloc (.cells #[.string x] 9))) base (by rfl) (.tmp 34) (.tmp 39) 43 32 (.agg #[.slice none 0 0,.slice none 0 0,.int .i64 0]) 56 (by rfl) Tryz.underlying43 infoGp rfl (by decide) (by omega) (.slice A gs.length cc) gs ⟨[x],[],0⟩ [.slice (some ⟨w8.heap.size,0,none⟩) 1 1,.slice none 0 0,.int .i64 0] ok okp (by rfl) (by have e:(w8.alloc (.cells #[.string x] 9)).heap.size=w8.heap.size+1:=(by simp);rw[e];rfl) hM hokp hnew hS hRW.B hzW (by omega) ?_;intro v1 w1 hS1 hB1 hG1 hat;obtain⟨A1,c1,rfl⟩:=Kd.S_slice hS1;have en:(gs++[(⟨[x],[],0⟩:Gp)]).length=gs.length+1:=by rw[lA_,List.length_singleton]
   rw[en]at hS1 ⊢;have hne0:some gr≠(Value.slice A gs.length cc).ownBlock:=fun e=>hRW.ng gr ((Kd.S_R hRW.S).1 gr e.symm) rfl
   have hne4:some g4≠(Value.slice A gs.length cc).ownBlock:=Kd.S_ne hRW.S hKW (by decide);have hb1:=blk_grown hRW.box hG1 hne0;have hx1:w1.cell? ⟨gr,0,none⟩=some (.slice A gs.length cc):=(blk_cell hb1 0).trans rfl;have hz1:=blk_frozen hb1 0;have HQ:=A_ (hRW.groups hG1 (fun k hk=>(Kd.S_R hRW.S).1 k hk) hS1 hB1);refine hK.out _ _ ⟨hx1,cell_grown hG1 ((blk_cell hKW 0).trans rfl) hne4⟩ (fun hHeld=>?_);clear hK K hM hokp hnew hS hS1 hB1 hG1 hat hb1 hRW hKW hzW hne0 hne4;refine rgN 40 ?_;refine rgP 11 (some 41) #[true,true,true,true,true,true,true,true,true,true,true,true,false,false] ?_;refine rgP 12 (some 42) #[true,true,true,true,true,true,true,true,true,true,true,true,true,false] ?_;refine rgL 13 (w1.setCell ⟨gr,0,none⟩ (.slice A1 (gs.length+1) c1)) #[true,true,true,true,true,true,true,true,true,true,true,true,true,true] ?_;refine done_ (by kernel_rfl) ?_;clear hx0 hx1 hx4 hf0 hf1 hz1 hHeld;generalize (w1.setCell ⟨gr,0,none⟩ (.slice A1 (gs.length+1) c1))=w9 at HQ ⊢;have hx1:=HQ.out.cell1;have hf1:=blk_frozen HQ.out.box 1;go_wp2
   (try simp only[Exit.inBlock,Exit.then])
   refine bodyPost_ret (results_none rfl _ _ _) rfl ?_;exact⟨rfl,_,HQ.out.flag false⟩
 ·have hF:=HT.out
  simp only[takeF]at hF;rw[if_neg c0]at hF;subst hF;clear HT;have c4:gs.length≠0:=fun h=>c0 (.inr h)
  obtain rfl:b=false:=by cases b <;> simp_all
  clear c0;have n1:((gs.length:Int)==0)=false:=bN_.mpr (by omega);obtain⟨g,cap,_,_,_,eu,_⟩:=(HR4.out.lines).last (by omega);injection eu with eu1 eu2 eu3;subst eu1;clear eu2 eu3;obtain⟨j,hj⟩:∃j,gs.length-1=j:=⟨_,rfl⟩;have ej:wrap64 ((gs.length:Int)-1)=(j:Int):=by unfold wrap64;omega
  have p0:(0≤(j:Int))=True:=eq_true (by omega);have q0:((j:Int)<(gs.length:Int))=True:=eq_true (by omega);go_wp2;refine start_ (n:=12) (S:=fun w'=>w'.cell? ⟨gr,0,none⟩=some (.slice (some ⟨g,0,none⟩) gs.length cc)∧True) (ds:=[]) #[false,false,false,false,false,false,false,false,false,false,false,false] (by kernel_rfl) rfl rfl ⟨hx0,trivial⟩ (fun hHeld=>?_);have HR6:=A_ (HR4.out.below (below_drew (Below.refl _ _)));have SZ6:=A_ (show w.heap.size≤w5.drew.heap.size from SZ.out);clear hx0 hx1 hx4 hf0 hf1;generalize w5.drew=w6 at HR6 SZ6 hHeld ⊢;refine rgP 0 (some 52) #[true,false,false,false,false,false,false,false,false,false,false,false] ?_;refine rgP 1 (some 53) #[true,true,false,false,false,false,false,false,false,false,false,false] ?_;refine rgP 2 (some 54) #[true,true,true,false,false,false,false,false,false,false,false,false] ?_;refine rgP 4 (some 56) #[true,true,true,false,true,false,false,false,false,false,false,false] ?_;refine rgP 5 (some 57) #[true,true,true,false,true,true,false,false,false,false,false,false] ?_;refine rgP 6 (some 58) #[true,true,true,false,true,true,true,false,false,false,false,false] ?_;refine rgT 3 (some 55) #[true,true,true,true,true,true,true,false,false,false,false,false] hHeld ?_;refine rgT 7 (some 59) #[true,true,true,true,true,true,true,true,false,false,false,false] hHeld ?_;refine rgP 8 (some 60) #[true,true,true,true,true,true,true,true,true,false,false,false] ?_;refine rgP 9 (some 61) #[true,true,true,true,true,true,true,true,true,true,false,false] ?_;rw[ej];refine rgP 10 (some 62) #[true,true,true,true,true,true,true,true,true,true,true,false] ?_;refine rgP 11 (some 6) #[true,true,true,true,true,true,true,true,true,true,true,true] ?_;refine done_ (by kernel_rfl) ?_;clear hHeld HR4 BK5 SZ
  go_wp2_with (first|((with_reducible refine gate_dst (N:=7) rfl ?_);refine box_event ?hg (N:=7) ?hd (cs:=#[.string ⟨#[]⟩]) (t:=112) ?hr ?_;(case hd=>rfl);(case hg=>rfl);(case hr=>first|(go_simp;done)|(go_simp;rfl));rintro g7 eg w4 hk4 hb4;have EG4:=A_ eg;have BK4:=A_ hk4;have HB4:=A_ hb4;have hc0:w4.cell? ⟨g7,0,none⟩=some (.string ⟨#[]⟩):=(blk_cell hk4 0).trans rfl;have hd0:=blk_frozen hk4 0;clear eg hk4 hb4))
  have HR8:=A_ ((HR6.out.below (below_set HB4.out (by rw[EG4.out];exact lL_ _))).below (below_drew (Below.refl _ _)):Rd w0 w (w4.setCell ⟨g7,0,none⟩ (.string x)).drew base gr ok (.slice (some ⟨g,0,none⟩) gs.length cc) false gs);have BK8:=A_ (show(w4.setCell ⟨g7,0,none⟩ (.string x)).drew.heap[g7]?=some (.cells #[.string x] 112 (0,0))from blk_put BK4.out 0 (.string x) rfl);have SZ8:=A_ (by have:=blk_lt BK4.out;have:=EG4.out;have:=SZ6.out;have:(w4.setCell ⟨g7,0,none⟩ (.string x)).drew.heap.size=w4.heap.size:=(by simp[World.setCell]);omega:w.heap.size≤(w4.setCell ⟨g7,0,none⟩ (.string x)).drew.heap.size);clear HR6 BK4 HB4 EG4 SZ6 hc0 hd0;generalize (w4.setCell ⟨g7,0,none⟩ (.string x))=w7 at HR8 BK8 SZ8 ⊢;obtain⟨g_,cap_,v0,v1,oki,eu,g0,g1,⟨hy0,hy1,hy2⟩,hff,hoki,hH⟩:=(HR8.out.lines).last (by omega);injection eu with eu1 eu2 eu3;injection eu1 with eu1;injection eu1 with eg _ _;subst eg;subst eu3;obtain⟨A0,cc0,rfl⟩:=Kd.R_slice g0;obtain⟨A1,cc1,rfl⟩:=Kd.R_slice g1;rw[hj]at hy0 hy1 hy2 hff hH;have G0:=A_ g0;have G1:=A_ g1;have HH:=A_ hH;clear g0 g1 hH;refine start_ (n:=12) (S:=fun w'=>w'.cell? ⟨g,j*3,none⟩=some (.slice A0 (lastG gs).f0.length cc0)∧w'.cell? ⟨g7,0,none⟩=some (.string x)) (ds:=[11]) #[false,false,false,false,false,false,false,false,false,false,false,false] (by kernel_rfl) rfl rfl ⟨hy0,(blk_cell BK8.out 0).trans rfl⟩ (fun hHeld=>?_);generalize w7.drew=w8 at HR8 BK8 SZ8 G0 G1 HH hHeld hy0 hy1 hy2 hff ⊢;refine rgP 0 (some 67) #[true,false,false,false,false,false,false,false,false,false,false,false] ?_;refine rgP 1 (some 68) #[true,true,false,false,false,false,false,false,false,false,false,false] ?_;refine rgP 2 (some 69) #[true,true,true,false,false,false,false,false,false,false,false,false] ?_;refine rgP 3 (some 70) #[true,true,true,true,false,false,false,false,false,false,false,false] ?_;refine rgP 5 (some 72) #[true,true,true,true,false,true,false,false,false,false,false,false] ?_;refine rgT 4 (some 71) #[true,true,true,true,true,true,false,false,false,false,false,false] hHeld ?_;refine rgT 6 (some 73) #[true,true,true,true,true,true,true,false,false,false,false,false] hHeld ?_;refine rgO 7 74 (.slice (some ⟨w8.heap.size,0,none⟩) 1 1) (w8.alloc (.cells #[.string x] 9)) #[true,true,true,true,true,true,true,true,false,false,false,false] ?_ (fun hHeld=>?_)
  ·exact⟨(World.cell?_alloc_lt _ _ _ (wb_ _ _ hHeld.1)).trans hHeld.1,(World.cell?_alloc_lt _ _ _ (wb_ _ _ hHeld.2)).trans hHeld.2⟩
  refine one_ (i:=8) (N:=some 75) #[true,true,true,true,true,true,true,true,true,false,false,false] rfl rfl (by kernel_rfl) (by decide) (fun K hK=>?_);refine Kd.R_append_step Kd.string (w0:=w0) (W:=w8) base (by rfl) (.tmp 71) (.tmp 74) 29 9 (.string ⟨#[]⟩) 16 (by rfl) Tryz.underlying29 info9 rfl (by decide) (by omega) (.slice A0 (lastG gs).f0.length cc0) (lastG gs).f0 x [.string x] (fun k=>oki k∨(ok k∧w8.heap.size≤k)) (fun _=>False) (by rfl) (by rfl) rfl (fun _ hk=>hk.elim) (fun k hk=>.inr ⟨HF.out k (nT_ SZ8.out hk),hk⟩) (Kd.R_mono G0.out (fun _ hk=>.inl hk)) HR8.out.B (nT_ HR8.out.le (Nat.le_of_lt HR8.out.lt)) (by omega) ?_;intro v3 w1 ho hb hg hat;obtain⟨A3,cc3,rfl⟩:=Kd.R_slice ho;have en:((lastG gs).f0++[x]).length=(lastG gs).f0.length+1:=by rw[lA_,List.length_singleton]
  rw[en]at ho ⊢;have hneg:some g≠(Value.slice A0 (lastG gs).f0.length cc0).ownBlock:=fun e=>(hoki g (G0.out.1 g e.symm)).2 rfl
  have hneb:some g7≠(Value.slice A0 (lastG gs).f0.length cc0).ownBlock:=Kd.R_ne G0.out BK8.out (by decide);have hz0:=cell_grown hg hy0 hneg;have H1:=A_ (Kd.H_grown (Kd.H_widen HH.out) hg (fun k e=>.inl (G0.out.1 k e)));have R1:=A_ (Kd.R_over' (v:=.slice A0 (lastG gs).f0.length cc0) G1.out (Kd.R_typed G0.out) (by decide) hg);have R0:=A_ ho;have K1:=A_ (Kept.of_grown (S:=ok) hg (Kept.refl w8 _) (fun k hk=>.inl (hoki k (G0.out.1 k hk)).1));have B1:=A_ hb;have hzf:=(Kd.H_at H1.out (by omega) (by omega)).2 0;rw[tN_,show kGp.sz=3 from rfl,Nat.add_zero]at hzf;have HP:=A_ (Kd.S_seg0 H1.out (by omega) (by omega) (seg:=[.slice A3 ((lastG gs).f0.length+1) cc3]) (j:=0) (show 0+1≤3 by decide) (x':=⟨(lastG gs).f0++[x],(lastG gs).f1,(lastG gs).f2⟩) (k32_mkM _ _ _ ⟨(lastG gs).f0++[x],(lastG gs).f1,(lastG gs).f2⟩ R0.out (Kd.R_mono R1.out (fun _ hk=>.inl hk))) (fun _ hk=>hk));refine hK.out _ _ ⟨hz0,cell_grown hg ((blk_cell BK8.out 0).trans rfl) hneb⟩ (fun hHeld=>?_);clear hK K ho hb hg hat hneg hneb hHeld hy0 hy1 hy2 hff;refine rgN 75 ?_;refine rgP 9 (some 76) #[true,true,true,true,true,true,true,true,true,true,false,false] ?_;refine rgP 10 (some 77) #[true,true,true,true,true,true,true,true,true,true,true,false] ?_;refine rgL 11 (w1.setCell ⟨g,j*3,none⟩ (.slice A3 ((lastG gs).f0.length+1) cc3)) #[true,true,true,true,true,true,true,true,true,true,true,true] ?_;refine done_ (by kernel_rfl) ?_;have hp1:=HP.out.1;have hp2:=HP.out.2;rw[tN_,show kGp.sz=3 from rfl,Nat.add_zero]at hp1 hp2;have HQ:Aside0 (Rd w0 w (w1.setCell ⟨g,j*3,none⟩ (.slice A3 ((lastG gs).f0.length+1) cc3)) base gr ok (.slice (some ⟨g,0,none⟩) gs.length cc) false (gs.set j ⟨(lastG gs).f0++[x],(lastG gs).f1,(lastG gs).f2⟩)):=A_ (HR8.out.written (wd:=w1.setCell ⟨g,j*3,none⟩ (.slice A3 ((lastG gs).f0.length+1) cc3)) (Kept.of_grown hp2 K1.out (fun k hk=>.inl (by injection hk with hk;subst hk;exact(Kd.S_R HR8.out.S).1 _ rfl))) hp1 (B1.out.setCell (p:=⟨g,j*3,none⟩) (Kd.S_base HR8.out.S _ rfl) _));clear hp1 hp2 HP hz0 hzf;go_wp2
  (try simp only[Exit.inBlock,Exit.then])
  refine bodyPost_end (results_none rfl _ _ _) rfl ?_;exact⟨rfl,_,HQ.out⟩
set_option maxHeartbeats 8000000 in
set_option maxRecDepth 100000 in
theorem take_rule (base gr:Nat)(ok:Nat→Prop)(v:Value)(b:Bool)(gs:List Gp)(l:Bool)(p:BA)(r:List Gp×Bool)(w0 w:World)(hr:Rd w0 w w base gr ok v b gs)(hfr:∀k,w.heap.size≤k→ok k)(hsm:gs.length<1000000)(hs2:(lastG gs).f0.length<1000000)(hF:takeF gs b (.rule l p)=r):
  Calls Tryz.prog 60 #[.pointer (some ⟨gr,0,none⟩),.iface 114 (.agg #[.bool l,.string p])] w fun e w'=>Took w0 w base gr ok r e w':=by
 obtain⟨A,cc,hu⟩:=Kd.S_slice hr.S;subst hu;have HR:=A_ hr;have HF:=A_ hfr;have HT:=A_ hF;clear hr hfr hF
 go_enter Tryz.func60,Tryz.ntmps60
 go_upto_region 1 with(first|((with_reducible refine gate_dst (N:=4) rfl ?_);refine box_event ?hg (N:=4) ?hd (cs:=#[.string ⟨#[]⟩]) (t:=112) ?hr ?_;(case hd=>rfl);(case hg=>rfl);(case hr=>first|(go_simp;done)|(go_simp;rfl));rintro g4 eg w4 hk4 hb4;have EG4:=A_ eg;have BK4:=A_ hk4;have HB4:=A_ hb4;have hc0:w4.cell? ⟨g4,0,none⟩=some (.string ⟨#[]⟩):=(blk_cell hk4 0).trans rfl;have hd0:=blk_frozen hk4 0;clear eg hk4 hb4))
 have HR4:=A_ (HR.out.below (below_set HB4.out (by rw[EG4.out];exact lL_ _)):Rd w0 w (w4.setCell ⟨g4,0,none⟩ (.string bE_)) base gr ok (.slice A gs.length cc) b gs);have BK5:=A_ (blk_put BK4.out 0 (.string bE_) rfl:(w4.setCell ⟨g4,0,none⟩ (.string bE_)).heap[g4]?=some (.cells #[.string bE_] 112 (0,0)));have SZ:=A_ (by have:=blk_lt BK4.out;have:=EG4.out;simp[World.setCell];omega:w.heap.size≤(w4.setCell ⟨g4,0,none⟩ (.string bE_)).heap.size);clear HR BK4 HB4 EG4 hc0 hd0;generalize (w4.setCell ⟨g4,0,none⟩ (.string bE_))=w5 at HR4 BK5 SZ ⊢;have hx0:=HR4.out.cell0;have hx1:=HR4.out.cell1;have hx4:w5.cell? ⟨g4,0,none⟩=some (.string bE_):=(blk_cell BK5.out 0).trans rfl;have hf0:=blk_frozen HR4.out.box 0;have hf1:=blk_frozen HR4.out.box 1
 by_cases c4:gs.length=0
 ·have hF:=HT.out
  simp only[takeF]at hF;rw[if_pos c4]at hF;subst hF;clear HT;have n0:((gs.length:Int)==0)=true:=by rw[c4];rfl
  clear c4;go_wp2
  (try simp only[Exit.inBlock,Exit.then])
  refine bodyPost_ret (results_none rfl _ _ _) rfl ?_;exact⟨rfl,_,HR4.out⟩
 ·have hF:=HT.out
  simp only[takeF]at hF;rw[if_neg c4]at hF;clear HT;have n1:((gs.length:Int)==0)=false:=bN_.mpr (by omega);obtain⟨g,cap,_,_,_,eu,_⟩:=(HR4.out.lines).last (by omega);injection eu with eu1 eu2 eu3;subst eu1;clear eu2 eu3;obtain⟨j,hj⟩:∃j,gs.length-1=j:=⟨_,rfl⟩;have ej:wrap64 ((gs.length:Int)-1)=(j:Int):=by unfold wrap64;omega
  have p0:(0≤(j:Int))=True:=eq_true (by omega);have q0:((j:Int)<(gs.length:Int))=True:=eq_true (by omega);go_wp2;refine start_ (n:=12) (S:=fun w'=>w'.cell? ⟨gr,0,none⟩=some (.slice (some ⟨g,0,none⟩) gs.length cc)∧True) (ds:=[]) #[false,false,false,false,false,false,false,false,false,false,false,false] (by kernel_rfl) rfl rfl ⟨hx0,trivial⟩ (fun hHeld=>?_);have HR6:=A_ (HR4.out.below (below_drew (Below.refl _ _)));have SZ6:=A_ (show w.heap.size≤w5.drew.heap.size from SZ.out);clear hx0 hx1 hx4 hf0 hf1;generalize w5.drew=w6 at HR6 SZ6 hHeld ⊢;refine rgP 0 (some 52) #[true,false,false,false,false,false,false,false,false,false,false,false] ?_;refine rgP 1 (some 53) #[true,true,false,false,false,false,false,false,false,false,false,false] ?_;refine rgP 2 (some 54) #[true,true,true,false,false,false,false,false,false,false,false,false] ?_;refine rgP 4 (some 56) #[true,true,true,false,true,false,false,false,false,false,false,false] ?_;refine rgP 5 (some 57) #[true,true,true,false,true,true,false,false,false,false,false,false] ?_;refine rgP 6 (some 58) #[true,true,true,false,true,true,true,false,false,false,false,false] ?_;refine rgT 3 (some 55) #[true,true,true,true,true,true,true,false,false,false,false,false] hHeld ?_;refine rgT 7 (some 59) #[true,true,true,true,true,true,true,true,false,false,false,false] hHeld ?_;refine rgP 8 (some 60) #[true,true,true,true,true,true,true,true,true,false,false,false] ?_;refine rgP 9 (some 61) #[true,true,true,true,true,true,true,true,true,true,false,false] ?_;rw[ej];refine rgP 10 (some 62) #[true,true,true,true,true,true,true,true,true,true,true,false] ?_;refine rgP 11 (some 6) #[true,true,true,true,true,true,true,true,true,true,true,true] ?_;refine done_ (by kernel_rfl) ?_;clear hHeld HR4 BK5 SZ
  go_upto_region 12 with(first|((with_reducible refine gate_dst (N:=8) rfl ?_);refine box_event ?hg (N:=8) ?hd (cs:=#[.bool false,.string ⟨#[]⟩]) (t:=114) ?hr ?_;(case hd=>rfl);(case hg=>rfl);(case hr=>first|(go_simp;done)|(go_simp;rfl));rintro g8 eg w4 hk4 hb4;have EG4:=A_ eg;have BK4:=A_ hk4;have HB4:=A_ hb4;have hc0:w4.cell? ⟨g8,0,none⟩=some (.bool false):=(blk_cell hk4 0).trans rfl;have hd0:=blk_frozen hk4 0;have hc1:w4.cell? ⟨g8,1,none⟩=some (.string ⟨#[]⟩):=(blk_cell hk4 1).trans rfl;have hd1:=blk_frozen hk4 1;clear eg hk4 hb4))
  have HB5:=A_ (show Below w6.heap.size w6 ((w4.setCell ⟨g8,0,none⟩ (.bool l)).setCell ⟨g8,1,none⟩ (.string p))from(below_set (below_set HB4.out (by rw[EG4.out];exact lL_ _)) (by rw[EG4.out];exact lL_ _)));have BK5:=A_ (show((w4.setCell ⟨g8,0,none⟩ (.bool l)).setCell ⟨g8,1,none⟩ (.string p)).heap[g8]?=some (.cells #[.bool l,.string p] 114 (0,0))from(blk_put (blk_put BK4.out 0 (.bool l) rfl) 1 (.string p) rfl));have NE5:=A_ (show g8≠gr from by have:=EG4.out;have:=HR6.out.lt;omega);clear BK4 HB4 EG4 hc0 hd0 hc1 hd1;generalize ((w4.setCell ⟨g8,0,none⟩ (.bool l)).setCell ⟨g8,1,none⟩ (.string p))=w5 at HB5 BK5 ⊢;have HR5:=A_ (HR6.out.below HB5.out);have SZ5:=A_ (nT_ SZ6.out HB5.out.size);have hx1:=HR5.out.cell1;have hf1:=blk_frozen HR5.out.box 1
  go_upto_region 13 with(fail)
  have HR7:=A_ (HR5.out.flag true);have BK7:=A_ (show(w5.setCell ⟨gr,1,none⟩ (.bool true)).heap[g8]?=some (.cells #[.bool l,.string p] 114 (0,0))from blk_far BK5.out NE5.out _);have SZ7:=A_ (show w.heap.size≤(w5.setCell ⟨gr,1,none⟩ (.bool true)).heap.size from by simp[World.setCell];exact SZ5.out);clear HR6 SZ6 HB5 BK5 NE5 HR5 SZ5 hx1 hf1;generalize (w5.setCell ⟨gr,1,none⟩ (.bool true))=w7 at HR7 BK7 SZ7 ⊢;obtain⟨g_,cap_,v0,v1,oki,eu,g0,g1,⟨hy0,hy1,hy2⟩,hff,hoki,hH⟩:=(HR7.out.lines).last (by omega);injection eu with eu1 eu2 eu3;injection eu1 with eu1;injection eu1 with eg _ _;subst eg;subst eu3;obtain⟨A0,cc0,rfl⟩:=Kd.R_slice g0;obtain⟨A1,cc1,rfl⟩:=Kd.R_slice g1;rw[hj]at hy0 hy1 hy2 hff hH;have G0:=A_ g0;have G1:=A_ g1;have HH:=A_ hH;clear g0 g1 hH
  by_cases h6:(lastG gs).f1.length<6
  ·rw[if_pos h6]at hF
   subst hF;have e6:decide (((lastG gs).f1.length:Int)<6)=true:=decide_eq_true (by omega);have e6n:decide ((lastG gs).f1.length<6)=true:=decide_eq_true h6;go_wp2;have HR8:=A_ (HR7.out.below (below_drew (Below.refl _ _)));have BK8:=A_ (show w7.drew.heap[g8]?=some (.cells #[.bool l,.string p] 114 (0,0))from BK7.out);have SZ8:=A_ (show w.heap.size≤w7.drew.heap.size from SZ7.out);replace G0:=A_ (Kd.R_drew G0.out);replace G1:=A_ (Kd.R_drew G1.out);replace HH:=A_ (Kd.H_drew HH.out);replace hy0:=show w7.drew.cell? _=_ from hy0;replace hy1:=show w7.drew.cell? _=_ from hy1;replace hy2:=show w7.drew.cell? _=_ from hy2;replace hff:=show ∀j_,w7.drew.frozen? ⟨g,j*3+j_,none⟩=false from hff;clear HR7 BK7 SZ7;refine start_ (n:=12) (S:=fun w'=>w'.cell? ⟨g,j*3+1,none⟩=some (.slice A1 (lastG gs).f1.length cc1)∧(w'.cell? ⟨g8,0,none⟩=some (.bool l)∧w'.cell? ⟨g8,1,none⟩=some (.string p))) (ds:=[11]) #[false,false,false,false,false,false,false,false,false,false,false,false] (by kernel_rfl) rfl rfl ⟨hy1,⟨(blk_cell BK8.out 0).trans rfl,(blk_cell BK8.out 1).trans rfl⟩⟩ (fun hHeld=>?_);generalize w7.drew=w8 at HR8 BK8 SZ8 G0 G1 HH hHeld hy0 hy1 hy2 hff ⊢;refine rgP 0 (some 90) #[true,false,false,false,false,false,false,false,false,false,false,false] ?_;refine rgP 1 (some 91) #[true,true,false,false,false,false,false,false,false,false,false,false] ?_;refine rgP 2 (some 92) #[true,true,true,false,false,false,false,false,false,false,false,false] ?_;refine rgP 3 (some 93) #[true,true,true,true,false,false,false,false,false,false,false,false] ?_;refine rgP 5 (some 95) #[true,true,true,true,false,true,false,false,false,false,false,false] ?_;refine rgT3 4 (some 94) #[true,true,true,true,true,true,false,false,false,false,false,false] hHeld ?_;refine rgT3 6 (some 96) #[true,true,true,true,true,true,true,false,false,false,false,false] hHeld ?_;refine rgO 7 97 (.slice (some ⟨w8.heap.size,0,none⟩) 1 1) (w8.alloc (.cells #[.bool l,.string p] 93)) #[true,true,true,true,true,true,true,true,false,false,false,false] ?_ (fun hHeld=>?_)
   ·exact⟨(World.cell?_alloc_lt _ _ _ (wb_ _ _ hHeld.1)).trans hHeld.1,⟨(World.cell?_alloc_lt _ _ _ (wb_ _ _ hHeld.2.1)).trans hHeld.2.1,(World.cell?_alloc_lt _ _ _ (wb_ _ _ hHeld.2.2)).trans hHeld.2.2⟩⟩
   refine one_ (i:=8) (N:=some 98) #[true,true,true,true,true,true,true,true,true,false,false,false] rfl rfl (by kernel_rfl) (by decide) (fun K hK=>?_);refine Kd.R_append_step k93 (w0:=w0) (W:=w8) base (by rfl) (.tmp 94) (.tmp 97) 30 93 (.agg #[.bool false,.string ⟨#[]⟩]) 24 (by rfl) Tryz.underlying30 infoRu rfl (by decide) (by omega) (.slice A1 (lastG gs).f1.length cc1) (lastG gs).f1 ⟨l,p⟩ [.bool l,.string p] (fun k=>oki k∨(ok k∧w8.heap.size≤k)) (fun _=>False) (by rfl) (by rfl) (k93_mkM _ _ _ ⟨l,p⟩) (fun _ hk=>hk.elim) (fun k hk=>.inr ⟨HF.out k (nT_ SZ8.out hk),hk⟩) (Kd.R_mono G1.out (fun _ hk=>.inl hk)) HR8.out.B (nT_ HR8.out.le (Nat.le_of_lt HR8.out.lt)) (by omega) ?_;intro v3 w1 ho hb hg hat;obtain⟨A3,cc3,rfl⟩:=Kd.R_slice ho;have en:((lastG gs).f1++[(⟨l,p⟩:S93)]).length=(lastG gs).f1.length+1:=by rw[lA_,List.length_singleton]
   rw[en]at ho ⊢;have hneg:some g≠(Value.slice A1 (lastG gs).f1.length cc1).ownBlock:=fun e=>(hoki g (G1.out.1 g e.symm)).2 rfl
   have hneb:some g8≠(Value.slice A1 (lastG gs).f1.length cc1).ownBlock:=Kd.R_ne G1.out BK8.out (by decide);have hz0:=cell_grown hg hy1 hneg;have H1:=A_ (Kd.H_grown (Kd.H_widen HH.out) hg (fun k e=>.inl (G1.out.1 k e)));have R1:=A_ (Kd.R_over' (v:=.slice A1 (lastG gs).f1.length cc1) G0.out (Kd.R_typed G1.out) (by decide) hg);have R0:=A_ ho;have K1:=A_ (Kept.of_grown (S:=ok) hg (Kept.refl w8 _) (fun k hk=>.inl (hoki k (G1.out.1 k hk)).1));have B1:=A_ hb;have hzf:=(Kd.H_at H1.out (by omega) (by omega)).2 1;rw[tN_,show kGp.sz=3 from rfl]at hzf;have HP:=A_ (Kd.S_seg0 H1.out (by omega) (by omega) (seg:=[.slice A3 ((lastG gs).f1.length+1) cc3]) (j:=1) (show 1+1≤3 by decide) (x':=⟨(lastG gs).f0,(lastG gs).f1++[⟨l,p⟩],(lastG gs).f2⟩) (k32_mkM _ _ _ ⟨(lastG gs).f0,(lastG gs).f1++[⟨l,p⟩],(lastG gs).f2⟩ (Kd.R_mono R1.out (fun _ hk=>.inl hk)) R0.out) (fun _ hk=>hk));refine hK.out _ _ ⟨hz0,⟨cell_grown hg ((blk_cell BK8.out 0).trans rfl) hneb,cell_grown hg ((blk_cell BK8.out 1).trans rfl) hneb⟩⟩ (fun hHeld=>?_);clear hK K ho hb hg hat hneg hneb hHeld hy0 hy1 hy2 hff;refine rgN 98 ?_;refine rgP 9 (some 99) #[true,true,true,true,true,true,true,true,true,true,false,false] ?_;refine rgP 10 (some 100) #[true,true,true,true,true,true,true,true,true,true,true,false] ?_;refine rgL 11 (w1.setCell ⟨g,j*3+1,none⟩ (.slice A3 ((lastG gs).f1.length+1) cc3)) #[true,true,true,true,true,true,true,true,true,true,true,true] ?_;refine done_ (by kernel_rfl) ?_;have hp1:=HP.out.1;have hp2:=HP.out.2;rw[tN_,show kGp.sz=3 from rfl]at hp1 hp2;have HQ:Aside0 (Rd w0 w (w1.setCell ⟨g,j*3+1,none⟩ (.slice A3 ((lastG gs).f1.length+1) cc3)) base gr ok (.slice (some ⟨g,0,none⟩) gs.length cc) true (gs.set j ⟨(lastG gs).f0,(lastG gs).f1++[⟨l,p⟩],(lastG gs).f2⟩)):=A_ (HR8.out.written (wd:=w1.setCell ⟨g,j*3+1,none⟩ (.slice A3 ((lastG gs).f1.length+1) cc3)) (Kept.of_grown hp2 K1.out (fun k hk=>.inl (by injection hk with hk;subst hk;exact(Kd.S_R HR8.out.S).1 _ rfl))) hp1 (B1.out.setCell (p:=⟨g,j*3+1,none⟩) (Kd.S_base HR8.out.S _ rfl) _));clear hp1 hp2 HP hz0 hzf;go_wp2
   (try simp only[Exit.inBlock,Exit.then])
   refine bodyPost_end (results_none rfl _ _ _) rfl ?_;exact⟨rfl,.slice (some ⟨g,0,none⟩) gs.length cc,by rw[hj];exact HQ.out⟩
  ·rw[if_neg h6]at hF
   subst hF;have e6:decide (((lastG gs).f1.length:Int)<6)=false:=decide_eq_false (by omega);have e6n:decide ((lastG gs).f1.length<6)=false:=decide_eq_false h6;go_wp2
   (try simp only[Exit.inBlock,Exit.then])
   refine bodyPost_end (results_none rfl _ _ _) rfl ?_;exact⟨rfl,_,HR7.out⟩
set_option maxHeartbeats 8000000 in
set_option maxRecDepth 100000 in
theorem take_wait (base gr:Nat)(ok:Nat→Prop)(v:Value)(b:Bool)(gs:List Gp)(n:Int)(r:List Gp×Bool)(w0 w:World)(hr:Rd w0 w w base gr ok v b gs)(hfr:∀k,w.heap.size≤k→ok k)(hsm:gs.length<1000000)(hs2:(lastG gs).f0.length<1000000)(hF:takeF gs b (.wait n)=r):
  Calls Tryz.prog 60 #[.pointer (some ⟨gr,0,none⟩),.iface 117 (.agg #[.int .i64 n])] w fun e w'=>Took w0 w base gr ok r e w':=by
 obtain⟨A,cc,hu⟩:=Kd.S_slice hr.S;subst hu;have HR:=A_ hr;have HF:=A_ hfr;have HT:=A_ hF;clear hr hfr hF
 go_enter Tryz.func60,Tryz.ntmps60
 go_upto_region 1 with(first|((with_reducible refine gate_dst (N:=4) rfl ?_);refine box_event ?hg (N:=4) ?hd (cs:=#[.string ⟨#[]⟩]) (t:=112) ?hr ?_;(case hd=>rfl);(case hg=>rfl);(case hr=>first|(go_simp;done)|(go_simp;rfl));rintro g4 eg w4 hk4 hb4;have EG4:=A_ eg;have BK4:=A_ hk4;have HB4:=A_ hb4;have hc0:w4.cell? ⟨g4,0,none⟩=some (.string ⟨#[]⟩):=(blk_cell hk4 0).trans rfl;have hd0:=blk_frozen hk4 0;clear eg hk4 hb4))
 have HR4:=A_ (HR.out.below (below_set HB4.out (by rw[EG4.out];exact lL_ _)):Rd w0 w (w4.setCell ⟨g4,0,none⟩ (.string bE_)) base gr ok (.slice A gs.length cc) b gs);have BK5:=A_ (blk_put BK4.out 0 (.string bE_) rfl:(w4.setCell ⟨g4,0,none⟩ (.string bE_)).heap[g4]?=some (.cells #[.string bE_] 112 (0,0)));have SZ:=A_ (by have:=blk_lt BK4.out;have:=EG4.out;simp[World.setCell];omega:w.heap.size≤(w4.setCell ⟨g4,0,none⟩ (.string bE_)).heap.size);clear HR BK4 HB4 EG4 hc0 hd0;generalize (w4.setCell ⟨g4,0,none⟩ (.string bE_))=w5 at HR4 BK5 SZ ⊢;have hx0:=HR4.out.cell0;have hx1:=HR4.out.cell1;have hx4:w5.cell? ⟨g4,0,none⟩=some (.string bE_):=(blk_cell BK5.out 0).trans rfl;have hf0:=blk_frozen HR4.out.box 0;have hf1:=blk_frozen HR4.out.box 1
 by_cases c4:gs.length=0
 ·have hF:=HT.out
  simp only[takeF]at hF;rw[if_pos c4]at hF;subst hF;clear HT;have n0:((gs.length:Int)==0)=true:=by rw[c4];rfl
  clear c4;go_wp2
  (try simp only[Exit.inBlock,Exit.then])
  refine bodyPost_ret (results_none rfl _ _ _) rfl ?_;exact⟨rfl,_,HR4.out⟩
 ·have hF:=HT.out
  simp only[takeF]at hF;rw[if_neg c4]at hF;clear HT;have n1:((gs.length:Int)==0)=false:=bN_.mpr (by omega);obtain⟨g,cap,_,_,_,eu,_⟩:=(HR4.out.lines).last (by omega);injection eu with eu1 eu2 eu3;subst eu1;clear eu2 eu3;obtain⟨j,hj⟩:∃j,gs.length-1=j:=⟨_,rfl⟩;have ej:wrap64 ((gs.length:Int)-1)=(j:Int):=by unfold wrap64;omega
  have p0:(0≤(j:Int))=True:=eq_true (by omega);have q0:((j:Int)<(gs.length:Int))=True:=eq_true (by omega);go_wp2;refine start_ (n:=12) (S:=fun w'=>w'.cell? ⟨gr,0,none⟩=some (.slice (some ⟨g,0,none⟩) gs.length cc)∧True) (ds:=[]) #[false,false,false,false,false,false,false,false,false,false,false,false] (by kernel_rfl) rfl rfl ⟨hx0,trivial⟩ (fun hHeld=>?_);have HR6:=A_ (HR4.out.below (below_drew (Below.refl _ _)));have SZ6:=A_ (show w.heap.size≤w5.drew.heap.size from SZ.out);clear hx0 hx1 hx4 hf0 hf1;generalize w5.drew=w6 at HR6 SZ6 hHeld ⊢;refine rgP 0 (some 52) #[true,false,false,false,false,false,false,false,false,false,false,false] ?_;refine rgP 1 (some 53) #[true,true,false,false,false,false,false,false,false,false,false,false] ?_;refine rgP 2 (some 54) #[true,true,true,false,false,false,false,false,false,false,false,false] ?_;refine rgP 4 (some 56) #[true,true,true,false,true,false,false,false,false,false,false,false] ?_;refine rgP 5 (some 57) #[true,true,true,false,true,true,false,false,false,false,false,false] ?_;refine rgP 6 (some 58) #[true,true,true,false,true,true,true,false,false,false,false,false] ?_;refine rgT 3 (some 55) #[true,true,true,true,true,true,true,false,false,false,false,false] hHeld ?_;refine rgT 7 (some 59) #[true,true,true,true,true,true,true,true,false,false,false,false] hHeld ?_;refine rgP 8 (some 60) #[true,true,true,true,true,true,true,true,true,false,false,false] ?_;refine rgP 9 (some 61) #[true,true,true,true,true,true,true,true,true,true,false,false] ?_;rw[ej];refine rgP 10 (some 62) #[true,true,true,true,true,true,true,true,true,true,true,false] ?_;refine rgP 11 (some 6) #[true,true,true,true,true,true,true,true,true,true,true,true] ?_;refine done_ (by kernel_rfl) ?_;clear hHeld HR4 BK5 SZ
  go_upto_region 17 with(first|((with_reducible refine gate_dst (N:=9) rfl ?_);refine box_event ?hg (N:=9) ?hd (cs:=#[.int .i64 0]) (t:=117) ?hr ?_;(case hd=>rfl);(case hg=>rfl);(case hr=>first|(go_simp;done)|(go_simp;rfl));rintro g9 eg w4 hk4 hb4;have EG4:=A_ eg;have BK4:=A_ hk4;have HB4:=A_ hb4;have hc0:w4.cell? ⟨g9,0,none⟩=some (.int .i64 0):=(blk_cell hk4 0).trans rfl;have hd0:=blk_frozen hk4 0;clear eg hk4 hb4))
  have HB5:=A_ (show Below w6.heap.size w6 (w4.setCell ⟨g9,0,none⟩ (.int .i64 n))from(below_set HB4.out (by rw[EG4.out];exact lL_ _)));have BK5:=A_ (show(w4.setCell ⟨g9,0,none⟩ (.int .i64 n)).heap[g9]?=some (.cells #[.int .i64 n] 117 (0,0))from(blk_put BK4.out 0 (.int .i64 n) rfl));have NE5:=A_ (show g9≠gr from by have:=EG4.out;have:=HR6.out.lt;omega);clear BK4 HB4 EG4 hc0 hd0;generalize (w4.setCell ⟨g9,0,none⟩ (.int .i64 n))=w5 at HB5 BK5 ⊢;have HR5:=A_ (HR6.out.below HB5.out);have SZ5:=A_ (nT_ SZ6.out HB5.out.size);have hx1:=HR5.out.cell1;have hf1:=blk_frozen HR5.out.box 1
  go_upto_region 18 with(fail)
  have HR7:=A_ (HR5.out.flag true);have BK7:=A_ (show(w5.setCell ⟨gr,1,none⟩ (.bool true)).heap[g9]?=some (.cells #[.int .i64 n] 117 (0,0))from blk_far BK5.out NE5.out _);have SZ7:=A_ (show w.heap.size≤(w5.setCell ⟨gr,1,none⟩ (.bool true)).heap.size from by simp[World.setCell];exact SZ5.out);clear HR6 SZ6 HB5 BK5 NE5 HR5 SZ5 hx1 hf1;generalize (w5.setCell ⟨gr,1,none⟩ (.bool true))=w7 at HR7 BK7 SZ7 ⊢;obtain⟨g_,cap_,v0,v1,oki,eu,g0,g1,⟨hy0,hy1,hy2⟩,hff,hoki,hH⟩:=(HR7.out.lines).last (by omega);injection eu with eu1 eu2 eu3;injection eu1 with eu1;injection eu1 with eg _ _;subst eg;subst eu3;obtain⟨A0,cc0,rfl⟩:=Kd.R_slice g0;obtain⟨A1,cc1,rfl⟩:=Kd.R_slice g1;rw[hj]at hy0 hy1 hy2 hff hH;have G0:=A_ g0;have G1:=A_ g1;have HH:=A_ hH;clear g0 g1 hH;subst hF;have hx9:w7.cell? ⟨g9,0,none⟩=some (.int .i64 n):=(blk_cell BK7.out 0).trans rfl;have hf2:=hff 2;have HP:=A_ (Kd.S_seg0 HH.out (by omega) (by omega) (seg:=[.int .i64 n]) (j:=2) (show 2+1≤3 by decide) (x':=⟨(lastG gs).f0,(lastG gs).f1,n⟩) (k32_mkM _ _ _ ⟨(lastG gs).f0,(lastG gs).f1,n⟩ G0.out G1.out) (fun _ hk=>hk));have hp1:=HP.out.1;have hp2:=HP.out.2;rw[tN_,show kGp.sz=3 from rfl]at hp1 hp2;have HQ:Aside0 (Rd w0 w (w7.setCell ⟨g,j*3+2,none⟩ (.int .i64 n)) base gr ok (.slice (some ⟨g,0,none⟩) gs.length cc) true (gs.set j ⟨(lastG gs).f0,(lastG gs).f1,n⟩)):=A_ (HR7.out.written (wd:=w7.setCell ⟨g,j*3+2,none⟩ (.int .i64 n)) (Kept.of_grown hp2 (Kept.refl w7 _) (fun k hk=>.inl (by injection hk with hk;subst hk;exact(Kd.S_R HR7.out.S).1 _ rfl))) hp1 (HR7.out.B.setCell (p:=⟨g,j*3+2,none⟩) (Kd.S_base HR7.out.S _ rfl) _));clear hp1 hp2 HP;go_wp2
  (try simp only[Exit.inBlock,Exit.then])
  refine bodyPost_end (results_none rfl _ _ _) rfl ?_;exact⟨rfl,_,HQ.out⟩
theorem impl_take.calls (base gr:Nat)(ok:Nat→Prop)(v:Value)(b:Bool)(gs:List Gp)(x:RL)(w0 w:World)(hr:Rd w0 w w base gr ok v b gs)(hfr:∀k,w.heap.size≤k→ok k)(hsm:gs.length<1000000)(hs2:(lastG gs).f0.length<1000000):
  Calls Tryz.prog 60 #[.pointer (some ⟨gr,0,none⟩),x.v] w fun e w'=>Took w0 w base gr ok (takeF gs b x) e w':=by
 cases x with
 |caller x=>exact take_caller base gr ok v b gs x _ w0 w hr hfr hsm hs2 rfl
 |rule l p=>exact take_rule base gr ok v b gs l p _ w0 w hr hfr hsm hs2 rfl
 |wait n=>exact take_wait base gr ok v b gs n _ w0 w hr hfr hsm hs2 rfl
end Go.Proofs.YtloijngehifbmaaGreatDoor.P
end
section
namespace Go.Proofs.YtloijngehifbmaaGreatDoor.P
open Go.RowKit Go.Proofs.YtloijngehifbmaaGreatDoorW PrintWords PrintLast PrintMore
def iLoop (k:Nat):List BA→List Gp→Bool→Option (List Gp)
  | [],gs,_=>some gs
  |s::r,gs,b=>(impl_readLine.f k s).bind fun o=>match o with
    |none=>iLoop k r gs b
    |some x=>if gs.length<1000000∧(lastG gs).f0.length<1000000 then iLoop k r (takeF gs b x).1 (takeF gs b x).2 else none
def impl_NoticeRead.f (k:Nat)(a0:BA):Option (List Gp):=(strings_Split.f k a0 (⟨#[10]⟩:BA)).bind fun ls=>if ls.length≤1000000000 then iLoop k (ls.take 40) [] false else none
set_option maxHeartbeats 8000000 in
set_option maxRecDepth 100000 in
theorem impl_NoticeRead.calls (k:Nat)(a0:BA)(r:List Gp)(w:World)(h:impl_NoticeRead.f k a0=some r):
    Calls Tryz.prog 21 #[.string a0] w fun e w'=>∃v0_:Value,e=.returned (v0_)∧Kd.S kGp 32 w' w.heap.size (fun _=>True) v0_ r∧Below w.heap.size w w':=by
  unfold impl_NoticeRead.f at h;obtain⟨ls,hls,h2⟩:=oE_.mp h
  split at h2
  case isFalse=>cases h2
  rename_i hbig;have HS:=A_ hls;have H0:=A_ h2;clear h hls h2
  go_enter Tryz.func21,Tryz.ntmps21
  go_wp2_with (first
    | ((with_reducible refine gate_dst (N:=3) rfl ?_);refine box_event ?hg (N:=3) ?hd (cs:=#[.slice none 0 0,.bool false]) (t:=85) ?hr ?_;(case hd=>rfl);(case hg=>rfl);(case hr=>first|(go_simp;done)|(go_simp;rfl));rintro gr eg w3 hk3 hb3;have EG:=A_ eg;have BK3:=A_ hk3;have HB3:=A_ hb3;clear eg hk3 hb3)
    | (go_at_call 58;(with_reducible refine(strings_Split.calls k a0 (⟨#[10]⟩:BA) ls _ HS.out).mono ?_);rintro e w12 ⟨v12,rfl,ho12,hb12⟩;obtain⟨A12,c12,rfl⟩:=Kd.R_slice ho12;have HO:=A_ ho12;have HB12:=A_ hb12;clear ho12 hb12))
  have e40:(ls.take 40).length=min 40 ls.length:=lT_;have HO1:=A_ (Kd.R_tight rfl HO.out);have GL:=A_ (blk_lt BK3.out);have HR3:=A_ (show Rd w w w12 w.heap.size gr (fun k=>some k≠(Value.slice A12 ls.length c12).ownBlock∧k≠gr) (.slice none 0 0) false []from
    Rd.below ⟨Kd.S_nil _ _ _ _ _,HB3.out,Kept.of_below HB3.out _,by rw[EG.out];exact lL_ _,fun _ h=>h.2,BK3.out⟩ HB12.out)
  clear HO HB12 HB3 BK3 HS
  go_loopg [11] (ls.take 40).length (fun g v11 wx=>∃(i:Nat)(gs:List Gp)(b:Bool)(v:Value),v11=.int .i64 i∧i+g=(ls.take 40).length∧Aside0 (iLoop k ((ls.take 40).drop i) gs b=some r)∧Aside0 (Rd w w wx w.heap.size gr (fun k=>some k≠(Value.slice A12 ls.length c12).ownBlock∧k≠gr) v b gs)∧Aside0 (Kd.string.R 9 wx w3.heap.size (fun k=>some k=(Value.slice A12 ls.length c12).ownBlock) (.slice A12 ls.length c12) ls))
  case atStart=>exact⟨0,[],false,_,rfl,by omega,⟨by simpa using H0.out⟩,HR3,HO1⟩
  case round=>
    clear H0 HR3 HO1;obtain⟨i,gs,b,v,rfl,hig,H,HR,HO⟩:=hrel;obtain⟨A3,c3,e3⟩:=Kd.S_slice HR.out.S;subst e3;have hx0:=HR.out.cell0;cases gk with
    |zero=>
      have hr:gs=r:=by
        have:=H.out;rw[List.drop_of_length_le (by omega)]at this;exact oJ_ this
      subst hr
      by_cases c1:i<ls.length
      · have c1b:decide ((i:Int)<(ls.length:Int))=true:=decide_eq_true (by omega)
        have c1n:decide (i<ls.length)=true:=decide_eq_true (by omega);have c2b:((i:Int)==40)=true:=beq_iff_eq.mpr (by omega);obtain⟨gl,cl,eu,hb0,hb1,hx1⟩:=string_at HO.out c1;injection eu with eu1 eu2 eu3;subst eu1;subst eu3;have p0:(0≤(i:Int))=True:=eq_true (by omega);have q0:((i:Int)<(ls.length:Int))=True:=eq_true (by omega);have q1:(i<ls.length)=True:=eq_true (by omega);generalize ls[i]=s at hx1;clear c1;go_wp2;go_ret;exact⟨_,rfl,Kd.S_mono HR.out.S (fun _ _=>trivial),HR.out.B⟩
      · have c1b:decide ((i:Int)<(ls.length:Int))=false:=decide_eq_false (by omega)
        have c1n:decide (i<ls.length)=false:=decide_eq_false (by omega);clear c1;go_wp2;go_ret;exact⟨_,rfl,Kd.S_mono HR.out.S (fun _ _=>trivial),HR.out.B⟩
    |succ g1=>
      have hi:i<ls.length:=by omega
      have c1b:decide ((i:Int)<(ls.length:Int))=true:=decide_eq_true (by omega);have c1n:decide (i<ls.length)=true:=decide_eq_true (by omega);have c2b:((i:Int)==40)=false:=bN_.mpr (by omega);obtain⟨gl,cl,eu,hb0,hb1,hx1⟩:=string_at HO.out hi;injection eu with eu1 eu2 eu3;subst eu1;subst eu3;have p0:(0≤(i:Int))=True:=eq_true (by omega);have q0:((i:Int)<(ls.length:Int))=True:=eq_true (by omega);have q1:(i<ls.length)=True:=eq_true (by omega);have h1:=H.out;rw[dE_ (by omega:i<(ls.take 40).length),List.getElem_take]at h1;unfold iLoop at h1;obtain⟨o,A1,h2⟩:=oE_.mp h1;have HA1:=A_ A1;generalize ls[i]=s at hx1 HA1;clear H h1 A1;cases o with
      |none=>
        have H':=A_ h2;clear h2
        go_wp2_with (first
          | (go_at_call 59;(with_reducible refine(impl_readLine.calls k s none _ HA1.out).mono ?_);rintro e w5 ⟨iv,rfl,_,hb5⟩;simp only[Option.isSome_none];have HB5:=A_ hb5;clear hb5))
        go_roundg g1
        case measure=>omega
        case rel=>exact⟨i+1,gs,b,_,by first|rw[nxt i (by omega)]|simp,by omega,H',⟨HR.out.below HB5.out⟩,⟨Kd.R_below HO.out HB5.out⟩⟩
      |some x=>
        simp only at h2
        split at h2
        case isFalse=>cases h2
        rename_i hsm;have H':=A_ h2;clear h2
        go_wp2_with (first
          | (go_at_call 59;(with_reducible refine(impl_readLine.calls k s (some x) _ HA1.out).mono ?_);rintro e w5 ⟨iv,rfl,hiv,hb5⟩;simp only[Option.isSome_some];obtain rfl:=hiv x rfl;have HB5:=A_ hb5;clear hb5 hiv)
          | (go_at_call 60
             have HQ:=A_ (HR.out.below HB5.out);have HP:=A_ (Kd.R_below HO.out HB5.out)
             (with_reducible refine(impl_take.calls w.heap.size gr (fun k=>some k≠(Value.slice (some ⟨gl,0,none⟩) ls.length c12).ownBlock∧k≠gr) (.slice A3 gs.length c3) b gs x w _ ⟨HQ.out.S,HQ.out.B,Kept.refl _ _,HQ.out.le,HQ.out.ng,HQ.out.box⟩ (fun k hk=>⟨fun he=>by have:=Kd.R_lt HP.out k he.symm;omega,fun he=>by have:=HQ.out.lt;omega⟩) hsm.1 hsm.2).mono ?_)
             rintro e w6 ⟨rfl,v6,h6⟩;have H6:=A_ (show Rd w w w6 w.heap.size gr (fun k=>some k≠(Value.slice (some ⟨gl,0,none⟩) ls.length c12).ownBlock∧k≠gr) v6 (takeF gs b x).2 (takeF gs b x).1 from⟨h6.S,h6.B,HQ.out.K.then_ h6.K (fun k hk=>.inl hk),h6.le,h6.ng,h6.box⟩);have HO6:=A_ (Kd.R_step HP.out (fun k hk hlt=>h6.K.2 k hlt (fun h=>h.elim (fun h=>h.1 hk) (fun h=>by have hb:=Kd.R_base HP.out k hk.symm;have:=GL.out;omega))));clear h6))
        go_roundg g1
        case measure=>omega
        case rel=>exact⟨i+1,(takeF gs b x).1,(takeF gs b x).2,_,by first|rw[nxt i (by omega)]|simp,by omega,H',H6,HO6⟩
end Go.Proofs.YtloijngehifbmaaGreatDoor.P
end
section
namespace Go.Proofs.YtloijngehifbmaaGreatDoor.P
open Go.RowKit Go.Proofs.YtloijngehifbmaaGreatDoorW PrintWords PrintLast PrintMore Go.Proofs.YtloijngehifbmaaGreatDoor.B Go.Proofs.YtloijngehifbmaaGreatDoor.Ad
abbrev Ge:=S32
abbrev Re:=S93
theorem contains_walk (A0:Option Addr)(c0:Nat)(l0:List BA)(x:BA)(w:World)(hr:Kd.C Kd.string w A0 l0.length l0)(hl:l0.length≤9223372036854775807):
  Calls Tryz.prog 56 #[.slice A0 l0.length c0,.string x] w fun e w'=>e=.returned (.bool (Lib.containsS l0 x))∧w'=w:=by
 rcases Nat.eq_zero_or_pos l0.length with h0|h0
 ·obtain rfl:l0=[]:=List.length_eq_zero_iff.1 h0
  exact Tryz.slices_Contains_string_empty A0 c0 x w
 ·obtain⟨bk,o,rfl,hb,hcells⟩:=row_at hr h0
  refine(Tryz.slices_Contains_string bk o l0.length c0 l0 x w (lL_ _) hl (fun j hj=>?_)).mono fun e w' ⟨he,hw⟩=>⟨?_,hw⟩
  ·rw[gD_,gE_ hj]
   exact hcells j _ (gE_ hj)
  ·rw[List.take_length]at he
   exact he
set_option maxRecDepth 100000 in
theorem has_walk (A0:Option Addr)(c0:Nat)(l0:List BA)(A1:Option Addr)(n1 c1:Nat)(n2:Int)(B:Nat)(x:BA)(w:World)(hr:Kd.C Kd.string w A0 l0.length l0)(hB:w.cell? ⟨B,0,none⟩=some (.string x))(hl:l0.length≤9223372036854775807):
  Calls Tryz.prog 55 #[.agg #[.slice A0 l0.length c0,.slice A1 n1 c1,.int .i64 n2],.pointer (some ⟨B,0,none⟩)] w fun e w'=>e=.returned (.bool (Lib.containsS l0 x))∧Below w.heap.size w w':=by
 have hu:=Tryz.underlying32;have HB:=A_ (Below.refl w.heap.size w);have HR:=A_ hr;have HX:=A_ hB;clear hr hB
 go_enter Tryz.func55,Tryz.ntmps55
 go_wp2_with (first|((with_reducible refine gate_dst (N:=2) rfl ?_);refine box_event ?hg (N:=2) ?hd (cs:=#[.slice A0 l0.length c0,.slice A1 n1 c1,.int .i64 n2]) (t:=32) ?hr ?_;(case hd=>rfl);(case hg=>rfl);(case hr=>first|(go_simp;done)|(go_simp;rfl));intro gb hg w2 hbox hb;have BK:=A_ hbox;replace HB:=A_ (below_step HB.out hb);have hx6:=(hb.cell (wb_ _ _ HX.out)).trans HX.out;replace HR:=A_ (Kd.C_below HR.out hb);clear hb hg hbox;have hc0:w2.cell? ⟨gb,0,none⟩=some (.slice A0 l0.length c0):=(blk_cell BK.out 0).trans rfl)|(go_at_call 56;refine(contains_walk A0 c0 l0 x _ HR.out hl).mono ?_;rintro e w3 ⟨rfl,rfl⟩))
 go_ret;exact⟨rfl,HB.out⟩
set_option maxHeartbeats 4000000 in
set_option maxRecDepth 100000 in
theorem indexFunc_walk (A0:Option Addr)(c0:Nat)(l0:List Ge)(B:Nat)(x:BA)(w:World)(hr0:Kd.C k32 w A0 l0.length l0)(hB:w.cell? ⟨B,0,none⟩=some (.string x))(hl:l0.length≤4611686018427387904)(hn:∀g∈l0,g.f0.length≤9223372036854775807):
  Calls Tryz.prog 84 #[.slice A0 l0.length c0,.func (.func 55) #[] #[.pointer (some ⟨B,0,none⟩)]] w fun e w'=>∃r:Int,e=.returned (.int .i64 r)∧decide (0≤r)=l0.any (fun g=>Lib.containsS g.f0 x)∧Below w.heap.size w w':=by
 have hu:=Tryz.underlying32;have HB0:=A_ (Below.refl w.heap.size w)
 go_enter Tryz.func84,Tryz.ntmps84
 go_wp2
 go_loopg [8] l0.length (fun g v wx=>∃i:Nat,v=.int .i64 i∧i+g=l0.length∧Aside0 ((l0.take i).any (fun g=>Lib.containsS g.f0 x)=false)∧Aside0 (Below w.heap.size w wx))
 case atStart=>exact⟨0,rfl,by omega,⟨rfl⟩,HB0⟩
 case round=>
  clear HB0;obtain⟨i,rfl,hig,HA,HB⟩:=hrel;cases gk with
  |zero=>
   obtain rfl:i=l0.length:=by omega
   have hlt:decide ((l0.length:Int)<(l0.length:Int))=false:=decide_eq_false (by omega);go_wp2;go_ret;refine⟨_,rfl,?_,HB.out⟩;have:=HA.out;rw[List.take_length]at this;rw[this];rfl
  |succ g=>
   have hi:i<l0.length:=by omega
   have hlt:decide ((i:Int)<(l0.length:Int))=true:=decide_eq_true (by omega);obtain⟨ad,A1,c1,A2,c2,ea,hx0,hx1,hx2,hl1,hr1,hl2,hr2⟩:=at_T32 hr0 (i:Int) (by omega) (by omega);subst ea;replace hx0:=(HB.out.cell (wb_ w _ hx0)).trans hx0;replace hx1:=(HB.out.cell (wb_ w _ hx1)).trans hx1;replace hx2:=(HB.out.cell (wb_ w _ hx2)).trans hx2;have hx3:=(HB.out.cell (wb_ w _ hB)).trans hB;have p0:(0≤(i:Int))=True:=eq_true (by omega);have q0:((i:Int)<(l0.length:Int))=True:=eq_true (by omega);obtain⟨p,hp⟩:∃p,rd_T32 l0 (i:Int)=p:=⟨_,rfl⟩;have hpi:p=l0[i]:=by
    rw[←hp];simp[rd_T32,List.getD,gE_ hi]
   rw[hp]at hx0 hx1 hx2 hl1 hr1 hl2 hr2;simp only[tN_]at hx0 hx1 hx2;have HR:=A_ (Kd.C_below hr1 HB.out);have HN:=A_ (show p.f0.length≤9223372036854775807 from hn _ (by rw[hpi];exact List.getElem_mem hi));have HT:=A_ (show(l0.take (i+1)).any (fun g=>Lib.containsS g.f0 x)=Lib.containsS p.f0 x by
    rw[List.take_succ_eq_append_getElem hi,List.any_append,HA.out,←hpi];simp)
   have HI:=A_ (show Lib.containsS p.f0 x=true→l0.any (fun g=>Lib.containsS g.f0 x)=true from fun h=>List.any_eq_true.2 ⟨p,by rw[hpi];exact List.getElem_mem hi,h⟩);clear hp hpi hr1 hr2 hl1 hl2 HA;obtain⟨q,hq⟩:∃q,Lib.containsS p.f0 x=q:=⟨_,rfl⟩;have HQ:=A_ hq;clear hq;cases q with
   |true=>
    go_wp2_with (first|(go_at_call 55;refine(has_walk A1 c1 p.f0 A2 _ c2 _ B x _ HR.out hx3 HN.out).mono ?_;rintro e w3 ⟨rfl,hb⟩;rw[HQ.out];replace HB:=A_ (below_step HB.out hb);clear hb))
    go_ret;refine⟨_,rfl,?_,HB.out⟩;rw[HI.out HQ.out];exact decide_eq_true (by omega)
   |false=>
    go_wp2_with (first|(go_at_call 55;refine(has_walk A1 c1 p.f0 A2 _ c2 _ B x _ HR.out hx3 HN.out).mono ?_;rintro e w3 ⟨rfl,hb⟩;rw[HQ.out];replace HB:=A_ (below_step HB.out hb);clear hb))
    go_roundg g
    case measure=>omega
    case rel=>exact⟨i+1,by simp,by omega,⟨by rw[HT.out,HQ.out]⟩,HB⟩
set_option maxRecDepth 100000 in
theorem containsFunc_walk (A0:Option Addr)(c0:Nat)(l0:List Ge)(B:Nat)(x:BA)(w:World)(hr0:Kd.C k32 w A0 l0.length l0)(hB:w.cell? ⟨B,0,none⟩=some (.string x))(hl:l0.length≤4611686018427387904)(hn:∀g∈l0,g.f0.length≤9223372036854775807):
  Calls Tryz.prog 57 #[.slice A0 l0.length c0,.func (.func 55) #[] #[.pointer (some ⟨B,0,none⟩)]] w fun e w'=>e=.returned (.bool (l0.any (fun g=>Lib.containsS g.f0 x)))∧Below w.heap.size w w':=by
 go_enter Tryz.func57,Tryz.ntmps57
 go_wp2_with (first|(go_at_call 84;refine(indexFunc_walk A0 c0 l0 B x _ hr0 hB hl hn).mono ?_;rintro e w1 ⟨r,rfl,hd,hb⟩;have HB:=A_ hb;have HD:=A_ hd;clear hb hd))
 go_ret;exact⟨by rw[←HD.out];rfl,HB.out⟩
theorem put3 {w:World}{g:Nat}{t:TypeId}{a0 b0 c0:Value}(h:w.heap[g]?=some (.cells #[a0,b0,c0] t (0,0)))(a b c:Value):(((w.setCell ⟨g,0,none⟩ a).setCell ⟨g,1,none⟩ b).setCell ⟨g,2,none⟩ c).heap[g]?=some (.cells #[a,b,c] t (0,0)):=
 blk_put (cs:=#[a,b,c0]) (blk_put (cs:=#[a,b0,c0]) (blk_put (cs:=#[a0,b0,c0]) h 0 a rfl) 1 b rfl) 2 c rfl
theorem far3 {w:World}{k g:Nat}{t:TypeId}{cs:Array Value}(h:w.heap[k]?=some (.cells cs t (0,0)))(hne:k≠g)(a b c:Value):(((w.setCell ⟨g,0,none⟩ a).setCell ⟨g,1,none⟩ b).setCell ⟨g,2,none⟩ c).heap[k]?=some (.cells cs t (0,0)):=
 blk_far (p:=⟨g,2,none⟩) (blk_far (p:=⟨g,1,none⟩) (blk_far (p:=⟨g,0,none⟩) h hne a) hne b) hne c
theorem R_far3 {α:Type}{d:Kd α}{e:TypeId}{w:World}{base g:Nat}{v:Value}{xs:List α}{t:Nat}{cs:Array Value}(h:d.R e w base (fun _=>True) v xs)(hb:w.heap[g]?=some (.cells cs t (0,0)))(ht:∀q,q∈e::d.E→q≠t)(a b c:Value):
  d.R e (((w.setCell ⟨g,0,none⟩ a).setCell ⟨g,1,none⟩ b).setCell ⟨g,2,none⟩ c) base (fun _=>True) v xs:=
 Kd.R_mono (Kd.R_far (p:=⟨g,2,none⟩) (Kd.R_far (p:=⟨g,1,none⟩) (Kd.R_far (p:=⟨g,0,none⟩) (Kd.R_types h hb ht) (fun _ hk=>hk.2) a) (fun _ hk=>hk.2) b) (fun _ hk=>hk.2) c) (fun _ _=>trivial)
theorem below3 {w w':World}{g:Nat}(h:Below w.heap.size w w')(hg:w.heap.size≤g)(a b c:Value):Below w.heap.size w (((w'.setCell ⟨g,0,none⟩ a).setCell ⟨g,1,none⟩ b).setCell ⟨g,2,none⟩ c):=below_set (below_set (below_set h hg) hg) hg
theorem put2 {w:World}{g:Nat}{t:TypeId}{a0 b0 c0:Value}(h:w.heap[g]?=some (.cells #[a0,b0,c0] t (0,0)))(b c:Value):((w.setCell ⟨g,1,none⟩ b).setCell ⟨g,2,none⟩ c).heap[g]?=some (.cells #[a0,b,c] t (0,0)):=
 blk_put (cs:=#[a0,b,c0]) (blk_put (cs:=#[a0,b0,c0]) h 1 b rfl) 2 c rfl
theorem far2 {w:World}{k g:Nat}{t:TypeId}{cs:Array Value}(h:w.heap[k]?=some (.cells cs t (0,0)))(hne:k≠g)(b c:Value):((w.setCell ⟨g,1,none⟩ b).setCell ⟨g,2,none⟩ c).heap[k]?=some (.cells cs t (0,0)):=
 blk_far (p:=⟨g,2,none⟩) (blk_far (p:=⟨g,1,none⟩) h hne b) hne c
theorem R_far2 {α:Type}{d:Kd α}{e:TypeId}{w:World}{base g:Nat}{v:Value}{xs:List α}{t:Nat}{cs:Array Value}(h:d.R e w base (fun _=>True) v xs)(hb:w.heap[g]?=some (.cells cs t (0,0)))(ht:∀q,q∈e::d.E→q≠t)(b c:Value):
  d.R e ((w.setCell ⟨g,1,none⟩ b).setCell ⟨g,2,none⟩ c) base (fun _=>True) v xs:=
 Kd.R_mono (Kd.R_far (p:=⟨g,2,none⟩) (Kd.R_far (p:=⟨g,1,none⟩) (Kd.R_types h hb ht) (fun _ hk=>hk.2) b) (fun _ hk=>hk.2) c) (fun _ _=>trivial)
theorem below2 {w w':World}{g:Nat}(h:Below w.heap.size w w')(hg:w.heap.size≤g)(b c:Value):Below w.heap.size w ((w'.setCell ⟨g,1,none⟩ b).setCell ⟨g,2,none⟩ c):=below_set (below_set h hg) hg
set_option maxRecDepth 100000 in
theorem newHas_walk (x:BA)(w:World):Calls Tryz.prog 54 #[.string x] w fun e w'=>∃B,w.heap.size≤B∧e=.returned (.func (.func 55) #[] #[.pointer (some ⟨B,0,none⟩)])∧w'.cell? ⟨B,0,none⟩=some (.string x)∧Below w.heap.size w w':=by
 have hmf:∀(fn:Fn)(first cap:Array Value)(w:World),(Instr.makeFunc fn first cap).run Tryz.prog w=.ok (.func fn first cap) w:=fun _ _ _ _=>rfl
 have HB:=A_ (Below.refl w.heap.size w)
 go_enter Tryz.func54,Tryz.ntmps54
 go_wp2_with (first|((with_reducible refine gate_dst (N:=1) rfl ?_);refine box_event ?hg (N:=1) ?hd (cs:=#[.string x]) (t:=9) ?hr ?_;(case hd=>rfl);(case hg=>rfl);(case hr=>first|(go_simp;done)|(go_simp;rfl));intro gb hg w2 hbox hb;have BK:=A_ hbox;have GE:=A_ (show w.heap.size≤gb from by rw[hg];exact below_size HB.out);replace HB:=A_ (below_step HB.out hb);clear hb hg hbox))
 go_ret;exact⟨gb,GE.out,rfl,(blk_cell BK.out 0).trans rfl,HB.out⟩
def hasN (x:BA)(g:Ge):Bool:=Lib.containsS g.f0 x
def toldF (x:BA):List Ge→List Re→Int→List Re×Int
 | [],rs,n=>(rs,n)
 |g::r,rs,n=>if hasN x g=true then toldF x r (rs++g.f1) (mx n g.f2)else toldF x r rs n
def askF (l:List Ge)(x:BA):BA:=if l.any (hasN x)=true then x else⟨#[42]⟩
def sumR (l:List Ge):Nat:=(l.map fun g=>g.f1.length).sum
def impl_NoticeFor.f (k:Nat)(l0:List Ge)(a1:BA):Option (List BA×List Re×Int):=
 if l0.length≤1000000000∧(∀g∈l0,g.f0.length≤1000000000)∧sumR l0≤1000000000 then some ([a1],toldF (askF l0 a1) l0 [] 0)else none
set_option maxHeartbeats 8000000 in
set_option maxRecDepth 100000 in
theorem impl_NoticeFor.calls (k:Nat)(A0:Option Addr)(c0:Nat)(l0:List Ge)(a1:BA)(r1:List BA)(r2:List Re)(r3:Int)(w:World)(hr0:Kd.C k32 w A0 l0.length l0)(hc0:l0.length≤c0)(h:impl_NoticeFor.f k l0 a1=some (r1,r2,r3)):
  Calls Tryz.prog 20 #[.slice A0 l0.length c0,.string a1] w fun e w'=>∃v0_ v1_:Value,e=.returned (.agg #[v0_,v1_,.int .i64 r3])∧Kd.R Kd.string 9 w' w.heap.size (fun _=>True) v0_ r1∧Kd.R k93 93 w' w.heap.size (fun _=>True) v1_ r2∧Below w.heap.size w w':=by
 have hu:=Tryz.underlying32;unfold impl_NoticeFor.f at h
 split at h
 case isFalse=>cases h
 rename_i hz;obtain⟨h1,h2,h3⟩:=hz;obtain⟨rfl,h4⟩:=Prod.mk.inj (oJ_ h);clear h;obtain⟨x,hx⟩:∃x,askF l0 a1=x:=⟨_,rfl⟩;rw[hx]at h4;have HT:=A_ h4;have HX:=A_ hx;have HL:=A_ h1;have HN:=A_ h2;have HS:=A_ h3;have HR0:=A_ hr0;clear h1 h2 h3 h4 hx hr0;have HB:=A_ (Below.refl w.heap.size w)
 go_enter Tryz.func20,Tryz.ntmps20
 go_upto_region 2 with(first|((with_reducible refine gate_dst (N:=4) rfl ?_);refine box_event ?hg (N:=4) ?hd (cs:=#[.slice none 0 0,.slice none 0 0,.int .i64 0]) (t:=32) ?hr ?_;(case hd=>rfl);(case hg=>rfl);(case hr=>first|(go_simp;done)|(go_simp;rfl));intro g4 hg w2 hbox hb;have BK4:=A_ hbox;have GE4:=A_ (show w.heap.size≤g4 from by rw[hg];exact below_size HB.out);replace HB:=A_ (below_step HB.out hb);clear hb hg hbox))
 go_cut [6,10] (fun v6 v10 wc=>v6=.string a1∧Aside0 (wc.heap[g4]?=some (.cells #[.slice none 0 0,.slice none 0 0,.int .i64 0] 32 (0,0)))∧Aside0 (Below w.heap.size w wc))
 case first=>
  go_wp2
  go_meet
  case rel=>exact⟨rfl,BK4,HB⟩
 case rest=>
 clear BK4 HB;obtain⟨rfl,BK4,HB⟩:=hcut;rename_i hK_;refine hK_ _ _ ?_;clear hK_
 go_step
 go_cut [6] (fun v6 wc=>v6=.string x∧Aside0 (wc.heap[g4]?=some (.cells #[.slice none 0 0,.slice none 0 0,.int .i64 0] 32 (0,0)))∧Aside0 (Below w.heap.size w wc))
 case first=>
  clear HT;obtain⟨q,hq⟩:∃q,(l0.any fun g=>Lib.containsS g.f0 a1)=q:=⟨_,rfl⟩;have HQ:=A_ hq;have hx:=HX.out;unfold askF hasN at hx;rw[hq]at hx;clear hq HX;cases q with
  |true=>
   rw[if_pos rfl]at hx;subst hx
   go_wp2_with (first|(go_at_call 54;refine(newHas_walk a1 _).mono ?_;rintro e w5 ⟨B,hBs,rfl,hBc,hb⟩;have HC:=A_ hBc;replace BK4:=A_ (blk_below BK4.out hb);replace HB:=A_ (below_step HB.out hb);clear hb hBc)|(go_at_call 57;refine(containsFunc_walk A0 c0 l0 B a1 _ (Kd.C_below HR0.out HB.out) HC.out (by have:=HL.out;omega) (fun g hg=>by have:=HN.out g hg;omega)).mono ?_;rintro e w6 ⟨rfl,hb⟩;rw[HQ.out];replace BK4:=A_ (blk_below BK4.out hb);replace HB:=A_ (below_step HB.out hb);clear hb))
   go_meet
   case rel=>exact⟨rfl,BK4,HB⟩
  |false=>
   rw[if_neg (by decide)]at hx;subst hx
   go_wp2_with (first|(go_at_call 54;refine(newHas_walk a1 _).mono ?_;rintro e w5 ⟨B,hBs,rfl,hBc,hb⟩;have HC:=A_ hBc;replace BK4:=A_ (blk_below BK4.out hb);replace HB:=A_ (below_step HB.out hb);clear hb hBc)|(go_at_call 57;refine(containsFunc_walk A0 c0 l0 B a1 _ (Kd.C_below HR0.out HB.out) HC.out (by have:=HL.out;omega) (fun g hg=>by have:=HN.out g hg;omega)).mono ?_;rintro e w6 ⟨rfl,hb⟩;rw[HQ.out];replace BK4:=A_ (blk_below BK4.out hb);replace HB:=A_ (below_step HB.out hb);clear hb))
   go_meet
   case rel=>exact⟨rfl,BK4,HB⟩
 case rest=>
  clear BK4 HB HX;obtain⟨rfl,BK4,HB⟩:=hcut
  go_wp2_with (first|((with_reducible refine gate_dst (N:=18) rfl ?_);refine Kd.R_lit Kd.string _ 9 ?hg (N:=18) ?hd (xs:=([a1]:List BA)) (inner:=[.string a1]) (ok:=fun _=>True) (okp:=fun _=>True) ?hr ?hp (fun _ hk=>hk) trivial (Below.refl _ _) (lL_ _) (by simp) ?_;(case hd=>rfl);(case hg=>rfl);(case hr=>first|(go_simp;done)|(go_simp;rfl));(case hp=>exact(Reps.one (show Kd.M Kd.string _ _ _ a1 [.string a1]from rfl) (Reps.none _ _)));intro v18 w7 ho hb hg_ hnew_;clear hg_ hnew_;have HO:=A_ (Kd.R_lower ho (below_size HB.out));replace BK4:=A_ (blk_below BK4.out hb);replace HB:=A_ (below_step HB.out hb);clear hb ho;obtain⟨An,cn,en⟩:=Kd.R_slice HO.out;subst en)|((with_reducible refine gate_dst (N:=7) rfl ?_);refine box_event ?hg (N:=7) ?hd (cs:=#[.slice none 0 0,.slice none 0 0,.int .i64 0]) (t:=32) ?hr ?_;(case hd=>rfl);(case hg=>rfl);(case hr=>first|(go_simp;done)|(go_simp;rfl));intro g7 hg w8 hbox hb;have BK7:=A_ hbox;have NB:=A_ (show g4≠g7 from by rw[hg];exact Nat.ne_of_lt (blk_lt BK4.out));have GE7:=A_ (show w.heap.size≤g7 from by rw[hg];exact below_size HB.out);replace HO:=A_ (Kd.R_below HO.out hb);replace BK4:=A_ (blk_below BK4.out hb);replace HB:=A_ (below_step HB.out hb);clear hb hg hbox;have h70:w8.cell? ⟨g7,0,none⟩=some (.slice none 0 0):=(blk_cell BK7.out 0).trans rfl;have h71:w8.cell? ⟨g7,1,none⟩=some (.slice none 0 0):=(blk_cell BK7.out 1).trans rfl;have h72:w8.cell? ⟨g7,2,none⟩=some (.int .i64 0):=(blk_cell BK7.out 2).trans rfl;have f70:=blk_frozen BK7.out 0;have f71:=blk_frozen BK7.out 1;have f72:=blk_frozen BK7.out 2))
  have HO1:=A_ (R_far3 HO.out BK7.out (by decide) (.slice An 1 cn) (.slice none 0 0) (.int .i64 0));have BK41:=A_ (far3 BK4.out NB.out (.slice An 1 cn) (.slice none 0 0) (.int .i64 0));have BK71:=A_ (put3 BK7.out (.slice An 1 cn) (.slice none 0 0) (.int .i64 0));have HB1:=A_ (below3 HB.out GE7.out (.slice An 1 cn) (.slice none 0 0) (.int .i64 0));clear h70 h71 h72 f70 f71 f72 HO BK4 BK7 HB;generalize (((w8.setCell ⟨g7,0,none⟩ (Value.slice An 1 cn)).setCell ⟨g7,1,none⟩ (Value.slice none 0 0)).setCell ⟨g7,2,none⟩ (Value.int IntKind.i64 0))=wl at HO1 BK41 BK71 HB1 ⊢
  go_loopg [22] l0.length (fun g v wx=>∃(i:Nat)(acc:List Re)(n:Int)(u:Value),v=.int .i64 i∧i+g=l0.length∧Aside0 (toldF x (l0.drop i) acc n=(r2,r3))∧Aside0 (acc.length+sumR (l0.drop i)≤1000000000)∧Aside0 (Kd.R Kd.string 9 wx w.heap.size (fun _=>True) (.slice An 1 cn) [a1])∧Aside0 (Kd.R k93 93 wx w.heap.size (fun _=>True) u acc)∧Aside0 (wx.heap[g4]?=some (.cells #[.slice none 0 0,.slice none 0 0,.int .i64 0] 32 (0,0)))∧Aside0 (wx.heap[g7]?=some (.cells #[.slice An 1 cn,u,.int .i64 n] 32 (0,0)))∧Aside0 (Below w.heap.size w wx))
  case atStart=>exact⟨0,[],0,.slice none 0 0,rfl,by omega,HT,⟨by rw[List.drop_zero,List.length_nil,Nat.zero_add];exact HS.out⟩,HO1,⟨Kd.R_nil _ _ _ _ _⟩,BK41,BK71,HB1⟩
  case round=>
   clear HO1 BK41 BK71 HB1 HT HS;obtain⟨i,acc,n,u,rfl,hig,HT,HS,HO,HU,BK4,BK7,HB⟩:=hrel;cases gk with
   |zero=>
    obtain⟨Au,cu,eu⟩:=Kd.R_slice HU.out;subst eu;obtain rfl:i=l0.length:=by omega
    have hlt:decide ((l0.length:Int)<(l0.length:Int))=false:=decide_eq_false (by omega);have ht:=HT.out;rw[List.drop_length]at ht;obtain⟨rfl,rfl⟩:=Prod.mk.inj ht;clear ht HT HS;have h70:wr.cell? ⟨g7,0,none⟩=some (.slice An 1 cn):=(blk_cell BK7.out 0).trans rfl;have fh70:=blk_frozen BK7.out 0;have h71:wr.cell? ⟨g7,1,none⟩=some (.slice Au acc.length cu):=(blk_cell BK7.out 1).trans rfl;have fh71:=blk_frozen BK7.out 1;have h72:wr.cell? ⟨g7,2,none⟩=some (.int .i64 n):=(blk_cell BK7.out 2).trans rfl;have fh72:=blk_frozen BK7.out 2;have h40:wr.cell? ⟨g4,0,none⟩=some (.slice none 0 0):=(blk_cell BK4.out 0).trans rfl;have fh40:=blk_frozen BK4.out 0;have h41:wr.cell? ⟨g4,1,none⟩=some (.slice none 0 0):=(blk_cell BK4.out 1).trans rfl;have fh41:=blk_frozen BK4.out 1;have h42:wr.cell? ⟨g4,2,none⟩=some (.int .i64 0):=(blk_cell BK4.out 2).trans rfl;have fh42:=blk_frozen BK4.out 2;go_wp2;refine bodyPost_ret (results_cell_row rfl _ _ g4 32 #[.slice An 1 cn,.slice Au acc.length cu,.int .i64 n] (0,0) _ rfl (put3 BK4.out (.slice An 1 cn) (.slice Au acc.length cu) (.int .i64 n)) Tryz.underlying32 rfl (by kernel_rfl)) rfl ?_;exact⟨_,_,rfl,R_far3 HO.out BK4.out (by decide) (.slice An 1 cn) (.slice Au acc.length cu) (.int .i64 n),R_far3 HU.out BK4.out (by decide) (.slice An 1 cn) (.slice Au acc.length cu) (.int .i64 n),below3 HB.out GE4.out (.slice An 1 cn) (.slice Au acc.length cu) (.int .i64 n)⟩
   |succ g=>
    have hi:i<l0.length:=by omega
    have hlt:decide ((i:Int)<(l0.length:Int))=true:=decide_eq_true (by omega);obtain⟨ad,A1,c1,A2,c2,ea,hx0,hx1,hx2,hl1,hr1,hl2,hr2⟩:=at_T32 HR0.out (i:Int) (by omega) (by omega);subst ea;replace hx0:=(HB.out.cell (wb_ w _ hx0)).trans hx0;replace hx1:=(HB.out.cell (wb_ w _ hx1)).trans hx1;replace hx2:=(HB.out.cell (wb_ w _ hx2)).trans hx2;have p0:(0≤(i:Int))=True:=eq_true (by omega);have q0:((i:Int)<(l0.length:Int))=True:=eq_true (by omega);obtain⟨p,hp⟩:∃p,rd_T32 l0 (i:Int)=p:=⟨_,rfl⟩;have hpi:p=l0[i]:=by
     rw[←hp];simp[rd_T32,List.getD,gE_ hi]
    rw[hp]at hx0 hx1 hx2 hl1 hr1 hl2 hr2;simp only[tN_]at hx0 hx1 hx2;have hd:l0.drop i=p::l0.drop (i+1):=by rw[dE_ hi,hpi]
    have ht:=HT.out;have hs:=HS.out;rw[hd]at ht hs;simp only[toldF]at ht;simp only[sumR,List.map_cons,List.sum_cons]at hs;have HT1:=A_ ht;have HS1:=A_ (show acc.length+(p.f1.length+sumR (l0.drop (i+1)))≤1000000000 from hs);have HN1:=A_ (show p.f0.length≤9223372036854775807 from by have:=HN.out l0[i] (List.getElem_mem hi);rw[hpi];omega);have HR1:=A_ hr1;have HR2:=A_ hr2;clear hp hpi hr1 hr2 hl1 hl2 hd ht hs HT HS
    go_upto_region 9 with(first|((with_reducible refine gate_dst (N:=9) rfl ?_);refine box_event ?hg (N:=9) ?hd (cs:=#[.slice none 0 0,.slice none 0 0,.int .i64 0]) (t:=32) ?hr ?_;(case hd=>rfl);(case hg=>rfl);(case hr=>first|(go_simp;done)|(go_simp;rfl));intro g9 hg w9 hbox hb;have BK9:=A_ hbox;have N4:=A_ (show g4≠g9 from by rw[hg];exact Nat.ne_of_lt (blk_lt BK4.out));have N7:=A_ (show g7≠g9 from by rw[hg];exact Nat.ne_of_lt (blk_lt BK7.out));have GE9:=A_ (show w.heap.size≤g9 from by rw[hg];exact below_size HB.out);replace HO:=A_ (Kd.R_below HO.out hb);replace HU:=A_ (Kd.R_below HU.out hb);replace BK4:=A_ (blk_below BK4.out hb);replace BK7:=A_ (blk_below BK7.out hb);replace HB:=A_ (below_step HB.out hb);clear hb hg hbox;have h90:w9.cell? ⟨g9,0,none⟩=some (.slice none 0 0):=(blk_cell BK9.out 0).trans rfl;have f90:=blk_frozen BK9.out 0;have h91:w9.cell? ⟨g9,1,none⟩=some (.slice none 0 0):=(blk_cell BK9.out 1).trans rfl;have f91:=blk_frozen BK9.out 1;have h92:w9.cell? ⟨g9,2,none⟩=some (.int .i64 0):=(blk_cell BK9.out 2).trans rfl;have f92:=blk_frozen BK9.out 2))
    replace HO:=A_ (R_far3 HO.out BK9.out (by decide) (.slice A1 p.f0.length c1) (.slice A2 p.f1.length c2) (.int .i64 p.f2));replace HU:=A_ (R_far3 HU.out BK9.out (by decide) (.slice A1 p.f0.length c1) (.slice A2 p.f1.length c2) (.int .i64 p.f2));replace BK4:=A_ (far3 BK4.out N4.out (.slice A1 p.f0.length c1) (.slice A2 p.f1.length c2) (.int .i64 p.f2));replace BK7:=A_ (far3 BK7.out N7.out (.slice A1 p.f0.length c1) (.slice A2 p.f1.length c2) (.int .i64 p.f2));replace BK9:=A_ (put3 BK9.out (.slice A1 p.f0.length c1) (.slice A2 p.f1.length c2) (.int .i64 p.f2));replace HB:=A_ (below3 HB.out GE9.out (.slice A1 p.f0.length c1) (.slice A2 p.f1.length c2) (.int .i64 p.f2));clear h90 h91 h92 f90 f91 f92 hx0 hx1 hx2;generalize (((w9.setCell ⟨g9,0,none⟩ (Value.slice A1 p.f0.length c1)).setCell ⟨g9,1,none⟩ (Value.slice A2 p.f1.length c2)).setCell ⟨g9,2,none⟩ (Value.int IntKind.i64 p.f2))=w10 at HO HU BK4 BK7 BK9 HB ⊢;refine start_ (n:=5) (S:=fun w'=>w'.cell? ⟨g9,0,none⟩=some (.slice A1 p.f0.length c1)∧w'.cell? ⟨g9,1,none⟩=some (.slice A2 p.f1.length c2)∧w'.cell? ⟨g9,2,none⟩=some (.int .i64 p.f2)) (ds:=[]) #[false,false,false,false,false] (by kernel_rfl) rfl rfl ⟨(blk_cell BK9.out 0).trans rfl,(blk_cell BK9.out 1).trans rfl,(blk_cell BK9.out 2).trans rfl⟩ (fun hHeld=>?_);replace HO:=A_ (Kd.R_drew HO.out);replace HU:=A_ (Kd.R_drew HU.out);replace BK4:=A_ (blk_drew BK4.out);replace BK7:=A_ (blk_drew BK7.out);replace BK9:=A_ (blk_drew BK9.out);replace HB:=A_ (below_drew1 HB.out);generalize w10.drew=w11 at HO HU BK4 BK7 BK9 HB hHeld ⊢;refine rgP 0 (some 26) #[true,false,false,false,false] ?_;refine rgP 1 (some 27) #[true,true,false,false,false] ?_;refine rgT3 3 (some 29) #[true,true,false,true,false] hHeld ?_;refine one_ (i:=2) (N:=some 28) #[true,true,true,true,false] rfl rfl (by kernel_rfl) (by decide) (fun K hK=>?_);refine callv_ (f:=54) Tryz.func54 (by kernel_rfl) rfl #[.string x] (by rfl) rfl (.tmp 26) rfl rfl (by simp[Act.eval]) ?_;refine(newHas_walk x _).mono ?_;rintro e w12 ⟨B,hBs,rfl,hBc,hb⟩;refine⟨_,rfl,?_⟩;replace HO:=A_ (Kd.R_below HO.out hb);replace HU:=A_ (Kd.R_below HU.out hb);replace BK4:=A_ (blk_below BK4.out hb);replace BK7:=A_ (blk_below BK7.out hb);replace BK9:=A_ (blk_below BK9.out hb);replace HB:=A_ (below_step HB.out hb);have HC:=A_ hBc;clear hb hBc;refine hK.out _ _ ⟨(blk_cell BK9.out 0).trans rfl,(blk_cell BK9.out 1).trans rfl,(blk_cell BK9.out 2).trans rfl⟩ (fun hHeld=>?_);clear hK K;refine rgN 28 ?_;refine one_ (i:=4) (N:=some 30) #[true,true,true,true,true] rfl rfl (by kernel_rfl) (by decide) (fun K hK=>?_);refine callv_ (f:=55) Tryz.func55 (by kernel_rfl) rfl #[.agg #[.slice A1 p.f0.length c1,.slice A2 p.f1.length c2,.int .i64 p.f2],.pointer (some ⟨B,0,none⟩)] (by rfl) rfl (.tmp 28) rfl rfl (by simp[Act.eval]) ?_;refine(has_walk A1 c1 p.f0 A2 _ c2 _ B x _ (Kd.C_below HR1.out HB.out) HC.out HN1.out).mono ?_;rintro e w13 ⟨rfl,hb⟩;refine⟨_,rfl,?_⟩;replace HO:=A_ (Kd.R_below HO.out hb);replace HU:=A_ (Kd.R_below HU.out hb);replace BK4:=A_ (blk_below BK4.out hb);replace BK7:=A_ (blk_below BK7.out hb);replace BK9:=A_ (blk_below BK9.out hb);replace HB:=A_ (below_step HB.out hb);clear hb HC;refine hK.out _ _ ⟨(blk_cell BK9.out 0).trans rfl,(blk_cell BK9.out 1).trans rfl,(blk_cell BK9.out 2).trans rfl⟩ (fun hHeld=>?_);clear hK K;refine rgN 30 ?_;refine done_ (by kernel_rfl) ?_;clear hHeld HR1 HN1;obtain⟨q,hq⟩:∃q,Lib.containsS p.f0 x=q:=⟨_,rfl⟩;rw[hq];have ht:=HT1.out;unfold hasN at ht;rw[hq]at ht;clear hq HT1;cases q with
    |false=>
     rw[if_neg (by decide)]at ht;have HT:=A_ ht;clear ht;go_wp2
     go_roundg g
     case measure=>omega
     case rel=>exact⟨i+1,acc,n,_,by have hL:=HL.out;simp[wrap64];omega,by omega,HT,⟨by have:=HS1.out;omega⟩,HO,HU,BK4,BK7,HB⟩
    |true=>
     rw[if_pos rfl]at ht;have hm:mx n p.f2=max n p.f2:=by unfold mx;omega
     rw[hm]at ht;have HT:=A_ ht;clear ht hm;have h70:w13.cell? ⟨g7,0,none⟩=some (.slice An 1 cn):=(blk_cell BK7.out 0).trans rfl;have f70:=blk_frozen BK7.out 0;have h71:w13.cell? ⟨g7,1,none⟩=some u:=(blk_cell BK7.out 1).trans rfl;have f71:=blk_frozen BK7.out 1;have h72:w13.cell? ⟨g7,2,none⟩=some (.int .i64 n):=(blk_cell BK7.out 2).trans rfl;have f72:=blk_frozen BK7.out 2;have h90:w13.cell? ⟨g9,0,none⟩=some (.slice A1 p.f0.length c1):=(blk_cell BK9.out 0).trans rfl;have f90:=blk_frozen BK9.out 0;have h91:w13.cell? ⟨g9,1,none⟩=some (.slice A2 p.f1.length c2):=(blk_cell BK9.out 1).trans rfl;have f91:=blk_frozen BK9.out 1;have h92:w13.cell? ⟨g9,2,none⟩=some (.int .i64 p.f2):=(blk_cell BK9.out 2).trans rfl;have f92:=blk_frozen BK9.out 2
     go_wp2_with (first|((with_reducible refine gate_builtin (b:=.append) (xs:=#[.tmp 32,.tmp 34]) rfl ?_);(try(refine gate_guard (by rfl) ?_;dsimp only));at_builtin;refine Kd.R_append_rows k93 (w0:=w) w.heap.size rfl (.tmp 32) (.tmp 34) 30 93 (.agg #[(.bool false),(.string ⟨#[]⟩)]) 24 rfl Tryz.underlying30 info93 rfl (by decide) (by omega) u acc p.f1 _ _ _ (fun _=>True) (fun _=>False) rfl rfl ?aO ?aR (fun _ _ h=>h) (fun _ h=>h.elim) ?aF ?aB ?aS ?aL ?_;(case aR=>exact(Kd.C_below HR2.out HB.out));(case aB=>exact HB.out);(case aF=>exact(fun _ _=>trivial));(case aO=>exact HU.out);(case aS=>exact below_size HB.out);(case aL=>have:=HS1.out;omega);intro vv w14 ho hb hg hat;replace HO:=A_ (Kd.R_over' HO.out (Kd.R_typed HU.out) (by decide) hg);replace BK4:=A_ (blk_grown BK4.out hg (Kd.R_ne HU.out BK4.out (by decide)));replace BK7:=A_ (blk_grown BK7.out hg (Kd.R_ne HU.out BK7.out (by decide)));replace BK9:=A_ (blk_grown BK9.out hg (Kd.R_ne HU.out BK9.out (by decide)));replace HB:=A_ hb;replace HU:=A_ ho;clear ho hb hg hat h70 h71 h72 f70 f71 f72 h90 h91 h92 f90 f91 f92;obtain⟨Av,cv,ev⟩:=Kd.R_slice HU.out;subst ev;have h70:w14.cell? ⟨g7,0,none⟩=some (.slice An 1 cn):=(blk_cell BK7.out 0).trans rfl;have f70:=blk_frozen BK7.out 0;have h71:w14.cell? ⟨g7,1,none⟩=some u:=(blk_cell BK7.out 1).trans rfl;have f71:=blk_frozen BK7.out 1;have h72:w14.cell? ⟨g7,2,none⟩=some (.int .i64 n):=(blk_cell BK7.out 2).trans rfl;have f72:=blk_frozen BK7.out 2;have h90:w14.cell? ⟨g9,0,none⟩=some (.slice A1 p.f0.length c1):=(blk_cell BK9.out 0).trans rfl;have f90:=blk_frozen BK9.out 0;have h91:w14.cell? ⟨g9,1,none⟩=some (.slice A2 p.f1.length c2):=(blk_cell BK9.out 1).trans rfl;have f91:=blk_frozen BK9.out 1;have h92:w14.cell? ⟨g9,2,none⟩=some (.int .i64 p.f2):=(blk_cell BK9.out 2).trans rfl;have f92:=blk_frozen BK9.out 2))
     go_roundg g
     case measure=>omega
     case rel=>exact⟨i+1,acc++p.f1,max n p.f2,_,by have hL:=HL.out;simp[wrap64];omega,by omega,HT,⟨by have:=HS1.out;rw[lA_];omega⟩,⟨R_far2 HO.out BK7.out (by decide) _ _⟩,⟨R_far2 HU.out BK7.out (by decide) _ _⟩,⟨far2 BK4.out NB.out _ _⟩,⟨by rw[lA_];exact put2 BK7.out _ _⟩,⟨below2 HB.out GE7.out _ _⟩⟩
end Go.Proofs.YtloijngehifbmaaGreatDoor.P
end
section
namespace Go.Proofs.YtloijngehifbmaaGreatDoor.P
open Go.RowKit Go.Proofs.YtloijngehifbmaaGreatDoorW PrintWords PrintLast PrintMore
attribute [local go_sem] max2_int min2_int max_two min_two max_three min_three max_four min_four
set_option maxHeartbeats 8000000
set_option maxRecDepth 100000
def impl_isAddress.f (k:Nat)(a0:BA):Option (Bool):=(impl_readAddress.f k a0).bind fun bt564=>(some bt564.2.2.2.2)
theorem impl_isAddress.mono:∀a0 k,LeO (impl_isAddress.f k a0) (impl_isAddress.f (k+1) a0):=by
 intro a0 k;unfold impl_isAddress.f
 repeat' first|(with_reducible first|exact impl_readAddress.mono _ _|exact LeO.refl _|exact LeO.none _|refine LeO.ite ?_ ?_|refine LeO.bind ?_ (fun _=>?_))|exact LeO.none _|refine LeO.ite ?_ ?_|refine LeO.bind ?_ (fun _=>?_)
theorem impl_isAddress.calls (k:Nat)(a0:BA)(r:Bool)(w:World)(h:impl_isAddress.f k a0=some r):
  Calls Tryz.prog 95 #[.string a0] w fun e w'=>e=.returned (.bool r)∧Below w.heap.size w w':=by
 have hu51:=Tryz.underlying51;have HB:=A_ (Below.refl w.heap.size w);unfold impl_isAddress.f at h;have H:=h;clear h;replace H:=bindA H;obtain⟨⟨t564,t565,t568,t569,t570⟩,A2,H⟩:=H;try dsimp only at H;obtain rfl:=sI H;go_enter Tryz.func95,Tryz.ntmps95;go_wp2_with (first|(refine gV 125 (some 7) Tryz.func125 (impl_readAddress.calls k a0 t564 t565 t568 t569 t570 _ A2.out) ?_;rintro v566 w3 ⟨ho0,hb⟩;have HO567:=A_ (Kd.R_lower ho0 (below_size (zz6 HB)));replace HB:=A_ (bS (zz6 HB) hb);(try clear hb ho0))|(refine boxF 3 #[.string (⟨#[]⟩:BA),.slice none 0 0,.bool false,.string (⟨#[]⟩:BA)] 51 ?_;intro gb571 hg w4 BK571 hb;replace HO567:=A_ (rB (zz7 HO567) hb);have GE571:=geB hg (zz6 HB);replace HB:=A_ (bS (zz6 HB) hb);clear hb hg;obtain⟨_,_,_,_,_,_,_,_⟩:=cf4 BK571;obtain⟨Ao6,co6,eo6⟩:=Kd.R_slice HO567.out;subst eo6));go_ret;exact⟨zz9,(zz19 HB GE571)⟩
def impl_pageOk.f (k:Nat)(a0_0:BA)(a0_1:BA)(a0_2:BA)(a0_3:Int):Option (Bool):=(impl_isAddress.f k a0_0).bind fun t573=>(if t573=true then(if(a0_1.size:Int)>300 then(some false)else(if a0_3<0 then(some false)else(if a0_3>9 then(some false)else(if a0_2.toList=([]:List UInt8)then(some true)else((impl_isAddress.f k a0_2).bind fun t574=>(if t574=true then(some (a0_1.toList==([]:List UInt8)))else(some false)))))))else(some false))
theorem impl_pageOk.mono:∀a0 a1 a2 a3 k,LeO (impl_pageOk.f k a0 a1 a2 a3) (impl_pageOk.f (k+1) a0 a1 a2 a3):=by
 intro a0 a1 a2 a3 k;unfold impl_pageOk.f
 repeat' first|(with_reducible first|exact impl_isAddress.mono _ _|exact LeO.refl _|exact LeO.none _|refine LeO.ite ?_ ?_|refine LeO.bind ?_ (fun _=>?_))|exact LeO.none _|refine LeO.ite ?_ ?_|refine LeO.bind ?_ (fun _=>?_)
theorem impl_pageOk.calls (k:Nat)(a0_0:BA)(a0_1:BA)(a0_2:BA)(a0_3:Int)(r:Bool)(w:World)(h:impl_pageOk.f k a0_0 a0_1 a0_2 a0_3=some r):
  Calls Tryz.prog 68 #[.agg #[.string a0_0,.string a0_1,.string a0_2,.int .i64 a0_3]] w fun e w'=>e=.returned (.bool r)∧Below w.heap.size w w':=by
 have hu57:=Tryz.underlying57;have HB:=A_ (Below.refl w.heap.size w);unfold impl_pageOk.f at h;have H:=h;clear h;replace H:=bindA H;obtain⟨t573,A2,H⟩:=H;have HF3:=A_ H;clear H;go_enter Tryz.func68,Tryz.ntmps68;go_wp2_with (first|((with_reducible refine gD (N:=1) rfl ?_);(try(refine gate_guard (by rfl) ?_;dsimp only));refine boxE 1 #[.string a0_0,.string a0_1,.string a0_2,.int .i64 a0_3] 57 ?_;intro gb572 hg w4 hbox hb;have BK572:=A_ (hbox);have GE572:=geB hg (zz6 HB);replace HB:=A_ (bS (zz6 HB) hb);clear hb hbox hg;obtain⟨_,_,_,_,_,_,_,_⟩:=cf4 BK572)|(refine gR 95 (some 5) Tryz.func95 (impl_isAddress.calls k a0_0 t573 _ A2.out) ?_;rintro w6 hb;replace BK572:=A_ (bB (zz18 BK572) hb);replace HB:=A_ (bS (zz19 HB GE572) hb);(try clear hb))|((with_reducible refine atG ?_ ?_ fun K_ hK_=>?_);rfl;exact undecG)|((with_reducible refine atI ?_ fun K_ hK_=>?_);exact undecI));refine unG hK_ ?_;clear hK_ K_;obtain⟨H⟩:=HF3;replace H:=iteB H;rcases H with⟨rfl,H⟩|⟨rfl,H⟩
 ·(first|refine iteT ?_|refine iteF ?_|skip)
  replace H:=iteE H;rcases H with⟨c8,H⟩|⟨c8,H⟩
  ·have c8b0:=gtT c8
   have c8b1:decide (300<a0_1.size)=true:=dT (by omega);clear c8;obtain rfl:=sI H;obtain⟨_,_,_,_,_,_,_,_⟩:=cf4 BK572;go_wp2;go_ret;exact⟨zz9,(zz19 HB GE572)⟩
  ·have c8b0:=gtF c8
   have c8b1:decide (300<a0_1.size)=false:=dF (by omega);clear c8;replace H:=iteEd H;rcases H with⟨c10b0,H⟩|⟨c10b0,H⟩
   ·obtain rfl:=sI H
    obtain⟨_,_,_,_,_,_,_,_⟩:=cf4 BK572;go_wp2;go_ret;exact⟨zz9,(zz19 HB GE572)⟩
   ·replace H:=iteEg H
    rcases H with⟨c12b0,H⟩|⟨c12b0,H⟩
    ·obtain rfl:=sI H
     obtain⟨_,_,_,_,_,_,_,_⟩:=cf4 BK572;go_wp2;go_ret;exact⟨zz9,(zz19 HB GE572)⟩
    ·replace H:=iteEq H
     rcases H with⟨c14b0,c14b1,H⟩|⟨c14b0,c14b1,c14,H⟩
     ·obtain rfl:=sI H
      obtain⟨_,_,_,_,_,_,_,_⟩:=cf4 BK572;go_wp2;go_ret;exact⟨zz9,(zz19 HB GE572)⟩
     ·replace H:=bindA H
      obtain⟨t574,A16,H⟩:=H;have HF17:=A_ H;clear H;obtain⟨_,_,_,_,_,_,_,_⟩:=cf4 BK572;go_wp2_with (first|(go_at_call 95;(with_reducible refine(impl_isAddress.calls k a0_2 t574 _ A16.out).mono ?_);rintro e w19 ⟨rfl,hb⟩;replace BK572:=A_ (bB (zz18 BK572) hb);replace HB:=A_ (bS (zz19 HB GE572) hb);(try clear hb))|((with_reducible refine atG ?_ ?_ fun K_ hK_=>?_);rfl;exact undecG)|((with_reducible refine atI ?_ fun K_ hK_=>?_);exact undecI));refine unG hK_ ?_;clear hK_ K_;obtain⟨H⟩:=HF17;replace H:=iteB H;rcases H with⟨rfl,H⟩|⟨rfl,H⟩
      ·(first|refine iteT ?_|refine iteF ?_|skip)
       obtain rfl:=sI H;obtain⟨_,_,_,_,_,_,_,_⟩:=cf4 BK572;(try((with_reducible refine upS ?_);go_simp));go_wp2;go_ret;exact⟨zz9,(zz19 HB GE572)⟩
      ·(first|refine iteT ?_|refine iteF ?_|skip)
       obtain rfl:=sI H;(try((with_reducible refine upS ?_);go_simp));go_wp2;go_ret;exact⟨zz9,(zz19 HB GE572)⟩
 ·(first|refine iteT ?_|refine iteF ?_|skip)
  obtain rfl:=sI H;(try((with_reducible refine upS ?_);go_simp));go_wp2;go_ret;exact⟨zz9,(zz19 HB GE572)⟩
end Go.Proofs.YtloijngehifbmaaGreatDoor.P
end
section
namespace Go.Proofs.YtloijngehifbmaaGreatDoor.P
open Go.RowKit Go.Proofs.YtloijngehifbmaaGreatDoorW PrintWords PrintLast PrintMore Go.Maps Go.ChangeMaps
def pageD (p:S57):DataW Unit:=.agg [.lit (.string p.f0.data.toList),.lit (.string p.f1.data.toList),.lit (.string p.f2.data.toList),.lit (.int .i64 p.f3)]
def pageV (p:S57):Value:=.agg #[.string p.f0,.string p.f1,.string p.f2,.int .i64 p.f3]
def pageR (v:Value):Option (DataW Unit×List MemPlace):=
 match v with
 | .agg ⟨[.string a,.string b,.string c,.int .i64 d]⟩=>some (pageD ⟨a,b,c,d⟩,[])
 |_=>none
theorem pageR_mk (p:S57):pageR (pageV p)=some (pageD p,[]):=rfl
theorem pageR_inv {v:Value}{z:DataW Unit×List MemPlace}(h:pageR v=some z):∃p,v=pageV p∧z=(pageD p,[]):=by
 unfold pageR at h
 split at h
 ·exact⟨⟨_,_,_,_⟩,rfl,(oJ_ h).symm⟩
 ·cases h
theorem pageD_inj {p q:S57}(h:pageD p=pageD q):p=q:=by
 obtain⟨⟨⟨p0⟩⟩,⟨⟨p1⟩⟩,⟨⟨p2⟩⟩,p3⟩:=p;obtain⟨⟨⟨q0⟩⟩,⟨⟨q1⟩⟩,⟨⟨q2⟩⟩,q3⟩:=q;simp[pageD]at h;obtain⟨rfl,rfl,rfl,rfl⟩:=h;rfl
def keyL (s:BA):Lit:=.string s.data.toList
def mapR:List S57→DataW Unit
 | []=>.map []
 |p::r=>(mapR r).put (keyL p.f0) (pageD p)
def mapD (l:List S57):DataW Unit:=mapR l.reverse
theorem mapD_snoc (l:List S57)(p:S57):mapD (l++[p])=(mapD l).put (keyL p.f0) (pageD p):=by simp[mapD,mapR]
theorem keyL_lit (a:BA):WideAt.IsKeyLit (keyL a):=trivial
theorem keyL_inj {a b:BA}(h:keyL a=keyL b):a=b:=by
 obtain⟨⟨a⟩⟩:=a;obtain⟨⟨b⟩⟩:=b;simp[keyL]at h;rw[h]
theorem mapR_is:∀l,IsMap (mapR l)
 | []=>isMap_empty
 |p::r=>(mapR_is r).put _ _
theorem mapR_tidy:∀l,Tidy (mapR l)
 | []=>tidy_empty
 |p::r=>(mapR_tidy r).put (keyL_lit _) _
def pageAtR (a:BA):List S57→Option S57
 | []=>none
 |p::r=>if p.f0=a then some p else pageAtR a r
theorem mapR_at (a:BA):∀l,(mapR l).atKey (keyL a) (pageD z57)=pageD ((pageAtR a l).getD z57)
 | []=>rfl
 |p::r=>by
  unfold mapR pageAtR
  by_cases h:p.f0=a
  ·rw[if_pos h,←h,atKey_put_same (mapR_is r) (keyL_lit _)];rfl
  ·rw[if_neg h,atKey_put_other (fun e=>h (keyL_inj e).symm)]
   exact mapR_at a r
theorem mapR_has (a:BA):∀l,has (mapR l) (keyL a)=(pageAtR a l).isSome
 | []=>rfl
 |p::r=>by
  unfold mapR pageAtR
  by_cases h:p.f0=a
  ·rw[if_pos h,←h,has_put_same (mapR_is r) (keyL_lit _)];rfl
  ·rw[if_neg h,has_put_other (fun e=>h (keyL_inj e).symm)]
   exact mapR_has a r
theorem mapR_size (p:S57)(r:List S57):size (mapR (p::r))=if(pageAtR p.f0 r).isSome then size (mapR r)else size (mapR r)+1:=by
 show size ((mapR r).put _ _)=_
 rw[size_put (mapR_tidy r),mapR_has]
def getF (l:List S57)(a:BA)(t:Int):Int×BA:=
 match pageAtR a l.reverse with
 |none=>(0,⟨#[]⟩)
 |some p=>if t<0 then(0,⟨#[]⟩)else if t<p.f3 then(3,⟨#[]⟩)else if p.f2.toList=([]:List UInt8)then(1,p.f1)else(2,p.f2)
def pagesOk (k:Nat):List S57→Option Bool
 | []=>some true
 |p::r=>if p.f0.size≤9223372036854775807 then(impl_pageOk.f k p.f0 p.f1 p.f2 p.f3).bind fun t=>if t=true then pagesOk k r else some false else none
theorem map_below {w w':World}{P:Program}{k:TypeId}{R:Value→Option (DataW Unit×List MemPlace)}{b n:Nat}{D:DataW Unit}(h:w.ownsMap P k R b n D)(hb:Below w.heap.size w w'):w'.ownsMap P k R b n D:=by
 have hlt:=h.lt;obtain⟨es,clock,h1,F,h2,h3⟩:=h;exact⟨es,clock,(hb.block b hlt).trans h1,F,h2,h3⟩
theorem grown_below {w W W':World}(h:Below w.heap.size w W)(g:W.grownBy W' (some w.heap.size)):Below w.heap.size w W':=
 ⟨g.os.trans h.os,g.tape.trans h.tape,g.output.trans h.output,nT_ h.size g.size,fun i hi=>(g.block i (Nat.lt_of_lt_of_le hi h.size) (by intro e;injection e with e;omega)).trans (h.block i hi)⟩
abbrev Pages (w:World)(b n:Nat)(D:DataW Unit):Prop:=w.ownsMap Tryz.prog 9 pageR b n D
set_option maxHeartbeats 8000000 in
set_option maxRecDepth 100000 in
theorem worldOf_walk (k:Nat)(A0:Option Addr)(c0:Nat)(l0:List S57)(r:Bool)(w:World)(hr0:Kd.C k57 w A0 l0.length l0)(hc0:l0.length≤c0)(h12:l0.length≤12)(h:pagesOk k l0=some r):
  Calls Tryz.prog 29 #[.slice A0 l0.length c0] w fun e w'=>Below w.heap.size w w' ∧
   (r=false→e=.returned (.tuple #[.map none,.bool false]))∧(r=true→∃b,w.heap.size≤b∧Pages w' b l0.length (mapD l0)∧e=.returned (.tuple #[.map (some b),.bool ((Maps.size (mapD l0):Int)==(l0.length:Int))])):=by
 have hu:=Tryz.underlying57;have hle:decide ((12:Int)<(l0.length:Int))=false:=decide_eq_false (by omega);have hmm:=@run_makeMap Tryz.prog;have H0:=A_ h;clear h
 go_enter Tryz.func29,Tryz.ntmps29
 go_wp2
 go_loopg [13] l0.length (fun g v wx=>∃i:Nat,v=.int .i64 i∧i+g=l0.length∧Aside0 (pagesOk k (l0.drop i)=some r)∧Aside0 (Pages wx w.heap.size i (mapD (l0.take i)))∧Aside0 (Below w.heap.size w wx))
 case atStart=>exact⟨0,rfl,by omega,⟨by simpa using H0.out⟩,⟨by simpa [mapD,mapR]using World.ownsMap_made w Tryz.prog 9 pageR⟩,⟨(Below.refl _ _).alloc (lL_ _) _⟩⟩
 case round=>
  clear H0 hmm;obtain⟨i,rfl,hig,H,HM,HB⟩:=hrel;cases gk with
  |zero=>
   obtain rfl:i=l0.length:=by omega
   have hr:r=true:=by
    have:=H.out;rw[List.drop_length]at this;exact(oJ_ this).symm
   subst hr;have hlt:decide ((l0.length:Int)<(l0.length:Int))=false:=decide_eq_false (by omega);have hlen:=fun ty=>HM.out.len Tryz.underlying60 ty
   go_wp2
   go_ret2
   refine⟨HB.out,w.heap.size,lL_ _,?_,?_⟩
   ·have:=HM.out
    rw[List.take_length]at this;exact this
   ·rfl
  |succ g=>
   have hi:i<l0.length:=by omega
   have hlt:decide ((i:Int)<(l0.length:Int))=true:=decide_eq_true (by omega);obtain⟨ad,ea,hx0,hx1,hx2,hx3⟩:=at_T57 hr0 (i:Int) (by omega) (by omega);subst ea;replace hx0:=(HB.out.cell (wb_ w _ hx0)).trans hx0;replace hx1:=(HB.out.cell (wb_ w _ hx1)).trans hx1;replace hx2:=(HB.out.cell (wb_ w _ hx2)).trans hx2;replace hx3:=(HB.out.cell (wb_ w _ hx3)).trans hx3;have p0:(0≤(i:Int))=True:=eq_true (by omega);have q0:((i:Int)<(l0.length:Int))=True:=eq_true (by omega);obtain⟨p,hp⟩:∃p,rd_T57 l0 (i:Int)=p:=⟨_,rfl⟩;rw[hp]at hx0 hx1 hx2 hx3;simp only[tN_]at hx0 hx1 hx2 hx3;have hd:l0.drop i=p::l0.drop (i+1):=by
    rw[dE_ hi]
    congr 1
    rw[←hp];simp[rd_T57,List.getD,gE_ hi]
   have ht:l0.take (i+1)=l0.take i++[p]:=by
    rw[List.take_succ_eq_append_getElem hi]
    congr 2
    rw[←hp];simp[rd_T57,List.getD,gE_ hi]
   have H1:=H.out;rw[hd]at H1;simp only[pagesOk]at H1
   by_cases hz:p.f0.size≤9223372036854775807
   case neg=>rw[if_neg hz]at H1;cases H1
   rw[if_pos hz]at H1;have HK:=A_ (Go.WideMaps.keyOf_string_mk (P:=Tryz.prog) Tryz.underlying9 (s:=p.f0) (by have:maxLen=2^63-1:=rfl;omega));clear hz;obtain⟨t,A0',H2⟩:=oE_.mp H1;have A:=A_ A0';have HT:=A_ ht;clear H1 A0' H hd ht hp
   by_cases ct:t=true
   ·subst ct
    rw[if_pos rfl]at H2;have H':=A_ H2;clear H2
    go_wp2_with (first|((with_reducible refine gate_dst (N:=6) rfl ?_);refine box_event ?hg (N:=6) ?hd (cs:=#[.string (⟨#[]⟩:BA),.string (⟨#[]⟩:BA),.string (⟨#[]⟩:BA),.int .i64 0]) (t:=57) ?hr ?_;(case hd=>rfl);(case hg=>rfl);(case hr=>first|(go_simp;done)|(go_simp;rfl));intro gb hg w6 hbox hb;have BK:=A_ hbox;have NB:=A_ (show gb≠w.heap.size from by rw[hg];exact Nat.ne_of_gt HM.out.lt);have GE:=A_ (show w.heap.size≤gb from by rw[hg];exact below_size HB.out);replace HM:=A_ (map_below HM.out hb);replace HB:=A_ (below_step HB.out hb);replace hx0:=(hb.cell (wb_ _ _ hx0)).trans hx0;replace hx1:=(hb.cell (wb_ _ _ hx1)).trans hx1;replace hx2:=(hb.cell (wb_ _ _ hx2)).trans hx2;replace hx3:=(hb.cell (wb_ _ _ hx3)).trans hx3;clear hb hg hbox;obtain⟨hc0,hc1,hc2,hc3⟩:w6.cell? ⟨gb,0,none⟩=some (.string (⟨#[]⟩:BA))∧w6.cell? ⟨gb,1,none⟩=some (.string (⟨#[]⟩:BA))∧w6.cell? ⟨gb,2,none⟩=some (.string (⟨#[]⟩:BA))∧w6.cell? ⟨gb,3,none⟩=some (.int .i64 0):=⟨(blk_cell BK.out 0).trans rfl,(blk_cell BK.out 1).trans rfl,(blk_cell BK.out 2).trans rfl,(blk_cell BK.out 3).trans rfl⟩;have hf0:=blk_frozen BK.out 0;have hf1:=blk_frozen BK.out 1;have hf2:=blk_frozen BK.out 2;have hf3:=blk_frozen BK.out 3)|(go_at_call 68;(with_reducible refine(impl_pageOk.calls k p.f0 p.f1 p.f2 p.f3 true _ A.out).mono ?_);rintro e w8 ⟨rfl,hb⟩;replace HM:=A_ (map_below ((((HM.out.setCell (a:=⟨gb,0,none⟩) NB.out.symm _).setCell (a:=⟨gb,1,none⟩) NB.out.symm _).setCell (a:=⟨gb,2,none⟩) NB.out.symm _).setCell (a:=⟨gb,3,none⟩) NB.out.symm _) hb);replace BK:=A_ (blk_below (g:=gb) (o:=.cells #[.string p.f0,.string p.f1,.string p.f2,.int .i64 p.f3] 57 (0,0)) (by refine blk_put (cs:=#[.string p.f0,.string p.f1,.string p.f2,.int .i64 0]) ?_ 3 _ rfl;refine blk_put (cs:=#[.string p.f0,.string p.f1,.string (⟨#[]⟩:BA),.int .i64 0]) ?_ 2 _ rfl;refine blk_put (cs:=#[.string p.f0,.string (⟨#[]⟩:BA),.string (⟨#[]⟩:BA),.int .i64 0]) ?_ 1 _ rfl;refine blk_put (cs:=#[.string (⟨#[]⟩:BA),.string (⟨#[]⟩:BA),.string (⟨#[]⟩:BA),.int .i64 0]) ?_ 0 _ rfl;exact BK.out) hb);replace HB:=A_ (below_step (below_set (below_set (below_set (below_set HB.out GE.out) GE.out) GE.out) GE.out) hb);clear hb hx0 hx1 hx2 hx3 hc0 hc1 hc2 hc3 hf0 hf1 hf2 hf3;obtain⟨hc0,hc1,hc2,hc3⟩:w8.cell? ⟨gb,0,none⟩=some (.string p.f0)∧w8.cell? ⟨gb,1,none⟩=some (.string p.f1)∧w8.cell? ⟨gb,2,none⟩=some (.string p.f2)∧w8.cell? ⟨gb,3,none⟩=some (.int .i64 p.f3):=⟨(blk_cell BK.out 0).trans rfl,(blk_cell BK.out 1).trans rfl,(blk_cell BK.out 2).trans rfl,(blk_cell BK.out 3).trans rfl⟩)|(at_mapUpdate;refine wpList_mapUpdate_own _ rfl _ _ _ 60 rfl 9 57 (string_keyed Tryz.underlying9) Tryz.underlying60 pageR w.heap.size i (mapD (l0.take i)) rfl HM.out (by have:maxLen=2^63-1:=rfl;omega) _ _ (keyL p.f0) rfl rfl HK.out (pageD p) [] (pageR_mk p) ?_;intro w9 hown hgrow))
    go_roundg g
    case measure=>omega
    case rel=>exact⟨i+1,by simp,by omega,H',⟨by rw[HT.out,mapD_snoc];exact hown⟩,⟨grown_below HB.out hgrow⟩⟩
   ·obtain rfl:t=false:=by simpa using ct
    rw[if_neg (by decide)]at H2;obtain rfl:=oJ_ H2
    go_wp2_with (first|((with_reducible refine gate_dst (N:=6) rfl ?_);refine box_event ?hg (N:=6) ?hd (cs:=#[.string (⟨#[]⟩:BA),.string (⟨#[]⟩:BA),.string (⟨#[]⟩:BA),.int .i64 0]) (t:=57) ?hr ?_;(case hd=>rfl);(case hg=>rfl);(case hr=>first|(go_simp;done)|(go_simp;rfl));intro gb hg w6 hbox hb;have BK:=A_ hbox;have NB:=A_ (show gb≠w.heap.size from by rw[hg];exact Nat.ne_of_gt HM.out.lt);have GE:=A_ (show w.heap.size≤gb from by rw[hg];exact below_size HB.out);replace HM:=A_ (map_below HM.out hb);replace HB:=A_ (below_step HB.out hb);replace hx0:=(hb.cell (wb_ _ _ hx0)).trans hx0;replace hx1:=(hb.cell (wb_ _ _ hx1)).trans hx1;replace hx2:=(hb.cell (wb_ _ _ hx2)).trans hx2;replace hx3:=(hb.cell (wb_ _ _ hx3)).trans hx3;clear hb hg hbox;obtain⟨hc0,hc1,hc2,hc3⟩:w6.cell? ⟨gb,0,none⟩=some (.string (⟨#[]⟩:BA))∧w6.cell? ⟨gb,1,none⟩=some (.string (⟨#[]⟩:BA))∧w6.cell? ⟨gb,2,none⟩=some (.string (⟨#[]⟩:BA))∧w6.cell? ⟨gb,3,none⟩=some (.int .i64 0):=⟨(blk_cell BK.out 0).trans rfl,(blk_cell BK.out 1).trans rfl,(blk_cell BK.out 2).trans rfl,(blk_cell BK.out 3).trans rfl⟩;have hf0:=blk_frozen BK.out 0;have hf1:=blk_frozen BK.out 1;have hf2:=blk_frozen BK.out 2;have hf3:=blk_frozen BK.out 3)|(go_at_call 68;(with_reducible refine(impl_pageOk.calls k p.f0 p.f1 p.f2 p.f3 false _ A.out).mono ?_);rintro e w8 ⟨rfl,hb⟩;replace HM:=A_ (map_below ((((HM.out.setCell (a:=⟨gb,0,none⟩) NB.out.symm _).setCell (a:=⟨gb,1,none⟩) NB.out.symm _).setCell (a:=⟨gb,2,none⟩) NB.out.symm _).setCell (a:=⟨gb,3,none⟩) NB.out.symm _) hb);replace BK:=A_ (blk_below (g:=gb) (o:=.cells #[.string p.f0,.string p.f1,.string p.f2,.int .i64 p.f3] 57 (0,0)) (by refine blk_put (cs:=#[.string p.f0,.string p.f1,.string p.f2,.int .i64 0]) ?_ 3 _ rfl;refine blk_put (cs:=#[.string p.f0,.string p.f1,.string (⟨#[]⟩:BA),.int .i64 0]) ?_ 2 _ rfl;refine blk_put (cs:=#[.string p.f0,.string (⟨#[]⟩:BA),.string (⟨#[]⟩:BA),.int .i64 0]) ?_ 1 _ rfl;refine blk_put (cs:=#[.string (⟨#[]⟩:BA),.string (⟨#[]⟩:BA),.string (⟨#[]⟩:BA),.int .i64 0]) ?_ 0 _ rfl;exact BK.out) hb);replace HB:=A_ (below_step (below_set (below_set (below_set (below_set HB.out GE.out) GE.out) GE.out) GE.out) hb);clear hb hx0 hx1 hx2 hx3 hc0 hc1 hc2 hc3 hf0 hf1 hf2 hf3;obtain⟨hc0,hc1,hc2,hc3⟩:w8.cell? ⟨gb,0,none⟩=some (.string p.f0)∧w8.cell? ⟨gb,1,none⟩=some (.string p.f1)∧w8.cell? ⟨gb,2,none⟩=some (.string p.f2)∧w8.cell? ⟨gb,3,none⟩=some (.int .i64 p.f3):=⟨(blk_cell BK.out 0).trans rfl,(blk_cell BK.out 1).trans rfl,(blk_cell BK.out 2).trans rfl,(blk_cell BK.out 3).trans rfl⟩))
    go_ret2
    exact⟨HB.out,rfl⟩
def impl_worldOf.f (k:Nat)(l0:List S57):Option Bool:=if 12<l0.length then some false else pagesOk k l0
set_option maxRecDepth 100000 in
theorem impl_worldOf.calls (k:Nat)(A0:Option Addr)(c0:Nat)(l0:List S57)(r:Bool)(w:World)(hr0:Kd.C k57 w A0 l0.length l0)(hc0:l0.length≤c0)(h:impl_worldOf.f k l0=some r):
  Calls Tryz.prog 29 #[.slice A0 l0.length c0] w fun e w'=>Below w.heap.size w w' ∧
   (r=false→e=.returned (.tuple #[.map none,.bool false]))∧(r=true→∃b,w.heap.size≤b∧Pages w' b l0.length (mapD l0)∧e=.returned (.tuple #[.map (some b),.bool ((Maps.size (mapD l0):Int)==(l0.length:Int))])):=by
 unfold impl_worldOf.f at h
 by_cases h12:12<l0.length
 ·rw[if_pos h12]at h
  obtain rfl:=oJ_ h;have hle:decide ((12:Int)<(l0.length:Int))=true:=decide_eq_true (by omega);clear h
  go_enter Tryz.func29,Tryz.ntmps29
  go_wp2
  go_ret2
  exact⟨Below.refl _ _,fun _=>rfl,fun h=>by cases h⟩
 ·rw[if_neg h12]at h
  exact worldOf_walk k A0 c0 l0 r w hr0 hc0 (by omega) h
theorem pagesOk_mono (k:Nat):∀l,LeO (pagesOk k l) (pagesOk (k+1) l)
 | []=>LeO.refl _
 |p::r=>by
  unfold pagesOk;exact LeO.ite (LeO.bind (impl_pageOk.mono _ _ _ _ _) (fun _=>LeO.ite (pagesOk_mono k r) (LeO.refl _))) (LeO.refl _)
theorem impl_worldOf.mono:∀a0 k,LeO (impl_worldOf.f k a0) (impl_worldOf.f (k+1) a0):=fun a0 k=>LeO.ite (LeO.refl _) (pagesOk_mono k a0)
end Go.Proofs.YtloijngehifbmaaGreatDoor.P
end
section
namespace Go.Proofs.YtloijngehifbmaaGreatDoor.P
open Go.RowKit Go.Proofs.YtloijngehifbmaaGreatDoorW PrintWords PrintLast PrintMore Go.Maps Go.ChangeMaps
set_option maxHeartbeats 4000000 in
set_option maxRecDepth 100000 in
theorem get_walk (b n:Nat)(l:List S57)(a:BA)(t:Int)(w:World)(ha:a.size≤9223372036854775807)(hm:Pages w b n (mapD l)):
  Calls Tryz.prog 53 #[.map (some b),.string a,.int .i64 t] w fun e w'=>e=.returned (.tuple #[.int .i64 (getF l a t).1,.string (getF l a t).2])∧Below w.heap.size w w':=by
 have hu:=Tryz.underlying57;have HB:=A_ (Below.refl w.heap.size w);have hz:(zeroValue 57).run Tryz.prog w=.ok (pageV z57) w:=by kernel_rfl
 obtain⟨v,ps,hrun,hv⟩:=hm.look_ok (string_keyed Tryz.underlying9) Tryz.underlying60 hz (pageR_mk z57) (Go.WideMaps.keyOf_string_mk (P:=Tryz.prog) Tryz.underlying9 (s:=a) (by have:maxLen=2^63-1:=rfl;omega));have e1:=mapR_at a l.reverse;have e2:=mapR_has a l.reverse;rw[show(.string a.data.toList:Lit)=keyL a from rfl]at hv hrun;unfold mapD at hv hrun;rw[e1]at hv;rw[e2]at hrun;obtain⟨q,rfl,hq⟩:=pageR_inv hv;obtain rfl:=pageD_inj (Prod.mk.inj hq).1;unfold getF;clear hv hq e1 e2 hm hz;cases hp:pageAtR a l.reverse with
 |none=>
  rw[hp]at hrun;simp only[Option.getD_none,Option.isSome_none,pageV]at hrun
  go_enter Tryz.func53,Tryz.ntmps53
  go_wp2
  go_ret2
  exact⟨rfl,(Below.refl _ _).alloc (lL_ _) _⟩
 |some p=>
  rw[hp]at hrun;simp only[Option.getD_some,Option.isSome_some,pageV]at hrun;simp only
  by_cases c1:t<0
  ·rw[if_pos c1]
   have d1:decide (t<0)=true:=decide_eq_true c1;clear c1
   go_enter Tryz.func53,Tryz.ntmps53
   go_wp2
   go_ret2
   exact⟨rfl,(Below.refl _ _).alloc (lL_ _) _⟩
  ·rw[if_neg c1]
   have d1:decide (t<0)=false:=decide_eq_false c1;clear c1
   by_cases c2:t<p.f3
   ·rw[if_pos c2]
    have d2:decide (t<p.f3)=true:=decide_eq_true c2;clear c2
    go_enter Tryz.func53,Tryz.ntmps53
    go_wp2
    go_ret2
    exact⟨rfl,(Below.refl _ _).alloc (lL_ _) _⟩
   ·rw[if_neg c2]
    have d2:decide (t<p.f3)=false:=decide_eq_false c2;clear c2
    by_cases c3:p.f2.toList=([]:List UInt8)
    ·rw[if_pos c3]
     have d3:(p.f2.toList==([]:List UInt8))=true:=beq_iff_eq.mpr c3;have d4:(p.f2.toList != ([]:List UInt8))=false:=bne_eq_false_iff_eq.mpr c3;clear c3
     go_enter Tryz.func53,Tryz.ntmps53
     go_wp2
     go_quiet (fail)
     go_wp2
     go_ret2
     exact⟨rfl,pw_below_drewN (below_alloc (Below.refl _ _) _) _⟩
    ·rw[if_neg c3]
     have d3:(p.f2.toList==([]:List UInt8))=false:=bN_.mpr c3;have d4:(p.f2.toList != ([]:List UInt8))=true:=bne_iff_ne.mpr c3;clear c3
     go_enter Tryz.func53,Tryz.ntmps53
     go_wp2
     go_quiet (fail)
     go_wp2
     go_ret2
     exact⟨rfl,pw_below_drewN (below_alloc (Below.refl _ _) _) _⟩
end Go.Proofs.YtloijngehifbmaaGreatDoor.P
end
section
namespace Go.Proofs.YtloijngehifbmaaGreatDoor.P
open Go.RowKit Go.Proofs.YtloijngehifbmaaGreatDoorW PrintWords PrintLast PrintMore Go.Maps Go.ChangeMaps
def impl_WorldGet.f (k:Nat)(l0:List S57)(a1:BA)(a2:Int):Option (Int×BA):=
 if a1.size≤9223372036854775807 then(impl_worldOf.f k l0).bind fun t=>if t=true then(if((Maps.size (mapD l0):Int)==(l0.length:Int))=true then some (getF l0 a1 a2)else some (0,(⟨#[]⟩:BA)))else some (0,(⟨#[]⟩:BA))else none
set_option maxRecDepth 100000 in
theorem impl_WorldGet.calls (k:Nat)(A0:Option Addr)(c0:Nat)(l0:List (S57))(a1:BA)(a2:Int)(r1:Int)(r2:BA)(w:World)(hr0:Kd.C k57 w A0 l0.length l0)(hc0:l0.length≤c0)(h:impl_WorldGet.f k l0 a1 a2=some (r1,r2)):
  Calls Tryz.prog 19 #[.slice A0 l0.length c0,.string a1,.int .i64 a2] w fun e w'=>e=.returned (.tuple #[.int .i64 r1,.string r2])∧Below w.heap.size w w':=by
 unfold impl_WorldGet.f at h
 by_cases hz:a1.size≤9223372036854775807
 case neg=>rw[if_neg hz]at h;cases h
 rw[if_pos hz]at h;obtain⟨t,A,H⟩:=oE_.mp h;clear h;cases t with
 |false=>
  rw[if_neg (by decide)]at H;obtain⟨rfl,rfl⟩:=Prod.mk.inj (oJ_ H)
  go_enter Tryz.func19,Tryz.ntmps19
  go_wp2_with (first|(go_at_call 29;refine(impl_worldOf.calls k A0 c0 l0 false _ hr0 hc0 A).mono ?_;rintro e w1 ⟨hb,h0,h1⟩;obtain rfl:=h0 rfl;clear h0 h1;have HB:=A_ hb;clear hb))
  go_ret2
  exact⟨rfl,HB.out⟩
 |true=>
  rw[if_pos rfl]at H;obtain⟨q,hq⟩:∃q,((Maps.size (mapD l0):Int)==(l0.length:Int))=q:=⟨_,rfl⟩;rw[hq]at H;cases q with
  |false=>
   rw[if_neg (by decide)]at H;obtain⟨rfl,rfl⟩:=Prod.mk.inj (oJ_ H)
   go_enter Tryz.func19,Tryz.ntmps19
   go_wp2_with (first|(go_at_call 29;refine(impl_worldOf.calls k A0 c0 l0 true _ hr0 hc0 A).mono ?_;rintro e w1 ⟨hb,h0,h1⟩;obtain⟨b,_,_,rfl⟩:=h1 rfl;rw[hq];clear h0 h1;have HB:=A_ hb;clear hb))
   go_ret2
   exact⟨rfl,HB.out⟩
  |true=>
   rw[if_pos rfl]at H;have H':=oJ_ H;clear H
   go_enter Tryz.func19,Tryz.ntmps19
   go_wp2_with (first|(go_at_call 29;refine(impl_worldOf.calls k A0 c0 l0 true _ hr0 hc0 A).mono ?_;rintro e w1 ⟨hb,h0,h1⟩;obtain⟨b,_,hM,rfl⟩:=h1 rfl;rw[hq];clear h0 h1;have HM:=A_ hM;have HB:=A_ hb;clear hb hM)|(go_at_call 53;refine(get_walk b _ l0 a1 a2 _ hz HM.out).mono ?_;rintro e w2 ⟨rfl,hb⟩;rw[H'];replace HB:=A_ (below_step HB.out hb);clear hb))
   go_ret2
   exact⟨rfl,HB.out⟩
abbrev SP:=S57
set_option maxRecDepth 100000 in
theorem atLast_walk (b n:Nat)(l:List SP)(a:BA)(w:World)(ha:a.size≤9223372036854775807)(hm:Pages w b n (mapD l)):
  Calls Tryz.prog 77 #[.map (some b),.string a] w fun e w'=>e=.returned (.tuple #[.int .i64 (getF l a 2).1,.string (getF l a 2).2])∧Below w.heap.size w w':=by
 obtain⟨q,hq⟩:∃q,getF l a 2=q:=⟨_,rfl⟩;rw[hq]
 go_enter Tryz.func77,Tryz.ntmps77
 go_wp2_with (first|(go_at_call 53;refine(get_walk b n l a 2 _ ha hm).mono ?_;rintro e w1 ⟨rfl,hb⟩;rw[hq];have HB:=A_ hb;clear hb))
 go_ret2
 exact⟨rfl,HB.out⟩
def barredF (a1:BA):List BA×List Re×Int:=([a1],[⟨false,⟨#[47]⟩⟩],0)
def sayF (k:Nat)(q:Int×BA)(a1:BA):Option (List BA×List Re×Int):=
 if q.1=1 then(impl_NoticeRead.f k q.2).bind fun n=>impl_NoticeFor.f k n a1 else if q.1=3 then some (barredF a1)else impl_NoticeFor.f k [] a1
def saidF (k:Nat)(l:List SP)(a0 a1:BA):Option (List BA×List Re×Int):=
 (impl_noticeAddr.f a0).bind fun ad=>if ad.size≤9223372036854775807 then sayF k (getF l ad 2) a1 else none
set_option maxHeartbeats 4000000 in
set_option maxRecDepth 100000 in
theorem notice_walk (k:Nat)(b n:Nat)(l:List SP)(a0 a1:BA)(r1:List BA)(r2:List Re)(r3:Int)(w:World)(hm:Pages w b n (mapD l))(h:saidF k l a0 a1=some (r1,r2,r3)):
  Calls Tryz.prog 39 #[.map (some b),.string a0,.string a1] w fun e w'=>∃v0_ v1_:Value,e=.returned (.agg #[v0_,v1_,.int .i64 r3])∧Kd.R Kd.string 9 w' w.heap.size (fun _=>True) v0_ r1∧Kd.R k93 93 w' w.heap.size (fun _=>True) v1_ r2∧Below w.heap.size w w':=by
 have HB:=A_ (Below.refl w.heap.size w);unfold saidF at h;obtain⟨ad,hA,h2⟩:=oE_.mp h
 split at h2
 case isFalse=>cases h2
 rename_i hS;obtain⟨⟨q,tx⟩,hq⟩:∃q,getF l ad 2=q:=⟨_,rfl⟩;rw[hq]at h2;have HA:=A_ hA;have HS:=A_ hS;have HQ:=A_ hq;have HM:=A_ hm;clear h hA hS hq hm;unfold sayF at h2;simp only at h2
 by_cases c1:q=1
 ·subst c1
  rw[if_pos rfl]at h2;obtain⟨gs,hR,h3⟩:=oE_.mp h2;have HR:=A_ hR;have HF:=A_ h3;clear h2 h3 hR
  go_enter Tryz.func39,Tryz.ntmps39
  go_wp2_with (first|((with_reducible refine gate_dst (N:=6) rfl ?_);refine box_event ?hg (N:=6) ?hd (cs:=#[.slice none 0 0,.slice none 0 0,.int .i64 0]) (t:=32) ?hr ?_;(case hd=>rfl);(case hg=>rfl);(case hr=>first|(go_simp;done)|(go_simp;rfl));intro g6 hg w6 hbox hb;have BK:=A_ hbox;have GE:=A_ (show w.heap.size≤g6 from by rw[hg];exact below_size HB.out);replace HB:=A_ (below_step HB.out hb);replace HM:=A_ (map_below HM.out hb);clear hb hg hbox)|(go_at_call 78;refine(impl_noticeAddr.calls a0 ad _ HA.out).mono ?_;rintro e w1 ⟨rfl,hd⟩;have hb:=hd.below;replace BK:=A_ (blk_below BK.out hb);replace HB:=A_ (below_step HB.out hb);replace HM:=A_ (map_below HM.out hb);clear hb hd)|(go_at_call 77;refine(atLast_walk b n l ad _ HS.out HM.out).mono ?_;rintro e w2 ⟨rfl,hb⟩;rw[HQ.out];replace BK:=A_ (blk_below BK.out hb);replace HB:=A_ (below_step HB.out hb);  clear hb)|(go_at_call 21;refine(impl_NoticeRead.calls k tx gs _ HR.out).mono ?_;rintro e w3 ⟨v3,rfl,ho,hb⟩;replace BK:=A_ (blk_below BK.out hb);replace HB:=A_ (below_step HB.out hb);have HO:=A_ (Kd.S_N ho);clear ho hb;obtain⟨Ag,cg,eg⟩:=Kd.N_slice HO.out;subst eg)|(go_at_call 20;refine(impl_NoticeFor.calls k Ag _ gs a1 r1 r2 r3 _ (Kd.N_reads' HO.out).2.2 (Kd.N_reads' HO.out).2.1 HF.out).mono ?_;rintro e w4 ⟨v0,v1,rfl,ho0,ho1,hb⟩;have H0:=A_ (Kd.R_lower ho0 (below_size HB.out));have H1:=A_ (Kd.R_lower ho1 (below_size HB.out));replace BK:=A_ (blk_below BK.out hb);replace HB:=A_ (below_step HB.out hb);clear ho0 ho1 hb;obtain⟨Aa,ca,ea⟩:=Kd.R_slice H0.out;subst ea;obtain⟨Ab,cb,eb⟩:=Kd.R_slice H1.out;subst eb;have h60:w4.cell? ⟨g6,0,none⟩=some (.slice none 0 0):=(blk_cell BK.out 0).trans rfl;have f60:=blk_frozen BK.out 0;have h61:w4.cell? ⟨g6,1,none⟩=some (.slice none 0 0):=(blk_cell BK.out 1).trans rfl;have f61:=blk_frozen BK.out 1;have h62:w4.cell? ⟨g6,2,none⟩=some (.int .i64 0):=(blk_cell BK.out 2).trans rfl;have f62:=blk_frozen BK.out 2;(skip)))
  refine bodyPost_ret (results_cell_row rfl _ _ g6 32 #[.slice Aa r1.length ca,.slice Ab r2.length cb,.int .i64 r3] (0,0) _ rfl (put3 BK.out (.slice Aa r1.length ca) (.slice Ab r2.length cb) (.int .i64 r3)) Tryz.underlying32 rfl (by kernel_rfl)) rfl ?_;exact⟨_,_,rfl,R_far3 H0.out BK.out (by decide) (.slice Aa r1.length ca) (.slice Ab r2.length cb) (.int .i64 r3),R_far3 H1.out BK.out (by decide) (.slice Aa r1.length ca) (.slice Ab r2.length cb) (.int .i64 r3),below3 HB.out GE.out (.slice Aa r1.length ca) (.slice Ab r2.length cb) (.int .i64 r3)⟩
 ·rw[if_neg c1]at h2
  have d1:(q==1)=false:=bN_.mpr c1;have d1':decide (q=1)=false:=decide_eq_false c1
  by_cases c3:q=3
  ·subst c3
   rw[if_pos rfl]at h2;obtain⟨rfl,h3⟩:=Prod.mk.inj (oJ_ h2);obtain⟨rfl,rfl⟩:=Prod.mk.inj h3;clear h2 h3 c1
   go_enter Tryz.func39,Tryz.ntmps39
   go_wp2_with (first|((with_reducible refine gate_dst (N:=6) rfl ?_);refine box_event ?hg (N:=6) ?hd (cs:=#[.slice none 0 0,.slice none 0 0,.int .i64 0]) (t:=32) ?hr ?_;(case hd=>rfl);(case hg=>rfl);(case hr=>first|(go_simp;done)|(go_simp;rfl));intro g6 hg w6 hbox hb;have BK:=A_ hbox;have GE:=A_ (show w.heap.size≤g6 from by rw[hg];exact below_size HB.out);replace HB:=A_ (below_step HB.out hb);replace HM:=A_ (map_below HM.out hb);clear hb hg hbox)|(go_at_call 78;refine(impl_noticeAddr.calls a0 ad _ HA.out).mono ?_;rintro e w1 ⟨rfl,hd⟩;have hb:=hd.below;replace BK:=A_ (blk_below BK.out hb);replace HB:=A_ (below_step HB.out hb);replace HM:=A_ (map_below HM.out hb);clear hb hd)|(go_at_call 77;refine(atLast_walk b n l ad _ HS.out HM.out).mono ?_;rintro e w2 ⟨rfl,hb⟩;rw[HQ.out];replace BK:=A_ (blk_below BK.out hb);replace HB:=A_ (below_step HB.out hb);  clear hb)|((with_reducible refine gate_dst (N:=26) rfl ?_);refine Kd.R_lit Kd.string _ 9 ?hg (N:=26) ?hd (xs:=([a1]:List BA)) (inner:=[.string a1]) (ok:=fun _=>True) (okp:=fun _=>True) ?hr ?hp (fun _ hk=>hk) trivial (Below.refl _ _) (lL_ _) (by simp) ?_;(case hd=>rfl);(case hg=>rfl);(case hr=>first|(go_simp;done)|(go_simp;rfl));(case hp=>exact(Reps.one (show Kd.M Kd.string _ _ _ a1 [.string a1]from rfl) (Reps.none _ _)));intro v26 w7 ho hb hg_ hnew_;clear hg_ hnew_;have H0:=A_ (Kd.R_lower ho (below_size HB.out));replace BK:=A_ (blk_below BK.out hb);replace HB:=A_ (below_step HB.out hb);clear hb ho;obtain⟨Aa,ca,ea⟩:=Kd.R_slice H0.out;subst ea)|((with_reducible refine gate_dst (N:=28) rfl ?_);refine Kd.R_lit k93 _ 93 ?hg (N:=28) ?hd (xs:=([⟨false,⟨#[47]⟩⟩]:List Re)) (inner:=[.bool false,.string ⟨#[47]⟩]) (ok:=fun _=>True) (okp:=fun _=>True) ?hr ?hp (fun _ hk=>hk) trivial (Below.refl _ _) (lL_ _) (by simp) ?_;(case hd=>rfl);(case hg=>rfl);(case hr=>first|(go_simp;done)|(go_simp;rfl));(case hp=>exact(Reps.c2 (show Kd.M k93 _ _ _ (⟨false,(⟨#[47]⟩:BA)⟩:Re) [.bool false,.string (⟨#[47]⟩:BA)]from(k93_mkM _ _ _ (⟨false,(⟨#[47]⟩:BA)⟩:Re))) (Reps.none _ _)));intro v28 w8 ho hb hg_ hnew_;clear hg_ hnew_;have H1:=A_ (Kd.R_lower ho (below_size HB.out));replace H0:=A_ (Kd.R_below H0.out hb);replace BK:=A_ (blk_below BK.out hb);replace HB:=A_ (below_step HB.out hb);clear hb ho;obtain⟨Ab,cb,eb⟩:=Kd.R_slice H1.out;subst eb;have h60:w8.cell? ⟨g6,0,none⟩=some (.slice none 0 0):=(blk_cell BK.out 0).trans rfl;have f60:=blk_frozen BK.out 0;have h61:w8.cell? ⟨g6,1,none⟩=some (.slice none 0 0):=(blk_cell BK.out 1).trans rfl;have f61:=blk_frozen BK.out 1;have h62:w8.cell? ⟨g6,2,none⟩=some (.int .i64 0):=(blk_cell BK.out 2).trans rfl;have f62:=blk_frozen BK.out 2;(skip)))
   refine bodyPost_ret (results_cell_row rfl _ _ g6 32 #[.slice Aa 1 ca,.slice Ab 1 cb,.int .i64 0] (0,0) _ rfl (put3 BK.out (.slice Aa 1 ca) (.slice Ab 1 cb) (.int .i64 0)) Tryz.underlying32 rfl (by kernel_rfl)) rfl ?_;exact⟨_,_,rfl,R_far3 H0.out BK.out (by decide) (.slice Aa 1 ca) (.slice Ab 1 cb) (.int .i64 0),R_far3 H1.out BK.out (by decide) (.slice Aa 1 ca) (.slice Ab 1 cb) (.int .i64 0),below3 HB.out GE.out (.slice Aa 1 ca) (.slice Ab 1 cb) (.int .i64 0)⟩
  ·rw[if_neg c3]at h2
   have d3:(q==3)=false:=bN_.mpr c3;have d3':decide (q=3)=false:=decide_eq_false c3;have HF:=A_ h2;clear h2 c1 c3
   go_enter Tryz.func39,Tryz.ntmps39
   go_wp2_with (first|((with_reducible refine gate_dst (N:=6) rfl ?_);refine box_event ?hg (N:=6) ?hd (cs:=#[.slice none 0 0,.slice none 0 0,.int .i64 0]) (t:=32) ?hr ?_;(case hd=>rfl);(case hg=>rfl);(case hr=>first|(go_simp;done)|(go_simp;rfl));intro g6 hg w6 hbox hb;have BK:=A_ hbox;have GE:=A_ (show w.heap.size≤g6 from by rw[hg];exact below_size HB.out);replace HB:=A_ (below_step HB.out hb);replace HM:=A_ (map_below HM.out hb);clear hb hg hbox)|(go_at_call 78;refine(impl_noticeAddr.calls a0 ad _ HA.out).mono ?_;rintro e w1 ⟨rfl,hd⟩;have hb:=hd.below;replace BK:=A_ (blk_below BK.out hb);replace HB:=A_ (below_step HB.out hb);replace HM:=A_ (map_below HM.out hb);clear hb hd)|(go_at_call 77;refine(atLast_walk b n l ad _ HS.out HM.out).mono ?_;rintro e w2 ⟨rfl,hb⟩;rw[HQ.out];replace BK:=A_ (blk_below BK.out hb);replace HB:=A_ (below_step HB.out hb);  clear hb)|(go_at_call 20;refine(impl_NoticeFor.calls k none _ [] a1 r1 r2 r3 _ (Kd.C_nil _ _) (Nat.zero_le _) HF.out).mono ?_;rintro e w4 ⟨v0,v1,rfl,ho0,ho1,hb⟩;have H0:=A_ (Kd.R_lower ho0 (below_size HB.out));have H1:=A_ (Kd.R_lower ho1 (below_size HB.out));replace BK:=A_ (blk_below BK.out hb);replace HB:=A_ (below_step HB.out hb);clear ho0 ho1 hb;obtain⟨Aa,ca,ea⟩:=Kd.R_slice H0.out;subst ea;obtain⟨Ab,cb,eb⟩:=Kd.R_slice H1.out;subst eb;have h60:w4.cell? ⟨g6,0,none⟩=some (.slice none 0 0):=(blk_cell BK.out 0).trans rfl;have f60:=blk_frozen BK.out 0;have h61:w4.cell? ⟨g6,1,none⟩=some (.slice none 0 0):=(blk_cell BK.out 1).trans rfl;have f61:=blk_frozen BK.out 1;have h62:w4.cell? ⟨g6,2,none⟩=some (.int .i64 0):=(blk_cell BK.out 2).trans rfl;have f62:=blk_frozen BK.out 2;(skip)))
   refine bodyPost_ret (results_cell_row rfl _ _ g6 32 #[.slice Aa r1.length ca,.slice Ab r2.length cb,.int .i64 r3] (0,0) _ rfl (put3 BK.out (.slice Aa r1.length ca) (.slice Ab r2.length cb) (.int .i64 r3)) Tryz.underlying32 rfl (by kernel_rfl)) rfl ?_;exact⟨_,_,rfl,R_far3 H0.out BK.out (by decide) (.slice Aa r1.length ca) (.slice Ab r2.length cb) (.int .i64 r3),R_far3 H1.out BK.out (by decide) (.slice Aa r1.length ca) (.slice Ab r2.length cb) (.int .i64 r3),below3 HB.out GE.out (.slice Aa r1.length ca) (.slice Ab r2.length cb) (.int .i64 r3)⟩
def impl_WorldNotice.f (k:Nat)(l0:List SP)(a1 a2:BA):Option (List BA×List Re×Int):=
 (impl_worldOf.f k l0).bind fun t=>if t=true then(if((Maps.size (mapD l0):Int)==(l0.length:Int))=true then(impl_isHouse.f k a1).bind fun h=>if h=true then(impl_isName.f k a2).bind fun nm=>if nm=true then saidF k l0 a1 a2 else some ([],[],0)else some ([],[],0)else some ([],[],0))else some ([],[],0)
set_option maxHeartbeats 4000000 in
set_option maxRecDepth 100000 in
theorem impl_WorldNotice.calls (k:Nat)(A0:Option Addr)(c0:Nat)(l0:List (SP))(a1 a2:BA)(r1:List BA)(r2:List Re)(r3:Int)(w:World)(hr0:Kd.C k57 w A0 l0.length l0)(hc0:l0.length≤c0)(h:impl_WorldNotice.f k l0 a1 a2=some (r1,r2,r3)):
  Calls Tryz.prog 12 #[.slice A0 l0.length c0,.string a1,.string a2] w fun e w'=>∃v0_ v1_:Value,e=.returned (.agg #[v0_,v1_,.int .i64 r3])∧Kd.R Kd.string 9 w' w.heap.size (fun _=>True) v0_ r1∧Kd.R k93 93 w' w.heap.size (fun _=>True) v1_ r2∧Below w.heap.size w w':=by
 have HB:=A_ (Below.refl w.heap.size w);unfold impl_WorldNotice.f at h;obtain⟨t,A,H⟩:=oE_.mp h;have AW:=A_ A;clear h A;cases t with
 |false=>
  rw[if_neg (by decide)]at H;obtain⟨rfl,H4⟩:=Prod.mk.inj (oJ_ H);obtain⟨rfl,rfl⟩:=Prod.mk.inj H4;clear H H4
  go_enter Tryz.func12,Tryz.ntmps12
  go_wp2_with (first|((with_reducible refine gate_dst (N:=6) rfl ?_);refine box_event ?hg (N:=6) ?hd (cs:=#[.slice none 0 0,.slice none 0 0,.int .i64 0]) (t:=32) ?hr ?_;(case hd=>rfl);(case hg=>rfl);(case hr=>first|(go_simp;done)|(go_simp;rfl));intro g6 hg w6 hbox hb;have BK:=A_ hbox;have GE:=A_ (show w.heap.size≤g6 from by rw[hg];exact below_size HB.out);replace HB:=A_ (below_step HB.out hb);clear hb hg hbox)|(go_at_call 29;refine(impl_worldOf.calls k A0 c0 l0 false _ (Kd.C_below hr0 HB.out) hc0 AW.out).mono ?_;rintro e w1 ⟨hb,h0,h1⟩;obtain rfl:=h0 rfl;clear h0 h1;replace BK:=A_ (blk_below BK.out hb);replace HB:=A_ (below_step HB.out hb);  clear hb;have h60:w1.cell? ⟨g6,0,none⟩=some (.slice none 0 0):=(blk_cell BK.out 0).trans rfl;have f60:=blk_frozen BK.out 0;have h61:w1.cell? ⟨g6,1,none⟩=some (.slice none 0 0):=(blk_cell BK.out 1).trans rfl;have f61:=blk_frozen BK.out 1;have h62:w1.cell? ⟨g6,2,none⟩=some (.int .i64 0):=(blk_cell BK.out 2).trans rfl;have f62:=blk_frozen BK.out 2;(skip)))
  refine bodyPost_ret (results_cell_row rfl _ _ g6 32 #[.slice none 0 0,.slice none 0 0,.int .i64 0] (0,0) _ rfl (put3 BK.out (.slice none 0 0) (.slice none 0 0) (.int .i64 0)) Tryz.underlying32 rfl (by kernel_rfl)) rfl ?_;exact⟨_,_,rfl,Kd.R_nil _ _ _ _ _,Kd.R_nil _ _ _ _ _,below3 HB.out GE.out (.slice none 0 0) (.slice none 0 0) (.int .i64 0)⟩
 |true=>
  rw[if_pos rfl]at H;obtain⟨q,hq⟩:∃q,((Maps.size (mapD l0):Int)==(l0.length:Int))=q:=⟨_,rfl⟩;rw[hq]at H;have HQ:=A_ hq;clear hq;cases q with
  |false=>
   rw[if_neg (by decide)]at H;obtain⟨rfl,H4⟩:=Prod.mk.inj (oJ_ H);obtain⟨rfl,rfl⟩:=Prod.mk.inj H4;clear H H4
   go_enter Tryz.func12,Tryz.ntmps12
   go_wp2_with (first|((with_reducible refine gate_dst (N:=6) rfl ?_);refine box_event ?hg (N:=6) ?hd (cs:=#[.slice none 0 0,.slice none 0 0,.int .i64 0]) (t:=32) ?hr ?_;(case hd=>rfl);(case hg=>rfl);(case hr=>first|(go_simp;done)|(go_simp;rfl));intro g6 hg w6 hbox hb;have BK:=A_ hbox;have GE:=A_ (show w.heap.size≤g6 from by rw[hg];exact below_size HB.out);replace HB:=A_ (below_step HB.out hb);clear hb hg hbox)|(go_at_call 29;refine(impl_worldOf.calls k A0 c0 l0 true _ (Kd.C_below hr0 HB.out) hc0 AW.out).mono ?_;rintro e w1 ⟨hb,h0,h1⟩;obtain⟨b,_,hM,rfl⟩:=h1 rfl;rw[HQ.out];have HM:=A_ hM;clear hM;clear h0 h1;replace BK:=A_ (blk_below BK.out hb);replace HB:=A_ (below_step HB.out hb);  clear hb;have h60:w1.cell? ⟨g6,0,none⟩=some (.slice none 0 0):=(blk_cell BK.out 0).trans rfl;have f60:=blk_frozen BK.out 0;have h61:w1.cell? ⟨g6,1,none⟩=some (.slice none 0 0):=(blk_cell BK.out 1).trans rfl;have f61:=blk_frozen BK.out 1;have h62:w1.cell? ⟨g6,2,none⟩=some (.int .i64 0):=(blk_cell BK.out 2).trans rfl;have f62:=blk_frozen BK.out 2;(skip)))
   refine bodyPost_ret (results_cell_row rfl _ _ g6 32 #[.slice none 0 0,.slice none 0 0,.int .i64 0] (0,0) _ rfl (put3 BK.out (.slice none 0 0) (.slice none 0 0) (.int .i64 0)) Tryz.underlying32 rfl (by kernel_rfl)) rfl ?_;exact⟨_,_,rfl,Kd.R_nil _ _ _ _ _,Kd.R_nil _ _ _ _ _,below3 HB.out GE.out (.slice none 0 0) (.slice none 0 0) (.int .i64 0)⟩
  |true=>
   rw[if_pos rfl]at H;obtain⟨hh,A,H⟩:=oE_.mp H;rename_i H_;clear H_;have AH:=A_ A;clear A;cases hh with
   |false=>
    rw[if_neg (by decide)]at H;obtain⟨rfl,H4⟩:=Prod.mk.inj (oJ_ H);obtain⟨rfl,rfl⟩:=Prod.mk.inj H4;clear H H4
    go_enter Tryz.func12,Tryz.ntmps12
    go_wp2_with (first|((with_reducible refine gate_dst (N:=6) rfl ?_);refine box_event ?hg (N:=6) ?hd (cs:=#[.slice none 0 0,.slice none 0 0,.int .i64 0]) (t:=32) ?hr ?_;(case hd=>rfl);(case hg=>rfl);(case hr=>first|(go_simp;done)|(go_simp;rfl));intro g6 hg w6 hbox hb;have BK:=A_ hbox;have GE:=A_ (show w.heap.size≤g6 from by rw[hg];exact below_size HB.out);replace HB:=A_ (below_step HB.out hb);clear hb hg hbox)|(go_at_call 29;refine(impl_worldOf.calls k A0 c0 l0 true _ (Kd.C_below hr0 HB.out) hc0 AW.out).mono ?_;rintro e w1 ⟨hb,h0,h1⟩;obtain⟨b,_,hM,rfl⟩:=h1 rfl;rw[HQ.out];have HM:=A_ hM;clear hM;clear h0 h1;replace BK:=A_ (blk_below BK.out hb);replace HB:=A_ (below_step HB.out hb);  clear hb;have h60:w1.cell? ⟨g6,0,none⟩=some (.slice none 0 0):=(blk_cell BK.out 0).trans rfl;have f60:=blk_frozen BK.out 0;have h61:w1.cell? ⟨g6,1,none⟩=some (.slice none 0 0):=(blk_cell BK.out 1).trans rfl;have f61:=blk_frozen BK.out 1;have h62:w1.cell? ⟨g6,2,none⟩=some (.int .i64 0):=(blk_cell BK.out 2).trans rfl;have f62:=blk_frozen BK.out 2;(skip))|(go_at_call 38;refine(impl_isHouse.calls k a1 false _ AH.out).mono ?_;rintro e w2 ⟨rfl,hd⟩;have hb:=hd.below;clear hd;replace BK:=A_ (blk_below BK.out hb);replace HB:=A_ (below_step HB.out hb);replace HM:=A_ (map_below HM.out hb);clear hb h60 h61 h62 f60 f61 f62;have h60:w2.cell? ⟨g6,0,none⟩=some (.slice none 0 0):=(blk_cell BK.out 0).trans rfl;have f60:=blk_frozen BK.out 0;have h61:w2.cell? ⟨g6,1,none⟩=some (.slice none 0 0):=(blk_cell BK.out 1).trans rfl;have f61:=blk_frozen BK.out 1;have h62:w2.cell? ⟨g6,2,none⟩=some (.int .i64 0):=(blk_cell BK.out 2).trans rfl;have f62:=blk_frozen BK.out 2;(skip)))
    refine bodyPost_ret (results_cell_row rfl _ _ g6 32 #[.slice none 0 0,.slice none 0 0,.int .i64 0] (0,0) _ rfl (put3 BK.out (.slice none 0 0) (.slice none 0 0) (.int .i64 0)) Tryz.underlying32 rfl (by kernel_rfl)) rfl ?_;exact⟨_,_,rfl,Kd.R_nil _ _ _ _ _,Kd.R_nil _ _ _ _ _,below3 HB.out GE.out (.slice none 0 0) (.slice none 0 0) (.int .i64 0)⟩
   |true=>
    rw[if_pos rfl]at H;obtain⟨nm,A,H⟩:=oE_.mp H;rename_i H_;clear H_;have AN:=A_ A;clear A;cases nm with
    |false=>
     rw[if_neg (by decide)]at H;obtain⟨rfl,H4⟩:=Prod.mk.inj (oJ_ H);obtain⟨rfl,rfl⟩:=Prod.mk.inj H4;clear H H4
     go_enter Tryz.func12,Tryz.ntmps12
     go_wp2_with (first|((with_reducible refine gate_dst (N:=6) rfl ?_);refine box_event ?hg (N:=6) ?hd (cs:=#[.slice none 0 0,.slice none 0 0,.int .i64 0]) (t:=32) ?hr ?_;(case hd=>rfl);(case hg=>rfl);(case hr=>first|(go_simp;done)|(go_simp;rfl));intro g6 hg w6 hbox hb;have BK:=A_ hbox;have GE:=A_ (show w.heap.size≤g6 from by rw[hg];exact below_size HB.out);replace HB:=A_ (below_step HB.out hb);clear hb hg hbox)|(go_at_call 29;refine(impl_worldOf.calls k A0 c0 l0 true _ (Kd.C_below hr0 HB.out) hc0 AW.out).mono ?_;rintro e w1 ⟨hb,h0,h1⟩;obtain⟨b,_,hM,rfl⟩:=h1 rfl;rw[HQ.out];have HM:=A_ hM;clear hM;clear h0 h1;replace BK:=A_ (blk_below BK.out hb);replace HB:=A_ (below_step HB.out hb);  clear hb;have h60:w1.cell? ⟨g6,0,none⟩=some (.slice none 0 0):=(blk_cell BK.out 0).trans rfl;have f60:=blk_frozen BK.out 0;have h61:w1.cell? ⟨g6,1,none⟩=some (.slice none 0 0):=(blk_cell BK.out 1).trans rfl;have f61:=blk_frozen BK.out 1;have h62:w1.cell? ⟨g6,2,none⟩=some (.int .i64 0):=(blk_cell BK.out 2).trans rfl;have f62:=blk_frozen BK.out 2;(skip))|(go_at_call 38;refine(impl_isHouse.calls k a1 true _ AH.out).mono ?_;rintro e w2 ⟨rfl,hd⟩;have hb:=hd.below;clear hd;replace BK:=A_ (blk_below BK.out hb);replace HB:=A_ (below_step HB.out hb);replace HM:=A_ (map_below HM.out hb);clear hb h60 h61 h62 f60 f61 f62;have h60:w2.cell? ⟨g6,0,none⟩=some (.slice none 0 0):=(blk_cell BK.out 0).trans rfl;have f60:=blk_frozen BK.out 0;have h61:w2.cell? ⟨g6,1,none⟩=some (.slice none 0 0):=(blk_cell BK.out 1).trans rfl;have f61:=blk_frozen BK.out 1;have h62:w2.cell? ⟨g6,2,none⟩=some (.int .i64 0):=(blk_cell BK.out 2).trans rfl;have f62:=blk_frozen BK.out 2;(skip))|(go_at_call 30;refine(impl_isName.calls k a2 false _ AN.out).mono ?_;rintro e w3 ⟨rfl,hd⟩;have hb:=hd.below;clear hd;replace BK:=A_ (blk_below BK.out hb);replace HB:=A_ (below_step HB.out hb);replace HM:=A_ (map_below HM.out hb);clear hb h60 h61 h62 f60 f61 f62;have h60:w3.cell? ⟨g6,0,none⟩=some (.slice none 0 0):=(blk_cell BK.out 0).trans rfl;have f60:=blk_frozen BK.out 0;have h61:w3.cell? ⟨g6,1,none⟩=some (.slice none 0 0):=(blk_cell BK.out 1).trans rfl;have f61:=blk_frozen BK.out 1;have h62:w3.cell? ⟨g6,2,none⟩=some (.int .i64 0):=(blk_cell BK.out 2).trans rfl;have f62:=blk_frozen BK.out 2;(skip)))
     refine bodyPost_ret (results_cell_row rfl _ _ g6 32 #[.slice none 0 0,.slice none 0 0,.int .i64 0] (0,0) _ rfl (put3 BK.out (.slice none 0 0) (.slice none 0 0) (.int .i64 0)) Tryz.underlying32 rfl (by kernel_rfl)) rfl ?_;exact⟨_,_,rfl,Kd.R_nil _ _ _ _ _,Kd.R_nil _ _ _ _ _,below3 HB.out GE.out (.slice none 0 0) (.slice none 0 0) (.int .i64 0)⟩
    |true=>
     rw[if_pos rfl]at H;have HF:=A_ H;clear H
     go_enter Tryz.func12,Tryz.ntmps12
     go_wp2_with (first|((with_reducible refine gate_dst (N:=6) rfl ?_);refine box_event ?hg (N:=6) ?hd (cs:=#[.slice none 0 0,.slice none 0 0,.int .i64 0]) (t:=32) ?hr ?_;(case hd=>rfl);(case hg=>rfl);(case hr=>first|(go_simp;done)|(go_simp;rfl));intro g6 hg w6 hbox hb;have BK:=A_ hbox;have GE:=A_ (show w.heap.size≤g6 from by rw[hg];exact below_size HB.out);replace HB:=A_ (below_step HB.out hb);clear hb hg hbox)|(go_at_call 29;refine(impl_worldOf.calls k A0 c0 l0 true _ (Kd.C_below hr0 HB.out) hc0 AW.out).mono ?_;rintro e w1 ⟨hb,h0,h1⟩;obtain⟨b,_,hM,rfl⟩:=h1 rfl;rw[HQ.out];have HM:=A_ hM;clear hM;clear h0 h1;replace BK:=A_ (blk_below BK.out hb);replace HB:=A_ (below_step HB.out hb);  clear hb;have h60:w1.cell? ⟨g6,0,none⟩=some (.slice none 0 0):=(blk_cell BK.out 0).trans rfl;have f60:=blk_frozen BK.out 0;have h61:w1.cell? ⟨g6,1,none⟩=some (.slice none 0 0):=(blk_cell BK.out 1).trans rfl;have f61:=blk_frozen BK.out 1;have h62:w1.cell? ⟨g6,2,none⟩=some (.int .i64 0):=(blk_cell BK.out 2).trans rfl;have f62:=blk_frozen BK.out 2;(skip))|(go_at_call 38;refine(impl_isHouse.calls k a1 true _ AH.out).mono ?_;rintro e w2 ⟨rfl,hd⟩;have hb:=hd.below;clear hd;replace BK:=A_ (blk_below BK.out hb);replace HB:=A_ (below_step HB.out hb);replace HM:=A_ (map_below HM.out hb);clear hb h60 h61 h62 f60 f61 f62;have h60:w2.cell? ⟨g6,0,none⟩=some (.slice none 0 0):=(blk_cell BK.out 0).trans rfl;have f60:=blk_frozen BK.out 0;have h61:w2.cell? ⟨g6,1,none⟩=some (.slice none 0 0):=(blk_cell BK.out 1).trans rfl;have f61:=blk_frozen BK.out 1;have h62:w2.cell? ⟨g6,2,none⟩=some (.int .i64 0):=(blk_cell BK.out 2).trans rfl;have f62:=blk_frozen BK.out 2;(skip))|(go_at_call 30;refine(impl_isName.calls k a2 true _ AN.out).mono ?_;rintro e w3 ⟨rfl,hd⟩;have hb:=hd.below;clear hd;replace BK:=A_ (blk_below BK.out hb);replace HB:=A_ (below_step HB.out hb);replace HM:=A_ (map_below HM.out hb);clear hb h60 h61 h62 f60 f61 f62;have h60:w3.cell? ⟨g6,0,none⟩=some (.slice none 0 0):=(blk_cell BK.out 0).trans rfl;have f60:=blk_frozen BK.out 0;have h61:w3.cell? ⟨g6,1,none⟩=some (.slice none 0 0):=(blk_cell BK.out 1).trans rfl;have f61:=blk_frozen BK.out 1;have h62:w3.cell? ⟨g6,2,none⟩=some (.int .i64 0):=(blk_cell BK.out 2).trans rfl;have f62:=blk_frozen BK.out 2;(skip))|(go_at_call 39;refine(notice_walk k b _ l0 a1 a2 r1 r2 r3 _ HM.out HF.out).mono ?_;rintro e w4 ⟨v0,v1,rfl,ho0,ho1,hb⟩;have H0:=A_ (Kd.R_lower ho0 (below_size HB.out));have H1:=A_ (Kd.R_lower ho1 (below_size HB.out));replace BK:=A_ (blk_below BK.out hb);replace HB:=A_ (below_step HB.out hb);clear ho0 ho1 hb h60 h61 h62 f60 f61 f62;obtain⟨Aa,ca,ea⟩:=Kd.R_slice H0.out;subst ea;obtain⟨Ab,cb,eb⟩:=Kd.R_slice H1.out;subst eb;have h60:w4.cell? ⟨g6,0,none⟩=some (.slice none 0 0):=(blk_cell BK.out 0).trans rfl;have f60:=blk_frozen BK.out 0;have h61:w4.cell? ⟨g6,1,none⟩=some (.slice none 0 0):=(blk_cell BK.out 1).trans rfl;have f61:=blk_frozen BK.out 1;have h62:w4.cell? ⟨g6,2,none⟩=some (.int .i64 0):=(blk_cell BK.out 2).trans rfl;have f62:=blk_frozen BK.out 2;(skip)))
     refine bodyPost_ret (results_cell_row rfl _ _ g6 32 #[.slice Aa r1.length ca,.slice Ab r2.length cb,.int .i64 r3] (0,0) _ rfl (put3 BK.out (.slice Aa r1.length ca) (.slice Ab r2.length cb) (.int .i64 r3)) Tryz.underlying32 rfl (by kernel_rfl)) rfl ?_;exact⟨_,_,rfl,R_far3 H0.out BK.out (by decide) (.slice Aa r1.length ca) (.slice Ab r2.length cb) (.int .i64 r3),R_far3 H1.out BK.out (by decide) (.slice Aa r1.length ca) (.slice Ab r2.length cb) (.int .i64 r3),below3 HB.out GE.out (.slice Aa r1.length ca) (.slice Ab r2.length cb) (.int .i64 r3)⟩
end Go.Proofs.YtloijngehifbmaaGreatDoor.P
end
section
namespace Go.Proofs.YtloijngehifbmaaGreatDoor.P
open Go.RowKit Go.Proofs.YtloijngehifbmaaGreatDoorW PrintWords PrintLast PrintMore
attribute [local go_sem] max2_int min2_int max_two min_two max_three min_three max_four min_four
set_option maxHeartbeats 8000000
set_option maxRecDepth 100000
def laws_FnWorldNotice.j0:Nat→List (S57)→BA→BA→Bool→List BA→List (S93)→Int→Option (Bool)
 |0,_,_,_,_,_,_,_=>none
 |k+1,x3,x4,x5,x34,x1009000,x1009001,x1009002=>if x34=true then((spec_WorldNotice.f k x3 x4 x5).bind fun bt1017=>((laws_lpGroup.f k x1009000 x1009001 x1009002 bt1017.1 bt1017.2.1 bt1017.2.2).bind fun t1024=>(some t1024)))else(if 2+x4.size≤9223372036854775807 then(if 2+x4.size+7≤9223372036854775807 then((impl_WorldGet.f k x3 (((⟨#[47,47]⟩:BA)++x4)++(⟨#[47,110,111,116,105,99,101]⟩:BA)) 2).bind fun bt1025=>(if bt1025.1=1 then((impl_NoticeRead.f k bt1025.2).bind fun t1027=>((impl_NoticeFor.f k t1027 x5).bind fun bt1030=>((laws_lpGroup.f k x1009000 x1009001 x1009002 bt1030.1 bt1030.2.1 bt1030.2.2).bind fun t1037=>(some t1037))))else(if bt1025.1=3 then((impl_RuleLets.f k x1009001 (⟨#[47]⟩:BA)).bind fun t1038=>(if t1038=true then(some false)else((impl_RuleLets.f k x1009001 (⟨#[47,97,47,98]⟩:BA)).bind fun t1039=>(some (!t1039)))))else(if(x1009001.length:Int)=0 then(some (x1009002==0))else(some false)))))else(none))else(none))
def laws_FnWorldNotice.f (k:Nat)(l0:List Int):Option (Bool):=if(l0.length:Int)>1048576 then(some true)else((spec_DrawWorldNotice.f k l0).bind fun bt996=>((impl_WorldNotice.f k bt996.1 bt996.2.1 bt996.2.2).bind fun bt1001=>((spec_WorldNotice.f k bt996.1 bt996.2.1 bt996.2.2).bind fun bt1009=>((laws_lpGroup.f k bt1001.1 bt1001.2.1 bt1001.2.2 bt1009.1 bt1009.2.1 bt1009.2.2).bind fun t1016=>(if t1016=true then(laws_FnWorldNotice.j0 k bt996.1 bt996.2.1 bt996.2.2 ((bt1001.1.length:Int)==0) bt1001.1 bt1001.2.1 bt1001.2.2)else(laws_FnWorldNotice.j0 k bt996.1 bt996.2.1 bt996.2.2 true bt1001.1 bt1001.2.1 bt1001.2.2))))))
def laws_FnWorldNotice.T5:Bool×List (List Nat×List Nat):=(true,[([],[]),([],[]),([],[]),([],[]),([1,2,3],[1,2,3]),([0,4,4],[0,4]),([5],[5]),([6,5],[6]),([7],[7]),([8,7],[7,8]),([9,7],[7,9]),([10,7],[7,10]),([7,11],[7,11])])
def laws_FnWorldNotice.B5:List Nat:=[0,0,0,0,14,31,63,127,255,511,1023,2047,4095]
theorem laws_FnWorldNotice.tab5:rtab .any (opsOf Tryz.f5 5)=laws_FnWorldNotice.T5:=by kernel_rfl
theorem laws_FnWorldNotice.bits5:waitsOk laws_FnWorldNotice.T5.2 laws_FnWorldNotice.B5=true:=by kernel_rfl
theorem laws_FnWorldNotice.calls (k:Nat)(A0:Option Addr)(c0:Nat)(l0:List Int)(r:Bool)(w:World)(hr0:Kd.C (Kd.int .u8) w A0 l0.length l0)(hc0:l0.length≤c0)(h:laws_FnWorldNotice.f k l0=some r):
  Calls Tryz.prog 5 #[.slice A0 l0.length c0] w fun e w'=>e=.returned (.bool r)∧Below w.heap.size w w':=by
 have hu32:=Tryz.underlying32;have HR0:=A_ hr0;have HC0:=A_ hc0;clear hr0 hc0;have HB:=A_ (Below.refl w.heap.size w);unfold laws_FnWorldNotice.f at h;have H:=h;clear h;replace H:=iteE H;rcases H with⟨c2,H⟩|⟨c2,H⟩
 ·have c2b0:=gtT c2
  have c2b1:decide (1048576<l0.length)=true:=dT (by omega);clear c2;obtain rfl:=sI H;go_enter Tryz.func5,Tryz.ntmps5;go_wp2;go_ret;exact⟨zz9,(zz6 HB)⟩
 ·have c2b0:=gtF c2
  have c2b1:decide (1048576<l0.length)=false:=dF (by omega);clear c2;replace H:=bindA H;obtain⟨⟨t996,t997,t998⟩,A3,H⟩:=H;try dsimp only at H;replace H:=bindA H;obtain⟨⟨t1001,t1004,t1007⟩,A4,H⟩:=H;try dsimp only at H;have HC5:=A_ H;clear H;go_enter Tryz.func5,Tryz.ntmps5;go_upto_region 5 with(first|(refine gV 17 (some 14) Tryz.func17 (spec_DrawWorldNotice.calls k _ _ l0 t996 t997 t998 _ ?side1 ?side2 A3.out) ?_;(case side1=>exact(zz84 HR0));(case side2=>exact HC0.out);rintro v999 w6 ⟨ho0,hb⟩;have HO1000:=A_ (Kd.R_lower ho0 (below_size (zz6 HB)));replace HB:=A_ (bS (zz6 HB) hb);(try clear hb ho0);obtain⟨Ao7,co7,eo7⟩:=Kd.R_slice HO1000.out;subst eo7)|((with_reducible refine gC (f:=12) rfl ?_);refine gsL (some 21) Tryz.func12 #[.slice Ao7 t996.length co7,.string t997,.string t998] ?_;(with_reducible refine(impl_WorldNotice.calls k _ _ t996 t997 t998 t1001 t1004 t1007 _ ?side1 ?side2 A4.out).mono ?_);(case side1=>exact(zz46 HO1000));(case side2=>exact(Kd.R_reads' HO1000.out).2.1);rintro e w8 ⟨v1002,v1005,rfl,ho0,ho1,hb⟩;refine⟨_,rfl,?_⟩;replace HO1000:=A_ (rB (zz7 HO1000) hb);have HO1003:=A_ (Kd.R_lower ho0 (below_size (zz6 HB)));have HO1006:=A_ (Kd.R_lower ho1 (below_size (zz6 HB)));replace HB:=A_ (bS (zz6 HB) hb);(try clear hb ho0 ho1))|((with_reducible refine gD (N:=6) rfl ?_);(try(refine gate_guard (by rfl) ?_;dsimp only));refine boxE 6 #[.slice none 0 0,.slice none 0 0,.int .i64 0] 32 ?_;intro gb1008 hg w9 hbox hb;replace HO1000:=A_ (rB (zz7 HO1000) hb);replace HO1003:=A_ (rB (zz7 HO1003) hb);replace HO1006:=A_ (rB (zz7 HO1006) hb);have BK1008:=A_ (hbox);have GE1008:=geB hg (zz6 HB);replace HB:=A_ (bS (zz6 HB) hb);clear hb hbox hg;obtain⟨Ao10,co10,eo10⟩:=Kd.R_slice HO1003.out;subst eo10;obtain⟨_,_,_,_,_,_⟩:=cf3 BK1008;obtain⟨Ao12,co12,eo12⟩:=Kd.R_slice HO1006.out;subst eo12))
  (try simp only[Act.put,lS_,l0_,lC_])
  go_cut [34] (fun v34 wc=>∃(kq:Nat)(x34_4:Bool),v34=.bool x34_4∧Aside0 (laws_FnWorldNotice.j0 kq t996 t997 t998 x34_4 t1001 t1004 t1007=some r)∧Aside0 (kq≤k)∧Aside0 (Kd.R k57 57 wc w.heap.size (fun _=>True) (.slice Ao7 t996.length co7) t996)∧Aside0 (Kd.R Kd.string 9 wc w.heap.size (fun _=>True) (.slice Ao10 t1001.length co10) t1001)∧Aside0 (Kd.R k93 93 wc w.heap.size (fun _=>True) (.slice Ao12 t1004.length co12) t1004)∧Aside0 (wc.heap[gb1008]?=some (.cells #[(.slice Ao10 t1001.length co10),(.slice Ao12 t1004.length co12),.int .i64 t1007] 32 (0,0)))∧Aside0 (Below w.heap.size w wc))
  case first=>
   obtain⟨H⟩:=HC5;replace H:=bindA H;obtain⟨⟨t1009,t1012,t1015⟩,A13,H⟩:=H;try dsimp only at H;replace H:=bindA H;obtain⟨t1016,A14,H⟩:=H;replace H:=iteB H;rcases H with⟨rfl,H⟩|⟨rfl,H⟩
   ·have H':=A_ H
    clear H;try go_wp2;have n0_:Aside0 (Kd.R k57 57 (((w9.setCell ⟨gb1008,0,none⟩ (.slice Ao10 t1001.length co10)).setCell ⟨gb1008,1,none⟩ (.slice Ao12 t1004.length co12)).setCell ⟨gb1008,2,none⟩ (.int .i64 t1007)) w.heap.size (fun _=>True) (.slice Ao7 t996.length co7) t996):=⟨(zz23 (rt HO1000 BK1008))⟩;have n1_:Aside0 (Kd.R Kd.string 9 (((w9.setCell ⟨gb1008,0,none⟩ (.slice Ao10 t1001.length co10)).setCell ⟨gb1008,1,none⟩ (.slice Ao12 t1004.length co12)).setCell ⟨gb1008,2,none⟩ (.int .i64 t1007)) w.heap.size (fun _=>True) (.slice Ao10 t1001.length co10) t1001):=⟨(zz23 (rt HO1003 BK1008))⟩;have n2_:Aside0 (Kd.R k93 93 (((w9.setCell ⟨gb1008,0,none⟩ (.slice Ao10 t1001.length co10)).setCell ⟨gb1008,1,none⟩ (.slice Ao12 t1004.length co12)).setCell ⟨gb1008,2,none⟩ (.int .i64 t1007)) w.heap.size (fun _=>True) (.slice Ao12 t1004.length co12) t1004):=⟨(zz23 (rt HO1006 BK1008))⟩;have n3_:Aside0 ((((w9.setCell ⟨gb1008,0,none⟩ (.slice Ao10 t1001.length co10)).setCell ⟨gb1008,1,none⟩ (.slice Ao12 t1004.length co12)).setCell ⟨gb1008,2,none⟩ (.int .i64 t1007)).heap[gb1008]?=some (.cells #[.slice Ao10 t1001.length co10,.slice Ao12 t1004.length co12,.int .i64 t1007] 32 (0,0))):=⟨(zz25 BK1008)⟩;have n4_:Aside0 (Below w.heap.size w (((w9.setCell ⟨gb1008,0,none⟩ (.slice Ao10 t1001.length co10)).setCell ⟨gb1008,1,none⟩ (.slice Ao12 t1004.length co12)).setCell ⟨gb1008,2,none⟩ (.int .i64 t1007))):=⟨(zz19 HB GE1008)⟩;(try clear HO1000)
    (try clear HO1003)
    (try clear HO1006)
    (try clear BK1008)
    (try clear HB)
    generalize (((w9.setCell ⟨gb1008,0,none⟩ (.slice Ao10 t1001.length co10)).setCell ⟨gb1008,1,none⟩ (.slice Ao12 t1004.length co12)).setCell ⟨gb1008,2,none⟩ (.int .i64 t1007))=w16 at n0_ n1_ n2_ n3_ n4_ ⊢;have HO1000:=n0_;have HO1003:=n1_;have HO1006:=n2_;have BK1008:=n3_;have HB:=n4_;clear n0_ n1_ n2_ n3_ n4_;replace HO1000:=A_ (Kd.R_drew HO1000.out);replace HO1003:=A_ (Kd.R_drew HO1003.out);replace HO1006:=A_ (Kd.R_drew HO1006.out);replace BK1008:=A_ (blk_drew BK1008.out);replace HB:=A_ (below_drew1 HB.out);refine start_ (n:=13) (S:=fun w'=>w'.cell? ⟨gb1008,0,none⟩=some (.slice Ao10 t1001.length co10)∧w'.cell? ⟨gb1008,1,none⟩=some (.slice Ao12 t1004.length co12)∧w'.cell? ⟨gb1008,2,none⟩=some (.int .i64 t1007)) (ds:=[]) #[yF,yF,yF,yF,yF,yF,yF,yF,yF,yF,yF,yF,yF] (by kernel_rfl) rfl rfl ⟨(blk_cell BK1008.out 0).trans rfl,(blk_cell BK1008.out 1).trans rfl,(blk_cell BK1008.out 2).trans rfl⟩ (fun hHeld=>?_);refine with_tabW laws_FnWorldNotice.tab5 laws_FnWorldNotice.bits5 (fun HT_ HW_=>?_);generalize w16.drew=w17 at HO1000 HO1003 HO1006 BK1008 HB hHeld ⊢;refine pureZ 1 (some 23) #[yF,yT,yF,yF,yF,yF,yF,yF,yF,yF,yF,yF,yF] ?_;refine pureZ 2 (some 24) #[yF,yT,yT,yF,yF,yF,yF,yF,yF,yF,yF,yF,yF] ?_;refine pureZ 3 (some 25) #[yF,yT,yT,yT,yF,yF,yF,yF,yF,yF,yF,yF,yF] ?_;refine takeZ3 0 (some 22) (yA 4 9) hHeld ?_;refine oneZ 4 (some 26) (yA 5 8) (fun K hK=>?_);refine goes_ Tryz.func11 (by kernel_rfl) rfl #[.slice Ao7 t996.length co7,.string t997,.string t998] (by rfl) rfl rfl zz45 ?_;with_reducible refine(spec_WorldNotice.calls k _ _ t996 t997 t998 t1009 t1012 t1015 _ ?side1 ?side2 A13.out).mono ?_
    (case side1=>exact(zz46 HO1000))
    (case side2=>exact(Kd.R_reads' HO1000.out).2.1)
    rintro e w18 ⟨v1010,v1013,rfl,ho0,ho1,hb⟩;refine⟨_,rfl,?_⟩;replace HO1000:=A_ (rB (zz7 HO1000) hb);have HO1011:=A_ (Kd.R_lower (Kd.R_new' ho0 (Kd.R_lt (zz7 HO1003))) (below_size (zz19 HB GE1008)));replace HO1003:=A_ (Kd.R_elder' (zz7 HO1003) (Kd.R_base ho0) hb);have HO1014:=A_ (Kd.R_lower (Kd.R_new' ho1 (Kd.R_lt (zz7 HO1006))) (below_size (zz19 HB GE1008)));replace HO1006:=A_ (Kd.R_elder' (zz7 HO1006) (Kd.R_base ho1) hb);replace BK1008:=A_ (bB (zz18 BK1008) hb);replace HB:=A_ (bS (zz19 HB GE1008) hb);(try clear hb)
    (try clear hb2)
    (try clear hk)
    (try clear hi)
    (try clear ho0)
    (try clear ho1)
    obtain⟨Ao19,co19,eo19⟩:=Kd.R_slice HO1011.out;(first|subst eo19|(injection eo19 with f1_ f2_ f3_;have f4_:=f1_.symm;have f5_:=f3_.symm;clear f1_ f2_ f3_;subst f4_;subst f5_));obtain⟨Ao20,co20,eo20⟩:=Kd.R_slice HO1014.out;(first|subst eo20|(injection eo20 with f1_ f2_ f3_;have f4_:=f1_.symm;have f5_:=f3_.symm;clear f1_ f2_ f3_;subst f4_;subst f5_));refine hK.out _ _ ⟨(blk_cell BK1008.out 0).trans rfl,(blk_cell BK1008.out 1).trans rfl,(blk_cell BK1008.out 2).trans rfl⟩ (fun hHeld=>?_);clear hK K;refine nZ 26 ?_;refine oneZ 5 (some 27) (yA 6 7) (fun K hK=>?_);refine goes_ Tryz.func18 (by kernel_rfl) rfl #[.agg #[.slice Ao10 t1001.length co10,.slice Ao12 t1004.length co12,.int .i64 t1007],.agg #[.slice Ao19 t1009.length co19,.slice Ao20 t1012.length co20,.int .i64 t1015]] (by rfl) rfl rfl zz45 ?_;with_reducible refine(laws_lpGroup.calls k _ _ t1001 _ _ t1004 t1007 _ _ t1009 _ _ t1012 t1015 true _ ?side1 ?side2 ?side3 ?side4 ?side5 ?side6 ?side7 ?side8 A14.out).mono ?_
    (case side1=>exact(zz46 HO1003))
    (case side2=>exact(Kd.R_reads' HO1003.out).2.1)
    (case side3=>exact(zz46 HO1006))
    (case side4=>exact(Kd.R_reads' HO1006.out).2.1)
    (case side5=>exact(zz46 HO1011))
    (case side6=>exact(Kd.R_reads' HO1011.out).2.1)
    (case side7=>exact(zz46 HO1014))
    (case side8=>exact(Kd.R_reads' HO1014.out).2.1)
    rintro e w21 ⟨rfl,hb⟩;refine⟨_,rfl,?_⟩;replace HO1000:=A_ (rB (zz7 HO1000) hb);replace HO1003:=A_ (rB (zz7 HO1003) hb);replace HO1006:=A_ (rB (zz7 HO1006) hb);replace HO1011:=A_ (rB (zz7 HO1011) hb);replace HO1014:=A_ (rB (zz7 HO1014) hb);replace BK1008:=A_ (bB (zz18 BK1008) hb);replace HB:=A_ (bS (zz19 HB GE1008) hb);(try clear hb)
    (try clear hb2)
    (try clear hk)
    (try clear hi)
    refine hK.out _ _ ⟨(blk_cell BK1008.out 0).trans rfl,(blk_cell BK1008.out 1).trans rfl,(blk_cell BK1008.out 2).trans rfl⟩ (fun hHeld=>?_);clear hK K;refine nZ 27 ?_;refine pureZ 6 (some 28) (yA 7 6) ?_;refine pureZ 7 (some 29) (yA 8 5) ?_;refine pureZ 8 (some 30) (yA 9 4) ?_;refine takeZ3 9 (some 31) (yA 10 3) hHeld ?_;refine pureZ 10 (some 32) (yA 11 2) ?_;refine pureZ 11 (some 33) (yA 12 1) ?_;refine pureZ 12 (some 34) (yA 13 0) ?_;refine done_ (done_of HT_.out (by kernel_rfl)) ?_;try go_wp2
    go_meet
    case rel=>exact⟨_,(((t1001.length:Int)==0)),zz0,H',⟨zz10⟩,⟨(zz7 HO1000)⟩,⟨(zz168 HO1003)⟩,⟨(zz168 HO1006)⟩,⟨(zz18 BK1008)⟩,⟨(zz19 HB GE1008)⟩⟩
   ·have H':=A_ H
    clear H;try go_wp2;have n0_:Aside0 (Kd.R k57 57 (((w9.setCell ⟨gb1008,0,none⟩ (.slice Ao10 t1001.length co10)).setCell ⟨gb1008,1,none⟩ (.slice Ao12 t1004.length co12)).setCell ⟨gb1008,2,none⟩ (.int .i64 t1007)) w.heap.size (fun _=>True) (.slice Ao7 t996.length co7) t996):=⟨(zz23 (rt HO1000 BK1008))⟩;have n1_:Aside0 (Kd.R Kd.string 9 (((w9.setCell ⟨gb1008,0,none⟩ (.slice Ao10 t1001.length co10)).setCell ⟨gb1008,1,none⟩ (.slice Ao12 t1004.length co12)).setCell ⟨gb1008,2,none⟩ (.int .i64 t1007)) w.heap.size (fun _=>True) (.slice Ao10 t1001.length co10) t1001):=⟨(zz23 (rt HO1003 BK1008))⟩;have n2_:Aside0 (Kd.R k93 93 (((w9.setCell ⟨gb1008,0,none⟩ (.slice Ao10 t1001.length co10)).setCell ⟨gb1008,1,none⟩ (.slice Ao12 t1004.length co12)).setCell ⟨gb1008,2,none⟩ (.int .i64 t1007)) w.heap.size (fun _=>True) (.slice Ao12 t1004.length co12) t1004):=⟨(zz23 (rt HO1006 BK1008))⟩;have n3_:Aside0 ((((w9.setCell ⟨gb1008,0,none⟩ (.slice Ao10 t1001.length co10)).setCell ⟨gb1008,1,none⟩ (.slice Ao12 t1004.length co12)).setCell ⟨gb1008,2,none⟩ (.int .i64 t1007)).heap[gb1008]?=some (.cells #[.slice Ao10 t1001.length co10,.slice Ao12 t1004.length co12,.int .i64 t1007] 32 (0,0))):=⟨(zz25 BK1008)⟩;have n4_:Aside0 (Below w.heap.size w (((w9.setCell ⟨gb1008,0,none⟩ (.slice Ao10 t1001.length co10)).setCell ⟨gb1008,1,none⟩ (.slice Ao12 t1004.length co12)).setCell ⟨gb1008,2,none⟩ (.int .i64 t1007))):=⟨(zz19 HB GE1008)⟩;(try clear HO1000)
    (try clear HO1003)
    (try clear HO1006)
    (try clear BK1008)
    (try clear HB)
    generalize (((w9.setCell ⟨gb1008,0,none⟩ (.slice Ao10 t1001.length co10)).setCell ⟨gb1008,1,none⟩ (.slice Ao12 t1004.length co12)).setCell ⟨gb1008,2,none⟩ (.int .i64 t1007))=w22 at n0_ n1_ n2_ n3_ n4_ ⊢;have HO1000:=n0_;have HO1003:=n1_;have HO1006:=n2_;have BK1008:=n3_;have HB:=n4_;clear n0_ n1_ n2_ n3_ n4_;replace HO1000:=A_ (Kd.R_drew HO1000.out);replace HO1003:=A_ (Kd.R_drew HO1003.out);replace HO1006:=A_ (Kd.R_drew HO1006.out);replace BK1008:=A_ (blk_drew BK1008.out);replace HB:=A_ (below_drew1 HB.out);refine start_ (n:=13) (S:=fun w'=>w'.cell? ⟨gb1008,0,none⟩=some (.slice Ao10 t1001.length co10)∧w'.cell? ⟨gb1008,1,none⟩=some (.slice Ao12 t1004.length co12)∧w'.cell? ⟨gb1008,2,none⟩=some (.int .i64 t1007)) (ds:=[]) #[yF,yF,yF,yF,yF,yF,yF,yF,yF,yF,yF,yF,yF] (by kernel_rfl) rfl rfl ⟨(blk_cell BK1008.out 0).trans rfl,(blk_cell BK1008.out 1).trans rfl,(blk_cell BK1008.out 2).trans rfl⟩ (fun hHeld=>?_);refine with_tabW laws_FnWorldNotice.tab5 laws_FnWorldNotice.bits5 (fun HT_ HW_=>?_);generalize w22.drew=w23 at HO1000 HO1003 HO1006 BK1008 HB hHeld ⊢;refine pureZ 1 (some 23) #[yF,yT,yF,yF,yF,yF,yF,yF,yF,yF,yF,yF,yF] ?_;refine pureZ 2 (some 24) #[yF,yT,yT,yF,yF,yF,yF,yF,yF,yF,yF,yF,yF] ?_;refine pureZ 3 (some 25) #[yF,yT,yT,yT,yF,yF,yF,yF,yF,yF,yF,yF,yF] ?_;refine takeZ3 0 (some 22) (yA 4 9) hHeld ?_;refine oneZ 4 (some 26) (yA 5 8) (fun K hK=>?_);refine goes_ Tryz.func11 (by kernel_rfl) rfl #[.slice Ao7 t996.length co7,.string t997,.string t998] (by rfl) rfl rfl zz45 ?_;with_reducible refine(spec_WorldNotice.calls k _ _ t996 t997 t998 t1009 t1012 t1015 _ ?side1 ?side2 A13.out).mono ?_
    (case side1=>exact(zz46 HO1000))
    (case side2=>exact(Kd.R_reads' HO1000.out).2.1)
    rintro e w24 ⟨v1010,v1013,rfl,ho0,ho1,hb⟩;refine⟨_,rfl,?_⟩;replace HO1000:=A_ (rB (zz7 HO1000) hb);have HO1011:=A_ (Kd.R_lower (Kd.R_new' ho0 (Kd.R_lt (zz7 HO1003))) (below_size (zz19 HB GE1008)));replace HO1003:=A_ (Kd.R_elder' (zz7 HO1003) (Kd.R_base ho0) hb);have HO1014:=A_ (Kd.R_lower (Kd.R_new' ho1 (Kd.R_lt (zz7 HO1006))) (below_size (zz19 HB GE1008)));replace HO1006:=A_ (Kd.R_elder' (zz7 HO1006) (Kd.R_base ho1) hb);replace BK1008:=A_ (bB (zz18 BK1008) hb);replace HB:=A_ (bS (zz19 HB GE1008) hb);(try clear hb)
    (try clear hb2)
    (try clear hk)
    (try clear hi)
    (try clear ho0)
    (try clear ho1)
    obtain⟨Ao25,co25,eo25⟩:=Kd.R_slice HO1011.out;(first|subst eo25|(injection eo25 with f1_ f2_ f3_;have f4_:=f1_.symm;have f5_:=f3_.symm;clear f1_ f2_ f3_;subst f4_;subst f5_));obtain⟨Ao26,co26,eo26⟩:=Kd.R_slice HO1014.out;(first|subst eo26|(injection eo26 with f1_ f2_ f3_;have f4_:=f1_.symm;have f5_:=f3_.symm;clear f1_ f2_ f3_;subst f4_;subst f5_));refine hK.out _ _ ⟨(blk_cell BK1008.out 0).trans rfl,(blk_cell BK1008.out 1).trans rfl,(blk_cell BK1008.out 2).trans rfl⟩ (fun hHeld=>?_);clear hK K;refine nZ 26 ?_;refine oneZ 5 (some 27) (yA 6 7) (fun K hK=>?_);refine goes_ Tryz.func18 (by kernel_rfl) rfl #[.agg #[.slice Ao10 t1001.length co10,.slice Ao12 t1004.length co12,.int .i64 t1007],.agg #[.slice Ao25 t1009.length co25,.slice Ao26 t1012.length co26,.int .i64 t1015]] (by rfl) rfl rfl zz45 ?_;with_reducible refine(laws_lpGroup.calls k _ _ t1001 _ _ t1004 t1007 _ _ t1009 _ _ t1012 t1015 false _ ?side1 ?side2 ?side3 ?side4 ?side5 ?side6 ?side7 ?side8 A14.out).mono ?_
    (case side1=>exact(zz46 HO1003))
    (case side2=>exact(Kd.R_reads' HO1003.out).2.1)
    (case side3=>exact(zz46 HO1006))
    (case side4=>exact(Kd.R_reads' HO1006.out).2.1)
    (case side5=>exact(zz46 HO1011))
    (case side6=>exact(Kd.R_reads' HO1011.out).2.1)
    (case side7=>exact(zz46 HO1014))
    (case side8=>exact(Kd.R_reads' HO1014.out).2.1)
    rintro e w27 ⟨rfl,hb⟩;refine⟨_,rfl,?_⟩;replace HO1000:=A_ (rB (zz7 HO1000) hb);replace HO1003:=A_ (rB (zz7 HO1003) hb);replace HO1006:=A_ (rB (zz7 HO1006) hb);replace HO1011:=A_ (rB (zz7 HO1011) hb);replace HO1014:=A_ (rB (zz7 HO1014) hb);replace BK1008:=A_ (bB (zz18 BK1008) hb);replace HB:=A_ (bS (zz19 HB GE1008) hb);(try clear hb)
    (try clear hb2)
    (try clear hk)
    (try clear hi)
    refine hK.out _ _ ⟨(blk_cell BK1008.out 0).trans rfl,(blk_cell BK1008.out 1).trans rfl,(blk_cell BK1008.out 2).trans rfl⟩ (fun hHeld=>?_);clear hK K;refine nZ 27 ?_;refine pureZ 6 (some 28) (yA 7 6) ?_;refine pureZ 7 (some 29) (yA 8 5) ?_;refine pureU 8 (some 30) (yA 9 4) ?_;refine pureU 9 (some 31) (yA 10 3) ?_;refine pureU 10 (some 32) (yA 11 2) ?_;refine pureU 11 (some 33) (yA 12 1) ?_;refine pureZ 12 (some 34) (yA 13 0) ?_;refine done_ (done_of HT_.out (by kernel_rfl)) ?_;try go_wp2
    go_meet
    case rel=>exact⟨_,(true),zz0,H',⟨zz10⟩,⟨(zz7 HO1000)⟩,⟨(zz168 HO1003)⟩,⟨(zz168 HO1006)⟩,⟨(zz18 BK1008)⟩,⟨(zz19 HB GE1008)⟩⟩
  case rest=>
   clear HC5;obtain⟨kq,x34_4,rfl,HA,HJ4,HO_3,HO_1009000,HO_1009001,BK1008,HB⟩:=hcut;cases kq with
   |zero=>exact absurd HA.out (by simp[laws_FnWorldNotice.j0])
   |succ kj4=>
    obtain⟨H⟩:=HA;simp only[laws_FnWorldNotice.j0]at H;replace H:=iteB H;rcases H with⟨rfl,H⟩|⟨rfl,H⟩
    ·replace H:=bindA H
     obtain⟨⟨t1017,t1020,t1023⟩,A29,H⟩:=H;try dsimp only at H;replace H:=bindA H;obtain⟨t1024,A30,H⟩:=H;obtain rfl:=sI H;try go_wp2;replace HO_3:=A_ (Kd.R_drew HO_3.out);replace HO_1009000:=A_ (Kd.R_drew HO_1009000.out);replace HO_1009001:=A_ (Kd.R_drew HO_1009001.out);replace BK1008:=A_ (blk_drew BK1008.out);replace HB:=A_ (below_drew1 HB.out);refine start_ (n:=7) (S:=fun w'=>w'.cell? ⟨gb1008,0,none⟩=some (.slice Ao10 t1001.length co10)∧w'.cell? ⟨gb1008,1,none⟩=some (.slice Ao12 t1004.length co12)∧w'.cell? ⟨gb1008,2,none⟩=some (.int .i64 t1007)) (ds:=[]) #[yF,yF,yF,yF,yF,yF,yF] (by kernel_rfl) rfl rfl ⟨(blk_cell BK1008.out 0).trans rfl,(blk_cell BK1008.out 1).trans rfl,(blk_cell BK1008.out 2).trans rfl⟩ (fun hHeld=>?_);generalize wc.drew=w31 at HO_3 HO_1009000 HO_1009001 BK1008 HB hHeld ⊢;refine pureY 1 (some 36) #[yF,yT,yF,yF,yF,yF,yF] ?_;refine pureY 2 (some 37) #[yF,yT,yT,yF,yF,yF,yF] ?_;refine pureY 3 (some 38) #[yF,yT,yT,yT,yF,yF,yF] ?_;refine takeY3 0 (some 35) (yA 4 3) hHeld ?_;refine one_ (i:=4) (N:=some 39) (yA 5 2) rfl rfl (by kernel_rfl) (by decide) (fun K hK=>?_);refine goes_ Tryz.func11 (by kernel_rfl) rfl #[.slice Ao7 t996.length co7,.string t997,.string t998] (by rfl) rfl rfl zz45 ?_;with_reducible refine(spec_WorldNotice.calls kj4 _ _ t996 t997 t998 t1017 t1020 t1023 _ ?side1 ?side2 A29.out).mono ?_
     (case side1=>exact(zz46 HO_3))
     (case side2=>exact(Kd.R_reads' HO_3.out).2.1)
     rintro e w32 ⟨v1018,v1021,rfl,ho0,ho1,hb⟩;refine⟨_,rfl,?_⟩;replace HO_3:=A_ (rB (zz7 HO_3) hb);have HO1019:=A_ (Kd.R_lower (Kd.R_new' ho0 (Kd.R_lt (zz7 HO_1009000))) (below_size (zz19 HB GE1008)));replace HO_1009000:=A_ (Kd.R_elder' (zz7 HO_1009000) (Kd.R_base ho0) hb);have HO1022:=A_ (Kd.R_lower (Kd.R_new' ho1 (Kd.R_lt (zz7 HO_1009001))) (below_size (zz19 HB GE1008)));replace HO_1009001:=A_ (Kd.R_elder' (zz7 HO_1009001) (Kd.R_base ho1) hb);replace BK1008:=A_ (bB (zz18 BK1008) hb);replace HB:=A_ (bS (zz19 HB GE1008) hb);(try clear hb)
     (try clear hb2)
     (try clear hk)
     (try clear hi)
     (try clear ho0)
     (try clear ho1)
     obtain⟨Ao33,co33,eo33⟩:=Kd.R_slice HO1019.out;(first|subst eo33|(injection eo33 with f1_ f2_ f3_;have f4_:=f1_.symm;have f5_:=f3_.symm;clear f1_ f2_ f3_;subst f4_;subst f5_));obtain⟨Ao34,co34,eo34⟩:=Kd.R_slice HO1022.out;(first|subst eo34|(injection eo34 with f1_ f2_ f3_;have f4_:=f1_.symm;have f5_:=f3_.symm;clear f1_ f2_ f3_;subst f4_;subst f5_));refine hK.out _ _ ⟨(blk_cell BK1008.out 0).trans rfl,(blk_cell BK1008.out 1).trans rfl,(blk_cell BK1008.out 2).trans rfl⟩ (fun hHeld=>?_);clear hK K;refine nZ 39 ?_;refine one_ (i:=5) (N:=some 40) (yA 6 1) rfl rfl (by kernel_rfl) (by decide) (fun K hK=>?_);refine goes_ Tryz.func18 (by kernel_rfl) rfl #[.agg #[.slice Ao10 t1001.length co10,.slice Ao12 t1004.length co12,.int .i64 t1007],.agg #[.slice Ao33 t1017.length co33,.slice Ao34 t1020.length co34,.int .i64 t1023]] (by rfl) rfl rfl zz45 ?_;with_reducible refine(laws_lpGroup.calls kj4 _ _ t1001 _ _ t1004 t1007 _ _ t1017 _ _ t1020 t1023 t1024 _ ?side1 ?side2 ?side3 ?side4 ?side5 ?side6 ?side7 ?side8 A30.out).mono ?_
     (case side1=>exact(zz46 HO_1009000))
     (case side2=>exact(Kd.R_reads' HO_1009000.out).2.1)
     (case side3=>exact(zz46 HO_1009001))
     (case side4=>exact(Kd.R_reads' HO_1009001.out).2.1)
     (case side5=>exact(zz46 HO1019))
     (case side6=>exact(Kd.R_reads' HO1019.out).2.1)
     (case side7=>exact(zz46 HO1022))
     (case side8=>exact(Kd.R_reads' HO1022.out).2.1)
     rintro e w35 ⟨rfl,hb⟩;refine⟨_,rfl,?_⟩;replace HO_3:=A_ (rB (zz7 HO_3) hb);replace HO_1009000:=A_ (rB (zz7 HO_1009000) hb);replace HO_1009001:=A_ (rB (zz7 HO_1009001) hb);replace HO1019:=A_ (rB (zz7 HO1019) hb);replace HO1022:=A_ (rB (zz7 HO1022) hb);replace BK1008:=A_ (bB (zz18 BK1008) hb);replace HB:=A_ (bS (zz19 HB GE1008) hb);(try clear hb)
     (try clear hb2)
     (try clear hk)
     (try clear hi)
     refine hK.out _ _ ⟨(blk_cell BK1008.out 0).trans rfl,(blk_cell BK1008.out 1).trans rfl,(blk_cell BK1008.out 2).trans rfl⟩ (fun hHeld=>?_);clear hK K;refine nZ 40 ?_;refine pureY 6 (some 2) (yA 7 0) ?_;refine done_ (by kernel_rfl) ?_;try go_wp2;go_ret;exact⟨zz9,(zz19 HB GE1008)⟩
    ·replace H:=iteE H
     rcases H with⟨c36,H⟩|⟨c36,H⟩
     ·have c36b0:=eq_true c36
      have c36b1:=dT c36;try have c36b2:(9223372036854775807<2+t997.size)=False:=eq_false (nL_.2 c36);replace H:=iteN H;obtain⟨c37,H⟩:=H;have c37b0:=eq_true c37;have c37b1:=dT c37;try have c37b2:(9223372036854775807<2+t997.size+7)=False:=eq_false (nL_.2 c37);replace H:=bindA H;obtain⟨⟨t1025,t1026⟩,A38,H⟩:=H;try dsimp only at H;have HF39:=A_ H;clear H;go_upto_if 50 with(first|(refine gR 19 (some 46) Tryz.func19 (impl_WorldGet.calls kj4 _ _ t996 (((⟨#[47,47]⟩:BA)++t997)++(⟨#[47,110,111,116,105,99,101]⟩:BA)) 2 t1025 t1026 _ ?side1 ?side2 A38.out) ?_;(case side1=>exact(zz46 HO_3));(case side2=>exact(Kd.R_reads' HO_3.out).2.1);rintro w40 hb;replace HO_3:=A_ (rB (zz7 HO_3) hb);replace HO_1009000:=A_ (rB (zz7 HO_1009000) hb);replace HO_1009001:=A_ (rB (zz7 HO_1009001) hb);replace BK1008:=A_ (bB (zz18 BK1008) hb);replace HB:=A_ (bS (zz19 HB GE1008) hb);(try clear hb)))
      obtain⟨H⟩:=HF39;replace H:=iteEq H;rcases H with⟨c41b0,c41b1,H⟩|⟨c41b0,c41b1,c41,H⟩
      ·(first|rw[c41b0]|(simp only[i64_w,i32_w];rw[c41b0])|skip)
       replace H:=bindA H;obtain⟨t1027,A42,H⟩:=H;replace H:=bindA H;obtain⟨⟨t1030,t1033,t1036⟩,A43,H⟩:=H;try dsimp only at H;replace H:=bindA H;obtain⟨t1037,A44,H⟩:=H;obtain rfl:=sI H;try go_wp2;replace HO_3:=A_ (Kd.R_drew HO_3.out);replace HO_1009000:=A_ (Kd.R_drew HO_1009000.out);replace HO_1009001:=A_ (Kd.R_drew HO_1009001.out);replace BK1008:=A_ (blk_drew BK1008.out);replace HB:=A_ (below_drew1 HB.out);refine start_ (n:=7) (S:=fun w'=>w'.cell? ⟨gb1008,0,none⟩=some (.slice Ao10 t1001.length co10)∧w'.cell? ⟨gb1008,1,none⟩=some (.slice Ao12 t1004.length co12)∧w'.cell? ⟨gb1008,2,none⟩=some (.int .i64 t1007)) (ds:=[]) #[yF,yF,yF,yF,yF,yF,yF] (by kernel_rfl) rfl rfl ⟨(blk_cell BK1008.out 0).trans rfl,(blk_cell BK1008.out 1).trans rfl,(blk_cell BK1008.out 2).trans rfl⟩ (fun hHeld=>?_);generalize w40.drew=w45 at HO_3 HO_1009000 HO_1009001 BK1008 HB hHeld ⊢;refine pureY 1 (some 53) #[yF,yT,yF,yF,yF,yF,yF] ?_;refine pureY 3 (some 55) #[yF,yT,yF,yT,yF,yF,yF] ?_;refine takeY3 0 (some 52) #[yT,yT,yF,yT,yF,yF,yF] hHeld ?_;refine one_ (i:=2) (N:=some 54) (yA 4 3) rfl rfl (by kernel_rfl) (by decide) (fun K hK=>?_);refine goes_ Tryz.func21 (by kernel_rfl) rfl #[.string t1026] (by rfl) rfl rfl zz45 ?_;with_reducible refine(impl_NoticeRead.calls kj4 t1026 t1027 _ A42.out).mono ?_;rintro e w46 ⟨v1028,rfl,ho0,hb⟩;refine⟨_,rfl,?_⟩;replace HO_3:=A_ (rB (zz7 HO_3) hb);have HO1029:=A_ (Kd.S_lower (Kd.S_newB (Kd.S_new' (Kd.S_new' ho0 (Kd.R_lt (zz7 HO_1009000))) (Kd.R_lt (zz7 HO_1009001))) (zz18 BK1008)) (below_size (zz19 HB GE1008)));replace HO_1009000:=A_ (rB (zz7 HO_1009000) hb);replace HO_1009001:=A_ (rB (zz7 HO_1009001) hb);replace BK1008:=A_ (bB (zz18 BK1008) hb);replace HB:=A_ (bS (zz19 HB GE1008) hb);(try clear hb)
       (try clear hb2)
       (try clear hk)
       (try clear hi)
       (try clear ho0)
       obtain⟨Ao47,co47,eo47⟩:=Kd.S_slice HO1029.out;(first|subst eo47|(injection eo47 with f1_ f2_ f3_;have f4_:=f1_.symm;have f5_:=f3_.symm;clear f1_ f2_ f3_;subst f4_;subst f5_));refine hK.out _ _ ⟨(blk_cell BK1008.out 0).trans rfl,(blk_cell BK1008.out 1).trans rfl,(blk_cell BK1008.out 2).trans rfl⟩ (fun hHeld=>?_);clear hK K;refine nZ 54 ?_;refine one_ (i:=4) (N:=some 56) (yA 5 2) rfl rfl (by kernel_rfl) (by decide) (fun K hK=>?_);refine goes_ Tryz.func20 (by kernel_rfl) rfl #[.slice Ao47 t1027.length co47,.string t998] (by rfl) rfl rfl zz45 ?_;with_reducible refine(impl_NoticeFor.calls kj4 _ _ t1027 t998 t1030 t1033 t1036 _ ?side1 ?side2 A43.out).mono ?_
       (case side1=>exact(zz137 HO1029))
       (case side2=>exact(Kd.S_reads' HO1029.out).2.1)
       rintro e w48 ⟨v1031,v1034,rfl,ho0,ho1,hb⟩;refine⟨_,rfl,?_⟩;replace HO_3:=A_ (rB (zz7 HO_3) hb);replace HO1029:=A_ (Kd.S_mono (Kd.S_told (Kd.S_told (Kd.S_old (zz48 HO1029) hb) (Kd.R_base ho0)) (Kd.R_base ho1)) (fun _ h_=>h_.1));have HO1032:=A_ (Kd.R_lower (Kd.R_new' ho0 (Kd.R_lt (zz7 HO_1009000))) (below_size (zz19 HB GE1008)));replace HO_1009000:=A_ (Kd.R_elder' (zz7 HO_1009000) (Kd.R_base ho0) hb);have HO1035:=A_ (Kd.R_lower (Kd.R_new' ho1 (Kd.R_lt (zz7 HO_1009001))) (below_size (zz19 HB GE1008)));replace HO_1009001:=A_ (Kd.R_elder' (zz7 HO_1009001) (Kd.R_base ho1) hb);replace BK1008:=A_ (bB (zz18 BK1008) hb);replace HB:=A_ (bS (zz19 HB GE1008) hb);(try clear hb)
       (try clear hb2)
       (try clear hk)
       (try clear hi)
       (try clear ho0)
       (try clear ho1)
       obtain⟨Ao49,co49,eo49⟩:=Kd.R_slice HO1032.out;(first|subst eo49|(injection eo49 with f1_ f2_ f3_;have f4_:=f1_.symm;have f5_:=f3_.symm;clear f1_ f2_ f3_;subst f4_;subst f5_));obtain⟨Ao50,co50,eo50⟩:=Kd.R_slice HO1035.out;(first|subst eo50|(injection eo50 with f1_ f2_ f3_;have f4_:=f1_.symm;have f5_:=f3_.symm;clear f1_ f2_ f3_;subst f4_;subst f5_));refine hK.out _ _ ⟨(blk_cell BK1008.out 0).trans rfl,(blk_cell BK1008.out 1).trans rfl,(blk_cell BK1008.out 2).trans rfl⟩ (fun hHeld=>?_);clear hK K;refine nZ 56 ?_;refine one_ (i:=5) (N:=some 57) (yA 6 1) rfl rfl (by kernel_rfl) (by decide) (fun K hK=>?_);refine goes_ Tryz.func18 (by kernel_rfl) rfl #[.agg #[.slice Ao10 t1001.length co10,.slice Ao12 t1004.length co12,.int .i64 t1007],.agg #[.slice Ao49 t1030.length co49,.slice Ao50 t1033.length co50,.int .i64 t1036]] (by rfl) rfl rfl zz45 ?_;with_reducible refine(laws_lpGroup.calls kj4 _ _ t1001 _ _ t1004 t1007 _ _ t1030 _ _ t1033 t1036 t1037 _ ?side1 ?side2 ?side3 ?side4 ?side5 ?side6 ?side7 ?side8 A44.out).mono ?_
       (case side1=>exact(zz46 HO_1009000))
       (case side2=>exact(Kd.R_reads' HO_1009000.out).2.1)
       (case side3=>exact(zz46 HO_1009001))
       (case side4=>exact(Kd.R_reads' HO_1009001.out).2.1)
       (case side5=>exact(zz46 HO1032))
       (case side6=>exact(Kd.R_reads' HO1032.out).2.1)
       (case side7=>exact(zz46 HO1035))
       (case side8=>exact(Kd.R_reads' HO1035.out).2.1)
       rintro e w51 ⟨rfl,hb⟩;refine⟨_,rfl,?_⟩;replace HO_3:=A_ (rB (zz7 HO_3) hb);replace HO_1009000:=A_ (rB (zz7 HO_1009000) hb);replace HO_1009001:=A_ (rB (zz7 HO_1009001) hb);replace HO1029:=A_ (Kd.S_below (zz48 HO1029) hb);replace HO1032:=A_ (rB (zz7 HO1032) hb);replace HO1035:=A_ (rB (zz7 HO1035) hb);replace BK1008:=A_ (bB (zz18 BK1008) hb);replace HB:=A_ (bS (zz19 HB GE1008) hb);(try clear hb)
       (try clear hb2)
       (try clear hk)
       (try clear hi)
       refine hK.out _ _ ⟨(blk_cell BK1008.out 0).trans rfl,(blk_cell BK1008.out 1).trans rfl,(blk_cell BK1008.out 2).trans rfl⟩ (fun hHeld=>?_);clear hK K;refine nZ 57 ?_;refine pureY 6 (some 2) (yA 7 0) ?_;refine done_ (by kernel_rfl) ?_;try go_wp2;go_ret;exact⟨zz9,(zz19 HB GE1008)⟩
      ·(first|rw[c41b0]|(simp only[i64_w,i32_w];rw[c41b0])|skip)
       replace H:=iteEq H;rcases H with⟨c52b0,c52b1,H⟩|⟨c52b0,c52b1,c52,H⟩
       ·replace H:=bindA H
        obtain⟨t1038,A53,H⟩:=H;have HF54:=A_ H;clear H;obtain⟨_,_,_,_,_,_⟩:=cf3 BK1008;go_wp2_with (first|(refine gR 22 (some 62) Tryz.func22 (impl_RuleLets.calls kj4 _ _ t1004 (⟨#[47]⟩:BA) t1038 _ ?side1 ?side2 A53.out) ?_;(case side1=>exact(zz46 HO_1009001));(case side2=>exact(Kd.R_reads' HO_1009001.out).2.1);rintro w56 hb;replace HO_3:=A_ (rB (zz7 HO_3) hb);replace HO_1009000:=A_ (rB (zz7 HO_1009000) hb);replace HO_1009001:=A_ (rB (zz7 HO_1009001) hb);replace BK1008:=A_ (bB (zz18 BK1008) hb);replace HB:=A_ (bS (zz19 HB GE1008) hb);(try clear hb))|((with_reducible refine atG ?_ ?_ fun K_ hK_=>?_);rfl;exact undecG)|((with_reducible refine atI ?_ fun K_ hK_=>?_);exact undecI));refine unG hK_ ?_;clear hK_ K_;obtain⟨H⟩:=HF54;replace H:=iteB H;rcases H with⟨rfl,H⟩|⟨rfl,H⟩
        ·(first|refine iteT ?_|refine iteF ?_|skip)
         obtain rfl:=sI H;(try((with_reducible refine upS ?_);go_simp));go_wp2;go_ret;exact⟨zz9,(zz19 HB GE1008)⟩
        ·(first|refine iteT ?_|refine iteF ?_|skip)
         replace H:=bindA H;obtain⟨t1039,A58,H⟩:=H;obtain rfl:=sI H;obtain⟨_,_,_,_,_,_⟩:=cf3 BK1008;(try((with_reducible refine upS ?_);go_simp))
         go_wp2_with (first|(go_at_call 22;(with_reducible refine(impl_RuleLets.calls kj4 _ _ t1004 (⟨#[47,97,47,98]⟩:BA) t1039 _ ?side1 ?side2 A58.out).mono ?_);(case side1=>exact(zz46 HO_1009001));(case side2=>exact(Kd.R_reads' HO_1009001.out).2.1);rintro e w60 ⟨rfl,hb⟩;replace HO_3:=A_ (rB (zz7 HO_3) hb);replace HO_1009000:=A_ (rB (zz7 HO_1009000) hb);replace HO_1009001:=A_ (rB (zz7 HO_1009001) hb);replace BK1008:=A_ (bB (zz18 BK1008) hb);replace HB:=A_ (bS (zz19 HB GE1008) hb);(try clear hb)))
         go_ret;exact⟨zz9,(zz19 HB GE1008)⟩
       ·replace H:=iteEq H
        rcases H with⟨c61b0,c61b1,H⟩|⟨c61b0,c61b1,c61,H⟩
        ·obtain rfl:=sI H
         obtain⟨_,_,_,_,_,_⟩:=cf3 BK1008;go_wp2;go_ret;exact⟨zz9,(zz19 HB GE1008)⟩
        ·have c61b2:¬(t1004=[]):=fun h_=>c61 (by rw[h_];rfl)
         obtain rfl:=sI H;obtain⟨_,_,_,_,_,_⟩:=cf3 BK1008;go_wp2;go_ret;exact⟨zz9,(zz19 HB GE1008)⟩
     ·exact absurd H (by simp)
def laws_FnWorldNotice.Pure:Prop:=∀(l0:List Int),l0.length≤maxLen→l0.length*1≤140737488351232→(∀x∈l0,(Lit.int .u8 x).wf=true)→∃k,laws_FnWorldNotice.f k l0=some true
theorem laws_FnWorldNotice.walk (P:laws_FnWorldNotice.Pure)(a0:Option Addr)(len0 cap0:Nat)(z0:List Int)(w:World)(w0:(a0=none∧len0=0∧cap0=0∧z0=[])∨∃x,a0=some x∧len0≤cap0∧cap0≤maxLen∧z0.length=cap0∧(∀i,i<z0.length→w.cell? (x.add i)=some (.int .u8 (z0.getD i 0)))∧∀n∈z0,(Lit.int .u8 n).wf=true)(y0:len0*1≤140737488351232):
  Calls Tryz.prog 5 #[.slice a0 len0 cap0] w fun e w'=>e=.returned (.bool true)∧Below w.heap.size w w':=by
 obtain⟨l0,rfl,hr0,hm0,hw0,hc0⟩:=ReadsInt.ofRowC w0;obtain⟨k,h⟩:=P l0 hm0 y0 hw0;refine(laws_FnWorldNotice.calls k _ _ l0 true w (Kd.C_of_reads (d:=(0:Int)) (h1:=fun _=>rfl) hr0) hc0 h).mono ?_;rintro e w' ⟨rfl,hd⟩;exact⟨rfl,hd⟩
end Go.Proofs.YtloijngehifbmaaGreatDoor.P
end
section
namespace Go.Proofs.YtloijngehifbmaaGreatDoor.Ad
open Go.RowKit Go.Proofs.YtloijngehifbmaaGreatDoor.P Go.Proofs.YtloijngehifbmaaGreatDoorW PrintWords PrintLast PrintMore Go.Proofs.YtloijngehifbmaaGreatDoor.B
theorem plain_all:∀n:Nat,n<256→spec_l1Plain.f (n:Int)=some (plainB (UInt8.ofNat n)):=by decide +kernel
theorem of_toNat (c:UInt8):UInt8.ofNat c.toNat=c:=UInt8.ofNat_toNat
theorem nums_one (n:Nat)(h:n<256):strOfNums [(n:Int)%256]=ofL [UInt8.ofNat n]:=by
 unfold strOfNums ofL;simp only[List.map_cons,List.map_nil,ByteArray.mk.injEq]
 congr 2
 rw[show((n:Int)%256)=(n:Int)from by omega];simp
theorem drop_at {l:List UInt8}{i:Nat}(h:i<l.length):l.drop i=l[i]::l.drop (i+1):=dE_ h
theorem bt_get (s:BA)(i:Nat)(h:i<(L s).length):bt s i=(((L s)[i]).toNat:Int):=by
 rw[bt_L,gD_,gE_ h];rfl
theorem app_nil (a:BA):a++ofL []=a:=by apply L_inj;rw[L_app,L_of,List.append_nil]
theorem bt_at {s:BA}{i:Nat}{c:UInt8}{l:List UInt8}(h:(L s).drop i=c::l):i<s.size∧bt s i=(c.toNat:Int)∧(L s).drop (i+1)=l:=by
 have hl:i<(L s).length:=by
  rcases Nat.lt_or_ge i (L s).length with h'|h'
  ·exact h'
  ·rw[List.drop_eq_nil_of_le h']at h;cases h
 have hd:(L s).drop i=(L s)[i]::(L s).drop (i+1):=dE_ hl;rw[h]at hd;injection hd with h1 h2;refine⟨by rw[←L_size];exact hl,?_,h2.symm⟩;rw[bt_L,gD_,gE_ hl,←h1];rfl
theorem bt_end {s:BA}{i:Nat}(h:(L s).drop i=[]):s.size≤i:=by
 rw[←L_size];exact List.drop_eq_nil_iff.1 h
theorem u8_eq {a b:UInt8}:((a.toNat:Int)=(b.toNat:Int))↔a=b:=by
 constructor
 ·intro h;exact UInt8.toNat_inj.1 (by omega)
 ·intro h;rw[h]
theorem rd_at {l:List BA}{i:Nat}(h:i<l.length):rdOf bE_ l (i:Int)=l[i]:=by
 unfold rdOf;rw[gD_,tN_,gE_ h];rfl
def cutL (c:UInt8):List UInt8→List UInt8×List UInt8×Bool
 | []=>([],[],false)
 |x::xs=>if x=c then([],xs,true)else(x::(cutL c xs).1,(cutL c xs).2)
theorem cutL_false {c:UInt8}:∀ {l:List UInt8},(cutL c l).2.2=false→(cutL c l).1=l∧(cutL c l).2.1=[]
 | [],_=>by simp[cutL]
 |x::xs,h=>by
  unfold cutL at h ⊢
  by_cases e:x=c
  ·rw[if_pos e]at h;cases h
  ·rw[if_neg e]at h ⊢
   have:=cutL_false (l:=xs) h;exact⟨by rw[this.1],this.2⟩
theorem cutL_true {c:UInt8}:∀ {l:List UInt8},(cutL c l).2.2=true→l=(cutL c l).1++c::(cutL c l).2.1
 | [],h=>by simp[cutL]at h
 |x::xs,h=>by
  unfold cutL at h ⊢
  by_cases e:x=c
  ·rw[if_pos e,e];rfl
  ·rw[if_neg e]at h ⊢
   have:=cutL_true (l:=xs) h
   show x::xs=x::((cutL c xs).1++c::(cutL c xs).2.1)
   rw[←this]
theorem cutL_len {c:UInt8}:∀(l:List UInt8),(cutL c l).1.length+(cutL c l).2.1.length≤l.length∧((cutL c l).2.2=true→(cutL c l).1.length+(cutL c l).2.1.length+1=l.length)
 | []=>by simp[cutL]
 |x::xs=>by
  unfold cutL
  by_cases e:x=c
  ·rw[if_pos e];simp
  ·rw[if_neg e]
   have:=cutL_len (c:=c) xs;simp only[List.length_cons];exact⟨by omega,fun h=>by have:=this.2 h;omega⟩
def cutB (c:UInt8)(s:BA):BA×BA×Bool:=(ofL (cutL c (L s)).1,ofL (cutL c (L s)).2.1,(cutL c (L s)).2.2)
theorem cut_l (s:BA)(c:UInt8)(hs:s.size≤140737488351232):∀(l:List UInt8)(i:Nat),(L s).drop i=l →
  Ev (fun k=>spec_l1Cut.l0 k s (c.toNat:Int) (i:Int)) (ofL ((L s).take i++(cutL c l).1),ofL (cutL c l).2.1,(cutL c l).2.2)
 | [],i,h=>by
  have:=bt_end h;have n1:¬((i:Int)<(s.size:Int)):=by omega
  refine Ev_succ ?_;simp only[spec_l1Cut.l0,n1,if_false];have e:(L s).take i=L s:=List.take_of_length_le (by rw[L_size];omega);simp only[cutL,e,List.append_nil,of_L];exact Ev.now _
 |x::xs,i,h=>by
  obtain⟨hi,hb,hd⟩:=bt_at h;refine Ev_succ ?_;have e1:wrap64 ((i:Int)+1)=((i+1:Nat):Int):=by rw[w64 (by omega) (by omega)];rfl
  have f1:(i:Int)<(s.size:Int):=by omega
  have f2:(0:Int)≤(i:Int):=by omega
  have f3:(i:Int)≤(s.size:Int):=by omega
  have f4:(0:Int)≤((i+1:Nat):Int):=by omega
  have f5:((i+1:Nat):Int)≤(s.size:Int):=by omega
  simp only[spec_l1Cut.l0,e1,f1,f2,f3,f4,f5,if_true,hb,u8_eq];unfold cutL
  by_cases e:x=c
  ·simp only[e,if_true]
   have a1:s.extract 0 ((i:Int)).toNat=ofL ((L s).take i++[]):=by
    apply L_inj;rw[L_ext,L_of];simp
   have a2:s.extract ((((i+1:Nat):Int))).toNat s.size=ofL xs:=by
    apply L_inj;rw[L_ext,L_of,tN_,hd,List.take_of_length_le];rw[←hd,List.length_drop,L_size];omega
   rw[a1,a2];exact Ev.now _
  ·simp only[e,if_false]
   have:=cut_l s c hs xs (i+1) hd;have ht:(L s).take (i+1)++(cutL c xs).1=(L s).take i++(x::(cutL c xs).1):=by
    have hl:i<(L s).length:=by rw[L_size];exact hi
    have:(L s)[i]=x:=by
     have hd2:(L s).drop i=(L s)[i]::(L s).drop (i+1):=dE_ hl;rw[h]at hd2;injection hd2 with h1 h2;exact h1.symm
    rw[List.take_succ_eq_append_getElem hl,this];simp
   rw[ht]at this;exact this
theorem cut_ev (s:BA)(c:UInt8)(hs:s.size≤140737488351232):Ev (fun k=>spec_l1Cut.f k s (c.toNat:Int)) (cutB c s):=by
 have:=cut_l s c hs (L s) 0 rfl;simp only[List.take_zero,List.nil_append]at this;exact this
def splitN (c:UInt8):Nat→List UInt8→List (List UInt8)
 |0,l=>[l]
 |n+1,l=>(cutL c l).1::(if(cutL c l).2.2=true then splitN c n (cutL c l).2.1 else[])
def splitL (c:UInt8)(l:List UInt8):List (List UInt8):=splitN c (l.length+1) l
theorem splitN_eq (c:UInt8):∀(n m:Nat)(l:List UInt8),l.length<n→l.length<m→splitN c n l=splitN c m l
 |0,_,l,h,_=>absurd h (by omega)
 |_+1,0,l,_,h=>absurd h (by omega)
 |n+1,m+1,l,h1,h2=>by
  simp only[splitN]
  by_cases e:(cutL c l).2.2=true
  ·have:=(cutL_len (c:=c) l).2 e
   rw[if_pos e,if_pos e,splitN_eq c n m _ (by omega) (by omega)]
  ·rw[if_neg e,if_neg e]
theorem splitL_eq (c:UInt8)(l:List UInt8):splitL c l=(cutL c l).1::(if(cutL c l).2.2=true then splitL c (cutL c l).2.1 else[]):=by
 unfold splitL;rw[splitN]
 by_cases e:(cutL c l).2.2=true
 ·have:=(cutL_len (c:=c) l).2 e
  rw[if_pos e,if_pos e,splitN_eq c _ ((cutL c l).2.1.length+1) _ (by omega) (by omega)]
 ·rw[if_neg e,if_neg e]
theorem splitN_len (c:UInt8):∀(n:Nat)(l:List UInt8),(splitN c n l).length≤l.length+1
 |0,l=>by simp[splitN]
 |n+1,l=>by
  simp only[splitN]
  by_cases e:(cutL c l).2.2=true
  ·have:=(cutL_len (c:=c) l).2 e
   have ih:=splitN_len c n (cutL c l).2.1;rw[if_pos e];simp only[List.length_cons];omega
  ·rw[if_neg e];simp
theorem splitL_len (c:UInt8)(l:List UInt8):(splitL c l).length≤l.length+1:=splitN_len c _ l
theorem splitN_mem (c:UInt8):∀(n:Nat)(l p:List UInt8),p∈splitN c n l→p.length≤l.length
 |0,l,p,h=>by simp[splitN]at h;rw[h];exact lL_ _
 |n+1,l,p,h=>by
  simp only[splitN,List.mem_cons]at h;have hc:=(cutL_len (c:=c) l).1;rcases h with h|h
  ·rw[h];omega
  ·by_cases e:(cutL c l).2.2=true
   ·rw[if_pos e]at h
    have:=splitN_mem c n _ p h;omega
   ·rw[if_neg e]at h;cases h
theorem splitL_mem (c:UInt8)(l p:List UInt8)(h:p∈splitL c l):p.length≤l.length:=splitN_mem c _ l p h
theorem split_l (c:UInt8)(n:Nat):∀(s:BA)(acc:List BA),s.size<n→s.size≤1000000000→acc.length+s.size≤2000000000 →
  Ev (fun k=>spec_l1Split.l0 k (c.toNat:Int) acc s true) (acc++(splitL c (L s)).map ofL):=by
 induction n with
 |zero=>intro s acc h;exact absurd h (by omega)
 |succ n ih=>
  intro s acc h h1 h2;refine Ev_succ ?_;simp only[spec_l1Split.l0,if_true];refine Ev.bind (cut_ev s c (by omega)) ?_;have g1:acc.length<8796093022208:=by omega
  simp only[g1,if_true];rw[splitL_eq];have hl:=cutL_len (c:=c) (L s);rw[L_size]at hl
  by_cases e:(cutL c (L s)).2.2=true
  ·have e':(cutB c s).2.2=true:=e
   have hz:(ofL (cutL c (L s)).2.1).size=(cutL c (L s)).2.1.length:=ofL_size _;have:=hl.2 e;have ih':=ih (ofL (cutL c (L s)).2.1) (acc++[ofL (cutL c (L s)).1]) (by omega) (by omega) (by simp only[lA_,List.length_singleton];omega);rw[if_pos e];simp only[cutB,e];rw[L_of]at ih'
   simpa using ih'
  ·have e':(cutL c (L s)).2.2=false:=by simpa using e
   rw[if_neg e];simp only[cutB,e'];refine Ev_succ ?_;simp only[spec_l1Split.l0];simp;exact Ev.now _
theorem split_ev (s:BA)(c:UInt8)(hs:s.size≤1000000000):Ev (fun k=>spec_l1Split.f k s (c.toNat:Int)) ((splitL c (L s)).map ofL):=by
 have:=split_l c (s.size+1) s [] (by omega) hs (by simp;omega);rw[List.nil_append]at this;exact this
def isName (s:BA):Bool:=decide (1≤s.size)&&decide (s.size≤8)&&isSmall s
theorem spec_name_l (s:BA)(hs:s.size≤140737488351232)(d:Nat):∀(k:Nat)(i:Nat),i+d=s.size→d<k →
  spec_l2Name.l0 k s (i:Int)=some (smallFrom s d i&&(decide (1≤s.size)&&decide (s.size≤8))):=by
 induction d with
 |zero=>
  intro k i h hk;obtain⟨k,rfl⟩:∃m,k=m+1:=⟨k-1,by omega⟩;simp only[spec_l2Name.l0,smallFrom,spec_l6In.f];rw[if_neg (by omega)]
  by_cases h1:1≤s.size
  ·rw[if_pos (by omega)];simp[h1];omega
  ·rw[if_neg (by omega)];simp[h1]
 |succ d ih=>
  intro k i h hk;obtain⟨k,rfl⟩:∃m,k=m+1:=⟨k-1,by omega⟩;simp only[spec_l2Name.l0,smallFrom];rw[if_pos (by omega),if_pos (by omega)]
  by_cases h1:bt s i<97
  ·rw[if_pos h1,if_pos h1];rfl
  ·rw[if_neg h1,if_neg h1]
   by_cases h2:bt s i>122
   ·rw[if_pos h2,if_pos h2];rfl
   ·rw[if_neg h2,if_neg h2,w64 (by omega) (by omega)]
    exact ih k (i+1) (by omega) (by omega)
theorem name_ev (s:BA)(hs:s.size≤140737488351232):Ev (fun k=>spec_l2Name.f k s) (isName s):=by
 refine Ev.of (fun k=>spec_l2Name.mono _ k) (k:=s.size+1) ?_;unfold spec_l2Name.f;have:=spec_name_l s hs s.size (s.size+1) 0 (by omega) (by omega);rw[show((0:Nat):Int)=0 from rfl]at this;rw[this];unfold isName isSmall;cases smallFrom s s.size 0 <;> simp
def patB (c:UInt8):Bool:=plainB c||c==47||c==42||c==63||c==37||(decide (65≤c.toNat)&&decide (c.toNat≤70))
def okL:List UInt8→Bool
 | []=>true
 |c::r=>(patB c||(c==36&&r.isEmpty))&&okL r
def ruleOk (p:BA):Bool:=decide (1≤p.size)&&decide (p.size≤16)&&(bt p 0==47)&&okL (L p)
theorem plain_f (c:UInt8):spec_l1Plain.f (c.toNat:Int)=some (plainB c):=by
 have:=plain_all c.toNat c.toNat_lt
 rwa [of_toNat]at this
theorem ok_spec_l (s:BA)(hs:s.size≤1000000):∀(l:List UInt8)(i:Nat),(L s).drop i=l→Ev (fun k=>spec_RuleOk.l0 k s (i:Int)) (okL l)
 | [],i,h=>by
  have:=bt_end h;have n1:¬((i:Int)<(s.size:Int)):=by omega
  refine Ev_succ ?_;simp only[spec_RuleOk.l0,n1,if_false];exact Ev.now _
 |x::xs,i,h=>by
  obtain⟨hi,hb,hd⟩:=bt_at h;have e1:wrap64 ((i:Int)+1)=((i+1:Nat):Int):=by rw[w64 (by omega) (by omega)];rfl
  have e2:wrap64 ((s.size:Int)-1)=(s.size:Int)-1:=w64 (by omega) (by omega);have f1:(i:Int)<(s.size:Int):=by omega
  have f2:(0:Int)≤(i:Int):=by omega
  have hx:xs.length+(i+1)=s.size:=by rw[←L_size,←hd,List.length_drop];rw[L_size];omega
  have hE:xs.isEmpty=decide ((i:Int)=(s.size:Int)-1):=by
   cases xs with
   |nil=>simp at hx ⊢;omega
   |cons y ys=>simp at hx ⊢;omega
  have ih:=ok_spec_l s hs xs (i+1) hd;have c1:((x.toNat:Int)=47)↔(x==47)=true:=by rw[beq_iff_eq];exact u8_eq (b:=47)
  have c2:((x.toNat:Int)=42)↔(x==42)=true:=by rw[beq_iff_eq];exact u8_eq (b:=42)
  have c3:((x.toNat:Int)=63)↔(x==63)=true:=by rw[beq_iff_eq];exact u8_eq (b:=63)
  have c4:((x.toNat:Int)=37)↔(x==37)=true:=by rw[beq_iff_eq];exact u8_eq (b:=37)
  have c5:((x.toNat:Int)=36)↔(x==36)=true:=by rw[beq_iff_eq];exact u8_eq (b:=36)
  have c6:((x.toNat:Int)≥65)↔(decide (65≤x.toNat))=true:=by rw[decide_eq_true_eq];omega
  have c7:((x.toNat:Int)≤70)↔(decide (x.toNat≤70))=true:=by rw[decide_eq_true_eq];omega
  have c8:((i:Int)=(s.size:Int)-1)↔xs.isEmpty=true:=by rw[hE,decide_eq_true_eq]
  refine Ev_succ ?_;simp only[spec_RuleOk.l0,e1,e2,f1,f2,if_true,hb,plain_f,oB_,okL,patB,c1,c2,c3,c4,c5,c6,c7,c8];have yes:Ev (fun k=>spec_RuleOk.l0 k s ((i+1:Nat):Int)) (true&&okL xs):=by rw[tA_];exact ih
  have no:Ev (fun k=>some false) (false&&okL xs):=by rw[fA_];exact Ev.now _
  cases plainB x
  ·cases (x==47)
   ·cases (x==42)
    ·cases (x==63)
     ·cases (x==37)
      ·cases (x==36) <;> cases xs.isEmpty <;> cases decide (65≤x.toNat) <;> cases decide (x.toNat≤70) <;> first|exact yes|exact no
      ·exact yes
     ·exact yes
    ·exact yes
   ·exact yes
  ·exact yes
theorem ruleOk_spec (p:BA):Ev (fun k=>spec_RuleOk.f k p) (ruleOk p):=by
 unfold spec_RuleOk.f ruleOk
 by_cases h2:p.size≤16
 ·have n2:¬(p.size:Int)>16:=by omega
  by_cases h1:p.size=0
  ·have z:=toList_nil.2 h1
   have n1:¬1≤p.size:=by omega
   simp only[n2,if_false,z,if_true,n1,decide_false,fA_];refine Ev_succ ?_;simp only[spec_RuleOk.j0,if_true];exact Ev.now _
  ·have z:¬p.toList=[]:=fun e=>h1 (toList_nil.1 e)
   have n1:1≤p.size:=by omega
   have n3:(0:Int)<(p.size:Int):=by omega
   simp only[n2,n1,n3,z,h2,if_true,if_false,decide_true,tA_];refine Ev_succ ?_
   by_cases h3:bt p 0=47
   ·simp only[spec_RuleOk.j0,h3,bne_self_eq_false,bF_,if_false,beq_self_eq_true,tA_]
    have:=ok_spec_l p (by omega) _ 0 rfl;rw[List.drop_zero]at this;exact this
   ·have h4:(bt p 0 != 47)=true:=by simpa using h3
    have h5:(bt p 0==47)=false:=by simpa using h3
    simp only[spec_RuleOk.j0,h4,h5,if_true,fA_];exact Ev.now _
 ·have n2:(p.size:Int)>16:=by omega
  simp only[n2,h2,if_true,decide_false,Bool.and_false,fA_];refine Ev_succ ?_;simp only[spec_RuleOk.j0,if_true];exact Ev.now _
def endsD (p:BA):Bool:=(L p).getLast? == some 36
def bodyD (p:BA):BA:=if endsD p=true then p.extract 0 (p.size-1)else p
theorem L_last {p:BA}(h:1≤p.size):∃l c,L p=l++[c]∧l.length+1=p.size:=by
 have hl:=L_size p;have hn:L p≠[]:=fun e=>by rw[e]at hl;simp at hl;omega
 refine⟨(L p).dropLast,(L p).getLast hn,(List.dropLast_concat_getLast hn).symm,?_⟩;rw[List.length_dropLast];omega
theorem sz36:(⟨#[36]⟩:BA).size=1:=rfl
theorem suf_f (p:BA)(hp:p.size≤140737488351232):stringslite_HasSuffix.f p (⟨#[36]⟩:BA)=some (endsD p):=by
 unfold stringslite_HasSuffix.f endsD;rw[sz36]
 by_cases h:1≤p.size
 ·obtain⟨l,c,e,hl⟩:=L_last h
  have w:wrap64 ((p.size:Int)-((1:Nat):Int))=((p.size-1:Nat):Int):=by rw[w64 (by omega) (by omega)];omega
  rw[w,if_pos (by omega),if_pos (by omega),if_pos (by omega),tN_,Lib.toList_data];have x:L (p.extract (p.size-1) p.size)=[c]:=by
   have hz:p.size-l.length=1:=by omega
   rw[L_ext,e,List.drop_append,show p.size-1=l.length from by omega,hz];simp
  show some ((p.extract (p.size-1) p.size).data.toList==_)=_
  rw[show(p.extract (p.size-1) p.size).data.toList=[c]from x,e];simp[Lib.toList_data]
 ·rw[if_neg (by omega)]
  have:L p=[]:=List.length_eq_zero_iff.1 (by rw[L_size];omega);rw[this];rfl
theorem ends_size {p:BA}(h:endsD p=true):1≤p.size:=by
 rcases Nat.lt_or_ge p.size 1 with h'|h'
 ·have:L p=[]:=List.length_eq_zero_iff.1 (by rw[L_size];omega)
  unfold endsD at h;rw[this]at h;cases h
 ·exact h'
theorem trim_f (p:BA)(hp:p.size≤140737488351232):strings_TrimSuffix.f p (⟨#[36]⟩:BA)=some (bodyD p):=by
 simp only[strings_TrimSuffix.f,stringslite_TrimSuffix.f,suf_f p hp,oB_,bodyD,sz36]
 by_cases h:endsD p=true
 ·have:=ends_size h
  have w:wrap64 ((p.size:Int)-((1:Nat):Int))=((p.size-1:Nat):Int):=by rw[w64 (by omega) (by omega)];omega
  rw[if_pos h,if_pos h,w,if_pos (by omega),if_pos (by omega),tN_];rfl
 ·rw[if_neg h,if_neg h];rfl
theorem body_size (p:BA):(bodyD p).size≤p.size:=by
 unfold bodyD
 split
 ·rw[ByteArray.size_extract];omega
 ·exact lL_ _
theorem pat_all:∀n:Nat,n<256→impl_isPatternByte.f (n:Int)=some (patB (UInt8.ofNat n)):=by decide +kernel
theorem pat_f (c:UInt8):impl_isPatternByte.f (c.toNat:Int)=some (patB c):=by
 have:=pat_all c.toNat c.toNat_lt
 rwa [of_toNat]at this
theorem okL_app (c:UInt8):∀l:List UInt8,okL (l++[c])=(l.all patB&&(patB c||c==36))
 | []=>by simp[okL]
 |x::l=>by
  simp only[List.cons_append,okL,okL_app c l,List.all_cons];cases l <;> simp[Bool.and_assoc]
theorem body_ok (p:BA):(L (bodyD p)).all patB=okL (L p):=by
 by_cases h0:1≤p.size
 ·obtain⟨l,c,e,hl⟩:=L_last h0
  have he:endsD p=(c==36):=by unfold endsD;rw[e];simp
  rw[e,okL_app];unfold bodyD;rw[he]
  by_cases h:c=36
  ·subst h
   rw[if_pos (by simp),L_ext,e,show p.size-1-0=l.length from by omega];simp
  ·have h':(c==36)=false:=by simpa using h
   rw[h',if_neg (by simp),e,Bool.or_false];simp
 ·have:L p=[]:=List.length_eq_zero_iff.1 (by rw[L_size];omega)
  have h1:endsD p=false:=by unfold endsD;rw[this];rfl
  unfold bodyD;rw[h1,if_neg (by simp),this];rfl
theorem ok_impl_l (s:BA)(hs:s.size≤1000000):∀(l:List UInt8)(i:Nat),(L s).drop i=l→Ev (fun k=>impl_RuleOk.l0 k s (i:Int)) (l.all patB)
 | [],i,h=>by
  have:=bt_end h;have n1:¬((i:Int)<(s.size:Int)):=by omega
  refine Ev_succ ?_;simp only[impl_RuleOk.l0,n1,if_false];exact Ev.now _
 |x::xs,i,h=>by
  obtain⟨hi,hb,hd⟩:=bt_at h;have e1:wrap64 ((i:Int)+1)=((i+1:Nat):Int):=by rw[w64 (by omega) (by omega)];rfl
  have f1:(i:Int)<(s.size:Int):=by omega
  have f2:(0:Int)≤(i:Int):=by omega
  refine Ev_succ ?_;simp only[impl_RuleOk.l0,e1,f1,f2,if_true,hb,pat_f,oB_,List.all_cons]
  by_cases e:patB x=true
  ·simp only[e,if_true,tA_]
   exact ok_impl_l s hs xs (i+1) hd
  ·simp only[e,if_false,Bool.not_eq_true]at e ⊢
   simp only[e,fA_,bF_,if_false];exact Ev.now _
theorem ruleOk_impl (p:BA)(hp:p.size≤140737488351232):Ev (fun k=>impl_RuleOk.f k p) (ruleOk p):=by
 unfold impl_RuleOk.f ruleOk
 by_cases h1:p.size<1
 ·have n1:(p.size:Int)<1:=by omega
  have n2:¬1≤p.size:=by omega
  simp only[n1,if_true,n2,decide_false,fA_];refine Ev_succ ?_;simp only[impl_RuleOk.j0,if_true];exact Ev.now _
 ·have n1:¬(p.size:Int)<1:=by omega
  have n1':1≤p.size:=by omega
  by_cases h2:p.size≤16
  ·have n2:¬(p.size:Int)>16:=by omega
   have n3:(0:Int)<(p.size:Int):=by omega
   simp only[n1,n2,n3,n1',h2,if_true,if_false,decide_true,tA_];refine Ev_succ ?_
   by_cases h3:bt p 0=47
   ·simp only[impl_RuleOk.j0,h3,bne_self_eq_false,bF_,if_false,beq_self_eq_true,tA_,trim_f p hp,oB_]
    have:=ok_impl_l (bodyD p) (by have:=body_size p;omega) _ 0 rfl;rw[List.drop_zero,body_ok]at this;exact this
   ·have h4:(bt p 0 != 47)=true:=by simpa using h3
    have h5:(bt p 0==47)=false:=by simpa using h3
    simp only[impl_RuleOk.j0,h4,h5,if_true,fA_];exact Ev.now _
  ·have n2:(p.size:Int)>16:=by omega
   simp only[n1,n2,n1',h2,if_true,if_false,decide_true,decide_false,tA_,fA_];refine Ev_succ ?_;simp only[impl_RuleOk.j0,if_true];exact Ev.now _
end Go.Proofs.YtloijngehifbmaaGreatDoor.Ad
end
